/- The walk of ProofSound. Written by gen_law29s.py. -/
import Derived.Test.YtcealhikmbchoaaSrchL
import Derived.Test.YtcealhikmbchoaaBent29
import Derived.Test.YtcealhikmbchoaaAwake29
import Derived.Test.YtcealhikmbchoaaRgPullS
import Derived.Test.YtcealhikmbchoaaAll24
namespace Go.Proofs.Ytcealhikmbchoaa
set_option linter.all false
open Go.RowKit Rg

def Loc.cells (x : Loc) : List Value := [.int .i64 x.px, .int .i64 x.py, .int .i64 x.pz, .int .i64 x.t, .int .i64 x.m, .int .i64 x.l, .int .i64 x.a0, .int .i64 x.a1, .int .i64 x.a2, .int .i64 x.a3, .int .i64 x.a4, .int .i64 x.a5]
def flatLo (l : List Loc) : List Value := l.flatMap Loc.cells
theorem flatLo_at : ∀ (l : List Loc) (i : Nat) (hi : i < l.length) (j : Nat) (hj : j < 12), (flatLo l)[i * 12 + j]? = l[i].cells[j]?
  | a :: l, 0, _, j, hj => by
    show (a.cells ++ flatLo l)[0 * 12 + j]? = _
    rw [List.getElem?_append_left (by simp [Loc.cells]; omega)]; simp
  | a :: l, i + 1, hi, j, hj => by
    show (a.cells ++ flatLo l)[(i + 1) * 12 + j]? = _
    rw [List.getElem?_append_right (by simp [Loc.cells]; omega), show (i + 1) * 12 + j - a.cells.length = i * 12 + j by simp [Loc.cells]; omega]
    exact flatLo_at l i (by simpa using hi) j hj
theorem rowLo {u : World} {b : Nat} {L : List Loc} {T : TypeId} {fr : Nat × Nat} (h : u.heap[b]? = some (.cells (flatLo L).toArray T fr)) (i : Nat) (hi : i < L.length) :
    u.cell? ⟨b, i * 12, none⟩ = some (.int .i64 L[i].px) ∧ u.cell? ⟨b, i * 12 + 1, none⟩ = some (.int .i64 L[i].py) ∧ u.cell? ⟨b, i * 12 + 2, none⟩ = some (.int .i64 L[i].pz) ∧ u.cell? ⟨b, i * 12 + 3, none⟩ = some (.int .i64 L[i].t) ∧ u.cell? ⟨b, i * 12 + 4, none⟩ = some (.int .i64 L[i].m) ∧ u.cell? ⟨b, i * 12 + 5, none⟩ = some (.int .i64 L[i].l) ∧ u.cell? ⟨b, i * 12 + 6, none⟩ = some (.int .i64 L[i].a0) ∧ u.cell? ⟨b, i * 12 + 7, none⟩ = some (.int .i64 L[i].a1) ∧ u.cell? ⟨b, i * 12 + 8, none⟩ = some (.int .i64 L[i].a2) ∧ u.cell? ⟨b, i * 12 + 9, none⟩ = some (.int .i64 L[i].a3) ∧ u.cell? ⟨b, i * 12 + 10, none⟩ = some (.int .i64 L[i].a4) ∧ u.cell? ⟨b, i * 12 + 11, none⟩ = some (.int .i64 L[i].a5) := by
  have hc : ∀ j y, (flatLo L)[j]? = some y → u.cell? ⟨b, j, none⟩ = some y := fun j y hj => by simpa [World.cell?, h] using hj
  exact ⟨hc _ _ (flatLo_at L i hi 0 (by omega)), hc _ _ (flatLo_at L i hi 1 (by omega)), hc _ _ (flatLo_at L i hi 2 (by omega)), hc _ _ (flatLo_at L i hi 3 (by omega)), hc _ _ (flatLo_at L i hi 4 (by omega)), hc _ _ (flatLo_at L i hi 5 (by omega)), hc _ _ (flatLo_at L i hi 6 (by omega)), hc _ _ (flatLo_at L i hi 7 (by omega)), hc _ _ (flatLo_at L i hi 8 (by omega)), hc _ _ (flatLo_at L i hi 9 (by omega)), hc _ _ (flatLo_at L i hi 10 (by omega)), hc _ _ (flatLo_at L i hi 11 (by omega))⟩
theorem rowV {u : World} {b : Nat} {L : List Value} {T : TypeId} {fr : Nat × Nat} (h : u.heap[b]? = some (.cells L.toArray T fr)) (i : Nat) (hi : i < L.length) : u.cell? ⟨b, i, none⟩ = some L[i] := by
  simp [World.cell?, h, hi]
theorem addr_at (g j : Nat) : (⟨g, 0, none⟩ : Addr).add j = ⟨g, j, none⟩ := by unfold Addr.add; split <;> simp_all
theorem mkE_len {P : Prob} {x : Loc} {tol : Int} : (mkE P x tol).2.length ≤ 6001 := by
  unfold mkE
  split
  · simp
  split
  · simp
  split
  · rename_i h
    obtain ⟨s, -, hl, -⟩ := wr_rd (prV P x tol) 6002 P.reg [] (wr (prV P x tol) 6002 P.reg []).2 (by simp) (by rw [← h])
    exact hl
  · simp

/-- What the walk keeps. -/
structure PsAt (w : World) (q : Nat) (raw : Loc) (P : Prob) (vl vh vp : Value) (b8 : Nat) (u : World) : Prop where
  raw : u.heap[w.heap.size]? = some (.cells raw.val 28 (0, 0))
  p8 : u.heap[b8]? = some (.cells (P.val vl vh vp) 36 (0, 0))
  pi : PrIn q u ⟨P, vl, vh, vp⟩
  G : w.grownBy u none
  lt : w.heap.size < q ∧ q < b8
section
variable {w u u' : World} {q b8 : Nat} {raw : Loc} {P : Prob} {vl vh vp : Value}
theorem PsAt.draw (h : PsAt w q raw P vl vh vp b8 u) (hg : u.grownBy u' (some q)) : PsAt w q raw P vl vh vp b8 u' := by
  have hl := h.lt
  exact ⟨block_keptp hg h.raw (by omega), block_keptp hg h.p8 (by omega), h.pi.draw hg, gb_new h.G hg (fun k hk => by simp at hk; omega), h.lt⟩
theorem PsAt.prob (h : PsAt w q raw P vl vh vp b8 u) : ProbIn P vl vh vp u := h.pi.1
theorem PsAt.keep (h : PsAt w q raw P vl vh vp b8 u) (hg : u.grownBy u' none) : PsAt w q raw P vl vh vp b8 u' := h.draw (gb_none hg)
end

set_option maxRecDepth 100000 in
set_option maxHeartbeats 20000000 in
theorem proofSound_walk (w : World) (v : Value) (xs : List Int) (hs : Sl w v xs) (_hx : ∀ x ∈ xs, -9223372036854775808 ≤ x ∧ x ≤ 9223372036854775807) (v1 : Value) (l1 : List Int) (hs1 : Sl w v1 l1) (_hx1 : ∀ x ∈ l1, -9223372036854775808 ≤ x ∧ x ≤ 9223372036854775807) (r0 r1 r2 r3 r4 r5 r6 r7 r8 r9 r10 r11 : Int) :
    Calls Try.prog 3 #[v, v1, .agg #[.int .i64 r0, .int .i64 r1, .int .i64 r2, .int .i64 r3, .int .i64 r4, .int .i64 r5, .int .i64 r6, .int .i64 r7, .int .i64 r8, .int .i64 r9, .int .i64 r10, .int .i64 r11]] w fun e w' => e = .returned (.bool true) ∧ Below w.heap.size w w' := by
  have HL1 := Lib.hid hs1
  obtain ⟨sa, sc, rfl⟩ := hs1.shape
  have hg0 := gb_alloc (gb_refl w none) (.cells #[.int .i64 r0, .int .i64 r1, .int .i64 r2, .int .i64 r3, .int .i64 r4, .int .i64 r5, .int .i64 r6, .int .i64 r7, .int .i64 r8, .int .i64 r9, .int .i64 r10, .int .i64 r11] 28)
  have R1 : Hid ((w.alloc (.cells #[.int .i64 r0, .int .i64 r1, .int .i64 r2, .int .i64 r3, .int .i64 r4, .int .i64 r5, .int .i64 r6, .int .i64 r7, .int .i64 r8, .int .i64 r9, .int .i64 r10, .int .i64 r11] 28)).heap[w.heap.size]? = some (.cells (Loc.val ⟨r0, r1, r2, r3, r4, r5, r6, r7, r8, r9, r10, r11⟩) 28 (0, 0))) := Lib.hid (heap_alloc_new w (.cells #[.int .i64 r0, .int .i64 r1, .int .i64 r2, .int .i64 r3, .int .i64 r4, .int .i64 r5, .int .i64 r6, .int .i64 r7, .int .i64 r8, .int .i64 r9, .int .i64 r10, .int .i64 r11] 28))
  have G1 := Lib.hid hg0; have HS1 := Lib.hid (hs.after hg0)
  have hsz1 : (w.alloc (.cells #[.int .i64 r0, .int .i64 r1, .int .i64 r2, .int .i64 r3, .int .i64 r4, .int .i64 r5, .int .i64 r6, .int .i64 r7, .int .i64 r8, .int .i64 r9, .int .i64 r10, .int .i64 r11] 28)).heap.size = w.heap.size + 1 := by simp
  clear hg0 hs hs1
  go_enter Try.func3, Try.ntmps3
  by_cases hl : 200 < l1.length
  · have hl' : decide ((l1.length : Int) > 200) = true := decide_eq_true (by omega)
    go_wp2_with fail
    generalize w.alloc (.cells #[.int .i64 r0, .int .i64 r1, .int .i64 r2, .int .i64 r3, .int .i64 r4, .int .i64 r5, .int .i64 r6, .int .i64 r7, .int .i64 r8, .int .i64 r9, .int .i64 r10, .int .i64 r11] 28) = w1 at *
    (with_reducible refine (awake29_any w1).mono ?_)
    rintro e w2 ⟨rfl, hg⟩
    have GE := Lib.hid (gb_end (gb_trans G1.out hg))
    clear hg
    go_wp2_with fail
    go_ret
    exact ⟨rfl, GE.out⟩
  have hl' : decide ((l1.length : Int) > 200) = false := decide_eq_false (by omega)
  go_wp2_with fail
  generalize w.alloc (.cells #[.int .i64 r0, .int .i64 r1, .int .i64 r2, .int .i64 r3, .int .i64 r4, .int .i64 r5, .int .i64 r6, .int .i64 r7, .int .i64 r8, .int .i64 r9, .int .i64 r10, .int .i64 r11] 28) = w1 at *
  (with_reducible refine (new_any w1 v xs HS1.out).mono ?_)
  rintro e w2 ⟨rfl, hS, hg⟩
  have S2 := Lib.hid hS; have R2 := Lib.hid (block_kept hg R1.out rfl); have G2 := Lib.hid (gb_trans G1.out hg)
  clear hS hg R1 G1 HS1
  have hq : w.heap.size < w1.heap.size := by omega
  generalize w1.heap.size = q at *
  clear hsz1
  go_wp2_with fail
  (with_reducible refine (problem_any q w2 q 3 5 S2.out (by omega) (by omega) (by omega) (by omega)).mono ?_)
  rintro e w3 ⟨P, vl, vh, vp, rfl, hB, hT, hre, -, hcap, hlen, hph, hin, hap, hS, hg⟩
  have gd := good_mk hB (by omega) hT hre.1 hcap hlen.1 (by omega) hph
  have hq2 := S2.out.lt.2
  have HPI : Hid (PrIn q w3 ⟨P, vl, vh, vp⟩) := Lib.hid ⟨hin, fun b off len cap e _ => by have := hap _ (.inl rfl) b off len cap e; omega, fun b off len cap e _ => by have := hap _ (.inr (.inl rfl)) b off len cap e; omega, fun b off len cap e _ => by have := hap _ (.inr (.inr rfl)) b off len cap e; omega, by show P.phs.length ≤ 100; omega⟩
  have S3 := Lib.hid hS; have R3 := Lib.hid (block_keptp hg R2.out (by omega)); have G3 := Lib.hid (gb_new G2.out hg (fun k hk => by simp at hk; omega))
  have hlen6 := hlen.2
  clear hS hg S2 R2 G2 hT hre hcap hlen hph hap
  obtain ⟨pa, pc, rfl⟩ := hin.p.slice
  obtain ⟨la, ln, lc, rfl⟩ := sl_slice hin.l
  obtain ⟨ha, hn, hc, rfl⟩ := sl_slice hin.h
  have SND := Lib.hid (fun (x : Loc) (tol : Int) (lst : List Int) (hc : chkE P x tol lst = 0) (ht : tol ≤ 1000000) => sound_plain gd hc ht)
  have ATC := Lib.hid (fun x y z u hw hi => gd.at (vl := .slice la ln lc) (vh := .slice ha hn hc) (vp := .slice pa P.phs.length pc) rfl x y z u hw hi)
  have HVB := Lib.hid gd.sound.vb
  have MMI := Lib.hid (fun b0 b1 b2 b3 b4 b5 hw => gd.mm_in (b0 := b0) (b1 := b1) (b2 := b2) (b3 := b3) (b4 := b4) (b5 := b5) hw)
  have LOC := Lib.hid (fun (tol : Int) (u : World) (h : PrIn q u ⟨P, .slice la ln lc, .slice ha hn hc, .slice pa P.phs.length pc⟩) => rlocate_any P _ _ _ tol u h.1 (by have := h.2.2.2.2; dsimp only at this; omega))
  have BEN := Lib.hid (fun (x : Loc) (u : World) (h : PrIn q u ⟨P, .slice la ln lc, .slice ha hn hc, .slice pa P.phs.length pc⟩) (hS : Src q u q) => bent29_any P _ _ _ x q q u h.1 ⟨h.2.1, h.2.2.1, h.2.2.2.1⟩ (by have := h.2.2.2.2; dsimp only at this; omega) gd.sound.vb hS)
  have MAK := Lib.hid (fun (x : Loc) (tol : Int) (u : World) (h : PrIn q u ⟨P, .slice la ln lc, .slice ha hn hc, .slice pa P.phs.length pc⟩) => make_any P _ _ _ x tol u h.1 (by have := h.2.2.2.2; dsimp only at this; omega))
  have CHK := Lib.hid (fun (x : Loc) (tol : Int) (lst : List Int) (vs : Value) (u : World) (h : PrIn q u ⟨P, .slice la ln lc, .slice ha hn hc, .slice pa P.phs.length pc⟩) (hs : Sl u vs lst) (hl : lst.length ≤ 10000) => check_any P _ _ _ x tol lst vs u h.1 hs h.2.2.2.2 (by omega))
  clear gd hin hlen6
  generalize mm P = m at *
  generalize tt P = tm at *
  generalize hPP : P = P0 at *
  obtain ⟨x0, y0, z0, x1, y1, z1, step, ls, hs, phs, cap⟩ := P
  subst hPP
  generalize hpn : phs.length = pn at *
  dsimp only [Prob.reg] at SND MMI ATC HVB hB
  have hPV : Prob.val ⟨x0, y0, z0, x1, y1, z1, step, ls, hs, phs, cap⟩ (.slice la ln lc) (.slice ha hn hc) (.slice pa pn pc) = #[.int .i64 x0, .int .i64 y0, .int .i64 z0, .int .i64 x1, .int .i64 y1, .int .i64 z1, .int .i64 step, .slice la ln lc, .slice ha hn hc, .slice pa pn pc, .int .i64 cap] := rfl
  rw [hPV] at LOC BEN MAK CHK ATC
  rw [hPV]
  have hg4 : w3.grownBy (w3.alloc (.cells #[.int .i64 x0, .int .i64 y0, .int .i64 z0, .int .i64 x1, .int .i64 y1, .int .i64 z1, .int .i64 step, .slice la ln lc, .slice ha hn hc, .slice pa pn pc, .int .i64 cap] 36)) none := gb_alloc (gb_refl _ _) _
  have S4 := Lib.hid (S3.out.later (row := none) hg4 (by simp))
  have A4 : Hid (PsAt w q ⟨r0, r1, r2, r3, r4, r5, r6, r7, r8, r9, r10, r11⟩ ⟨x0, y0, z0, x1, y1, z1, step, ls, hs, phs, cap⟩ (.slice la ln lc) (.slice ha hn hc) (.slice pa pn pc) w3.heap.size (w3.alloc (.cells #[.int .i64 x0, .int .i64 y0, .int .i64 z0, .int .i64 x1, .int .i64 y1, .int .i64 z1, .int .i64 step, .slice la ln lc, .slice ha hn hc, .slice pa pn pc, .int .i64 cap] 36))) := Lib.hid ⟨block_kept hg4 R3.out rfl, heap_alloc_new w3 (.cells #[.int .i64 x0, .int .i64 y0, .int .i64 z0, .int .i64 x1, .int .i64 y1, .int .i64 z1, .int .i64 step, .slice la ln lc, .slice ha hn hc, .slice pa pn pc, .int .i64 cap] 36), HPI.out.draw (gb_none hg4), gb_trans G3.out hg4, hq, S3.out.lt.2⟩
  clear hg4 S3 R3 G3 HPI
  go_wp2_with fail
  generalize w3.alloc (.cells #[.int .i64 x0, .int .i64 y0, .int .i64 z0, .int .i64 x1, .int .i64 y1, .int .i64 z1, .int .i64 step, .slice la ln lc, .slice ha hn hc, .slice pa pn pc, .int .i64 cap] 36) = w4 at *
  generalize w3.heap.size = b8 at *
  (with_reducible refine (n_any q w4 q 60 S4.out (by omega) (by omega)).mono ?_)
  rintro e w5 ⟨n, rfl, ⟨hn0, hn1⟩, hS, hg⟩
  have S5 := Lib.hid hS; have A5 := Lib.hid (A4.out.draw hg)
  clear hS hg S4 A4
  go_upto_region 6 with fail
  go_cut [10] from 34 (fun v10 wc => ∃ (b : Nat) (x : Loc), v10 = .pointer (some ⟨b, 0, none⟩) ∧ q < b ∧ wc.heap[b]? = some (.cells x.val 28 (0, 0)) ∧ PsAt w q ⟨r0, r1, r2, r3, r4, r5, r6, r7, r8, r9, r10, r11⟩ ⟨x0, y0, z0, x1, y1, z1, step, ls, hs, phs, cap⟩ (.slice la ln lc) (.slice ha hn hc) (.slice pa pn pc) b8 wc ∧ Src q wc q)
  case first =>
    have hqs := S5.out.lt.2
    have P5 := A5.out.p8
    rw [hPV] at P5
    have hb8 := block_lt' P5
    have hlt := A5.out.lt
    have e0_ := Pulled.cell (B := q) (p := q) (cell_of P5 0 _ rfl) hb8 (by omega); have e1_ := Pulled.cell (B := q) (p := q) (cell_of P5 1 _ rfl) hb8 (by omega); have e2_ := Pulled.cell (B := q) (p := q) (cell_of P5 2 _ rfl) hb8 (by omega); have e3_ := Pulled.cell (B := q) (p := q) (cell_of P5 3 _ rfl) hb8 (by omega); have e4_ := Pulled.cell (B := q) (p := q) (cell_of P5 4 _ rfl) hb8 (by omega); have e5_ := Pulled.cell (B := q) (p := q) (cell_of P5 5 _ rfl) hb8 (by omega); have e6_ := Pulled.cell (B := q) (p := q) (cell_of P5 6 _ rfl) hb8 (by omega); have e7_ := Pulled.cell (B := q) (p := q) (cell_of P5 7 _ rfl) hb8 (by omega); have e8_ := Pulled.cell (B := q) (p := q) (cell_of P5 8 _ rfl) hb8 (by omega); have e9_ := Pulled.cell (B := q) (p := q) (cell_of P5 9 _ rfl) hb8 (by omega); have e10_ := Pulled.cell (B := q) (p := q) (cell_of P5 10 _ rfl) hb8 (by omega)
    clear P5
    have hLX : ∀ x : Loc, x.val = #[.int .i64 x.px, .int .i64 x.py, .int .i64 x.pz, .int .i64 x.t, .int .i64 x.m, .int .i64 x.l, .int .i64 x.a0, .int .i64 x.a1, .int .i64 x.a2, .int .i64 x.a3, .int .i64 x.a4, .int .i64 x.a5] := fun _ => rfl
    refine Rg.region (Pulled w5 q q) (PullS q 8) (fun k => if k = 2 then some (isInt (fun x => 0 ≤ x ∧ x < 60)) else if k = 3 then some (fun _ v _ => ∃ (x : Loc) (e : Int), v = .tuple #[.agg x.val, .int .i64 e]) else if k = 7 then some (isVar w5 12 28) else if k = 8 then some (isRowAny 28) else none) (fun _ => false) 0 10 (by kernel_rfl) (by kernel_rfl) (by kernel_rfl) (by kernel_rfl) (by kernel_rfl) (by kernel_rfl) (by kernel_rfl) PullS.size (Pulled.start S5.out) (fun hne => ?_)
    (repeat (refine rLexL_quiet (by rfl) (by rfl) (by rfl) (by rfl) ?_; go_big_quiet_step (fail); refine wpQuiet_nil ?_))
    refine rg_drawS (by decide) (fun x => 0 ≤ x ∧ x < 60) 12 #[.pointer (some ⟨q, 0, none⟩), .int .i64 60] rfl rfl (fun _ => by go_simp) (fun u hu => n_any q u q 60 hu.2 (by omega) (by omega)) (fun t ht => ?_)
    simp only [Act.put, List.setIfInBounds_toArray, List.set_cons_zero, List.set_cons_succ]
    (repeat (refine rLexL_quiet (by rfl) (by rfl) (by rfl) (by rfl) ?_; go_big_quiet_step (fail); refine wpQuiet_nil ?_))
    refine rg_kindS (by decide) (fun v => ∃ (x : Loc) (e : Int), v = .tuple #[.agg x.val, .int .i64 e]) 13 #[.agg #[.int .i64 x0, .int .i64 y0, .int .i64 z0, .int .i64 x1, .int .i64 y1, .int .i64 z1, .int .i64 step, .slice la ln lc, .slice ha hn hc, .slice pa pn pc, .int .i64 cap], .int .i64 t] rfl rfl (fun _ => by go_simp) (fun u hu => (LOC.out t u (A5.out.pi.draw hu.1)).mono fun e w' h => ⟨_, h.1, ⟨_, _, rfl⟩, h.2⟩) (fun r hr => ?_)
    obtain ⟨x, er, rfl⟩ := hr
    rw [hLX x]
    simp only [Act.put, List.setIfInBounds_toArray, List.set_cons_zero, List.set_cons_succ]
    (repeat (refine rLexL_quiet (by rfl) (by rfl) (by rfl) (by rfl) ?_; go_big_quiet_step (fail); refine wpQuiet_nil ?_))
    refine rg_varS hqs #[.int .i64 0, .int .i64 0, .int .i64 0, .int .i64 0, .int .i64 0, .int .i64 0, .int .i64 0, .int .i64 0, .int .i64 0, .int .i64 0, .int .i64 0, .int .i64 0] 28 (by decide) rfl rfl (fun _ => by go_simp) (fun b hb => ?_)
    simp only [Act.put, List.setIfInBounds_toArray, List.set_cons_zero, List.set_cons_succ]
    (repeat (refine rLexL_quiet (by rfl) (by rfl) (by rfl) (by rfl) ?_; go_big_quiet_step (fail); refine wpQuiet_nil ?_))
    refine rg_storeAnyS hqs (Nat.le_refl _) b #[.int .i64 x.px, .int .i64 x.py, .int .i64 x.pz, .int .i64 x.t, .int .i64 x.m, .int .i64 x.l, .int .i64 x.a0, .int .i64 x.a1, .int .i64 x.a2, .int .i64 x.a3, .int .i64 x.a4, .int .i64 x.a5] 28 _ _ _ 7 ⟨⟨7, .data⟩, by simp, rfl, rfl⟩ rfl rfl rfl rfl (by kernel_rfl) (by simp [Value.oneCell']) hb rfl rfl ?_ rfl
    simp only [Act.put, List.setIfInBounds_toArray, List.set_cons_zero, List.set_cons_succ]
    (repeat (refine rLexL_quiet (by rfl) (by rfl) (by rfl) (by rfl) ?_; go_big_quiet_step (fail); refine wpQuiet_nil ?_))
    rintro wq hgq hf -
    obtain ⟨b', cs', hb', hc', hh⟩ := hf 8
    simp at hb' hc'
    subst hb'; subst hc'
    have A6 := Lib.hid (A5.out.draw hgq.1); have S6 := Lib.hid hgq.2
    have hbq : q < b := by omega
    refine wpList_nil ?_
    go_wp2_with fail
    go_meet
    case rel => exact ⟨b, x, rfl, hbq, hh, A6.out, S6.out⟩
  case rest =>
  obtain ⟨b10, x, rfl, hb10, hx, hA, hS⟩ := hcut
  generalize wc = w6 at *
  have A6 := Lib.hid hA; have S6 := Lib.hid hS; have X6 := Lib.hid hx
  clear hx hA hS A5 S5 LOC
  have hLX : ∀ x : Loc, x.val = #[.int .i64 x.px, .int .i64 x.py, .int .i64 x.pz, .int .i64 x.t, .int .i64 x.m, .int .i64 x.l, .int .i64 x.a0, .int .i64 x.a1, .int .i64 x.a2, .int .i64 x.a3, .int .i64 x.a4, .int .i64 x.a5] := fun _ => rfl
  have BEN' := Lib.hid (BEN.out x)
  rw [hLX x] at BEN' X6
  have P6 := A6.out.p8
  rw [hPV] at P6
  obtain ⟨e0_, e1_, e2_, e3_, e4_, e5_, e6_, e7_, e8_, e9_, e10_⟩ := cells11 P6
  obtain ⟨d0_, d1_, d2_, d3_, d4_, d5_, d6_, d7_, d8_, d9_, d10_, d11_⟩ := cells12 X6.out
  clear P6 BEN
  go_wp2_with fail
  clear e0_ e1_ e2_ e3_ e4_ e5_ e6_ e7_ e8_ e9_ e10_
  clear d0_ d1_ d2_ d3_ d4_ d5_ d6_ d7_ d8_ d9_ d10_ d11_
  (with_reducible refine (BEN'.out w6 A6.out.pi S6.out).mono ?_)
  rintro e w7 ⟨y, rfl, hS, hg⟩
  have A7 := Lib.hid (A6.out.draw hg); have X7 := Lib.hid (block_keptp hg X6.out (by omega))
  clear hS hg A6 S6 X6 BEN'
  rw [hLX y]
  have hg8 : w7.grownBy (w7.alloc (.cells #[.int .i64 y.px, .int .i64 y.py, .int .i64 y.pz, .int .i64 y.t, .int .i64 y.m, .int .i64 y.l, .int .i64 y.a0, .int .i64 y.a1, .int .i64 y.a2, .int .i64 y.a3, .int .i64 y.a4, .int .i64 y.a5] 28)) none := gb_alloc (gb_refl _ _) _
  have A8 := Lib.hid (A7.out.keep hg8); have X8 := Lib.hid (block_kept hg8 X7.out rfl); have Y8 := Lib.hid (heap_alloc_new w7 (.cells #[.int .i64 y.px, .int .i64 y.py, .int .i64 y.pz, .int .i64 y.t, .int .i64 y.m, .int .i64 y.l, .int .i64 y.a0, .int .i64 y.a1, .int .i64 y.a2, .int .i64 y.a3, .int .i64 y.a4, .int .i64 y.a5] 28))
  clear hg8 A7 X7
  have MAK' := Lib.hid (MAK.out y n)
  rw [hLX y] at MAK'
  have P8 := A8.out.p8
  rw [hPV] at P8
  obtain ⟨e0_, e1_, e2_, e3_, e4_, e5_, e6_, e7_, e8_, e9_, e10_⟩ := cells11 P8
  obtain ⟨d0_, d1_, d2_, d3_, d4_, d5_, d6_, d7_, d8_, d9_, d10_, d11_⟩ := cells12 Y8.out
  clear P8 MAK
  go_wp2_with fail
  clear e0_ e1_ e2_ e3_ e4_ e5_ e6_ e7_ e8_ e9_ e10_
  clear d0_ d1_ d2_ d3_ d4_ d5_ d6_ d7_ d8_ d9_ d10_ d11_
  generalize w7.alloc (.cells #[.int .i64 y.px, .int .i64 y.py, .int .i64 y.pz, .int .i64 y.t, .int .i64 y.m, .int .i64 y.l, .int .i64 y.a0, .int .i64 y.a1, .int .i64 y.a2, .int .i64 y.a3, .int .i64 y.a4, .int .i64 y.a5] 28) = w8 at *
  generalize w7.heap.size = b12 at *
  (with_reducible refine (MAK'.out w8 A8.out.pi).mono ?_)
  rintro e w9 ⟨vc, rfl, ho, hg⟩
  have MKC := Lib.hid (fun l => make_check (P := ⟨x0, y0, z0, x1, y1, z1, step, ls, hs, phs, cap⟩) (x := y) (tol := n) (l := l))
  have MKL := Lib.hid (mkE_len (P := ⟨x0, y0, z0, x1, y1, z1, step, ls, hs, phs, cap⟩) (x := y) (tol := n))
  have C9 := Lib.hid (Sl_of_owns ho rfl)
  generalize mkE ⟨x0, y0, z0, x1, y1, z1, step, ls, hs, phs, cap⟩ y n = mk at *
  obtain ⟨me, cl⟩ := mk
  dsimp only at C9 MKL
  have A9 := Lib.hid (A8.out.keep hg); have X9 := Lib.hid (block_kept hg X8.out rfl); have Y9 := Lib.hid (block_kept hg Y8.out rfl)
  clear ho hg A8 X8 Y8 MAK'
  obtain ⟨ca, cc, rfl⟩ := C9.out.shape
  have R9 : Hid (w9.heap[w.heap.size]? = some (.cells #[.int .i64 r0, .int .i64 r1, .int .i64 r2, .int .i64 r3, .int .i64 r4, .int .i64 r5, .int .i64 r6, .int .i64 r7, .int .i64 r8, .int .i64 r9, .int .i64 r10, .int .i64 r11] 28 (0, 0))) := Lib.hid A9.out.raw
  obtain ⟨d0_, d1_, d2_, d3_, d4_, d5_, d6_, d7_, d8_, d9_, d10_, d11_⟩ := cells12 X9.out
  obtain ⟨k0_, k1_, k2_, k3_, k4_, k5_, k6_, k7_, k8_, k9_, k10_, k11_⟩ := cells12 Y9.out
  obtain ⟨j0_, j1_, j2_, j3_, j4_, j5_, j6_, j7_, j8_, j9_, j10_, j11_⟩ := cells12 R9.out
  have hg10 : w9.grownBy (w9.alloc (.cells #[.int .i64 x.px, .int .i64 x.py, .int .i64 x.pz, .int .i64 x.t, .int .i64 x.m, .int .i64 x.l, .int .i64 x.a0, .int .i64 x.a1, .int .i64 x.a2, .int .i64 x.a3, .int .i64 x.a4, .int .i64 x.a5, .int .i64 y.px, .int .i64 y.py, .int .i64 y.pz, .int .i64 y.t, .int .i64 y.m, .int .i64 y.l, .int .i64 y.a0, .int .i64 y.a1, .int .i64 y.a2, .int .i64 y.a3, .int .i64 y.a4, .int .i64 y.a5, .int .i64 r0, .int .i64 r1, .int .i64 r2, .int .i64 r3, .int .i64 r4, .int .i64 r5, .int .i64 r6, .int .i64 r7, .int .i64 r8, .int .i64 r9, .int .i64 r10, .int .i64 r11] 28)) none := gb_alloc (gb_refl _ _) _
  have T10 : Hid ((w9.alloc (.cells #[.int .i64 x.px, .int .i64 x.py, .int .i64 x.pz, .int .i64 x.t, .int .i64 x.m, .int .i64 x.l, .int .i64 x.a0, .int .i64 x.a1, .int .i64 x.a2, .int .i64 x.a3, .int .i64 x.a4, .int .i64 x.a5, .int .i64 y.px, .int .i64 y.py, .int .i64 y.pz, .int .i64 y.t, .int .i64 y.m, .int .i64 y.l, .int .i64 y.a0, .int .i64 y.a1, .int .i64 y.a2, .int .i64 y.a3, .int .i64 y.a4, .int .i64 y.a5, .int .i64 r0, .int .i64 r1, .int .i64 r2, .int .i64 r3, .int .i64 r4, .int .i64 r5, .int .i64 r6, .int .i64 r7, .int .i64 r8, .int .i64 r9, .int .i64 r10, .int .i64 r11] 28)).heap[w9.heap.size]? = some (.cells (flatLo [x, y, ⟨r0, r1, r2, r3, r4, r5, r6, r7, r8, r9, r10, r11⟩]).toArray 28 (0, 0))) := Lib.hid (heap_alloc_new w9 (.cells #[.int .i64 x.px, .int .i64 x.py, .int .i64 x.pz, .int .i64 x.t, .int .i64 x.m, .int .i64 x.l, .int .i64 x.a0, .int .i64 x.a1, .int .i64 x.a2, .int .i64 x.a3, .int .i64 x.a4, .int .i64 x.a5, .int .i64 y.px, .int .i64 y.py, .int .i64 y.pz, .int .i64 y.t, .int .i64 y.m, .int .i64 y.l, .int .i64 y.a0, .int .i64 y.a1, .int .i64 y.a2, .int .i64 y.a3, .int .i64 y.a4, .int .i64 y.a5, .int .i64 r0, .int .i64 r1, .int .i64 r2, .int .i64 r3, .int .i64 r4, .int .i64 r5, .int .i64 r6, .int .i64 r7, .int .i64 r8, .int .i64 r9, .int .i64 r10, .int .i64 r11] 28))
  have A10 := Lib.hid (A9.out.keep hg10); have Y10 := Lib.hid (block_kept hg10 Y9.out rfl); have C10 := Lib.hid (C9.out.after hg10)
  clear hg10 A9 C9 X9 Y9 R9
  go_upto_block 0 with fail
  clear d0_ d1_ d2_ d3_ d4_ d5_ d6_ d7_ d8_ d9_ d10_ d11_ k0_ k1_ k2_ k3_ k4_ k5_ k6_ k7_ k8_ k9_ k10_ k11_ j0_ j1_ j2_ j3_ j4_ j5_ j6_ j7_ j8_ j9_ j10_ j11_
  generalize w9.alloc (.cells #[.int .i64 x.px, .int .i64 x.py, .int .i64 x.pz, .int .i64 x.t, .int .i64 x.m, .int .i64 x.l, .int .i64 x.a0, .int .i64 x.a1, .int .i64 x.a2, .int .i64 x.a3, .int .i64 x.a4, .int .i64 x.a5, .int .i64 y.px, .int .i64 y.py, .int .i64 y.pz, .int .i64 y.t, .int .i64 y.m, .int .i64 y.l, .int .i64 y.a0, .int .i64 y.a1, .int .i64 y.a2, .int .i64 y.a3, .int .i64 y.a4, .int .i64 y.a5, .int .i64 r0, .int .i64 r1, .int .i64 r2, .int .i64 r3, .int .i64 r4, .int .i64 r5, .int .i64 r6, .int .i64 r7, .int .i64 r8, .int .i64 r9, .int .i64 r10, .int .i64 r11] 28) = w10 at *
  generalize w9.heap.size = bt at *
  obtain ⟨L, hL, hLl⟩ : ∃ L : List Loc, L = [x, y, ⟨r0, r1, r2, r3, r4, r5, r6, r7, r8, r9, r10, r11⟩] ∧ L.length = 3 := ⟨_, rfl, rfl⟩
  rw [← hL] at T10
  clear hL
  go_cut [] from 57 (fun wc => w10.grownBy wc none)
  case rest =>
    have A11 := Lib.hid (A10.out.keep hcut); have Y11 := Lib.hid (block_kept hcut Y10.out rfl); have C11 := Lib.hid (C10.out.after hcut)
    clear hcut T10 A10 Y10 C10
    generalize wc = w11 at *
    by_cases hme : me = 0
    rotate_left
    · have hme' : (me != 0) = true := by simpa using hme
      go_wp2_with fail
      (with_reducible refine (awake29_any w11).mono ?_)
      rintro e w12 ⟨rfl, hg⟩
      have GE := Lib.hid (gb_end (gb_trans A11.out.G hg))
      clear hg
      go_wp2_with fail
      go_ret
      exact ⟨rfl, GE.out⟩
    subst hme
    have CHK' := Lib.hid (CHK.out y n cl (.slice ca cl.length cc) w11 A11.out.pi C11.out (by have := MKL.out; omega))
    rw [MKC.out cl rfl, hLX y] at CHK'
    have P11 := A11.out.p8
    rw [hPV] at P11
    obtain ⟨e0_, e1_, e2_, e3_, e4_, e5_, e6_, e7_, e8_, e9_, e10_⟩ := cells11 P11
    obtain ⟨d0_, d1_, d2_, d3_, d4_, d5_, d6_, d7_, d8_, d9_, d10_, d11_⟩ := cells12 Y11.out
    clear P11
    go_wp2_with fail
    clear e0_ e1_ e2_ e3_ e4_ e5_ e6_ e7_ e8_ e9_ e10_
    clear d0_ d1_ d2_ d3_ d4_ d5_ d6_ d7_ d8_ d9_ d10_ d11_
    (with_reducible refine CHK'.out.mono ?_)
    rintro e w12 ⟨rfl, hg⟩
    have G12 := Lib.hid (gb_trans A11.out.G hg)
    clear hg
    go_wp2_with fail
    (with_reducible refine (awake29_any w12).mono ?_)
    rintro e w13 ⟨rfl, hg⟩
    have GE := Lib.hid (gb_end (gb_trans G12.out hg))
    clear hg
    go_wp2_with fail
    go_ret
    exact ⟨rfl, GE.out⟩
  case first =>
  clear MKC Y10
  go_wp2_with fail
  go_loopg [57] 3 (fun gk i wr => ∃ k : Nat, k + gk = 3 ∧ i = .int .i64 k ∧ w10.grownBy wr none)
  case atStart => exact ⟨0, rfl, rfl, gb_refl _ _⟩
  case round =>
    obtain ⟨k, hk, rfl, hgr⟩ := hrel
    have GR := Lib.hid hgr
    clear hgr
    by_cases hlt : k < 3
    rotate_left
    · have hkd : decide ((k : Int) < 3) = false := decide_eq_false (by omega)
      go_wp2_with fail
      go_meet
      case rel => exact GR.out
    have hkd : decide ((k : Int) < 3) = true := decide_eq_true (by omega)
    have hkL : k < L.length := by omega
    have hgk : gk - 1 < gk ∧ k + 1 + (gk - 1) = 3 := by omega
    go_upto_block 1 with fail
    go_cut [] from 58 to 123 (fun wc => w10.grownBy wc none)
    case rest =>
      go_wp2_with fail
      go_roundg (gk - 1)
      case measure => exact hgk.1
      case rel => exact ⟨k + 1, hgk.2, by go_num, hcut⟩
    case first =>
    obtain ⟨d0_, d1_, d2_, d3_, d4_, d5_, d6_, d7_, d8_, d9_, d10_, d11_⟩ := rowLo (block_kept GR.out T10.out rfl) k hkL
    generalize L[k] = z at *
    have hbt := Nat.lt_of_lt_of_le (block_lt' T10.out) GR.out.size
    have hg12 : wr.grownBy ((((wr.alloc (.cells #[.int .i64 z.px, .int .i64 z.py, .int .i64 z.pz, .int .i64 z.t, .int .i64 z.m, .int .i64 z.l, .int .i64 z.a0, .int .i64 z.a1, .int .i64 z.a2, .int .i64 z.a3, .int .i64 z.a4, .int .i64 z.a5] 28)).alloc (.cells #[.int .i64 0] 3)).alloc (.cells #[.int .i64 1, .int .i64 0, .int .i64 0] 3)).alloc (.cells #[.slice sa l1.length sc, .slice ca cl.length cc, .slice (some ⟨wr.heap.size + 1, 0, none⟩) 1 1, .slice (some ⟨wr.heap.size + 1 + 1, 0, none⟩) 3 3] 22)) none := gb_alloc (gb_alloc (gb_alloc (gb_alloc (gb_refl _ _) _) _) _) _
    have Z12 : Hid (((((wr.alloc (.cells #[.int .i64 z.px, .int .i64 z.py, .int .i64 z.pz, .int .i64 z.t, .int .i64 z.m, .int .i64 z.l, .int .i64 z.a0, .int .i64 z.a1, .int .i64 z.a2, .int .i64 z.a3, .int .i64 z.a4, .int .i64 z.a5] 28)).alloc (.cells #[.int .i64 0] 3)).alloc (.cells #[.int .i64 1, .int .i64 0, .int .i64 0] 3)).alloc (.cells #[.slice sa l1.length sc, .slice ca cl.length cc, .slice (some ⟨wr.heap.size + 1, 0, none⟩) 1 1, .slice (some ⟨wr.heap.size + 1 + 1, 0, none⟩) 3 3] 22)).heap[wr.heap.size]? = some (.cells #[.int .i64 z.px, .int .i64 z.py, .int .i64 z.pz, .int .i64 z.t, .int .i64 z.m, .int .i64 z.l, .int .i64 z.a0, .int .i64 z.a1, .int .i64 z.a2, .int .i64 z.a3, .int .i64 z.a4, .int .i64 z.a5] 28 (0, 0))) := Lib.hid (by rw [heap_alloc_old _ _ (by simp <;> omega), heap_alloc_old _ _ (by simp <;> omega), heap_alloc_old _ _ (by simp), heap_alloc_new])
    have B1 : ((((wr.alloc (.cells #[.int .i64 z.px, .int .i64 z.py, .int .i64 z.pz, .int .i64 z.t, .int .i64 z.m, .int .i64 z.l, .int .i64 z.a0, .int .i64 z.a1, .int .i64 z.a2, .int .i64 z.a3, .int .i64 z.a4, .int .i64 z.a5] 28)).alloc (.cells #[.int .i64 0] 3)).alloc (.cells #[.int .i64 1, .int .i64 0, .int .i64 0] 3)).alloc (.cells #[.slice sa l1.length sc, .slice ca cl.length cc, .slice (some ⟨wr.heap.size + 1, 0, none⟩) 1 1, .slice (some ⟨wr.heap.size + 1 + 1, 0, none⟩) 3 3] 22)).heap[wr.heap.size + 1]? = some (.cells (([0] : List Int).map (Value.int .i64)).toArray 3 (0, 0)) := by rw [heap_alloc_old _ _ (by simp <;> omega), heap_alloc_old _ _ (by simp)]; simpa using heap_alloc_new (wr.alloc _) _
    have B2 : ((((wr.alloc (.cells #[.int .i64 z.px, .int .i64 z.py, .int .i64 z.pz, .int .i64 z.t, .int .i64 z.m, .int .i64 z.l, .int .i64 z.a0, .int .i64 z.a1, .int .i64 z.a2, .int .i64 z.a3, .int .i64 z.a4, .int .i64 z.a5] 28)).alloc (.cells #[.int .i64 0] 3)).alloc (.cells #[.int .i64 1, .int .i64 0, .int .i64 0] 3)).alloc (.cells #[.slice sa l1.length sc, .slice ca cl.length cc, .slice (some ⟨wr.heap.size + 1, 0, none⟩) 1 1, .slice (some ⟨wr.heap.size + 1 + 1, 0, none⟩) 3 3] 22)).heap[wr.heap.size + 1 + 1]? = some (.cells (([1, 0, 0] : List Int).map (Value.int .i64)).toArray 3 (0, 0)) := by rw [heap_alloc_old _ _ (by simp)]; simpa using heap_alloc_new ((wr.alloc _).alloc _) _
    have V12 : Hid (((((wr.alloc (.cells #[.int .i64 z.px, .int .i64 z.py, .int .i64 z.pz, .int .i64 z.t, .int .i64 z.m, .int .i64 z.l, .int .i64 z.a0, .int .i64 z.a1, .int .i64 z.a2, .int .i64 z.a3, .int .i64 z.a4, .int .i64 z.a5] 28)).alloc (.cells #[.int .i64 0] 3)).alloc (.cells #[.int .i64 1, .int .i64 0, .int .i64 0] 3)).alloc (.cells #[.slice sa l1.length sc, .slice ca cl.length cc, .slice (some ⟨wr.heap.size + 1, 0, none⟩) 1 1, .slice (some ⟨wr.heap.size + 1 + 1, 0, none⟩) 3 3] 22)).heap[wr.heap.size + 1 + 1 + 1]? = some (.cells ([.slice sa l1.length sc, .slice ca cl.length cc, .slice (some ⟨wr.heap.size + 1, 0, none⟩) 1 1, .slice (some ⟨wr.heap.size + 1 + 1, 0, none⟩) 3 3] : List Value).toArray 22 (0, 0))) := Lib.hid (by simpa using heap_alloc_new (((wr.alloc _).alloc _).alloc _) (.cells #[.slice sa l1.length sc, .slice ca cl.length cc, .slice (some ⟨wr.heap.size + 1, 0, none⟩) 1 1, .slice (some ⟨wr.heap.size + 1 + 1, 0, none⟩) 3 3] 22))
    have A12 := Lib.hid (A10.out.keep (gb_trans GR.out hg12))
    have HVL : Hid (∀ u ∈ ([.slice sa l1.length sc, .slice ca cl.length cc, .slice (some ⟨wr.heap.size + 1, 0, none⟩) 1 1, .slice (some ⟨wr.heap.size + 1 + 1, 0, none⟩) 3 3] : List Value), ∃ l : List Int, Sl ((((wr.alloc (.cells #[.int .i64 z.px, .int .i64 z.py, .int .i64 z.pz, .int .i64 z.t, .int .i64 z.m, .int .i64 z.l, .int .i64 z.a0, .int .i64 z.a1, .int .i64 z.a2, .int .i64 z.a3, .int .i64 z.a4, .int .i64 z.a5] 28)).alloc (.cells #[.int .i64 0] 3)).alloc (.cells #[.int .i64 1, .int .i64 0, .int .i64 0] 3)).alloc (.cells #[.slice sa l1.length sc, .slice ca cl.length cc, .slice (some ⟨wr.heap.size + 1, 0, none⟩) 1 1, .slice (some ⟨wr.heap.size + 1 + 1, 0, none⟩) 3 3] 22)) u l ∧ l.length ≤ 10000) := Lib.hid (by
      have h1 := (HL1.out.after A12.out.G); have h2 := C10.out.after (gb_trans GR.out hg12)
      have h3 := MKL.out
      intro u hu
      simp only [List.mem_cons, List.not_mem_nil, or_false] at hu
      rcases hu with rfl | rfl | rfl | rfl
      · exact ⟨_, h1, by omega⟩
      · exact ⟨_, h2, by omega⟩
      · exact ⟨_, Sl.of_block B1 rfl (by omega), by simp⟩
      · exact ⟨_, Sl.of_block B2 rfl (by omega), by simp⟩)
    have G12 := Lib.hid (gb_trans GR.out hg12)
    clear hg12 B1 B2
    go_upto_block 2 with fail
    clear d0_ d1_ d2_ d3_ d4_ d5_ d6_ d7_ d8_ d9_ d10_ d11_ hbt
    generalize ((((wr.alloc (.cells #[.int .i64 z.px, .int .i64 z.py, .int .i64 z.pz, .int .i64 z.t, .int .i64 z.m, .int .i64 z.l, .int .i64 z.a0, .int .i64 z.a1, .int .i64 z.a2, .int .i64 z.a3, .int .i64 z.a4, .int .i64 z.a5] 28)).alloc (.cells #[.int .i64 0] 3)).alloc (.cells #[.int .i64 1, .int .i64 0, .int .i64 0] 3)).alloc (.cells #[.slice sa l1.length sc, .slice ca cl.length cc, .slice (some ⟨wr.heap.size + 1, 0, none⟩) 1 1, .slice (some ⟨wr.heap.size + 1 + 1, 0, none⟩) 3 3] 22)) = w12 at *
    obtain ⟨LV, hLV, hLVl⟩ : ∃ LV : List Value, LV = [.slice sa l1.length sc, .slice ca cl.length cc, .slice (some ⟨wr.heap.size + 1, 0, none⟩) 1 1, .slice (some ⟨wr.heap.size + 1 + 1, 0, none⟩) 3 3] ∧ LV.length = 4 := ⟨_, rfl, rfl⟩
    rw [← hLV] at V12 HVL
    clear hLV GR
    generalize wr.heap.size = bz at *
    go_wp2_with fail
    go_loopg [67] 4 (fun gk i wr => ∃ k : Nat, k + gk = 4 ∧ i = .int .i64 k ∧ w12.grownBy wr none)
    case atStart => exact ⟨0, rfl, rfl, gb_refl _ _⟩
    case round =>
      obtain ⟨k2, hk2, rfl, hgr⟩ := hrel
      generalize wr = w13 at *
      have GR := Lib.hid hgr
      clear hgr
      by_cases hlt2 : k2 < 4
      rotate_left
      · have hkd2 : decide ((k2 : Int) < 4) = false := decide_eq_false (by omega)
        have GE := Lib.hid (gb_trans G12.out GR.out)
        go_wp2_with fail
        go_meet
        case rel => exact GE.out
      have hkd2 : decide ((k2 : Int) < 4) = true := decide_eq_true (by omega)
      have hgj : gk - 1 < gk ∧ k2 + 1 + (gk - 1) = 4 := by omega
      go_upto_block 3 with fail
      go_cut [] from 68 to 122 (fun wc => w12.grownBy wc none)
      case rest =>
        go_wp2_with fail
        go_roundg (gk - 1)
        case measure => exact hgj.1
        case rel => exact ⟨k2 + 1, hgj.2, by go_num, hcut⟩
      case first =>
      have r_ := rowV (block_kept GR.out V12.out rfl) k2 (by omega)
      obtain ⟨lst, hsl, hll⟩ := HVL.out LV[k2] (List.getElem_mem (by omega))
      generalize LV[k2] = vk at *
      have A13 := Lib.hid (A12.out.keep GR.out); have Z13 := Lib.hid (block_kept GR.out Z12.out rfl)
      have CHK' := Lib.hid (CHK.out z n lst vk w13 A13.out.pi (hsl.after GR.out) hll)
      rw [hLX z] at CHK'
      clear hsl hll
      have P13 := A13.out.p8
      rw [hPV] at P13
      obtain ⟨e0_, e1_, e2_, e3_, e4_, e5_, e6_, e7_, e8_, e9_, e10_⟩ := cells11 P13
      obtain ⟨d0_, d1_, d2_, d3_, d4_, d5_, d6_, d7_, d8_, d9_, d10_, d11_⟩ := cells12 Z13.out
      clear P13
      go_wp2_with fail
      clear e0_ e1_ e2_ e3_ e4_ e5_ e6_ e7_ e8_ e9_ e10_
      clear d0_ d1_ d2_ d3_ d4_ d5_ d6_ d7_ d8_ d9_ d10_ d11_ r_
      (with_reducible refine CHK'.out.mono ?_)
      rintro e w14 ⟨rfl, hg⟩
      have A14 := Lib.hid (A13.out.keep hg); have Z14 := Lib.hid (block_kept hg Z13.out rfl); have G14 := Lib.hid (gb_trans GR.out hg)
      clear hg CHK' A13 Z13 GR
      have SN := Lib.hid (fun h => SND.out z n lst h (by omega))
      generalize chkE ⟨x0, y0, z0, x1, y1, z1, step, ls, hs, phs, cap⟩ z n lst = ce at *
      by_cases hce : ce = 0
      rotate_left
      · have hce' : (ce != 0) = true := by simpa using hce
        clear hce
        go_wp2_with fail
        go_meet
        case rel => exact G14.out
      subst hce
      obtain ⟨n0, zm0, zm1, PT⟩ := SN.out rfl
      have SP := Lib.hid PT
      clear PT SN
      obtain ⟨nx, hnx⟩ : ∃ n : Nat, x1 = x0 + n - 1 := ⟨(x1 - x0 + 1).toNat, by unfold boxIn placeIn at hB; omega⟩
      obtain ⟨ny, hny⟩ : ∃ n : Nat, y1 = y0 + n - 1 := ⟨(y1 - y0 + 1).toNat, by unfold boxIn placeIn at hB; omega⟩
      obtain ⟨nz, hnz⟩ : ∃ n : Nat, z1 = z0 + n - 1 := ⟨(z1 - z0 + 1).toNat, by unfold boxIn placeIn at hB; omega⟩
      have hB' := hB
      unfold boxIn placeIn at hB'
      have ALL := Lib.hid (all_any x0 y0 z0 x1 y1 z1 nx ny nz w14 hnx hny hnz (by omega) (by omega) (by omega) (by omega) (by omega) (by omega))
      have HMEM : Hid (∀ p ∈ preX x0 y0 z0 ny nz nx, wiP p.1 p.2.1 p.2.2 p.1 p.2.1 p.2.2 x0 y0 z0 x1 y1 z1 = true ∧ (x0 ≤ p.1 ∧ p.1 ≤ x1 ∧ y0 ≤ p.2.1 ∧ p.2.1 ≤ y1 ∧ z0 ≤ p.2.2 ∧ p.2.2 ≤ z1)) := Lib.hid (by
        intro p hp
        have hm := mem_preX.1 hp
        exact ⟨wiP_point HVB.out (by omega) (by omega) (by omega), by omega⟩)
      have HLEN : Hid ((preX x0 y0 z0 ny nz nx).length ≤ 1000 ∧ 0 < (preX x0 y0 z0 ny nz nx).length) := Lib.hid (by
        rw [preX_length]
        have e1 : ny * nz ≤ 5 * 5 := Nat.mul_le_mul (by omega) (by omega)
        have e2 : nx * (ny * nz) ≤ 5 * (5 * 5) := Nat.mul_le_mul (by omega) e1
        exact ⟨by omega, Nat.mul_pos (by omega) (Nat.mul_pos (by omega) (by omega))⟩)
      clear hB' hnx hny hnz
      have P14 := A14.out.p8
      rw [hPV] at P14
      obtain ⟨e0_, e1_, e2_, e3_, e4_, e5_, e6_, e7_, e8_, e9_, e10_⟩ := cells11 P14
      clear P14
      go_wp2_with fail
      (with_reducible refine ALL.out.mono ?_)
      rintro e w15 ⟨lv, rfl, hown, -, hg⟩
      clear e0_ e1_ e2_ e3_ e4_ e5_ e6_ e7_ e8_ e9_ e10_
      generalize preX x0 y0 z0 ny nz nx = L3 at *
      obtain ⟨lva, lvc, rfl⟩ := owns_slice hown
      obtain ⟨gq, cap', hv, hgB, hgl⟩ := hown.form HLEN.out.2
      simp only [Value.slice.injEq, true_and] at hv
      obtain ⟨rfl, rfl⟩ := hv
      have HOWN := Lib.hid hown
      have A15 := Lib.hid (A14.out.keep hg); have Z15 := Lib.hid (block_kept hg Z14.out rfl); have G15 := Lib.hid (gb_trans G14.out hg)
      clear hg hown ALL A14 Z14 G14 hgB hgl
      have hll := HLEN.out.1
      go_upto_block 4 with fail
      go_wp2_with fail
      go_loopg [81] L3.length (fun gk i wr => ∃ k : Nat, k + gk = L3.length ∧ i = .int .i64 k ∧ w15.grownBy wr none)
      case atStart => exact ⟨0, by omega, rfl, gb_refl _ _⟩
      case round =>
        obtain ⟨k3, hk3, rfl, hgr⟩ := hrel
        generalize wr = w16 at *
        have GR := Lib.hid hgr
        clear hgr
        by_cases hlt3 : k3 < L3.length
        rotate_left
        · have hkd3 : decide ((k3 : Int) < (L3.length : Int)) = false := decide_eq_false (by omega)
          have GE := Lib.hid (gb_trans G15.out GR.out)
          go_wp2_with fail
          go_meet
          case rel => exact GE.out
        have hkd3 : decide ((k3 : Int) < (L3.length : Int)) = true := decide_eq_true (by omega)
        have hgi : gk - 1 < gk ∧ k3 + 1 + (gk - 1) = L3.length := by omega
        have hown2 := owns_keep HOWN.out GR.out
        obtain ⟨f1, f2, f3⟩ := flat3_at L3 k3 hlt3
        have c0 := hown2.cells (g := gq) rfl _ _ f1; have c1 := hown2.cells (g := gq) rfl _ _ f2; have c2 := hown2.cells (g := gq) rfl _ _ f3
        rw [addr_at] at c0 c1 c2
        clear f1 f2 f3 hown2
        have hmq := HMEM.out L3[k3] (List.getElem_mem hlt3)
        generalize L3[k3] = p_ at *
        obtain ⟨qx, qy, qz⟩ := p_
        dsimp only at hmq c0 c1 c2
        obtain ⟨hS1, hS2, hS3⟩ := SP.out qx qy qz hmq.2
        have hMM := MMI.out _ _ _ _ _ _ hmq.1
        have AT1 := Lib.hid (fun u hi => ATC.out qx qy qz u hmq.1 hi)
        have hqc := World.block_lt_of_cell? w16 _ c0
        clear hmq
        generalize m qx qy qz qx qy qz = mq at *
        generalize tm qx qy qz = tq at *
        have hg17 : w16.grownBy (w16.alloc (.cells #[.int .i64 qx, .int .i64 qy, .int .i64 qz] 24)) none := gb_alloc (gb_refl _ _) _
        have A17 := Lib.hid (A15.out.keep (gb_trans GR.out hg17)); have Z17 := Lib.hid (block_kept (gb_trans GR.out hg17) Z15.out rfl); have G17 := Lib.hid (gb_trans GR.out hg17)
        have Q17 := Lib.hid (heap_alloc_new w16 (.cells #[.int .i64 qx, .int .i64 qy, .int .i64 qz] 24))
        clear hg17 GR
        have P17 := A17.out.p8
        rw [hPV] at P17
        obtain ⟨e0_, e1_, e2_, e3_, e4_, e5_, e6_, e7_, e8_, e9_, e10_⟩ := cells11 P17
        obtain ⟨q0_, q1_, q2_⟩ := cells3 Q17.out
        clear P17
        go_wp2_with fail
        clear e0_ e1_ e2_ e3_ e4_ e5_ e6_ e7_ e8_ e9_ e10_
        clear q0_ q1_ q2_ c0 c1 c2 hqc
        generalize w16.alloc (.cells #[.int .i64 qx, .int .i64 qy, .int .i64 qz] 24) = w17 at *
        generalize w16.heap.size = bq at *
        (with_reducible refine (AT1.out w17 A17.out.prob).mono ?_)
        rintro e w18 ⟨rfl, hg⟩
        have Z18 := Lib.hid (block_kept hg Z17.out rfl); have G18 := Lib.hid (gb_trans G17.out hg); have Q18 := Lib.hid (block_kept hg Q17.out rfl)
        clear hg A17 Z17 G17 Q17 AT1
        obtain ⟨d0_, d1_, d2_, d3_, d4_, d5_, d6_, d7_, d8_, d9_, d10_, d11_⟩ := cells12 Z18.out
        obtain ⟨q0_, q1_, q2_⟩ := cells3 Q18.out
        have hw_ : IntKind.i64.wrap (z.m - n) = z.m - n := IntWalk.i64_in _ (by omega)
        have t1_ : decide (mq < z.l) = false := decide_eq_false (by omega)
        have t2_ : decide (mq < z.m - n) = false := decide_eq_false (by omega)
        by_cases h3 : mq < z.m
        · have t3_ : decide (mq < z.m) = true := decide_eq_true h3
          have hC := hS3 h3
          have CO := Lib.hid (rcontains_any z.a0 z.a1 z.a2 z.a3 z.a4 z.a5 qx qy qz w18)
          rw [hC] at CO
          clear hC hS1 hS2 hS3 hMM h3
          generalize hwv : z.m - n = wv_ at *
          go_wp2_with fail
          (with_reducible refine CO.out.mono ?_)
          rintro e w19 ⟨rfl, hg⟩
          have G19 := Lib.hid (gb_trans G18.out hg)
          clear hg
          go_wp2_with fail
          go_roundg (gk - 1)
          case measure => exact hgi.1
          case rel => exact ⟨k3 + 1, hgi.2, by go_num, G19.out⟩
        · have t3_ : decide (mq < z.m) = false := decide_eq_false h3
          clear hS1 hS2 hS3 hMM h3
          generalize hwv : z.m - n = wv_ at *
          go_wp2_with fail
          go_roundg (gk - 1)
          case measure => exact hgi.1
          case rel => exact ⟨k3 + 1, hgi.2, by go_num, G18.out⟩
end Go.Proofs.Ytcealhikmbchoaa
