/- The walk of ProofShortest. Written by gen_law29h.py. -/
import Derived.Test.YtcealhikmbchoaaAwake29
import Derived.Test.YtcealhikmbchoaaQrA
import Derived.Test.YtcealhikmbchoaaMkP
import Derived.Test.YtcealhikmbchoaaBent
import Derived.Test.YtcealhikmbchoaaRgA
namespace Go.Proofs.Ytcealhikmbchoaa
set_option linter.all false
open Go.RowKit Rg
/-- A row of its own lies in new memory. -/
theorem owns_new {u : World} {B : Nat} {E : TypeId} {k n : Nat} {v : Value} {ys : List Value} (h : u.ownsRow B E k v n ys) {b off len cap : Nat} (e : v = .slice (some ⟨b, off, none⟩) len cap) (h0 : 0 < len) : B ≤ b := by
  subst e
  rcases h.2 with ⟨h1, h2⟩ | ⟨g, cap', cur, e, hb, _⟩
  · simp at h1
  · simp at e; omega
theorem oneInts (l : List Int) : ∀ u ∈ l.map (Value.int .i64), u.oneCell' = true := by
  intro u hu
  obtain ⟨x, -, rfl⟩ := List.mem_map.1 hu
  rfl
/-- The numbers of a part of a row. -/
theorem part_cells {u : World} {b off : Nat} {c : List Int} (h : ∀ k, k < c.length → u.cell? ⟨b, off + k, none⟩ = some (.int .i64 (at0 c k))) (o m : Nat) (hom : o + m ≤ c.length) : ∀ j y, (((c.drop o).take m).map (Value.int .i64))[j]? = some y → u.cell? ((⟨b, off + o, none⟩ : Addr).add j) = some y := by
  intro j y hj
  rw [Addr.add_lit, Nat.add_assoc]
  rw [List.getElem?_map] at hj
  have hjm : j < m := by
    by_cases hjm : j < m
    · exact hjm
    · rw [List.getElem?_take, if_neg hjm] at hj; simp at hj
  rw [List.getElem?_take_of_lt hjm, List.getElem?_drop] at hj
  rw [h (o + j) (by omega)]
  rw [List.getElem?_eq_getElem (by omega), Option.map_some] at hj
  rw [← hj]
  simp [at0, show o + j < c.length by omega]

set_option maxRecDepth 100000 in
set_option maxHeartbeats 20000000 in
theorem proofShortest_walk (w : World) (v : Value) (xs : List Int) (hs : Sl w v xs) (_hx : ∀ x ∈ xs, -9223372036854775808 ≤ x ∧ x ≤ 9223372036854775807) :
    Calls Try.prog 8 #[v] w fun e w' => e = .returned (.bool true) ∧ Below w.heap.size w w' := by
  go_enter Try.func8, Try.ntmps8
  go_wp2_with fail
  (with_reducible refine (new_any w v xs hs).mono ?_)
  rintro e w2 ⟨rfl, hS, hg⟩
  have S2 := Lib.hid hS; have G2 := Lib.hid hg
  clear hS hg hs
  generalize hqw : w.heap.size = q at S2 ⊢
  have hq : w.heap.size ≤ q := by omega
  go_wp2_with fail
  (with_reducible refine (problem_any q w2 q 4 5 S2.out (by omega) (by omega) (by omega) (by omega)).mono ?_)
  rintro e w3 ⟨P, vl, vh, vp, rfl, hB, hT, hre, -, hcap, hlen, hph, hin, hap, hS, hg⟩
  have gd := good_mk hB (by omega) hT hre.1 hcap hlen.1 (by omega) hph
  have hq2 := S2.out.lt.2
  have HPI : Hid (PrIn q w3 ⟨P, vl, vh, vp⟩) := Lib.hid ⟨hin, fun b off len cap e _ => by have := hap _ (.inl rfl) b off len cap e; omega, fun b off len cap e _ => by have := hap _ (.inr (.inl rfl)) b off len cap e; omega, fun b off len cap e _ => by have := hap _ (.inr (.inr rfl)) b off len cap e; omega, by show P.phs.length ≤ 100; omega⟩
  have S3 := Lib.hid hS; have G3 := Lib.hid (gb_new G2.out hg (fun k hk => by simp at hk; omega))
  clear hS hg S2 G2 hT hre hcap hlen hph hap
  obtain ⟨pa, pc, rfl⟩ := hin.p.slice
  obtain ⟨la, ln, lc, rfl⟩ := sl_slice hin.l
  obtain ⟨ha, hn, hc, rfl⟩ := sl_slice hin.h
  have HPTS : P.reg.pts ≤ 1500 := by
    have hB' := hB
    unfold boxIn placeIn at hB'
    exact pts_side (by show P.x1 - P.x0 ≤ 8; omega) (by show P.y1 - P.y0 ≤ 8; omega) (by show P.z1 - P.z0 ≤ 8; omega) gd.sound.vb
  have MKP := Lib.hid (fun (tol : Int) h0 h1 => by
    obtain ⟨y, s, h1, h2, h3, h4⟩ := makes_plain gd (tol := tol) h0 h1 HPTS
    exact (⟨y, s, h1, h2, h3, h4, shortest_plain h3 h4⟩ : ∃ (y : Loc) (s : List Int), locP P tol = (y, 0) ∧ y.l ≤ y.m ∧ mkE P y tol = (0, s) ∧ s.length ≤ 3000 ∧ ((∃ t, s = t ++ [0]) ∧ (∀ l : List Int, l.length ≤ 6001 → chkE P y tol l = 0 ∨ chkE P y tol l = 26) ∧ ∀ a b : List Int, s = a ++ 0 :: b → chkE P y tol (a ++ b) = 26)))
  have LOC := Lib.hid (fun (tol : Int) (u : World) (h : PrIn q u ⟨P, .slice la ln lc, .slice ha hn hc, .slice pa P.phs.length pc⟩) => locate_any P _ _ _ tol u h.1 (by have := h.2.2.2.2; dsimp only at this; omega))
  have MAK := Lib.hid (fun (x : Loc) (tol : Int) (u : World) (h : PrIn q u ⟨P, .slice la ln lc, .slice ha hn hc, .slice pa P.phs.length pc⟩) => make_any P _ _ _ x tol u h.1 (by have := h.2.2.2.2; dsimp only at this; omega))
  have CHK := Lib.hid (fun (x : Loc) (tol : Int) (lst : List Int) (vs : Value) (u : World) (h : PrIn q u ⟨P, .slice la ln lc, .slice ha hn hc, .slice pa P.phs.length pc⟩) (hs' : Sl u vs lst) (hl : lst.length ≤ 1000000) => check_any P _ _ _ x tol lst vs u h.1 hs' (by have := h.2.2.2.2; dsimp only at this; omega) hl)
  clear gd hin HPTS hB
  generalize hPP : P = P0 at *
  obtain ⟨x0, y0, z0, x1, y1, z1, step, ls, hs, phs, cap⟩ := P
  subst hPP
  generalize hpn : phs.length = pn at *
  have hPV : Prob.val ⟨x0, y0, z0, x1, y1, z1, step, ls, hs, phs, cap⟩ (.slice la ln lc) (.slice ha hn hc) (.slice pa pn pc) = #[.int .i64 x0, .int .i64 y0, .int .i64 z0, .int .i64 x1, .int .i64 y1, .int .i64 z1, .int .i64 step, .slice la ln lc, .slice ha hn hc, .slice pa pn pc, .int .i64 cap] := rfl
  rw [hPV] at LOC MAK CHK
  rw [hPV]
  have hg4 : w3.grownBy (w3.alloc (.cells #[.int .i64 x0, .int .i64 y0, .int .i64 z0, .int .i64 x1, .int .i64 y1, .int .i64 z1, .int .i64 step, .slice la ln lc, .slice ha hn hc, .slice pa pn pc, .int .i64 cap] 36)) none := gb_alloc (gb_refl _ _) _
  have S4 := Lib.hid (S3.out.later (row := none) hg4 (by simp))
  have A4 : Hid (QrAt w q ⟨x0, y0, z0, x1, y1, z1, step, ls, hs, phs, cap⟩ (.slice la ln lc) (.slice ha hn hc) (.slice pa pn pc) w3.heap.size (w3.alloc (.cells #[.int .i64 x0, .int .i64 y0, .int .i64 z0, .int .i64 x1, .int .i64 y1, .int .i64 z1, .int .i64 step, .slice la ln lc, .slice ha hn hc, .slice pa pn pc, .int .i64 cap] 36))) := Lib.hid ⟨heap_alloc_new w3 (.cells #[.int .i64 x0, .int .i64 y0, .int .i64 z0, .int .i64 x1, .int .i64 y1, .int .i64 z1, .int .i64 step, .slice la ln lc, .slice ha hn hc, .slice pa pn pc, .int .i64 cap] 36), HPI.out.draw (gb_none hg4), gb_trans G3.out hg4, hq, S3.out.lt.2⟩
  have hz4 : (w3.alloc (.cells #[.int .i64 x0, .int .i64 y0, .int .i64 z0, .int .i64 x1, .int .i64 y1, .int .i64 z1, .int .i64 step, .slice la ln lc, .slice ha hn hc, .slice pa pn pc, .int .i64 cap] 36)).heap.size = w3.heap.size + 1 := by simp
  clear hg4 S3 G3 HPI
  go_wp2_with fail
  generalize w3.alloc (.cells #[.int .i64 x0, .int .i64 y0, .int .i64 z0, .int .i64 x1, .int .i64 y1, .int .i64 z1, .int .i64 step, .slice la ln lc, .slice ha hn hc, .slice pa pn pc, .int .i64 cap] 36) = w4 at *
  generalize w3.heap.size = b8 at *
  have PK := pickL_any q w4 q [0, 20, 100] 3 rfl #[.int .i64 0, .int .i64 20, .int .i64 100] rfl 3 S4.out (b8 + 1) hz4 (by decide) (by decide)
  (with_reducible refine PK.mono ?_)
  rintro e w5 ⟨n, rfl, hn, hS, hg⟩
  have hn0 : 0 ≤ n ∧ n ≤ 1000 := by
    simp only [List.mem_cons, List.not_mem_nil, or_false] at hn; omega
  have A5 := Lib.hid (A4.out.draw hg); have S5 := Lib.hid hS
  clear hS hg S4 A4 PK hn hz4
  obtain ⟨y, c, hy, hml, hmk, hcl, hall⟩ := MKP.out n (by omega) (by omega)
  have LOC' := Lib.hid (LOC.out n w5 A5.out.pi)
  have MAK' := Lib.hid (MAK.out y n)
  rw [hy] at LOC'
  rw [hmk] at MAK'
  dsimp only at LOC' MAK'
  have hLX : y.val = #[.int .i64 y.px, .int .i64 y.py, .int .i64 y.pz, .int .i64 y.t, .int .i64 y.m, .int .i64 y.l, .int .i64 y.a0, .int .i64 y.a1, .int .i64 y.a2, .int .i64 y.a3, .int .i64 y.a4, .int .i64 y.a5] := rfl
  rw [hLX] at LOC' MAK'
  clear LOC MKP hy hmk MAK
  have P5 := A5.out.p8
  rw [hPV] at P5
  obtain ⟨e0_, e1_, e2_, e3_, e4_, e5_, e6_, e7_, e8_, e9_, e10_⟩ := cells11 P5
  clear P5
  go_wp2_with fail
  clear e0_ e1_ e2_ e3_ e4_ e5_ e6_ e7_ e8_ e9_ e10_
  (with_reducible refine LOC'.out.mono ?_)
  rintro e w6 ⟨rfl, hg⟩
  have A6 := Lib.hid (A5.out.keep hg); have S6 := Lib.hid (S5.out.later (row := none) hg (by simp))
  clear hg A5 LOC' S5
  have hg7 : w6.grownBy (w6.alloc (.cells #[.int .i64 y.px, .int .i64 y.py, .int .i64 y.pz, .int .i64 y.t, .int .i64 y.m, .int .i64 y.l, .int .i64 y.a0, .int .i64 y.a1, .int .i64 y.a2, .int .i64 y.a3, .int .i64 y.a4, .int .i64 y.a5] 28)) none := gb_alloc (gb_refl _ _) _
  have A7 := Lib.hid (A6.out.keep hg7); have Z7 := Lib.hid (heap_alloc_new w6 (.cells #[.int .i64 y.px, .int .i64 y.py, .int .i64 y.pz, .int .i64 y.t, .int .i64 y.m, .int .i64 y.l, .int .i64 y.a0, .int .i64 y.a1, .int .i64 y.a2, .int .i64 y.a3, .int .i64 y.a4, .int .i64 y.a5] 28)); have S7 := Lib.hid (S6.out.later (row := none) hg7 (by simp))
  have hbz : q < w6.heap.size := S6.out.lt.2
  clear hg7 A6 S6
  have P7 := A7.out.p8
  rw [hPV] at P7
  obtain ⟨e0_, e1_, e2_, e3_, e4_, e5_, e6_, e7_, e8_, e9_, e10_⟩ := cells11 P7
  obtain ⟨d0_, d1_, d2_, d3_, d4_, d5_, d6_, d7_, d8_, d9_, d10_, d11_⟩ := cells12 Z7.out
  clear P7
  go_wp2_with fail
  clear e0_ e1_ e2_ e3_ e4_ e5_ e6_ e7_ e8_ e9_ e10_
  clear d0_ d1_ d2_ d3_ d4_ d5_ d6_ d7_ d8_ d9_ d10_ d11_
  generalize w6.alloc (.cells #[.int .i64 y.px, .int .i64 y.py, .int .i64 y.pz, .int .i64 y.t, .int .i64 y.m, .int .i64 y.l, .int .i64 y.a0, .int .i64 y.a1, .int .i64 y.a2, .int .i64 y.a3, .int .i64 y.a4, .int .i64 y.a5] 28) = w7 at *
  generalize w6.heap.size = bz at *
  (with_reducible refine (MAK'.out w7 A7.out.pi).mono ?_)
  rintro e w8 ⟨vc, rfl, ho, hg⟩
  have C8 := Lib.hid (Sl_of_owns ho rfl)
  have A8 := Lib.hid (A7.out.keep hg); have Z8 := Lib.hid (block_kept hg Z7.out rfl); have S8 := Lib.hid (S7.out.later (row := none) hg (by simp))
  have hcB := fun b off len cap (e : vc = .slice (some ⟨b, off, none⟩) len cap) (h0 : 0 < len) => owns_new ho e h0
  have CB := Lib.hid (show ∀ b off len cap, vc = .slice (some ⟨b, off, none⟩) len cap → 0 < len → q < b from fun b off len cap e h0 => by have := hcB b off len cap e h0; have := S7.out.lt.2; omega)
  clear ho hg A7 Z7 S7 MAK' hcB
  obtain ⟨ca, cc, rfl⟩ := C8.out.shape
  obtain ⟨⟨cs0, hcs0⟩, hok, hbad⟩ := hall
  have hclen : c.length = cs0.length + 1 := by rw [hcs0]; simp
  have LASTZ : Hid (∀ k, k < c.length → at0 c k ≠ 0 → k + 1 < c.length) := Lib.hid (fun k hk h0 => by
    by_cases hh : k + 1 < c.length
    · exact hh
    · exfalso; apply h0
      have : k = cs0.length := by omega
      subst this
      rw [hcs0]; simp [at0])
  have HOK := Lib.hid hok; have HBAD := Lib.hid hbad
  have hc1 : 1 ≤ c.length := by omega
  clear hok hbad hcs0 hclen
  obtain ⟨cb, coff, ccap, hcv, hcb, hcc1, hcc2, hcells⟩ := C8.out.block (by omega)
  simp only [Value.slice.injEq, true_and] at hcv
  obtain ⟨rfl, rfl⟩ := hcv
  have hqc := CB.out _ _ _ _ rfl (by omega)
  clear CB hcells hcb
  have c0_ : ((c.length : Int) == 0) = false := beq_eq_false_iff_ne.2 (by omega)
  have LN := Lib.hid (n_any q w8 q c.length S8.out (by omega) (by omega))
  go_wp2_with fail
  clear c0_
  (with_reducible refine LN.out.mono ?_)
  rintro e w9 ⟨ki, rfl, hki, hS, hg⟩
  obtain ⟨k0, rfl⟩ : ∃ k : Nat, ki = k := ⟨ki.toNat, by omega⟩
  have A9 := Lib.hid (A8.out.draw hg); have Z9 := Lib.hid (block_keptp hg Z8.out (by omega)); have C9 := Lib.hid (C8.out.later hg (fun b off len cap e h => by simp only [Value.slice.injEq, Option.some.injEq, Addr.mk.injEq] at e; simp; omega))
  clear hg hS A8 Z8 C8 S8 LN
  obtain ⟨_, _, _, hcv, hcb, -, -, hcells⟩ := C9.out.block (by omega)
  simp only [Value.slice.injEq, Option.some.injEq, Addr.mk.injEq, true_and, and_true] at hcv
  obtain ⟨⟨rfl, rfl⟩, rfl⟩ := hcv
  have CELLS := Lib.hid hcells
  clear hcells
  go_wp2_with fail
  go_loopg [10] (c.length - k0) (fun gk i wr => ∃ k : Nat, k + gk = c.length ∧ i = .int .i64 k ∧ w9 = wr ∧ k < c.length)
  case atStart => exact ⟨k0, by omega, rfl, rfl, by omega⟩
  case round =>
    obtain ⟨k, hk, rfl, rfl, hkc⟩ := hrel
    have hkd : decide ((k : Int) < (c.length : Int)) = true := decide_eq_true (by omega)
    have c1_ := CELLS.out k hkc
    by_cases hz : at0 c k = 0
    rotate_left
    · have hz' : (at0 c k != 0) = true := by simpa using hz
      have hk2 := LASTZ.out k hkc hz
      have hgi : gk - 1 < gk ∧ k + 1 + (gk - 1) = c.length := by omega
      generalize at0 c k = ck at *
      go_wp2_with fail
      go_roundg (gk - 1)
      case measure => exact hgi.1
      case rel => exact ⟨k + 1, hgi.2, by go_num, rfl, hk2⟩
    have hsplit : c = c.take k ++ 0 :: c.drop (k + 1) := by
      have h1 : c[k] = 0 := by simpa [at0, hkc] using hz
      have := List.take_append_drop k c
      rw [List.drop_eq_getElem_cons hkc, h1] at this
      exact this.symm
    have HSH := Lib.hid (HBAD.out _ _ hsplit)
    rw [hz] at c1_
    have hkn : ((k : Int) == (c.length : Int)) = false := beq_eq_false_iff_ne.2 (by omega)
    clear HBAD LASTZ hsplit hz
    have W1 : IntKind.i64.wrap ((k : Int) + 1) = (k : Int) + 1 := IntWalk.i64_in _ (by omega)
    have d1_ : decide ((k : Int) ≤ (cc : Int)) = true := decide_eq_true (by omega)
    have hkl : (c.take k).length = k := by rw [List.length_take]; omega
    have hdl : (c.drop (k + 1)).length = c.length - (k + 1) := List.length_drop
    have XK := Lib.hid (part_cells CELLS.out 0 k (by omega))
    have XD := Lib.hid (part_cells CELLS.out (k + 1) (c.length - (k + 1)) (by omega))
    rw [show (c.drop (k + 1)).take (c.length - (k + 1)) = c.drop (k + 1) from List.take_of_length_le (by omega)] at XD
    simp only [Nat.add_zero, List.drop_zero] at XK
    obtain ⟨ad, had, hcd⟩ : ∃ ad : Addr, (if cc = k + 1 then some (⟨cb, coff, none⟩ : Addr) else some ⟨cb, coff + (k + 1), none⟩) = some ad ∧ ∀ (u : World), w9.grownBy u none → ∀ j y, ((c.drop (k + 1)).map (Value.int .i64))[j]? = some y → u.cell? (ad.add j) = some y := by
      by_cases h : cc = k + 1
      · refine ⟨⟨cb, coff, none⟩, if_pos h, fun u hu j y hj => ?_⟩
        rw [List.drop_of_length_le (by omega)] at hj
        simp at hj
      · refine ⟨⟨cb, coff + (k + 1), none⟩, if_neg h, fun u hu j y hj => ?_⟩
        have h1 := XD.out j y hj
        rw [Addr.add_lit] at h1 ⊢
        exact (gb_cell hu hcb (by simp)).trans h1
    have CD := Lib.hid hcd
    clear hcd XD
    have h3000 : k ≤ 3000 := by omega
    go_upto_region 13 with fail
    clear c1_ hkn
    refine Rg.region (Made w9) (MakesA w9.heap.size k ((c.take k).map (Value.int .i64)) 6) (fun j => if j = 0 then some (isLitA w9 #[] 0) else if j = 4 then some (isCopyA w9 k ((c.take k).map (Value.int .i64))) else if j = 5 then some (isLitA w9 #[.int .i64 1, .int .i64 0, .int .i64 0] 3) else if j = 6 then some (isPushA w9 (k + 3) ((c.take k).map (Value.int .i64) ++ [.int .i64 1, .int .i64 0, .int .i64 0])) else none) (fun _ => false) 0 11 (by kernel_rfl) (by kernel_rfl) (by kernel_rfl) (by kernel_rfl) (by kernel_rfl) (by kernel_rfl) (by kernel_rfl) MakesA.size (Made.start w9) (fun hne => ?_)
    refine rgA_lit #[] 0 (by decide) (by decide) rfl rfl (fun _ => by go_simp) (fun b0 hb0 => ?_)
    simp only [Act.put, List.setIfInBounds_toArray, List.set_cons_zero, List.set_cons_succ]
    (repeat (refine rLexL_quiet (by rfl) (by rfl) (by rfl) (by rfl) ?_; go_big_quiet_step (fail); refine wpQuiet_nil ?_))
    refine rgA_copy _ _ 22 Try.underlying22 Try.infoIntT (by decide) 0 b0 ⟨cb, coff, none⟩ k cc ((c.take k).map (Value.int .i64)) rfl rfl rfl rfl rfl rfl rfl ⟨⟨0, .data⟩, by simp, rfl, rfl⟩ rfl (by rw [List.length_map, hkl]) (fun u hu j y hj => by have h1 := XK.out j y hj; rw [Addr.add_lit] at h1 ⊢; exact (gb_cell hu hcb (by simp)).trans h1) (oneInts _) (by omega) (fun g1 gc1 hg1 hz1 => ?_)
    simp only [Act.put, List.setIfInBounds_toArray, List.set_cons_zero, List.set_cons_succ]
    refine rgA_lit #[.int .i64 1, .int .i64 0, .int .i64 0] 3 (by decide) (by decide) rfl rfl (fun _ => by go_simp) (fun b1 hb1 => ?_)
    simp only [Act.put, List.setIfInBounds_toArray, List.set_cons_zero, List.set_cons_succ]
    refine rgA_push _ _ 22 Try.underlying22 Try.infoIntT rfl 4 5 b1 g1 gc1 #[.int .i64 1, .int .i64 0, .int .i64 0] rfl rfl rfl rfl rfl rfl hz1 ⟨⟨4, .data⟩, by simp, rfl, rfl⟩ rfl ⟨⟨5, .data⟩, by simp, rfl, rfl⟩ rfl (by simp [Value.oneCell']) (by omega) (fun g2 gc2 hg2 => ?_)
    simp only [Act.put, List.setIfInBounds_toArray, List.set_cons_zero, List.set_cons_succ]
    (repeat (refine rLexL_quiet (by rfl) (by rfl) (by rfl) (by rfl) ?_; go_big_quiet_step (fail); refine wpQuiet_nil ?_))
    rintro wq hq hf -
    have hq : w9.grownBy wq none := hq
    have HP := Lib.hid (show isPushA w9 (k + 3) ((c.take k).map (Value.int .i64) ++ [.int .i64 1, .int .i64 0, .int .i64 0]) [] (.slice (some ⟨g2, 0, none⟩) (k + 3) gc2) wq from hf 6)
    have CK := Lib.hid (fun (u : World) (hu : w9.grownBy u none) j y (hj : ((c.take k).map (Value.int .i64))[j]? = some y) => show u.cell? ((⟨cb, coff, none⟩ : Addr).add j) = some y from by have h1 := XK.out j y hj; rw [Addr.add_lit] at h1 ⊢; exact (gb_cell hu hcb (by simp)).trans h1)
    have hz13 := hq.size
    obtain ⟨g2', gc2', he2, hg2', ho2⟩ := HP.out
    simp only [Value.slice.injEq, Option.some.injEq, Addr.mk.injEq, and_true, true_and] at he2
    obtain ⟨rfl, rfl⟩ := he2
    have O2 := Lib.hid ho2; have Q13 := Lib.hid hq
    clear hf hne HP ho2 XK hq hg2'
    have hdl' : ((c.drop (k + 1)).map (Value.int .i64)).length = (c.length - (k + 1)) * 1 := by rw [List.length_map, hdl]; omega
    have hsub : (c.length : Int) - ((k : Int) + 1) = ((c.length - (k + 1) : Nat) : Int) := by omega
    go_wp2_with (at_builtin; go_loud (refine wpList_joinAt rfl _ _ 22 rfl w9.heap.size 3 (.int .i64 0) 1 8 Try.underlying22 Try.infoIntT rfl (by decide) _ (k + 3) _ rfl O2.out ad (c.length - (k + 1)) (cc - (k + 1)) ((c.drop (k + 1)).map (Value.int .i64)) rfl (CD.out wq Q13.out) hdl' (oneInts _) (.inl (by omega)) (by omega) (by omega) hz13 ?_); refine Hid.out ?_)
    refine Lib.hid ?_
    intro g3 gc3 w14 hown3 hg3
    have Q14 := Lib.hid (gb_new Q13.out hg3 (fun q hq => by simp [Value.ownBlock] at hq; omega))
    have L14 := Lib.hid (Sl_of_owns (xs := c.take k ++ [1, 0, 0] ++ c.drop (k + 1)) (by simpa using hown3) (by simp; omega))
    have L14b := Lib.hid (hown3.lt g3 rfl).2
    clear hown3 hg3 O2 Q13 hz13
    generalize wq = w13 at *
    go_upto_region 14 with fail
    refine Rg.region (Made w14) (MakesA w14.heap.size k ((c.take k).map (Value.int .i64)) 100) (fun j => if j = 0 then some (isLitA w14 #[] 0) else if j = 4 then some (isCopyA w14 k ((c.take k).map (Value.int .i64))) else none) (fun _ => false) 0 9 (by kernel_rfl) (by kernel_rfl) (by kernel_rfl) (by kernel_rfl) (by kernel_rfl) (by kernel_rfl) (by kernel_rfl) MakesA.size (Made.start w14) (fun hne => ?_)
    refine rgA_lit #[] 0 (by decide) (by decide) rfl rfl (fun _ => by go_simp) (fun b4 hb4 => ?_)
    simp only [Act.put, List.setIfInBounds_toArray, List.set_cons_zero, List.set_cons_succ]
    (repeat (refine rLexL_quiet (by rfl) (by rfl) (by rfl) (by rfl) ?_; go_big_quiet_step (fail); refine wpQuiet_nil ?_))
    refine rgA_copy _ _ 22 Try.underlying22 Try.infoIntT (by decide) 0 b4 ⟨cb, coff, none⟩ k cc ((c.take k).map (Value.int .i64)) rfl rfl rfl rfl rfl rfl rfl ⟨⟨0, .data⟩, by simp, rfl, rfl⟩ rfl (by rw [List.length_map, hkl]) (fun u hu => CK.out u (gb_trans Q14.out hu)) (oneInts _) (by omega) (fun g5 gc5 hg5 hz5 => ?_)
    simp only [Act.put, List.setIfInBounds_toArray, List.set_cons_zero, List.set_cons_succ]
    (repeat (refine rLexL_quiet (by rfl) (by rfl) (by rfl) (by rfl) ?_; go_big_quiet_step (fail); refine wpQuiet_nil ?_))
    rintro wr hr hf -
    have hr : w14.grownBy wr none := hr
    have HP := Lib.hid (show isCopyA w14 k ((c.take k).map (Value.int .i64)) [] (.slice (some ⟨g5, 0, none⟩) k gc5) wr from hf 4)
    have hz15 := hr.size
    obtain ⟨g5', gc5', he5, -, hg5', ho5⟩ := HP.out
    simp only [Value.slice.injEq, Option.some.injEq, Addr.mk.injEq, and_true, true_and] at he5
    obtain ⟨rfl, rfl⟩ := he5
    have O5 := Lib.hid ho5; have Q15 := Lib.hid (gb_trans Q14.out hr); have L15 := Lib.hid (L14.out.after hr); have R15 := Lib.hid hr
    clear hf hne HP ho5 hr hg5' L14 hz5
    go_wp2_with (at_builtin; go_loud (refine wpList_joinAt rfl _ _ 22 rfl w14.heap.size 3 (.int .i64 0) 1 8 Try.underlying22 Try.infoIntT rfl (by decide) (.slice (some ⟨g5, 0, none⟩) k gc5) k _ rfl O5.out ad (c.length - (k + 1)) (cc - (k + 1)) ((c.drop (k + 1)).map (Value.int .i64)) rfl (CD.out wr Q15.out) hdl' (oneInts _) (.inr (by intro h; cases h)) (by omega) (by omega) hz15 ?_); refine Hid.out ?_)
    refine Lib.hid ?_
    intro g6 gc6 w16 hown6 hg6
    have Q16 := Lib.hid (gb_new Q15.out hg6 (fun q hq => by simp [Value.ownBlock] at hq; have := Q14.out.size; omega))
    have L16 := Lib.hid (Sl_of_owns (xs := c.take k ++ c.drop (k + 1)) (by simpa using hown6) (by simp; omega))
    have M16 := Lib.hid (L15.out.later hg6 (fun b off len cap e h0 => by simp only [Value.slice.injEq, Option.some.injEq, Addr.mk.injEq] at e; have := L14b.out; simp [Value.ownBlock]; omega))
    clear hown6 hg6 L15 O5 Q15 CK CD R15 hz15 hdl' L14b CELLS
    generalize wr = w15 at *
    have A17 := Lib.hid (A9.out.keep Q16.out); have Z17 := Lib.hid (block_kept Q16.out Z9.out rfl)
    clear A9 Z9 C9 Q16 Q14
    have CH1 := Lib.hid (CHK.out y n (c.take k ++ [1, 0, 0] ++ c.drop (k + 1)) _ w16 A17.out.pi M16.out (by simp; omega))
    have HOK1 := Lib.hid (HOK.out (c.take k ++ [1, 0, 0] ++ c.drop (k + 1)) (by simp; omega))
    have CH2 := Lib.hid (fun vs u h1 h2 => CHK.out y n (c.take k ++ c.drop (k + 1)) vs u h1 h2 (by simp; omega))
    rw [HSH.out, hLX] at CH2
    rw [hLX] at CH1
    generalize chkE ⟨x0, y0, z0, x1, y1, z1, step, ls, hs, phs, cap⟩ y n (c.take k ++ [1, 0, 0] ++ c.drop (k + 1)) = ck1 at *
    clear CHK HOK HSH
    have P17 := A17.out.p8
    rw [hPV] at P17
    obtain ⟨e0_, e1_, e2_, e3_, e4_, e5_, e6_, e7_, e8_, e9_, e10_⟩ := cells11 P17
    obtain ⟨d0_, d1_, d2_, d3_, d4_, d5_, d6_, d7_, d8_, d9_, d10_, d11_⟩ := cells12 Z17.out
    clear P17
    go_wp2_with fail
    clear e0_ e1_ e2_ e3_ e4_ e5_ e6_ e7_ e8_ e9_ e10_
    clear d0_ d1_ d2_ d3_ d4_ d5_ d6_ d7_ d8_ d9_ d10_ d11_
    (with_reducible refine CH1.out.mono ?_)
    rintro e w18 ⟨rfl, hg⟩
    have A18 := Lib.hid (A17.out.keep hg); have Z18 := Lib.hid (block_kept hg Z17.out rfl); have M18 := Lib.hid (L16.out.after hg)
    clear hg A17 Z17 M16 L16 CH1
    have P18 := A18.out.p8
    rw [hPV] at P18
    obtain ⟨e0_, e1_, e2_, e3_, e4_, e5_, e6_, e7_, e8_, e9_, e10_⟩ := cells11 P18
    obtain ⟨d0_, d1_, d2_, d3_, d4_, d5_, d6_, d7_, d8_, d9_, d10_, d11_⟩ := cells12 Z18.out
    clear P18
    have HEQ : Hid ((ck1 == 0) = true ∨ ((ck1 == 0) = false ∧ (ck1 == 26) = true)) := Lib.hid (by
      rcases HOK1.out with h | h
      · exact .inl (by simp [h])
      · exact .inr ⟨by simp [h], by simp [h]⟩)
    clear HOK1
    rcases HEQ.out with h1_ | ⟨h1_, h2_⟩
    · clear HEQ
      go_wp2_with fail
      clear e0_ e1_ e2_ e3_ e4_ e5_ e6_ e7_ e8_ e9_ e10_
      clear d0_ d1_ d2_ d3_ d4_ d5_ d6_ d7_ d8_ d9_ d10_ d11_
      (with_reducible refine (CH2.out _ w18 A18.out.pi M18.out).mono ?_)
      rintro e w19 ⟨rfl, hg⟩
      have G19 := Lib.hid (gb_trans A18.out.G hg)
      clear hg A18 Z18 M18 CH2
      go_wp2_with fail
      (with_reducible refine (awake29_any w19).mono ?_)
      rintro e w20 ⟨rfl, hg⟩
      have GE := Lib.hid (gb_end (gb_trans G19.out hg))
      clear hg
      go_wp2_with fail
      go_ret
      exact ⟨rfl, GE.out⟩
    · clear HEQ
      go_wp2_with fail
      clear e0_ e1_ e2_ e3_ e4_ e5_ e6_ e7_ e8_ e9_ e10_
      clear d0_ d1_ d2_ d3_ d4_ d5_ d6_ d7_ d8_ d9_ d10_ d11_
      (with_reducible refine (CH2.out _ w18 A18.out.pi M18.out).mono ?_)
      rintro e w19 ⟨rfl, hg⟩
      have G19 := Lib.hid (gb_trans A18.out.G hg)
      clear hg A18 Z18 M18 CH2
      go_wp2_with fail
      (with_reducible refine (awake29_any w19).mono ?_)
      rintro e w20 ⟨rfl, hg⟩
      have GE := Lib.hid (gb_end (gb_trans G19.out hg))
      clear hg
      go_wp2_with fail
      go_ret
      exact ⟨rfl, GE.out⟩
  
  
end Go.Proofs.Ytcealhikmbchoaa
