/- StepA -/
import Derived.Test.YtgaglgopbdfemaaGreatDoorTmLook
namespace Go.Proofs.YtgaglgopbdfemaaGreatDoor
set_option linter.all false
section LAdd
open Go.RowKit Rg
theorem Sl.same {u u' : World} {v : Value} {xs : List Int} (h : Sl u v xs) (hs : ∀ b off len cap, v = .slice (some ⟨b, off, none⟩) len cap → 0 < len → u'.heap[b]? = u.heap[b]?) (hz : u.heap.size ≤ u'.heap.size) : Sl u' v xs := by
  rcases h with h | ⟨b, off, cap, rfl, hb, h1, h2, h3⟩
  · exact .inl h
  · by_cases h0 : 0 < xs.length
    · exact .inr ⟨b, off, cap, rfl, by omega, h1, h2, fun k hk => (World.cell?_of_block (hs _ _ _ _ rfl h0)).trans (h3 k hk)⟩
    · obtain rfl : xs = [] := List.length_eq_zero_iff.1 (by omega)
      exact .inl ⟨rfl, _, _, rfl⟩
theorem SlC.same {k n : Nat} {u u' : World} {v : Value} {ys : List Value} (h : SlC k u v n ys) (hs : ∀ b off len cap, v = .slice (some ⟨b, off, none⟩) len cap → 0 < len → u'.heap[b]? = u.heap[b]?) (hz : u.heap.size ≤ u'.heap.size) : SlC k u' v n ys := by
  refine ⟨h.1, ?_⟩
  rcases h.2 with h | ⟨b, off, cap, rfl, hb, h1, h2, h3⟩
  · exact .inl h
  · by_cases h0 : 0 < n
    · exact .inr ⟨b, off, cap, rfl, by omega, h1, h2, fun j x hx => (World.cell?_of_block (hs _ _ _ _ rfl h0)).trans (h3 j x hx)⟩
    · exact .inl ⟨by omega, _, _, by rw [show n = 0 by omega]⟩
/-- The queue has turned. -/
theorem LsAt.fr {P : Prob} {vl vh vp v v' : Value} {S B : Nat} {h h' : List Hi} {num tk : Int} {fd : Bool} {x : Loc} {u u' : World} (a : LsAt P vl vh vp S B h num tk fd x v u) (hq : Qu S B ((csS P vl vh vp v num tk fd x).set! 11 v') h' v' u') (hf : Fr S v v' u u') : LsAt P vl vh vp S B h' num tk fd x v' u' := by
  have hS := block_lt' a.q.s
  have hl := a.q.lt
  have kp : ∀ y, y = vl ∨ y = vh ∨ y = vp → ∀ b off len cap, y = .slice (some ⟨b, off, none⟩) len cap → 0 < len → u'.heap[b]? = u.heap[b]? := fun y hy b off len cap e hz => by
    have hb := a.old y hy b off len cap e hz
    exact hf.block b (by omega) (by omega) (fun e => by have := (a.q.old b e.symm).1; omega)
  refine ⟨⟨?_, ?_, hq.row, hq.lt, hq.le⟩, ⟨a.pi.l.same (kp _ (.inl rfl)) hf.size, a.pi.h.same (kp _ (.inr (.inl rfl))) hf.size, a.pi.p.same (kp _ (.inr (.inr rfl))) hf.size⟩, a.old⟩
  · exact hq.s
  · rfl
theorem csS_num (P : Prob) (vl vh vp v : Value) (num tk : Int) (fd : Bool) (x : Loc) (n : Int) : (csS P vl vh vp v num tk fd x).set! 12 (.int .i64 n) = csS P vl vh vp v n tk fd x ∧ (csS P vl vh vp v num tk fd x).set! 13 (.int .i64 n) = csS P vl vh vp v num n fd x := ⟨by kernel_rfl, by kernel_rfl⟩
theorem LsAt.num {P : Prob} {vl vh vp v : Value} {S B : Nat} {h : List Hi} {num tk : Int} {fd : Bool} {x : Loc} {u : World} (a : LsAt P vl vh vp S B h num tk fd x v u) (n : Int) : LsAt P vl vh vp S B h n tk fd x v (u.setCell ⟨S, 12, none⟩ (.int .i64 n)) ∧ u.grownBy (u.setCell ⟨S, 12, none⟩ (.int .i64 n)) (some S) := by
  have hg : u.grownBy (u.setCell ⟨S, 12, none⟩ (.int .i64 n)) (some S) := gb_setCell (gb_refl _ _) (.inr rfl) _
  refine ⟨a.put ?_ hg, hg⟩
  have hb := set_block a.q.s 12 (.int .i64 n)
  rw [(csS_num P vl vh vp v num tk fd x n).1] at hb
  exact hb
theorem LsAt.tk {P : Prob} {vl vh vp v : Value} {S B : Nat} {h : List Hi} {num tk : Int} {fd : Bool} {x : Loc} {u : World} (a : LsAt P vl vh vp S B h num tk fd x v u) (n : Int) : LsAt P vl vh vp S B h num n fd x v (u.setCell ⟨S, 13, none⟩ (.int .i64 n)) ∧ u.grownBy (u.setCell ⟨S, 13, none⟩ (.int .i64 n)) (some S) := by
  have hg : u.grownBy (u.setCell ⟨S, 13, none⟩ (.int .i64 n)) (some S) := gb_setCell (gb_refl _ _) (.inr rfl) _
  refine ⟨a.put ?_ hg, hg⟩
  have hb := set_block a.q.s 13 (.int .i64 n)
  rw [(csS_num P vl vh vp v num tk fd x n).2] at hb
  exact hb
theorem Fr.mine {S : Nat} {v : Value} {u u' : World} (hg : u.grownBy u' (some S)) : Fr S v v u u' := ⟨hg.os, hg.tape, hg.output, hg.size, fun k hk hS _ => hg.block k hk (by simpa using hS), fun _ e => .inl e⟩
set_option maxRecDepth 100000 in
set_option maxHeartbeats 8000000 in
theorem add_any (P : Prob) (vl vh vp : Value) (S B : Nat) (h : List Hi) (num : Nat) (tk : Int) (fd : Bool) (x : Loc) (v : Value) (b : Bx) (w : World) (a : LsAt P vl vh vp S B h num tk fd x v w) (hbig : P.phs.length ≤ 1000000000) (hE : bdE P b.a b.b b.c b.d b.e b.f = 0) (hl : h.length + 1 ≤ 1000000) (hn : num ≤ 1000000) :
    Calls Tryz.prog 29 #[.pointer (some ⟨S, 0, none⟩), .agg b.val] w fun e w' => e = .returned (.int .i64 0) ∧ ∃ v', LsAt P vl vh vp S B (pushH h ⟨b, bxC P b, num⟩) (num + 1 : Nat) tk fd x v' w' ∧ Fr S v v' w w' := by
  have BD := Lib.hid (fun (u : World) (hi : ProbIn P vl vh vp u) => bound_any P vl vh vp b.a b.b b.c b.d b.e b.f u hi hbig)
  rw [bdV_eq, hE] at BD
  have HX : Hid ((⟨b, bxC P b, num⟩ : Hi).cells.toArray = #[.int .i64 b.a, .int .i64 b.b, .int .i64 b.c, .int .i64 b.d, .int .i64 b.e, .int .i64 b.f, .int .i64 (bdC P b.a b.b b.c b.d b.e b.f), .int .i64 num]) := Lib.hid rfl
  obtain ⟨pa, pc, rfl⟩ := a.pi.p.slice
  obtain ⟨la, ln, lc, rfl⟩ := sl_slice a.pi.l
  obtain ⟨ha, hn_, hc, rfl⟩ := sl_slice a.pi.h
  have A0 := Lib.hid a
  clear a hE hbig
  generalize (⟨b, bxC P b, num⟩ : Hi) = X at *
  generalize bdC P b.a b.b b.c b.d b.e b.f = C_ at *
  obtain ⟨b0, b1, b2, b3, b4, b5⟩ := b
  have hBV : Bx.val ⟨b0, b1, b2, b3, b4, b5⟩ = #[.int .i64 b0, .int .i64 b1, .int .i64 b2, .int .i64 b3, .int .i64 b4, .int .i64 b5] := rfl
  rw [hBV]
  dsimp only at HX BD
  obtain ⟨x0, y0, z0, x1, y1, z1, step, ls, hs, phs, cap⟩ := P
  obtain ⟨px, py, pz, xt, xm, xl, a0, a1, a2, a3, a4, a5⟩ := x
  generalize hpn : phs.length = pn at *
  have hPV : Prob.val ⟨x0, y0, z0, x1, y1, z1, step, ls, hs, phs, cap⟩ (.slice la ln lc) (.slice ha hn_ hc) (.slice pa pn pc) = #[.int .i64 x0, .int .i64 y0, .int .i64 z0, .int .i64 x1, .int .i64 y1, .int .i64 z1, .int .i64 step, .slice la ln lc, .slice ha hn_ hc, .slice pa pn pc, .int .i64 cap] := rfl
  rw [hPV] at BD
  have hg1 : w.grownBy (w.alloc (.cells #[.int .i64 b0, .int .i64 b1, .int .i64 b2, .int .i64 b3, .int .i64 b4, .int .i64 b5] 28)) none := gb_alloc (gb_refl _ _) _
  have A1 := Lib.hid (A0.out.keep hg1); have G1 := Lib.hid (gb_none (row := none) hg1); have N1 := Lib.hid (heap_alloc_new w (.cells #[.int .i64 b0, .int .i64 b1, .int .i64 b2, .int .i64 b3, .int .i64 b4, .int .i64 b5] 28))
  clear hg1 A0
  go_enter Tryz.func29, Tryz.ntmps29
  go_wp2_with fail
  generalize w.alloc (.cells #[.int .i64 b0, .int .i64 b1, .int .i64 b2, .int .i64 b3, .int .i64 b4, .int .i64 b5] 28) = w1 at *
  generalize w.heap.size = A_ at *
  have hCS : ∀ v_, csS ⟨x0, y0, z0, x1, y1, z1, step, ls, hs, phs, cap⟩ (.slice la ln lc) (.slice ha hn_ hc) (.slice pa pn pc) v_ num tk fd ⟨px, py, pz, xt, xm, xl, a0, a1, a2, a3, a4, a5⟩ = #[.int .i64 x0, .int .i64 y0, .int .i64 z0, .int .i64 x1, .int .i64 y1, .int .i64 z1, .int .i64 step, .slice la ln lc, .slice ha hn_ hc, .slice pa pn pc, .int .i64 cap, v_, .int .i64 num, .int .i64 tk, .bool fd, .int .i64 px, .int .i64 py, .int .i64 pz, .int .i64 xt, .int .i64 xm, .int .i64 xl, .int .i64 a0, .int .i64 a1, .int .i64 a2, .int .i64 a3, .int .i64 a4, .int .i64 a5] := fun _ => rfl
  have HS := Lib.hid A1.out.q.s
  rw [hCS] at HS
  have s0_ := cell_of HS.out 0 _ rfl; have s1_ := cell_of HS.out 1 _ rfl; have s2_ := cell_of HS.out 2 _ rfl; have s3_ := cell_of HS.out 3 _ rfl; have s4_ := cell_of HS.out 4 _ rfl; have s5_ := cell_of HS.out 5 _ rfl; have s6_ := cell_of HS.out 6 _ rfl; have s7_ := cell_of HS.out 7 _ rfl; have s8_ := cell_of HS.out 8 _ rfl; have s9_ := cell_of HS.out 9 _ rfl; have s10_ := cell_of HS.out 10 _ rfl
  obtain ⟨e0_, e1_, e2_, e3_, e4_, e5_⟩ := six N1.out
  have hSl := block_lt' HS.out; have hAl := block_lt' N1.out
  (refine wp_region_grown (by kernel_rfl) (by kernel_rfl) ?_; (repeat (go_big_quiet_step (first
    | (go_at_call 58; exact Calls.grown_of (BD.out _ (A1.out.pi.after (ever_up _))))))); refine wpQuiet_nil ?_; intro wq hq)
  have A2 := Lib.hid (A1.out.keep hq); have G2 := Lib.hid (gb_trans G1.out hq); have N2 := Lib.hid (block_kept hq N1.out rfl)
  clear hq A1 G1 N1 HS e0_ e1_ e2_ e3_ e4_ e5_ hSl hAl BD s0_ s1_ s2_ s3_ s4_ s5_ s6_ s7_ s8_ s9_ s10_
  generalize wq = w2 at *
  go_wp2_with fail
  have HS := Lib.hid A2.out.q.s
  rw [hCS] at HS
  have s12_ := cell_of HS.out 12 _ rfl
  obtain ⟨e0_, e1_, e2_, e3_, e4_, e5_⟩ := six N2.out
  have hSl := block_lt' HS.out; have hAl := block_lt' N2.out
  refine Rg.region (Made w2) Makes (fun _ => none) (fun _ => false) 0 12 (by kernel_rfl) (by kernel_rfl) (by kernel_rfl) (by kernel_rfl) (by kernel_rfl) (by kernel_rfl) (by kernel_rfl) Makes.size (Made.start w2) (fun hne => ?_)
  have lS_ := fun o (u : Cls (Made w2)) => gb_cell (evr_h u) (b := S) (o := o) hSl (by simp)
  have lA_ := fun o (u : Cls (Made w2)) => gb_cell (evr_h u) (b := A_) (o := o) hAl (by simp)
  (repeat (refine rLexL_quiet (by rfl) (by rfl) (by rfl) (by rfl) ?_; go_big_quiet_step (fail); refine wpQuiet_nil ?_))
  refine rLexL_val (.pointer (some ⟨S, 0, none⟩)) (by rfl) (by rfl) (by rfl) (by rfl) (fun _ => by go_simp) ?_
  simp only [Act.put, List.setIfInBounds_toArray, List.set_cons_zero, List.set_cons_succ]
  (repeat (refine rLexL_quiet (by rfl) (by rfl) (by rfl) (by rfl) ?_; go_big_quiet_step (fail); refine wpQuiet_nil ?_))
  refine rLexL_val (.iface 174 (.pointer (some ⟨S, 11, none⟩))) (by rfl) (by rfl) (by rfl) (by rfl) (fun _ => by go_simp) ?_
  simp only [Act.put, List.setIfInBounds_toArray, List.set_cons_zero, List.set_cons_succ]
  (repeat (refine rLexL_quiet (by rfl) (by rfl) (by rfl) (by rfl) ?_; go_big_quiet_step (fail); refine wpQuiet_nil ?_))
  refine rLexL_val (.pointer (some ⟨S, 0, none⟩)) (by rfl) (by rfl) (by rfl) (by rfl) (fun _ => by go_simp) ?_
  simp only [Act.put, List.setIfInBounds_toArray, List.set_cons_zero, List.set_cons_succ]
  (repeat (refine rLexL_quiet (by rfl) (by rfl) (by rfl) (by rfl) ?_; go_big_quiet_step (fail); refine wpQuiet_nil ?_))
  refine rLexL_val (.iface 63 (.agg #[.int .i64 b0, .int .i64 b1, .int .i64 b2, .int .i64 b3, .int .i64 b4, .int .i64 b5, .int .i64 C_, .int .i64 num])) (by rfl) (by rfl) (by rfl) (by rfl) (fun _ => by go_simp) ?_
  simp only [Act.put, List.setIfInBounds_toArray, List.set_cons_zero, List.set_cons_succ]
  rintro wq hq - -
  have A3 := Lib.hid (A2.out.keep hq); have G3 := Lib.hid (gb_trans G2.out hq)
  clear hq hne lS_ lA_ s12_ e0_ e1_ e2_ e3_ e4_ e5_ HS hSl hAl A2 G2 N2
  have HP := Lib.hid (hpush_any S B _ v h X wq A3.out.q hl)
  rw [HX.out] at HP
  go_wp2_with fail
  (with_reducible refine HP.out.mono ?_)
  rintro e w4 ⟨rfl, v', hq, hf⟩
  have A4 := Lib.hid (A3.out.fr hq hf); have F4 := Lib.hid ((Fr.gb G3.out).trans hf)
  clear hq hf HP A3 G3
  have HS := Lib.hid A4.out.q.s
  rw [hCS] at HS
  have s12_ := cell_of HS.out 12 _ rfl; have f12_ := frozen3 HS.out 12
  have hnn : (num : Int) + 1 ≤ 1000001 := by omega
  go_wp2_with fail
  go_ret
  refine ⟨rfl, v', ?_, F4.out.trans (Fr.mine (A4.out.num _).2)⟩
  push_cast
  exact (A4.out.num _).1
set_option maxRecDepth 100000 in
set_option maxHeartbeats 8000000 in
theorem ended_any (P : Prob) (vl vh vp : Value) (S B : Nat) (h : List Hi) (num tk : Int) (fd : Bool) (x : Loc) (v : Value) (tol : Int) (w : World) (a : LsAt P vl vh vp S B h num tk fd x v w) :
    Calls Tryz.prog 30 #[.pointer (some ⟨S, 0, none⟩), .int .i64 tol] w fun e w' => e = .returned (.bool (decide (h.length = 0) || (fd && decide (IntKind.i64.wrap (x.m - (hiAt h 0).c) ≤ tol)))) ∧ w.grownBy w' none := by
  obtain ⟨x0, y0, z0, x1, y1, z1, step, ls, hs, phs, cap⟩ := P
  obtain ⟨px, py, pz, xt, xm, xl, a0, a1, a2, a3, a4, a5⟩ := x
  have HS := Lib.hid a.q.s
  have hCS : csS ⟨x0, y0, z0, x1, y1, z1, step, ls, hs, phs, cap⟩ vl vh vp v num tk fd ⟨px, py, pz, xt, xm, xl, a0, a1, a2, a3, a4, a5⟩ = #[.int .i64 x0, .int .i64 y0, .int .i64 z0, .int .i64 x1, .int .i64 y1, .int .i64 z1, .int .i64 step, vl, vh, vp, .int .i64 cap, v, .int .i64 num, .int .i64 tk, .bool fd, .int .i64 px, .int .i64 py, .int .i64 pz, .int .i64 xt, .int .i64 xm, .int .i64 xl, .int .i64 a0, .int .i64 a1, .int .i64 a2, .int .i64 a3, .int .i64 a4, .int .i64 a5] := rfl
  rw [hCS] at HS
  dsimp only
  by_cases h0 : h.length = 0
  · have hv : ∃ aa c, v = .slice aa 0 c := by
      obtain ⟨aa, c, e⟩ := owns_slice a.q.row
      exact ⟨aa, c, by rw [e, h0]⟩
    obtain ⟨aa, c, rfl⟩ := hv
    have s11_ := cell_of HS.out 11 _ rfl
    rw [h0]
    clear h0 a hCS
    go_enter Tryz.func30, Tryz.ntmps30
    go_wp2
    go_quiet (fail)
    go_wp2
    go_ret
    exact ⟨ret_bool (by simp), gb_drewN (gb_refl _ _) _⟩
  obtain ⟨q, cp, rfl, hq, -, hcp, hcp2⟩ := a.q.row.at (by omega)
  have s11_ := cell_of HS.out 11 _ rfl; have s14_ := cell_of HS.out 14 _ rfl; have s19_ := cell_of HS.out 19 _ rfl
  obtain ⟨-, -, -, -, -, -, i6_, -⟩ := a.q.row.it 0 (by omega)
  rw [Nat.zero_mul, Nat.zero_add] at i6_
  have hne : ((h.length : Int) == 0) = false := by simp; exact fun e => h0 (by rw [e]; rfl)
  have hp0 : 0 < h.length := by omega
  have hd : decide (h.length = 0) = false := decide_eq_false h0
  rw [hd]
  clear a hCS h0
  generalize (hiAt h 0).c = C_ at *
  generalize h.length = n at *
  cases fd
  · go_enter Tryz.func30, Tryz.ntmps30
    go_wp2
    go_quiet (fail)
    go_wp2
    go_ret
    exact ⟨ret_bool (by simp), gb_drewN (gb_refl _ _) _⟩
  · generalize hwr : IntKind.i64.wrap (xm - C_) = wr_ at *
    go_enter Tryz.func30, Tryz.ntmps30
    go_wp2
    go_quiet (fail)
    go_wp2
    go_ret
    exact ⟨ret_bool (by simp), gb_drewN (gb_refl _ _) _⟩
end LAdd
section LStep
open Go.RowKit Rg
/-- The state of the program's search. -/
structure Ps where
  h : List Hi
  num : Nat
  tk : Nat
  fd : Bool
  x : Loc
def Ps.rest (s : Ps) : List Hi := (popL s.h (s.h.length - 1)).take (s.h.length - 1)
def Ps.step (P : Prob) (s : Ps) : Ps :=
  if (hiAt s.h 0).b.ok then
    ⟨pushH (pushH s.rest ⟨(hiAt s.h 0).b.fst, bxC P (hiAt s.h 0).b.fst, s.num⟩) ⟨(hiAt s.h 0).b.snd, bxC P (hiAt s.h 0).b.snd, (s.num + 1 : Nat)⟩, s.num + 1 + 1, s.tk + 1, true, looksP P s.fd s.x (hiAt s.h 0).b⟩
  else ⟨s.rest, s.num, s.tk + 1, true, looksP P s.fd s.x (hiAt s.h 0).b⟩
def Ps.ended (s : Ps) (tol : Int) : Bool := decide (s.h.length = 0) || (s.fd && decide (IntKind.i64.wrap (s.x.m - (hiAt s.h 0).c) ≤ tol))
theorem Fr.at {S : Nat} {v v' : Value} {u u' : World} {b : Nat} {o : Obj} (hf : Fr S v v' u u') (hb : u.heap[b]? = some o) (h1 : b ≠ S) (h2 : some b ≠ v.ownBlock) : u'.heap[b]? = some o := (hf.block b (block_lt' hb) h1 h2).trans hb
abbrev PsIn (P : Prob) (vl vh vp : Value) (S B : Nat) (s : Ps) (v : Value) (u : World) : Prop := LsAt P vl vh vp S B s.h s.num s.tk s.fd s.x v u
theorem pushH_length (l : List Hi) (x : Hi) : (pushH l x).length = l.length + 1 := by unfold pushH; rw [upF_length]; simp
theorem popL_length (l : List Hi) (n : Nat) : (popL l n).length = l.length := by unfold popL; rw [downF_length, swapL_length]
theorem Ps.rest_length (s : Ps) : s.rest.length = s.h.length - 1 := by unfold Ps.rest; rw [List.length_take, popL_length]; omega
set_option maxRecDepth 100000 in
set_option maxHeartbeats 8000000 in
theorem step_any (P : Prob) (vl vh vp : Value) (S B : Nat) (s : Ps) (v : Value) (w : World) (a : PsIn P vl vh vp S B s v w) (hbig : P.phs.length ≤ 1000000000) (ht : s.tk ≠ 3000) (ht2 : s.tk ≤ 100000) (hl0 : 0 < s.h.length) (hl : s.h.length ≤ 100000) (hn : s.num ≤ 100000)
    (hE : bdE P (hiAt s.h 0).b.c0 (hiAt s.h 0).b.c1 (hiAt s.h 0).b.c2 (hiAt s.h 0).b.c0 (hiAt s.h 0).b.c1 (hiAt s.h 0).b.c2 = 0) (hF : (hiAt s.h 0).b.ok = true → bxE P (hiAt s.h 0).b.fst = 0 ∧ bxE P (hiAt s.h 0).b.snd = 0) :
    Calls Tryz.prog 31 #[.pointer (some ⟨S, 0, none⟩)] w fun e w' => e = .returned (.int .i64 0) ∧ ∃ v', PsIn P vl vh vp S B (s.step P) v' w' ∧ Fr S v v' w w' := by
  obtain ⟨h, num, tk, fd, x⟩ := s
  dsimp only [PsIn] at a ht ht2 hl0 hl hn hE hF
  have hrl := Ps.rest_length ⟨h, num, tk, fd, x⟩
  have HST : Hid (Ps.step P ⟨h, num, tk, fd, x⟩ = if (hiAt h 0).b.ok then ⟨pushH (pushH (Ps.rest ⟨h, num, tk, fd, x⟩) ⟨(hiAt h 0).b.fst, bxC P (hiAt h 0).b.fst, num⟩) ⟨(hiAt h 0).b.snd, bxC P (hiAt h 0).b.snd, (num + 1 : Nat)⟩, num + 1 + 1, tk + 1, true, looksP P fd x (hiAt h 0).b⟩ else ⟨Ps.rest ⟨h, num, tk, fd, x⟩, num, tk + 1, true, looksP P fd x (hiAt h 0).b⟩) := Lib.hid rfl
  obtain ⟨q, cp, rfl, hq, hqB, hcp, hcp2⟩ := a.q.row.at hl0
  obtain ⟨n, hnl⟩ : ∃ n, h.length = n + 1 := ⟨h.length - 1, by omega⟩
  have POP := Lib.hid (fun (u : World) (cs : Array Value) (hqu : Qu S B cs h (.slice (some ⟨q, 0, none⟩) h.length cp) u) => hpop_any S B cs q cp h n u hqu hnl (by omega))
  have HR : Hid (Ps.rest ⟨h, num, tk, fd, x⟩ = (popL h n).take n) := Lib.hid (by unfold Ps.rest; dsimp only; rw [hnl]; rfl)
  rw [HR.out] at HST hrl
  obtain ⟨i0_, i1_, i2_, i3_, i4_, i5_, -, -⟩ := a.q.row.it 0 hl0
  rw [Nat.zero_mul] at i0_ i1_ i2_ i3_ i4_ i5_
  rw [Nat.zero_add] at i1_ i2_ i3_ i4_ i5_
  have LK := Lib.hid (fun (h' : List Hi) (nm tk' : Int) (v' : Value) (u : World) (a' : LsAt P vl vh vp S B h' nm tk' fd x v' u) => look_any P vl vh vp S B h' nm tk' fd x v' (hiAt h 0).b u a' hbig hE)
  have SPL := Lib.hid (hiAt h 0).b.split
  have ADD := Lib.hid (fun (b : Bx) (hb : bxE P b = 0) (h' : List Hi) (nm : Nat) (tk' : Int) (x' : Loc) (v' : Value) (u : World) (a' : LsAt P vl vh vp S B h' nm tk' true x' v' u) (h1 : h'.length + 1 ≤ 1000000) (h2 : nm ≤ 1000000) => add_any P vl vh vp S B h' nm tk' true x' v' b u a' hbig hb h1 h2)
  have HF := Lib.hid hF
  clear hE hF hbig
  generalize (popL h n).take n = h1 at *
  generalize looksP P fd x (hiAt h 0).b = x' at *
  have hBV : ∀ b : Bx, b.val = #[.int .i64 b.a, .int .i64 b.b, .int .i64 b.c, .int .i64 b.d, .int .i64 b.e, .int .i64 b.f] := fun _ => rfl
  generalize (hiAt h 0).b = b at *
  rw [hBV] at LK SPL
  rw [hBV, hBV] at SPL
  have A0 := Lib.hid a
  have HS := Lib.hid a.q.s
  have hCS : csS P vl vh vp (.slice (some ⟨q, 0, none⟩) h.length cp) num tk fd x = #[.int .i64 P.x0, .int .i64 P.y0, .int .i64 P.z0, .int .i64 P.x1, .int .i64 P.y1, .int .i64 P.z1, .int .i64 P.step, vl, vh, vp, .int .i64 P.cap, .slice (some ⟨q, 0, none⟩) h.length cp, .int .i64 num, .int .i64 tk, .bool fd, .int .i64 x.px, .int .i64 x.py, .int .i64 x.pz, .int .i64 x.t, .int .i64 x.m, .int .i64 x.l, .int .i64 x.a0, .int .i64 x.a1, .int .i64 x.a2, .int .i64 x.a3, .int .i64 x.a4, .int .i64 x.a5] := rfl
  rw [hCS] at HS
  have s11_ := cell_of HS.out 11 _ rfl; have s13_ := cell_of HS.out 13 _ rfl
  have ht' : ((tk : Int) == 3000) = false := by simp; omega
  have hl1 : h1.length ≤ 100000 := by dsimp only at hrl; omega
  have hhp : (0 : Int) < (h.length : Int) := by omega
  clear a hrl
  have hSA := block_lt' A0.out.q.s
  go_enter Tryz.func31, Tryz.ntmps31
  go_upto_region 4 with fail
  have hg1 : w.grownBy (w.alloc (.cells #[.int .i64 b.a, .int .i64 b.b, .int .i64 b.c, .int .i64 b.d, .int .i64 b.e, .int .i64 b.f] 28)) none := gb_alloc (gb_refl _ _) _
  have A1 := Lib.hid (A0.out.keep hg1); have G1 := Lib.hid hg1; have N1 := Lib.hid (heap_alloc_new w (.cells #[.int .i64 b.a, .int .i64 b.b, .int .i64 b.c, .int .i64 b.d, .int .i64 b.e, .int .i64 b.f] 28))
  clear hg1 A0 HS i0_ i1_ i2_ i3_ i4_ i5_ s11_ s13_
  generalize w.alloc (.cells #[.int .i64 b.a, .int .i64 b.b, .int .i64 b.c, .int .i64 b.d, .int .i64 b.e, .int .i64 b.f] 28) = w1 at *
  generalize hwA : w.heap.size = A_ at *
  go_wp2_with fail
  (with_reducible refine (POP.out w1 _ A1.out.q).mono ?_)
  rintro e w2 ⟨⟨rv, rfl⟩, hq2, hf⟩
  have A2 := Lib.hid (A1.out.fr hq2 hf); have F2 := Lib.hid ((Fr.gb G1.out).trans hf)
  have N2 := Lib.hid (hf.at N1.out (by omega) (by simp [Value.ownBlock]; omega))
  clear hq2 hf A1 G1 N1 POP
  have HS := Lib.hid A2.out.q.s
  have hCS2 : csS P vl vh vp (.slice (some ⟨q, 0, none⟩) n cp) num tk fd x = #[.int .i64 P.x0, .int .i64 P.y0, .int .i64 P.z0, .int .i64 P.x1, .int .i64 P.y1, .int .i64 P.z1, .int .i64 P.step, vl, vh, vp, .int .i64 P.cap, .slice (some ⟨q, 0, none⟩) n cp, .int .i64 num, .int .i64 tk, .bool fd, .int .i64 x.px, .int .i64 x.py, .int .i64 x.pz, .int .i64 x.t, .int .i64 x.m, .int .i64 x.l, .int .i64 x.a0, .int .i64 x.a1, .int .i64 x.a2, .int .i64 x.a3, .int .i64 x.a4, .int .i64 x.a5] := rfl
  rw [hCS2] at HS
  have s13_ := cell_of HS.out 13 _ rfl; have f13_ := frozen3 HS.out 13
  have htt : (tk : Int) + 1 ≤ 100001 := by omega
  go_upto_region 6 with fail
  clear HS s13_ f13_
  have A3 := Lib.hid (A2.out.tk ((tk : Int) + 1)).1; have F3 := Lib.hid (F2.out.trans (Fr.mine (A2.out.tk ((tk : Int) + 1)).2)); have N3 := Lib.hid (block_keptp (A2.out.tk ((tk : Int) + 1)).2 N2.out (by omega))
  clear A2 F2 N2
  generalize w2.setCell ⟨S, 13, none⟩ (.int .i64 ((tk : Int) + 1)) = w3 at *
  obtain ⟨e0_, e1_, e2_, e3_, e4_, e5_⟩ := six N3.out
  go_wp2_with fail
  (with_reducible refine (LK.out h1 num _ _ w3 A3.out).mono ?_)
  rintro e w4 ⟨rfl, hA, hg⟩
  have A4 := Lib.hid hA; have F4 := Lib.hid (F3.out.trans (Fr.mine hg)); have N4 := Lib.hid (block_keptp hg N3.out (by omega))
  clear hA hg A3 F3 N3 LK e0_ e1_ e2_ e3_ e4_ e5_
  obtain ⟨e0_, e1_, e2_, e3_, e4_, e5_⟩ := six N4.out
  go_wp2_with fail
  (with_reducible refine (SPL.out w4).mono ?_)
  rintro e w8 ⟨rfl, hg⟩
  clear e0_ e1_ e2_ e3_ e4_ e5_
  go_upto_region 10 with fail
  have hg9 : w4.grownBy ((w8.alloc (.cells #[.int .i64 b.fst.a, .int .i64 b.fst.b, .int .i64 b.fst.c, .int .i64 b.fst.d, .int .i64 b.fst.e, .int .i64 b.fst.f] 28)).alloc (.cells #[.int .i64 b.snd.a, .int .i64 b.snd.b, .int .i64 b.snd.c, .int .i64 b.snd.d, .int .i64 b.snd.e, .int .i64 b.snd.f] 28)) none := gb_alloc (gb_alloc hg _) _
  have A9 := Lib.hid (A4.out.keep hg9); have F9 := Lib.hid (F4.out.trans (Fr.gb hg9))
  have N9 : Hid (((w8.alloc (.cells #[.int .i64 b.fst.a, .int .i64 b.fst.b, .int .i64 b.fst.c, .int .i64 b.fst.d, .int .i64 b.fst.e, .int .i64 b.fst.f] 28)).alloc (.cells #[.int .i64 b.snd.a, .int .i64 b.snd.b, .int .i64 b.snd.c, .int .i64 b.snd.d, .int .i64 b.snd.e, .int .i64 b.snd.f] 28)).heap[w8.heap.size]? = some (.cells #[.int .i64 b.fst.a, .int .i64 b.fst.b, .int .i64 b.fst.c, .int .i64 b.fst.d, .int .i64 b.fst.e, .int .i64 b.fst.f] 28 (0, 0))) := Lib.hid (by rw [heap_alloc_old _ _ (by simp), heap_alloc_new])
  have M9 : Hid (((w8.alloc (.cells #[.int .i64 b.fst.a, .int .i64 b.fst.b, .int .i64 b.fst.c, .int .i64 b.fst.d, .int .i64 b.fst.e, .int .i64 b.fst.f] 28)).alloc (.cells #[.int .i64 b.snd.a, .int .i64 b.snd.b, .int .i64 b.snd.c, .int .i64 b.snd.d, .int .i64 b.snd.e, .int .i64 b.snd.f] 28)).heap[w8.heap.size + 1]? = some (.cells #[.int .i64 b.snd.a, .int .i64 b.snd.b, .int .i64 b.snd.c, .int .i64 b.snd.d, .int .i64 b.snd.e, .int .i64 b.snd.f] 28 (0, 0))) := Lib.hid (by simpa using heap_alloc_new (w8.alloc _) (.cells #[.int .i64 b.snd.a, .int .i64 b.snd.b, .int .i64 b.snd.c, .int .i64 b.snd.d, .int .i64 b.snd.e, .int .i64 b.snd.f] 28))
  have hD : q < w8.heap.size ∧ S < w8.heap.size := by
    have h1 := (A4.out.q.old q rfl).2
    have h2 := block_lt' A4.out.q.s
    have h3 := hg.size
    omega
  clear hg9 hg A4 F4 N4 SPL
  generalize ((w8.alloc (.cells #[.int .i64 b.fst.a, .int .i64 b.fst.b, .int .i64 b.fst.c, .int .i64 b.fst.d, .int .i64 b.fst.e, .int .i64 b.fst.f] 28)).alloc (.cells #[.int .i64 b.snd.a, .int .i64 b.snd.b, .int .i64 b.snd.c, .int .i64 b.snd.d, .int .i64 b.snd.e, .int .i64 b.snd.f] 28)) = w9 at *
  generalize w8.heap.size = D at *
  generalize b.fst = fb at *
  generalize b.snd = sb at *
  generalize b.ok = ok_ at *
  cases ok_
  · have HE : Hid (Ps.step P ⟨h, num, tk, fd, x⟩ = ⟨h1, num, tk + 1, true, x'⟩) := Lib.hid (by rw [HST.out]; rfl)
    go_wp2_with fail
    go_ret
    refine ⟨rfl, _, ?_, F9.out⟩
    rw [HE.out]
    unfold PsIn
    push_cast
    exact A9.out
  have HE : Hid (Ps.step P ⟨h, num, tk, fd, x⟩ = ⟨pushH (pushH h1 ⟨fb, bxC P fb, num⟩) ⟨sb, bxC P sb, (num + 1 : Nat)⟩, num + 1 + 1, tk + 1, true, x'⟩) := Lib.hid (by rw [HST.out]; rfl)
  obtain ⟨hf1, hf2⟩ := HF.out rfl
  have AD1 := Lib.hid (ADD.out fb hf1 h1 num _ _ _ w9 A9.out (by omega) (by omega))
  rw [hBV] at AD1
  clear hf1 HF HST
  obtain ⟨e0_, e1_, e2_, e3_, e4_, e5_⟩ := six N9.out
  go_wp2_with fail
  (with_reducible refine AD1.out.mono ?_)
  rintro e w10 ⟨rfl, v', hA, hf⟩
  have A10 := Lib.hid hA; have F10 := Lib.hid (F9.out.trans hf); have M10 := Lib.hid (hf.at M9.out (by omega) (by simp [Value.ownBlock]; omega))
  clear hA hf A9 F9 N9 M9 AD1 e0_ e1_ e2_ e3_ e4_ e5_
  have AD2 := Lib.hid (ADD.out sb hf2 _ (num + 1) _ _ _ w10 A10.out (by rw [pushH_length]; omega) (by omega))
  rw [hBV] at AD2
  clear hf2 ADD
  obtain ⟨e0_, e1_, e2_, e3_, e4_, e5_⟩ := six M10.out
  go_wp2_with fail
  (with_reducible refine AD2.out.mono ?_)
  rintro e w11 ⟨rfl, v2, hA, hf⟩
  have A11 := Lib.hid hA; have F11 := Lib.hid (F10.out.trans hf)
  clear hA hf A10 F10 M10 AD2 e0_ e1_ e2_ e3_ e4_ e5_
  go_wp2_with fail
  go_ret
  refine ⟨rfl, v2, ?_, F11.out⟩
  rw [HE.out]
  have := A11.out
  unfold PsIn
  push_cast at this ⊢
  exact this
end LStep
end Go.Proofs.YtgaglgopbdfemaaGreatDoor
