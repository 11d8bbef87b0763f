/- The walk of MagnitudeNetworks. -/
import Derived.Test.YtoconichgdlmcaaRgE
import Derived.Test.YtoconichgdlmcaaLaws32t
namespace Go.Proofs.Ytoconichgdlmcaa
set_option linter.all false
open Go.RowKit Rg

set_option maxRecDepth 100000 in
set_option maxHeartbeats 20000000 in
theorem magnitudeNetworks_walk (w : World) (v0 : Value) (l0 : List Est) (hs0 : SlC 2 w v0 l0.length (flatE l0)) (a0 a1 b0 b1 : Int) (v : Value) (xs : List Int) (hs : Sl w v xs) (_hx : ∀ x ∈ xs, -9223372036854775808 ≤ x ∧ x ≤ 9223372036854775807) :
    Calls Try.prog 6 #[v0, .agg #[.int .i64 a0, .int .i64 a1], .agg #[.int .i64 b0, .int .i64 b1], v] w fun e w' => e = .returned (.bool true) ∧ Below w.heap.size w w' := by
  have hv : v.oneCell' = true := by obtain ⟨va, vn, vc, rfl⟩ := sl_slice hs; rfl
  have HOLD : Hid (∀ b off len cap, v0 = .slice (some ⟨b, off, none⟩) len cap → 0 < len → b < w.heap.size) := Lib.hid (fun b off len cap e h0 => by
    rcases hs0.2 with ⟨h, a, c, e2⟩ | ⟨b', off', cap', e2, hb, -⟩
    · rw [e] at e2; simp only [Value.slice.injEq] at e2; omega
    · rw [e] at e2; simp only [Value.slice.injEq, Option.some.injEq, Addr.mk.injEq] at e2; omega)
  obtain ⟨ra, rc, rfl⟩ := hs0.slice
  have g1 := gb_alloc (gb_refl w none) (.cells #[.int .i64 a0, .int .i64 a1] 28)
  have b1_ := heap_alloc_new w (.cells #[.int .i64 a0, .int .i64 a1] 28)
  have g2 := gb_alloc (gb_refl (w.alloc (.cells #[.int .i64 a0, .int .i64 a1] 28)) none) (.cells #[.int .i64 b0, .int .i64 b1] 28)
  have b2_ := heap_alloc_new (w.alloc (.cells #[.int .i64 a0, .int .i64 a1] 28)) (.cells #[.int .i64 b0, .int .i64 b1] 28)
  have l1_ : (w.alloc (.cells #[.int .i64 a0, .int .i64 a1] 28)).heap.size = w.heap.size + 1 := by simp
  rw [l1_] at b2_
  have G2 := Lib.hid (gb_trans g1 g2)
  have A2 := Lib.hid (block_kept g2 b1_ rfl); have B2 := Lib.hid b2_
  have S2 := Lib.hid (hs.later (row := none) G2.out (by simp)); have R2 := Lib.hid (hs0.after G2.out)
  have hz2_ : ((w.alloc (.cells #[.int .i64 a0, .int .i64 a1] 28)).alloc (.cells #[.int .i64 b0, .int .i64 b1] 28)).heap.size = w.heap.size + 2 := by simp
  have HZ2 := Lib.hid hz2_
  clear g1 b1_ g2 b2_ l1_ hs hs0 _hx hz2_
  generalize hn0 : l0.length = n0 at *
  have HN0 := Lib.hid hn0
  clear hn0
  go_enter Try.func6, Try.ntmps6
  by_cases h60 : 60 < n0
  · have hd_ : decide ((n0 : Int) > 60) = true := decide_eq_true (by omega)
    go_wp2_with fail
    (with_reducible refine (awake32_any _).mono ?_)
    rintro e w10 ⟨rfl, hg⟩
    have HGE := Lib.hid (gb_trans G2.out hg)
    clear hg
    go_wp2_with fail
    go_ret
    exact ⟨rfl, gb_end HGE.out⟩
  have hd_ : decide ((n0 : Int) > 60) = false := decide_eq_false (by omega)
  go_wp2_with fail
  generalize ((w.alloc (.cells #[.int .i64 a0, .int .i64 a1] 28)).alloc (.cells #[.int .i64 b0, .int .i64 b1] 28)) = w2 at *
  (with_reducible refine (new_any w2 v xs S2.out).mono ?_)
  rintro e w3 ⟨rfl, hS, hg⟩
  have S3 := Lib.hid hS
  have G3 := Lib.hid (gb_trans G2.out hg); have A3 := Lib.hid (block_kept hg A2.out rfl); have B3 := Lib.hid (block_kept hg B2.out rfl); have R3 := Lib.hid (R2.out.after hg)
  clear hS hg S2 G2 A2 B2 R2
  rw [HZ2.out] at S3 ⊢
  generalize hz : w.heap.size = z at *
  have HZ := Lib.hid hz
  clear hz
  generalize hq : z + 2 = q at *
  have hzq : z < q ∧ z + 1 < q := by omega
  clear hq
  have ES : Calls Try.prog 8 #[.pointer (some ⟨q, 0, none⟩), .int .i64 9] w3 (NewEst q q 9 w3) := estimates_any q w3 q 9 (by decide) S3.out S3.out.lt.2
  go_wp2_with fail
  (with_reducible refine ES.mono ?_)
  rintro e w4 ⟨l, v1, rfl, hll, -, hown, hS, hg⟩
  have hwq : w.heap.size ≤ q := by have := HZ.out; omega
  have hq3 := S3.out.lt.2
  have HRB : Hid (∀ b off len cap, Value.slice ra n0 rc = .slice (some ⟨b, off, none⟩) len cap → 0 < len → b ≠ q) := Lib.hid (fun b off len cap e h0 => by have := HOLD.out b off len cap e h0; omega)
  have S4 := Lib.hid hS; have O4 := Lib.hid hown
  have G4 : Hid (w.grownBy w4 none) := Lib.hid (gb_new G3.out hg (fun k hk => by simp at hk; omega))
  have A4 := Lib.hid (block_keptp hg A3.out (by omega)); have B4 := Lib.hid (block_keptp hg B3.out (by omega)); have R4 := Lib.hid (R3.out.draw hg HRB.out)
  clear hS hown hg S3 G3 A3 B3 R3 ES
  generalize hn : l.length = n at *
  have HN := Lib.hid hn
  clear hn
  obtain ⟨oa, oc, rfl⟩ := owns_slice O4.out
  have hq4 := S4.out.lt.2
  have hw34 : q < w3.heap.size := hq3
  have HSRC : Hid ((oa = none ∧ n = 0) ∨ ∃ g, oa = some ⟨g, 0, none⟩ ∧ ∀ u, Pulled w4 q q u → ∀ j y, (flatE l)[j]? = some y → u.cell? ((⟨g, 0, none⟩ : Addr).add j) = some y) := Lib.hid (by
    rcases O4.out.2 with ⟨e, h⟩ | ⟨g, cap, cur, e, hb, hg, -⟩
    · simp only [Value.slice.injEq] at e
      exact .inl ⟨e.1, h⟩
    · simp only [Value.slice.injEq, true_and] at e
      obtain ⟨rfl, rfl⟩ := e
      exact .inr ⟨g, rfl, fun u hu j y hj => (owns_keepp O4.out hu.1 hq3).cells rfl j y hj⟩)
  have HSR2 : Hid ((oa = none ∧ n = 0 ∧ oc = 0) ∨ ∃ g, oa = some ⟨g, 0, none⟩ ∧ n ≤ oc ∧ oc ≤ 9223372036854775807) := Lib.hid (by
    rcases O4.out.2 with ⟨e, h⟩ | ⟨g, cap, cur, e, hb, hg, h1, h2, -⟩
    · simp only [Value.slice.injEq] at e
      exact .inl ⟨e.1, h, e.2.2⟩
    · simp only [Value.slice.injEq, true_and] at e
      obtain ⟨rfl, rfl⟩ := e
      exact .inr ⟨g, rfl, h1, h2⟩)
  have HGD : Hid (∀ u, w4.grownBy u (some q) → SlC 2 u (.slice oa n oc) n (flatE l)) := Lib.hid (fun u hu => by
    have ho := owns_keepp O4.out hu hq3
    rcases HSRC.out with ⟨rfl, rfl⟩ | ⟨g, rfl, -⟩
    · exact ⟨ho.1, .inl ⟨rfl, none, oc, rfl⟩⟩
    · have := slc_ownE ho HN.out
      rw [HN.out] at this; exact this)
  obtain ⟨a0_, a1_⟩ := cells2' A4.out
  have hza := block_lt' A4.out
  have d0_ := Pulled.cell (B := q) (p := q) a0_ hza (by omega)
  have d1_ := Pulled.cell (B := q) (p := q) a1_ hza (by omega)
  go_wp2_with fail
  refine Rg.region (Pulled w4 q q) (Pull q) (fun j => if j = 9 then some (isBlk w4 1 28) else if j = 10 then some (isGrowE w4 (n + 1) (flatE l ++ (⟨a0, a1⟩ : Est).cells)) else if j = 11 then some (isBlk w4 3 25) else none) (fun _ => false) 0 14 (by kernel_rfl) (by kernel_rfl) (by kernel_rfl) (by kernel_rfl) (by kernel_rfl) (by kernel_rfl) (by kernel_rfl) Pull.size (Pulled.start S4.out) (fun hne => ?_)
  (repeat (refine rLexL_quiet (by rfl) (by rfl) (by rfl) (by rfl) ?_; go_big_quiet_step (fail); refine wpQuiet_nil ?_))
  refine rLexL_val (.int .i64 n) (by rfl) (by rfl) (by rfl) (by rfl) (fun _ => by go_simp) ?_
  simp only [Act.put, List.setIfInBounds_toArray, List.set_cons_zero, List.set_cons_succ]
  (repeat (refine rLexL_quiet (by rfl) (by rfl) (by rfl) (by rfl) ?_; go_big_quiet_step (fail); refine wpQuiet_nil ?_))
  refine rLexL_val (.int .i64 n) (by rfl) (by rfl) (by rfl) (by rfl) (fun _ => by go_simp) ?_
  simp only [Act.put, List.setIfInBounds_toArray, List.set_cons_zero, List.set_cons_succ]
  refine rLexL_val (.slice oa n n) (by rfl) (by rfl) (by rfl) (by rfl) (fun _ => by
    rcases HSR2.out with ⟨h0, h1, h2⟩ | ⟨g, h0, h1, h2⟩
    · subst h0; subst h1; subst h2; go_simp
    · subst h0; go_simp) ?_
  simp only [Act.put, List.setIfInBounds_toArray, List.set_cons_zero, List.set_cons_succ]
  (repeat (refine rLexL_quiet (by rfl) (by rfl) (by rfl) (by rfl) ?_; go_big_quiet_step (fail); refine wpQuiet_nil ?_))
  refine rg_litB 1 #[.int .i64 a0, .int .i64 a1] 28 rfl rfl rfl (fun _ => by go_simp) hq4 (fun gb hgb => ?_)
  simp only [Act.put, List.setIfInBounds_toArray, List.set_cons_zero, List.set_cons_succ]
  refine rg_growE hq4 _ _ 25 Try.underlying25 9 gb ⟨a0, a1⟩ oa n l HN.out HSRC.out rfl rfl rfl rfl rfl ⟨⟨9, .data⟩, by simp, rfl, rfl⟩ rfl (by omega) (fun gg gc hgg => ?_)
  simp only [Act.put, List.setIfInBounds_toArray, List.set_cons_zero, List.set_cons_succ]
  refine rg_litB 3 #[.slice ra n0 rc, .slice oa n oc, .slice (some ⟨gg, 0, none⟩) (n + 1) gc] 25 rfl rfl rfl (fun _ => by go_simp) hq4 (fun gl hgl => ?_)
  simp only [Act.put, List.setIfInBounds_toArray, List.set_cons_zero, List.set_cons_succ]
  refine rLexL_val (.int .i64 3) (by rfl) (by rfl) (by rfl) (by rfl) (fun _ => by go_simp) ?_
  simp only [Act.put, List.setIfInBounds_toArray, List.set_cons_zero, List.set_cons_succ]
  (repeat (refine rLexL_quiet (by rfl) (by rfl) (by rfl) (by rfl) ?_; go_big_quiet_step (fail); refine wpQuiet_nil ?_))
  rintro w6 ⟨hg6, hs6⟩ hf -
  refine wpList_nil ?_
  have O6 : Hid (SlC 2 w6 (.slice (some ⟨gg, 0, none⟩) (n + 1) gc) (n + 1) (flatE (l ++ [(⟨a0, a1⟩ : Est)]))) := Lib.hid (by
    obtain ⟨g', gc', e, -, how⟩ := (show isGrowE w4 (n + 1) (flatE l ++ (⟨a0, a1⟩ : Est).cells) [] (.slice (some ⟨gg, 0, none⟩) (n + 1) gc) w6 from hf 10)
    have e9 : flatE l ++ (⟨a0, a1⟩ : Est).cells = flatE (l ++ [⟨a0, a1⟩]) := by simp [flatE]
    rw [e9] at how
    have hl9 : (l ++ [(⟨a0, a1⟩ : Est)]).length = n + 1 := by rw [List.length_append, HN.out]; rfl
    have := slc_ownE how hl9
    rw [hl9] at this; exact this)
  have L6 := Lib.hid (show w6.heap[gl]? = some (.cells #[.slice ra n0 rc, .slice oa n oc, .slice (some ⟨gg, 0, none⟩) (n + 1) gc] 25 (0, 0)) from hf 11)
  have R6 := Lib.hid (R4.out.draw hg6 HRB.out); have D6 := Lib.hid (HGD.out w6 hg6); have S6 := Lib.hid hs6
  have G6 : Hid (w.grownBy w6 none) := Lib.hid (gb_new G4.out hg6 (fun k hk => by simp at hk; omega))
  have A6 := Lib.hid (block_keptp hg6 A4.out (by omega)); have B6 := Lib.hid (block_keptp hg6 B4.out (by omega))
  have HEL : Hid (∀ j, j < 3 → ∃ (L : List Est) (xa : Option Addr) (xc : Nat), (#[.slice ra n0 rc, .slice oa n oc, .slice (some ⟨gg, 0, none⟩) (n + 1) gc] : Array Value)[j]? = some (.slice xa L.length xc) ∧ SlC 2 w6 (.slice xa L.length xc) L.length (flatE L) ∧ L.length ≤ 100) := Lib.hid (fun j hj => by
    rcases (show j = 0 ∨ j = 1 ∨ j = 2 by omega) with rfl | rfl | rfl
    · exact ⟨l0, ra, rc, by rw [HN0.out]; rfl, by rw [HN0.out]; exact R6.out, by rw [HN0.out]; omega⟩
    · exact ⟨l, oa, oc, by rw [HN.out]; rfl, by rw [HN.out]; exact D6.out, by rw [HN.out]; omega⟩
    · have hl9 : (l ++ [(⟨a0, a1⟩ : Est)]).length = n + 1 := by rw [List.length_append, HN.out]; rfl
      exact ⟨l ++ [⟨a0, a1⟩], some ⟨gg, 0, none⟩, gc, by rw [hl9]; rfl, by rw [hl9]; exact O6.out, by rw [hl9]; omega⟩)
  clear hf hg6 hs6 hne d0_ d1_ a0_ a1_ hza hgl hgg hgb O6 R6 D6 R4 S4 G4 A4 B4 O4 HSRC HSR2 HGD HRB HOLD
  go_wp2_with fail
  go_loopw [40] (fun i u => ∃ j : Nat, j ≤ 3 ∧ i = .int .i64 j ∧ w6.grownBy u none) (fun i _ => 3 - (intOf i).toNat)
  case atStart => exact ⟨0, by omega, rfl, gb_refl _ _⟩
  case round =>
    obtain ⟨j, hj, rfl, hgr⟩ := hrel
    have GU := Lib.hid hgr
    by_cases hj3 : j < 3
    · have hd2_ : decide ((j : Int) < 3) = true := decide_eq_true (by omega)
      obtain ⟨L, xa, xc, e1, hS, hL⟩ := HEL.out j hj3
      have L7 := block_kept hgr L6.out rfl
      have c0_ : wr.cell? ⟨gl, j, none⟩ = some (.slice xa L.length xc) := cell_of L7 j _ e1
      have hgl7 := block_lt' L7
      have NX := Lib.hid (network_any L _ wr (hS.after hgr) (by omega))
      have NR := Lib.hid (fun u (hu : wr.grownBy u none) => rnetwork_any L _ u ((hS.after hgr).after hu) (by omega))
      unfold netV at NX NR
      clear e1 hS hL L7 hgr
      generalize netL L = A at *
      generalize netH L = C at *
      generalize netE L = E at *
      generalize L.length = xn at *
      go_wp2_with fail
      (with_reducible refine NX.out.mono ?_)
      rintro e w7 ⟨rfl, hg⟩
      have g8 := gb_alloc (gb_refl w7 none) (.cells #[.int .i64 A, .int .i64 C] 28)
      have A8 := Lib.hid (heap_alloc_new w7 (.cells #[.int .i64 A, .int .i64 C] 28))
      have W8 := Lib.hid (gb_trans hg g8)
      clear hg g8 NX c0_ hgl7
      go_wp2_with fail
      generalize w7.alloc (.cells #[.int .i64 A, .int .i64 C] 28) = w8 at *
      generalize w7.heap.size = ab at *
      (with_reducible refine (NR.out w8 W8.out).mono ?_)
      rintro e w9 ⟨rfl, hg⟩
      have g10 := gb_alloc (gb_refl w9 none) (.cells #[.int .i64 A, .int .i64 C] 28)
      have B10 := heap_alloc_new w9 (.cells #[.int .i64 A, .int .i64 C] 28)
      have A10 := block_kept g10 (block_kept hg A8.out rfl) rfl
      have W10 := Lib.hid (gb_trans (gb_trans W8.out hg) g10)
      have hq1 : same2E A C A C = true := same2E_self _ _
      have hq2 : (E != E) = false := by simp
      obtain ⟨c0_, c1_⟩ := cells2' A10
      obtain ⟨d0_, d1_⟩ := cells2' B10
      have hl1 := block_lt' A10; have hl2 := block_lt' B10
      clear hg g10 A8 W8 NR A10 B10
      go_wp2_with fail
      go_roundw
      case rel => exact ⟨j + 1, by omega, by go_num, gb_trans GU.out W10.out⟩
      case measure => simp [intOf]; omega
    · have hd2_ : decide ((j : Int) < 3) = false := decide_eq_false (by omega)
      have G7 := Lib.hid (gb_trans G6.out hgr); have S7 := Lib.hid (S6.out.later (row := none) hgr (by simp)); have A7 := Lib.hid (block_kept hgr A6.out rfl); have B7 := Lib.hid (block_kept hgr B6.out rfl)
      clear hgr GU G6 S6 A6 B6 L6 HEL
      go_wp2_with fail
      (with_reducible refine (n_any q wr q 20 S7.out (by omega) (by omega)).mono ?_)
      rintro r w8 ⟨x, rfl, -, hS, hg⟩
      have S8 := Lib.hid hS; have G8 : Hid (w.grownBy w8 none) := Lib.hid (gb_new G7.out hg (fun k' hk' => by simp at hk'; omega)); have A8 := Lib.hid (block_keptp hg A7.out (by omega)); have B8 := Lib.hid (block_keptp hg B7.out (by omega))
      clear hS hg S7 G7 A7 B7
      go_wp2_with fail
      (with_reducible refine (n_any q w8 q 20 S8.out (by omega) (by omega)).mono ?_)
      rintro r w9 ⟨y, rfl, -, hS, hg⟩
      have S9 := Lib.hid hS; have G9 : Hid (w.grownBy w9 none) := Lib.hid (gb_new G8.out hg (fun k' hk' => by simp at hk'; omega)); have A9 := Lib.hid (block_keptp hg A8.out (by omega)); have B9 := Lib.hid (block_keptp hg B8.out (by omega))
      clear hS hg S8 G8 A8 B8
      go_wp2_with fail
      (with_reducible refine (n_any q w9 q 20 S9.out (by omega) (by omega)).mono ?_)
      rintro r w10 ⟨u, rfl, -, hS, hg⟩
      have S10 := Lib.hid hS; have G10 : Hid (w.grownBy w10 none) := Lib.hid (gb_new G9.out hg (fun k' hk' => by simp at hk'; omega)); have A10 := Lib.hid (block_keptp hg A9.out (by omega)); have B10 := Lib.hid (block_keptp hg B9.out (by omega))
      clear hS hg S9 G9 A9 B9
      go_wp2_with fail
      (with_reducible refine (n_any q w10 q 20 S10.out (by omega) (by omega)).mono ?_)
      rintro r w11 ⟨t, rfl, -, hS, hg⟩
      have S11 := Lib.hid hS; have G11 : Hid (w.grownBy w11 none) := Lib.hid (gb_new G10.out hg (fun k' hk' => by simp at hk'; omega)); have A11 := Lib.hid (block_keptp hg A10.out (by omega)); have B11 := Lib.hid (block_keptp hg B10.out (by omega))
      clear hS hg S10 G10 A10 B10
      have g1 := gb_alloc (gb_refl w11 none) (.cells #[.int .i64 x, .int .i64 y] 28)
      have b1_ := heap_alloc_new w11 (.cells #[.int .i64 x, .int .i64 y] 28)
      have g2 := gb_alloc (gb_refl (w11.alloc (.cells #[.int .i64 x, .int .i64 y] 28)) none) (.cells #[.int .i64 u, .int .i64 t] 28)
      have b2_ := heap_alloc_new (w11.alloc (.cells #[.int .i64 x, .int .i64 y] 28)) (.cells #[.int .i64 u, .int .i64 t] 28)
      have l1_ : (w11.alloc (.cells #[.int .i64 x, .int .i64 y] 28)).heap.size = w11.heap.size + 1 := by simp
      rw [l1_] at b2_
      have g3 := gb_trans g1 g2
      have G12 := Lib.hid (gb_trans G11.out g3); have A12 := block_kept g3 A11.out rfl; have B12 := block_kept g3 B11.out rfl; have C12 := block_kept g2 b1_ rfl
      have hl1 := block_lt' A12; have hl2 := block_lt' B12; have hl3 := block_lt' C12; have hl4 := block_lt' b2_
      obtain ⟨p0_, p1_⟩ := cells2' A12
      obtain ⟨q0_, q1_⟩ := cells2' B12
      obtain ⟨r0_, r1_⟩ := cells2' C12
      obtain ⟨s0_, s1_⟩ := cells2' b2_
      have i0_ := Made.cell p0_ hl1; have i1_ := Made.cell p1_ hl1; have j0_ := Made.cell q0_ hl2; have j1_ := Made.cell q1_ hl2; have k0_ := Made.cell r0_ hl3; have k1_ := Made.cell r1_ hl3; have m0_ := Made.cell s0_ hl4; have m1_ := Made.cell s1_ hl4
      obtain ⟨X, hX⟩ : ∃ X, agrE ⟨a0, a1⟩ ⟨b0, b1⟩ = X := ⟨_, rfl⟩
      obtain ⟨Y, hY⟩ : ∃ Y, agrE ⟨x, y⟩ ⟨u, t⟩ = Y := ⟨_, rfl⟩
      have AG1 : Hid (∀ w', Calls Try.prog 20 #[.agg #[.int .i64 a0, .int .i64 a1], .agg #[.int .i64 b0, .int .i64 b1]] w' fun e w'' => e = .returned (.bool X) ∧ w'.grownBy w'' none) := Lib.hid (fun w' => hX ▸ agree_any ⟨a0, a1⟩ ⟨b0, b1⟩ w')
      have AG2 : Hid (∀ w', Calls Try.prog 21 #[.agg #[.int .i64 a0, .int .i64 a1], .agg #[.int .i64 b0, .int .i64 b1]] w' fun e w'' => e = .returned (.bool X) ∧ w'.grownBy w'' none) := Lib.hid (fun w' => hX ▸ ragree_any ⟨a0, a1⟩ ⟨b0, b1⟩ w')
      have AG3 : Hid (∀ w', Calls Try.prog 20 #[.agg #[.int .i64 x, .int .i64 y], .agg #[.int .i64 u, .int .i64 t]] w' fun e w'' => e = .returned (.bool Y) ∧ w'.grownBy w'' none) := Lib.hid (fun w' => hY ▸ agree_any ⟨x, y⟩ ⟨u, t⟩ w')
      have AG4 : Hid (∀ w', Calls Try.prog 21 #[.agg #[.int .i64 x, .int .i64 y], .agg #[.int .i64 u, .int .i64 t]] w' fun e w'' => e = .returned (.bool Y) ∧ w'.grownBy w'' none) := Lib.hid (fun w' => hY ▸ ragree_any ⟨x, y⟩ ⟨u, t⟩ w')
      have gX : (X == X) = true := by simp
      have gY : (Y == Y) = true := by simp
      clear hX hY g1 g2 g3 b1_ b2_ l1_ A12 B12 C12 hl1 hl2 hl3 hl4 p0_ p1_ q0_ q1_ r0_ r1_ s0_ s1_ S11 G11 A11 B11
      go_wp2_with fail
      generalize ((w11.alloc (.cells #[.int .i64 x, .int .i64 y] 28)).alloc (.cells #[.int .i64 u, .int .i64 t] 28)) = w12 at *
      generalize w11.heap.size = zc at *
      refine Rg.region (Made w12) Makes (fun j => if j = 2 then some (isV (.bool X)) else if j = 5 then some (isV (.bool X)) else if j = 10 then some (isV (.bool Y)) else if j = 13 then some (isV (.bool Y)) else if j = 17 then some (isV (.bool true)) else none) (fun _ => false) 0 19 (by kernel_rfl) (by kernel_rfl) (by kernel_rfl) (by kernel_rfl) (by kernel_rfl) (by kernel_rfl) (by kernel_rfl) Makes.size (Made.start w12) (fun hne => ?_)
      (repeat (refine rLexL_quiet (by rfl) (by rfl) (by rfl) (by rfl) ?_; go_big_quiet_step (fail); refine wpQuiet_nil ?_))
      refine rg_fix (.bool X) 20 #[.agg #[.int .i64 a0, .int .i64 a1], .agg #[.int .i64 b0, .int .i64 b1]] rfl rfl rfl (fun _ => by go_simp) (fun u hu => AG1.out u) ?_
      simp only [Act.put, List.setIfInBounds_toArray, List.set_cons_zero, List.set_cons_succ]
      (repeat (refine rLexL_quiet (by rfl) (by rfl) (by rfl) (by rfl) ?_; go_big_quiet_step (fail); refine wpQuiet_nil ?_))
      refine rg_fix (.bool X) 21 #[.agg #[.int .i64 a0, .int .i64 a1], .agg #[.int .i64 b0, .int .i64 b1]] rfl rfl rfl (fun _ => by go_simp) (fun u hu => AG2.out u) ?_
      simp only [Act.put, List.setIfInBounds_toArray, List.set_cons_zero, List.set_cons_succ]
      (repeat (refine rLexL_quiet (by rfl) (by rfl) (by rfl) (by rfl) ?_; go_big_quiet_step (fail); refine wpQuiet_nil ?_))
      refine rg_fix (.bool Y) 20 #[.agg #[.int .i64 x, .int .i64 y], .agg #[.int .i64 u, .int .i64 t]] rfl rfl rfl (fun _ => by go_simp) (fun u hu => AG3.out u) ?_
      simp only [Act.put, List.setIfInBounds_toArray, List.set_cons_zero, List.set_cons_succ]
      (repeat (refine rLexL_quiet (by rfl) (by rfl) (by rfl) (by rfl) ?_; go_big_quiet_step (fail); refine wpQuiet_nil ?_))
      refine rg_fix (.bool Y) 21 #[.agg #[.int .i64 x, .int .i64 y], .agg #[.int .i64 u, .int .i64 t]] rfl rfl rfl (fun _ => by go_simp) (fun u hu => AG4.out u) ?_
      simp only [Act.put, List.setIfInBounds_toArray, List.set_cons_zero, List.set_cons_succ]
      (repeat (refine rLexL_quiet (by rfl) (by rfl) (by rfl) (by rfl) ?_; go_big_quiet_step (fail); refine wpQuiet_nil ?_))
      refine rg_fix (.bool true) 13 #[] rfl rfl rfl (fun _ => by go_simp) (fun u hu => awake32_any u) ?_
      simp only [Act.put, List.setIfInBounds_toArray, List.set_cons_zero, List.set_cons_succ]
      (repeat (refine rLexL_quiet (by rfl) (by rfl) (by rfl) (by rfl) ?_; go_big_quiet_step (fail); refine wpQuiet_nil ?_))
      rintro w13 hq13 hf -
      have HGE := Lib.hid (gb_trans G12.out hq13)
      clear hf hne hq13
      go_wp2_with fail
      go_ret
      exact ⟨rfl, gb_end HGE.out⟩
end Go.Proofs.Ytoconichgdlmcaa
