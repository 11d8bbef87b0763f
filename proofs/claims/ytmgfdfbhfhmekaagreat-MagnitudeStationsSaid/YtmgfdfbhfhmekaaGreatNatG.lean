/- response: square, squared, gain. -/
import Derived.Test.YtmgfdfbhfhmekaaGreatNatT
import Derived.Test.YtmgfdfbhfhmekaaGreatRgMade
namespace Go.Proofs.YtmgfdfbhfhmekaaGreat
set_option linter.all false
open Go.RowKit Rg

section
variable {P : Program} {ops : Array Oper} {md : Region.Mode} {w0 : World} {sp : Nat → Option (List Value → Value → World → Prop)} {al : Nat → Bool} {N : Nat} {Q : List Oper → Act → Facts → Prop} {n k : Nat} {o : Oper} {l : List Oper} {a : Act} {f : Facts}
/-- A call whose value is made in new memory. -/
theorem rg_mem {G : World → Prop} {R : Nat → World → World → Prop} (F : Value → World → Prop) (fid : FuncId) (args : Array Value) (hG : ∀ u u', G u → u.grownBy u' none → G u') (hR : ∀ u u', u.grownBy u' none → R k u u') (hs : sp k = some (fun _ v u => F v u)) (hw : Region.wanted o (yielded ops a.tmps) = true) (hal : al k = false)
    (hst : ∀ v j u u', j ≠ k → G u → R j u u' → F v u → F v u')
    (hrun : ∀ w, (execOp a.eval o).run P w = .ok (.enter fid args) w)
    (hc : ∀ u, G u → (∀ e ∈ o.after, Region.binds md e = true → f e.on u) → Calls P fid args u fun e w' => ∃ v, e = .returned v ∧ F v w' ∧ u.grownBy w' none)
    (h : ∀ v u, G u → F v u → rLexL P md ops ⟨In G, R, sp, al, N⟩ Q n l (k + 1) (a.put o.dst v) (upd f k (F v))) :
    rLexL P md ops ⟨In G, R, sp, al, N⟩ Q (n + 1) (o :: l) k a f := by
  refine rLexL_spec (fun _ v u => F v u) hs hw (fun v j w w' hj hC _ hr h => hst v j w w' hj hC.out hr h) (fun w hC hd => stepTo_call (hrun w) ?_) (fun v w hC h' => h v w hC.out h')
  refine (hc w hC.out hd).mono ?_
  rintro e w' ⟨v, rfl, hF, hg⟩
  exact ⟨_, rfl, In.mk (hG _ _ hC.out hg), hR _ _ hg, hF, fun e => by rw [hal] at e; cases e⟩
end
theorem Makes.none (k : Nat) (u u' : World) (hg : u.grownBy u' none) : Makes k u u' := hg

theorem square_nat (x : Int) (w : World) (hx : x.natAbs ≤ 4611686018427387904) :
    Calls Tryz.prog 82 #[.int .i64 x] w fun e w' => ∃ v, e = .returned v ∧ Sl w' v (natL (sqN x)) ∧ w.grownBy w' none := by
  have hw_ : IntKind.i64.wrap (-x) = -x := by rw [IntKind.wrap_i64]; omega
  have hm_ : max x (-x) = ((x.natAbs : Nat) : Int) := by omega
  have F := Lib.hid (from_nat x.natAbs w (by omega))
  have MU := Lib.hid (fun (u : World) (v : Value) (hs : Sl u v (natL x.natAbs)) => Mul_nat (natL x.natAbs) (natL x.natAbs) v v x.natAbs x.natAbs u hs hs (natL_is _) (natL_is _) (natL_lt64 (by have := bpow_le (show 3 ≤ 64 by omega); unfold bpow at *; omega)) (natL_lt64 (by have := bpow_le (show 3 ≤ 64 by omega); unfold bpow at *; omega)) (by
    have h1 : x.natAbs * x.natAbs ≤ 4611686018427387904 * 4611686018427387904 := Nat.mul_le_mul hx hx
    have h2 : ((x.natAbs : Nat) : Int) * ((x.natAbs : Nat) : Int) = ((x.natAbs * x.natAbs : Nat) : Int) := by simp
    have := bpow_le (show 5 ≤ 64 by omega)
    rw [h2]
    unfold bpow at *
    omega))
  have HQ : Hid (((x.natAbs : Nat) : Int) * ((x.natAbs : Nat) : Int) = ((sqN x : Nat) : Int)) := Lib.hid (by unfold sqN; simp)
  clear hx
  generalize x.natAbs = n at *
  go_enter Tryz.func82, Tryz.ntmps82
  go_wp2_with fail
  (with_reducible refine F.out.mono ?_)
  rintro e w1 ⟨v1, rfl, hs, hg⟩
  have M1 := Lib.hid (MU.out w1 v1 hs); have G1 := Lib.hid hg
  obtain ⟨a1, c1, rfl⟩ := hs.shape
  clear hs hg F MU
  go_wp2_with fail
  (with_reducible refine M1.out.mono ?_)
  rintro e w2 ⟨v2, zs, rfl, hs, hz, -, hg⟩
  have S2 := Lib.hid hs; have G2 := Lib.hid (gb_trans G1.out hg)
  rw [HQ.out] at hz
  have Z2 := Lib.hid hz.eq
  obtain ⟨a2, c2, rfl⟩ := hs.shape
  clear hs hg hz M1 G1
  go_wp2_with fail
  go_ret
  exact ⟨_, rfl, by rw [← Z2.out]; exact S2.out, G2.out⟩

abbrev isNat (n : Nat) (v : Value) (u : World) : Prop := Sl u v (natL n)
set_option maxRecDepth 100000 in
set_option maxHeartbeats 2000000 in
theorem squared_nat (a b c num den : Int) (w : World) (ha : a.natAbs ≤ 1048576) (hb : b.natAbs ≤ 1048576) (hc : c.natAbs ≤ 1048576) (hn : num.natAbs ≤ 65536) (hd : den.natAbs ≤ 65536) :
    Calls Tryz.prog 83 #[.agg #[.int .i64 a, .int .i64 b, .int .i64 c], .int .i64 num, .int .i64 den] w fun e w' => ∃ v, e = .returned v ∧ Sl w' v (natL (polN a b c num den)) ∧ w.grownBy w' none := by
  obtain ⟨p1, p2, p3, p4, p5, p6, p7⟩ := pol_in ha hb hc hn hd
  have SA := Lib.hid (fun u => square_nat (a * den * den - c * num * num) u (by omega))
  have SB := Lib.hid (fun u => square_nat (b * num * den) u (by omega))
  have HP : Hid (polN a b c num den = sqN (a * den * den - c * num * num) + sqN (b * num * den)) := Lib.hid rfl
  have q1 := sqN_le p7; have q2 := sqN_le p6
  have AD := Lib.hid (fun (u : World) (v1 v2 : Value) (h1 : Sl u v1 (natL (sqN (a * den * den - c * num * num)))) (h2 : Sl u v2 (natL (sqN (b * num * den)))) => Add_nat _ _ v1 v2 _ _ u h1 h2 (natL_is _) (natL_is _) (natL_lt64 (by have := bpow_le (show 5 ≤ 64 by omega); unfold bpow at *; omega)) (natL_lt64 (by have := bpow_le (show 5 ≤ 64 by omega); unfold bpow at *; omega)) (by have := bpow_le (show 5 ≤ 64 by omega); unfold bpow at *; omega))
  have w1_ : IntKind.i64.wrap (a * den) = a * den := by rw [IntKind.wrap_i64]; omega
  have w2_ : IntKind.i64.wrap (a * den * den) = a * den * den := by rw [IntKind.wrap_i64]; omega
  have w3_ : IntKind.i64.wrap (c * num) = c * num := by rw [IntKind.wrap_i64]; omega
  have w4_ : IntKind.i64.wrap (c * num * num) = c * num * num := by rw [IntKind.wrap_i64]; omega
  have w5_ : IntKind.i64.wrap (b * num) = b * num := by rw [IntKind.wrap_i64]; omega
  have w6_ : IntKind.i64.wrap (b * num * den) = b * num * den := by rw [IntKind.wrap_i64]; omega
  have w7_ : IntKind.i64.wrap (a * den * den - c * num * num) = a * den * den - c * num * num := by rw [IntKind.wrap_i64]; omega
  generalize polN a b c num den = pl at *
  clear p1 p2 p3 p4 p5 p6 p7 q1 q2 ha hb hc hn hd
  have g1 := gb_alloc (gb_refl w none) (.cells #[.int .i64 a, .int .i64 b, .int .i64 c] 51)
  have b1 := heap_alloc_new w (.cells #[.int .i64 a, .int .i64 b, .int .i64 c] 51)
  have G1 := Lib.hid g1
  obtain ⟨c0_, c1_, c2_⟩ := cells3 b1
  have hb1 := block_lt' b1
  clear g1 b1
  go_enter Tryz.func83, Tryz.ntmps83
  go_wp2_with fail
  generalize w.alloc (.cells #[.int .i64 a, .int .i64 b, .int .i64 c] 51) = w1 at *
  generalize w.heap.size = z at *
  have u1_ := Made.cells hb1
  refine Rg.region (Made w1) Makes (fun k => if k = 13 then some (fun _ v u => isNat (sqN (a * den * den - c * num * num)) v u) else if k = 20 then some (fun _ v u => isNat (sqN (b * num * den)) v u) else if k = 21 then some (fun _ v u => ∃ v', v = .tuple #[v', .int .i64 0] ∧ isNat pl v' u) else none) (fun _ => false) 0 27 (by kernel_rfl) (by kernel_rfl) (by kernel_rfl) (by kernel_rfl) (by kernel_rfl) (by kernel_rfl) (by kernel_rfl) Makes.size (Made.start w1) (fun hne => ?_)
  (repeat (refine rLexL_quiet (by rfl) (by rfl) (by rfl) (by rfl) ?_; go_big_quiet_step (fail); refine wpQuiet_nil ?_))
  refine rg_mem (isNat (sqN (a * den * den - c * num * num))) 82 #[.int .i64 (a * den * den - c * num * num)] Made.grown (Makes.none _) rfl rfl rfl (fun v j u u' _ _ hR h => Sl.after h hR) (fun _ => by go_simp) (fun u _ _ => SA.out u) (fun v1 ua _ hv1 => ?_)
  obtain ⟨a1, c1, rfl⟩ := Sl.shape hv1
  simp only [Act.put, List.setIfInBounds_toArray, List.set_cons_zero, List.set_cons_succ]
  (repeat (refine rLexL_quiet (by rfl) (by rfl) (by rfl) (by rfl) ?_; go_big_quiet_step (fail); refine wpQuiet_nil ?_))
  refine rg_mem (isNat (sqN (b * num * den))) 82 #[.int .i64 (b * num * den)] Made.grown (Makes.none _) rfl rfl rfl (fun v j u u' _ _ hR h => Sl.after h hR) (fun _ => by go_simp) (fun u _ _ => SB.out u) (fun v2 ub _ hv2 => ?_)
  obtain ⟨a2, c2, rfl⟩ := Sl.shape hv2
  simp only [Act.put, List.setIfInBounds_toArray, List.set_cons_zero, List.set_cons_succ]
  (repeat (refine rLexL_quiet (by rfl) (by rfl) (by rfl) (by rfl) ?_; go_big_quiet_step (fail); refine wpQuiet_nil ?_))
  refine rg_mem (fun v u => ∃ v', v = .tuple #[v', .int .i64 0] ∧ isNat pl v' u) 110 #[.slice a1 (natL (sqN (a * den * den - c * num * num))).length c1, .slice a2 (natL (sqN (b * num * den))).length c2] Made.grown (Makes.none _) rfl rfl rfl (fun v j u u' _ _ hR h => by obtain ⟨v', e, h⟩ := h; exact ⟨v', e, Sl.after h hR⟩) (fun _ => by go_simp) (fun u _ hd => ?_) (fun v3 uc _ hv3 => ?_)
  · have h1 := hd ⟨13, .data⟩ (by simp) rfl
    have h2 := hd ⟨20, .data⟩ (by simp) rfl
    refine (AD.out u _ _ h1 h2).mono ?_
    rintro e w' ⟨v', zs, rfl, hs, hz, -, hg⟩
    rw [← Int.natCast_add, ← HP.out] at hz
    exact ⟨_, rfl, ⟨v', rfl, by rw [isNat, ← hz.eq]; exact hs⟩, hg⟩
  obtain ⟨v3, rfl, hv3⟩ := hv3
  obtain ⟨a3, c3, rfl⟩ := Sl.shape hv3
  simp only [Act.put, List.setIfInBounds_toArray, List.set_cons_zero, List.set_cons_succ]
  (repeat (refine rLexL_quiet (by rfl) (by rfl) (by rfl) (by rfl) ?_; go_big_quiet_step (fail); refine wpQuiet_nil ?_))
  rintro wq hq hf -
  have h21 : ∃ v', Value.tuple #[.slice a3 (natL pl).length c3, .int .i64 0] = .tuple #[v', .int .i64 0] ∧ isNat pl v' wq := hf 21
  have HF : Hid (Sl wq (.slice a3 (natL pl).length c3) (natL pl)) := Lib.hid (by obtain ⟨v', e, h⟩ := h21; simp at e; rw [e]; exact h)
  have HGQ := Lib.hid (gb_trans G1.out hq)
  clear h21 hf hq
  refine wpList_nil ?_
  go_wp2_with fail
  go_ret
  exact ⟨_, rfl, HF.out, HGQ.out⟩
end Go.Proofs.YtmgfdfbhfhmekaaGreat
