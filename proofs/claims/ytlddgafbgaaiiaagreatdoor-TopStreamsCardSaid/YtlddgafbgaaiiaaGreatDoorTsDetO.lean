/- DetO -/
import Derived.Laws.CopyOwn
import Derived.Laws.MakeOwn
import Derived.Test.YtlddgafbgaaiiaaGreatDoorTsDetW
namespace Go.Proofs.YtlddgafbgaaiiaaGreatDoor
set_option linter.all false
open Go.RowKit Rg
theorem wpList_makeN {P : Program} {w : World} {ops : Array Oper} {rest : List Oper} {o : Oper} {a : Act} {Q : Exit → Act → World → Prop} (hgd : o.guard = none) (l c : Operand) (t : TypeId) (ho : o.op = .makeSlice t l c)
    (e : TypeId) (i : TypeInfo) (z : Value) (ht : P.underlying t = some (.slice e)) (hi : P.info? e = some i) (hz : i.zero = some z) (hsz : i.size = 1) (hby : i.bytes = 8) (n m : Nat) (C : Int) (hl : a.eval l = .int .i64 n) (hc : a.eval c = .int .i64 C) (hC : C = (m : Int)) (hnm : n ≤ m) (hm : m ≤ 100000)
    (h : wpList P ops Q rest (a.put o.dst (.slice (some ⟨w.heap.size, 0, none⟩) n m)) (w.alloc (.cells (madeCells z.cells m) e))) : wpList P ops Q (o :: rest) a w := by
  refine wpList_plain hgd fun K hK => ?_
  subst hC
  have hr := run_make (P := P) w t e i z ht hi hz .i64 .i64 n m (by omega) (by omega) (by rw [hby]; omega) (by omega)
  rw [hsz] at hr
  simp only [Int.toNat_natCast, Nat.mul_one] at hr
  unfold Oper.wp execOp
  simp only [ho, hl, hc, Sem.run_bind, hr, Result.andThen_ok, Sem.run_pure]
  exact hK _ _ h
theorem gbBelow {w0 w : World} (h : Below w0.heap.size w0 w) : w0.grownBy w none := ⟨h.os, h.tape, h.output, h.size, fun i hi _ => h.block i hi⟩
set_option maxRecDepth 100000 in
set_option maxHeartbeats 20000000 in
theorem dopen_any (s l n f : Int) (past : List Int) (pv : Value) (count on off pk : Int) (w : World) (hd : DetOk s l n f) (hsp : Sl w pv past) (hx : ∀ y ∈ past, 0 ≤ y ∧ y ≤ 1000) (hl : past.length < l) :
    Calls Tryz.prog 39 #[.agg #[.int .i64 s, .int .i64 l, .int .i64 n, .int .i64 f, pv, .int .i64 count, .int .i64 on, .int .i64 off, .int .i64 pk]] w fun e w' => ∃ p g : Nat, e = .returned (.pointer (some ⟨p, 0, none⟩)) ∧ WinAt w p g (past.length + 512) s l n f past count on off pk (shS s past) past.sum 0 (.slice none 0 0) [] w' := by
  obtain ⟨a1, c1, rfl⟩ := hsp.shape'
  have hls := hd.l1; have hs1 := hd.s1
  obtain ⟨S, hS⟩ : ∃ S : Nat, s = (S : Int) := ⟨s.toNat, by omega⟩
  subst hS
  have HX := Lib.hid hx
  have HSP := Lib.hid (fun (u : World) (hu : w.grownBy u none) => hsp.later hu (by simp))
  clear hd hsp hx
  have B1 := kbox (w := w) #[.int .i64 (S : Int), .int .i64 l, .int .i64 n, .int .i64 f, .slice a1 past.length c1, .int .i64 count, .int .i64 on, .int .i64 off, .int .i64 pk] 43
  have G1 := Lib.hid (gb_alloc (gb_refl w none) (.cells #[.int .i64 (S : Int), .int .i64 l, .int .i64 n, .int .i64 f, .slice a1 past.length c1, .int .i64 count, .int .i64 on, .int .i64 off, .int .i64 pk] 43))
  go_enter Tryz.func39, Tryz.ntmps39
  go_upto_region 2 with fail
  generalize w.alloc (.cells #[.int .i64 (S : Int), .int .i64 l, .int .i64 n, .int .i64 f, .slice a1 past.length c1, .int .i64 count, .int .i64 on, .int .i64 off, .int .i64 pk] 43) = w1 at *
  obtain ⟨i0, hi, hz0, hz1, hz2⟩ := info_parts Tryz.infoIntD
  go_wp2_with (first | (at_make; go_loud (refine wpList_makeN rfl _ _ 22 rfl 3 i0 (.int .i64 0) Tryz.underlying22 hi hz0 hz1 hz2 past.length (past.length + 512) _ rfl rfl (by omega) (by omega) (by omega) ?_); refine Hid.out ?_))
  refine Lib.hid ?_
  have hg1 : w1.grownBy (w1.alloc (.cells (madeCells #[.int .i64 0] (past.length + 512)) 3)) none := gb_alloc (gb_refl _ _) _
  have hmade : (madeCells #[.int .i64 0] (past.length + 512)).size = past.length + 512 := size_madeCells _ _
  have B2 := Lib.hid (kept0 hg1 B1.out)
  have G2 := Lib.hid (gb_trans G1.out hg1)
  have M2 := kbox (w := w1) (madeCells #[.int .i64 0] (past.length + 512)) 3
  have BL := Lib.hid (show Below w1.heap.size w1 (w1.alloc (.cells (madeCells #[.int .i64 0] (past.length + 512)) 3)) from gb_below hg1 (Nat.le_refl _) (by simp))
  have hw1 := blkLt B1.out
  generalize hmc : madeCells #[.int .i64 0] (past.length + 512) = mc at *
  clear hmc hg1
  generalize hgz : w1.heap.size = g at *
  generalize w1.alloc (.cells mc 3) = w2 at *
  have f4_ := cellD B2.out 4 _ rfl
  have S2 := Lib.hid (HSP.out w2 G2.out)
  have HP := Lib.hid (show 0 < (past.map (Value.int .i64)).length → some (⟨g, 0, none⟩ : Addr) = some ⟨g, 0, none⟩ ∧ ∃ ad, a1 = some ad ∧ ∀ j v, (past.map (Value.int .i64))[j]? = some v → w2.cell? (ad.add j) = some v from fun h0 => by
    obtain ⟨b, off, cap, e, -, -, -, hc⟩ := S2.out.block (by simpa using h0)
    simp at e
    obtain ⟨rfl, -⟩ := e
    refine ⟨rfl, _, rfl, fun j v hj => ?_⟩
    have hadd : (⟨b, off, none⟩ : Addr).add j = ⟨b, off + j, none⟩ := by unfold Addr.add; split <;> simp_all
    rw [List.getElem?_map] at hj
    cases e : past[j]? with
    | none => rw [e] at hj; simp at hj
    | some y =>
      rw [e] at hj; simp at hj; subst hj
      rw [hadd, hc j (List.getElem?_eq_some_iff.1 e).1, e]; rfl)
  have HF := Lib.hid (show 0 + (past.map (Value.int .i64)).length ≤ mc.toList.length by simp; omega)
  have H1 := Lib.hid (show ∀ v ∈ past.map (Value.int .i64), v.oneCell' = true from fun v hv => by simp at hv; obtain ⟨y, -, rfl⟩ := hv; rfl)
  go_wp2_with (first | ((refine wpList_copy_splice rfl _ _ 22 22 rfl 3 Tryz.underlying22 (by kernel_rfl) (some ⟨g, 0, none⟩) a1 past.length (past.length + 512) past.length c1 rfl rfl g 0 mc.toList 3 (by simpa using M2.out) (past.map (Value.int .i64)) (by simp) HP.out HF.out H1.out g w1 BL.out (Nat.le_refl _) ?_); refine Hid.out ?_))
  refine Lib.hid ?_
  intro w3 hg3 hb3
  clear HP HF H1 f4_
  have hb3' := gbBelow (hgz ▸ hb3)
  have G3 := Lib.hid (gb_trans G1.out hb3')
  have B3 := Lib.hid (kept0 hb3' B1.out)
  have HBG : w.heap.size < g := by omega
  have hcur : ∃ cur : Array Value, w3.heap[g]? = some (.cells cur 3 (0, 0)) ∧ cur.size = past.length + 512 ∧ ∀ j, j < past.length → cur[j]? = some (.int .i64 (past[j]?.getD 0)) := by
    refine ⟨_, hg3.out, by simp [splice]; omega, fun j hj => ?_⟩
    simp only [splice, List.take_zero, List.nil_append, List.getElem?_toArray]
    rw [List.getElem?_append_left (by simpa using hj), List.getElem?_map, List.getElem?_eq_getElem hj]
    rfl
  obtain ⟨cur, hc1, hc2, hc3⟩ := hcur
  clear hg3 hb3 hb3' B2 G2 M2 BL S2 B1 G1 HSP hi hz0 hz1 hz2
  have f4_ := cellD B3.out 4 _ rfl
  have z_ := frozD B3.out
  have g4 : w3.grownBy (w3.setCell ⟨w.heap.size, 4, none⟩ (.slice (some ⟨g, 0, none⟩) past.length (past.length + 512))) (some w.heap.size) := gb_setCell (a := ⟨w.heap.size, 4, none⟩) (gb_refl _ _) (.inr rfl) _
  have B4 := Lib.hid (show (w3.setCell ⟨w.heap.size, 4, none⟩ (.slice (some ⟨g, 0, none⟩) past.length (past.length + 512))).heap[w.heap.size]? = some (.cells #[.int .i64 (S : Int), .int .i64 l, .int .i64 n, .int .i64 f, .slice (some ⟨g, 0, none⟩) past.length (past.length + 512), .int .i64 count, .int .i64 on, .int .i64 off, .int .i64 pk] 43 (0, 0)) from set_block B3.out 4 _)
  have G4 := Lib.hid (gbNew G3.out g4 (fun k hk => by simp at hk; omega))
  have M4 := Lib.hid (keptp g4 hc1 (show g ≠ w.heap.size by omega))
  have HC3 := Lib.hid hc3
  clear g4 B3 G3 hc1 hc3
  go_upto_region 5 with fail
  clear f4_ z_
  generalize (w3.setCell ⟨w.heap.size, 4, none⟩ (.slice (some ⟨g, 0, none⟩) past.length (past.length + 512))) = w4 at *
  have SB := Lib.hid (show Slb g w4 (.slice (some ⟨g, 0, none⟩) past.length (past.length + 512)) past from ⟨.inr ⟨g, 0, past.length + 512, rfl, blkLt M4.out, by omega, by omega, fun k hk => by rw [Nat.zero_add]; exact cellD M4.out k _ (HC3.out k hk)⟩, fun k c e => by simp at e, fun b off k c e h0 => by simp at e; omega, fun b off k c e h0 => by simp at e; obtain ⟨⟨rfl, -⟩, -⟩ := e; exact ⟨_, M4.out⟩⟩)
  obtain ⟨k0, hk0, hk1⟩ : ∃ k0 : Nat, past.length + 1 - S = k0 ∧ k0 ≤ past.length := ⟨_, rfl, by omega⟩
  have hmx : max 0 ((past.length : Int) - (S : Int) + 1) = (k0 : Int) := by omega
  have hcapk : k0 < past.length + 512 := by omega
  have HSH : Hid (shS S past = absS (past.drop k0)) := Lib.hid (by rw [absS_nn (fun y hy => HX.out y (List.mem_of_mem_drop hy)), shS, Int.toNat_natCast, hk0])
  have HLO : Hid (past.sum = absS past) := Lib.hid (absS_nn HX.out).symm
  have S1 := Lib.hid (fun (u : World) (hu : w4.grownBy u none) => dsum_any (past.drop k0) _ u ((SB.out.drop (m := k0) hk1).sl.later hu (by simp)) (fun y hy => by have := HX.out y (List.mem_of_mem_drop hy); omega) (by simp; omega))
  have S2 := Lib.hid (fun (u : World) (hu : w4.grownBy u none) => dsum_any past _ u (SB.out.sl.later hu (by simp)) (fun y hy => by have := HX.out y hy; omega) (by omega))
  generalize absS (past.drop k0) = sh at *
  generalize absS past = lo at *
  have up_ := fun (u : Cls (Made w4)) (k : Nat) => Made.cells (blkLt B4.out) u k
  have q0_ := cellD B4.out 0 _ rfl
  have q1_ := cellD B4.out 1 _ rfl
  have q2_ := cellD B4.out 2 _ rfl
  have q3_ := cellD B4.out 3 _ rfl
  have q4_ := cellD B4.out 4 _ rfl
  have q5_ := cellD B4.out 5 _ rfl
  have q6_ := cellD B4.out 6 _ rfl
  have q7_ := cellD B4.out 7 _ rfl
  have q8_ := cellD B4.out 8 _ rfl
  refine Rg.region (Made w4) Makes (fun k => if k = 10 then some (isV (.int .i64 sh)) else if k = 12 then some (isV (.int .i64 lo)) else none) (fun _ => false) 0 14 (by kernel_rfl) (by kernel_rfl) (by kernel_rfl) (by kernel_rfl) (by kernel_rfl) (by kernel_rfl) (by kernel_rfl) Makes.size (Made.start w4) (fun hne => ?_)
  (repeat (refine rLexL_quiet (by rfl) (by rfl) (by rfl) (by rfl) ?_; go_big_quiet_step (fail); refine wpQuiet_nil ?_))
  refine rLexL_val (.int .i64 k0) (by rfl) (by rfl) (by rfl) (by rfl) (fun wx => by go_simp; split <;> omega) ?_
  simp only [Act.put, List.setIfInBounds_toArray, List.set_cons_zero, List.set_cons_succ]
  (repeat (refine rLexL_quiet (by rfl) (by rfl) (by rfl) (by rfl) ?_; go_big_quiet_step (fail); refine wpQuiet_nil ?_))
  refine rg_fix (.int .i64 sh) 69 #[.slice (some ⟨g, k0, none⟩) (past.length - k0) (past.length + 512 - k0)] rfl rfl rfl (fun _ => by go_simp) (fun u hu => (S1.out u hu).mono (fun e w' h => ⟨h.1, h.2 ▸ gb_refl _ _⟩)) ?_
  simp only [Act.put, List.setIfInBounds_toArray, List.set_cons_zero, List.set_cons_succ]
  (repeat (refine rLexL_quiet (by rfl) (by rfl) (by rfl) (by rfl) ?_; go_big_quiet_step (fail); refine wpQuiet_nil ?_))
  refine rg_fix (.int .i64 lo) 69 #[.slice (some ⟨g, 0, none⟩) past.length (past.length + 512)] rfl rfl rfl (fun _ => by go_simp) (fun u hu => (S2.out u hu).mono (fun e w' h => ⟨h.1, h.2 ▸ gb_refl _ _⟩)) ?_
  simp only [Act.put, List.setIfInBounds_toArray, List.set_cons_zero, List.set_cons_succ]
  (repeat (refine rLexL_quiet (by rfl) (by rfl) (by rfl) (by rfl) ?_; go_big_quiet_step (fail); refine wpQuiet_nil ?_))
  rintro wq hq_ - -
  have hq : w4.grownBy wq none := hq_
  have G5 := Lib.hid (gb_trans G4.out hq)
  have M5 := Lib.hid (kept0 hq M4.out)
  have hg5 := blkLt M5.out
  clear hq hq_ up_ hne S1 S2 SB
  go_wp2_with fail
  go_ret
  have hgn : wq.grownBy (wq.alloc (.cells #[.int .i64 (S : Int), .int .i64 l, .int .i64 n, .int .i64 f, .slice (some ⟨g, 0, none⟩) past.length (past.length + 512), .int .i64 count, .int .i64 on, .int .i64 off, .int .i64 pk, .int .i64 sh, .int .i64 lo, .slice none 0 0] 120)) none := gb_alloc (gb_refl _ none) _
  have HM := kept0 hgn M5.out
  refine ⟨wq.heap.size, g, rfl, ⟨by rw [HSH.out, HLO.out]; exact heap_alloc_new wq _, ⟨cur, HM, hc2, fun j hj => by rw [Nat.zero_add]; exact HC3.out j hj⟩, World.ownsRow_nil _ _ _ _, by omega, by omega, by simp [Value.ownBlock], by simp [Value.ownBlock], blkLe G5.out, by omega, gb_trans G5.out hgn⟩⟩
end Go.Proofs.YtlddgafbgaaiiaaGreatDoor
