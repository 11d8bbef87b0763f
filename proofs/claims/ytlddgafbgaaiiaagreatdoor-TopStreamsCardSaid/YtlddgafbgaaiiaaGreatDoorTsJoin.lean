/- Join -/
import Derived.Lib.AppendStr
import Derived.Test.YtlddgafbgaaiiaaGreatDoorTsShelf
import Derived.Test.YtlddgafbgaaiiaaGreatDoorTsPut
namespace Go.Proofs.YtlddgafbgaaiiaaGreatDoor
set_option linter.all false
open Go.RowKit Rg
abbrev BdA (B b : Nat) (l : List UInt8) (w : World) : Prop := Lib.BuilderAt 214 5 B b (.pointer (some ⟨b, 0, none⟩)) (Lib.byteCells l) w
set_option maxRecDepth 100000 in
set_option maxHeartbeats 2000000 in
theorem bwrite_any (B b : Nat) (l : List UInt8) (s : ByteArray) (w : World) (h : BdA B b l w) (hl : l.length ≤ 1000) (hs : s.size ≤ 1000) (hBw : B ≤ w.heap.size) :
    Calls Tryz.prog 119 #[.pointer (some ⟨b, 0, none⟩), .string s] w fun e w' => e = .returned (.tuple #[.int .i64 s.size, .nilIface]) ∧ BdA B b (l ++ s.data.toList) w' ∧ Below B w w' := by
  have hlt := Lib.BuilderAt.lt h
  obtain ⟨hB, v, hb, hown, hne⟩ := h
  obtain ⟨i0, hi, hz0, hz1, hz2⟩ := info_parts Tryz.infoByte
  obtain ⟨oa, oc, hv⟩ := owns_slice hown
  subst hv
  have hbl : (Lib.byteCells l).length = l.length := Lib.byteCells_length l
  rw [hbl] at hown hb hne
  have H := Lib.hid (And.intro hown hne)
  have HB := Lib.hid hb
  have c0_ := cellD hb 0 _ rfl
  have c1_ := cellD hb 1 _ rfl
  have cz_ := frozD hb
  obtain ⟨ij, hij⟩ := Option.isSome_iff_exists.1 (show (Tryz.prog.info? 214).isSome = true by kernel_rfl)
  have hneq := fun (u : World) => Lib.run_neq_ptr_same (P := Tryz.prog) u (tp := 212) ⟨b, 0, none⟩ Tryz.underlying212 hij
  clear hb hown hne
  go_enter Tryz.func119, Tryz.ntmps119
  go_wp2_with (first | (at_builtin; go_loud (refine Lib.wpList_append_own_string _ rfl _ _ 171 9 rfl B 5 i0 Tryz.underlying171 Tryz.underlying9 hi hz0 hz1 hz2 _ _ _ rfl H.out.1 s rfl (by unfold maxLen; omega) (by omega) hBw ?_); refine Hid.out ?_) | go_in)
  refine Lib.hid ?_
  intro v' w' h1 hg hiff
  have hob := H.out.2
  have hb1 := keptv hg HB.out (fun e => hob e.symm)
  obtain ⟨oa', oc', hv⟩ := owns_slice h1
  subst hv
  have hL : Lib.byteCells (l ++ s.data.toList) = Lib.byteCells l ++ Lib.strCells s := by simp [Lib.byteCells, Lib.strCells]
  have hLl : (Lib.byteCells (l ++ s.data.toList)).length = l.length + s.size := by rw [hL, List.length_append, Lib.strCells_length, hbl]
  have HN := Lib.hid (Lib.BuilderAt.put (bs' := Lib.byteCells (l ++ s.data.toList)) hB hb1 (by rw [hLl, hL]; exact h1) (by decide))
  have GL := Lib.hid (Below.trans (gb_below (B := B) hg hBw (fun k hk => (H.out.1.lt k hk).1)) (gb_below (B := B) (gb_setCell (a := ⟨b, 1, none⟩) (gb_refl w' (some b)) (.inr rfl) (.slice oa' (l.length + s.size) oc')) (Nat.le_trans hBw (blkLe hg)) (fun k hk => by simp at hk; omega)))
  have d1_ := cellD hb1 1 _ rfl
  have dz_ := frozD hb1
  clear h1 hg hiff hb1
  go_wp2_with fail
  go_ret2
  exact ⟨rfl, HN.out, GL.out⟩
theorem gbBelow' {w0 w : World} (h : Below w0.heap.size w0 w) : w0.grownBy w none := ⟨h.os, h.tape, h.output, h.size, fun i hi _ => h.block i hi⟩
theorem belowTrans {w a b : World} (h : w.grownBy a none) (k : Below w.heap.size a b) : w.grownBy b none := gbBelow' ((Below.refl w.heap.size w).grown h (Nat.le_refl _) (by simp) |>.trans k)
set_option maxRecDepth 100000 in
set_option maxHeartbeats 4000000 in
theorem join4_any (bk o c : Nat) (w : World) (hbk : bk < w.heap.size) (hc : 4 ≤ c ∧ c ≤ 1000) (h0 : w.cell? ⟨bk, o, none⟩ = some (.string ⟨#[71, 82]⟩)) (h1 : w.cell? ⟨bk, o + 1, none⟩ = some (.string ⟨#[70, 85, 82]⟩)) (h2 : w.cell? ⟨bk, o + 2, none⟩ = some (.string ⟨#[]⟩)) (h3 : w.cell? ⟨bk, o + 3, none⟩ = some (.string ⟨#[72, 72, 90]⟩)) :
    Calls Tryz.prog 76 #[.slice (some ⟨bk, o, none⟩) 4 c, .string ⟨#[46]⟩] w fun e w' => e = .returned (.string ⟨#[71, 82, 46, 70, 85, 82, 46, 46, 72, 72, 90]⟩) ∧ w.grownBy w' none := by
  go_enter Tryz.func76, Tryz.ntmps76
  go_wp2
  refine wp_loop_rounds 5 ?_
  repeat any_goals (rw [rounds_succ]; go_wp2_with fail)
  have G0 := Lib.hid (gb_alloc (gb_refl w none) (.cells #[.pointer none, .slice none 0 0] 214))
  (refine (Tryz.Builder_Grow_fresh w.heap.size w.heap.size 11 _ (Nat.le_refl _) (heap_alloc_new w _) (by simp) (by omega)).mono ?_)
  rintro r w1 ⟨rfl, hb, hg⟩
  have B1 : Hid (BdA w.heap.size w.heap.size [] w1) := Lib.hid hb
  have G1 := Lib.hid (belowTrans G0.out hg)
  have hz1 := blkLe G1.out
  clear hb hg G0
  have k0_ := (gb_cell G1.out hbk (o := o) (by simp)).trans h0
  go_wp2_with fail
  refine (bwrite_any w.heap.size w.heap.size [] ⟨#[71, 82]⟩ _ B1.out (by decide) (by decide) (by omega)).mono ?_
  rintro r w2 ⟨rfl, hb, hg⟩
  have B2 := Lib.hid hb; have G2 := Lib.hid (belowTrans G1.out hg); have hz2 := blkLe G2.out
  clear hb hg B1
  have k1_ := (gb_cell G2.out hbk (o := o + 1) (by simp)).trans h1
  go_wp2_with fail
  refine wp_loop_rounds 4 ?_
  rw [rounds_succ]
  go_wp2_with fail
  refine (bwrite_any w.heap.size w.heap.size ([] ++ (⟨#[71, 82]⟩ : ByteArray).data.toList) ⟨#[46]⟩ _ B2.out (by decide) (by decide) (by omega)).mono ?_
  rintro r w3 ⟨rfl, hb, hg⟩
  have B3 := Lib.hid hb; have G3 := Lib.hid (belowTrans G2.out hg); have hz3 := blkLe G3.out
  clear hb hg B2
  go_wp2_with fail
  refine (bwrite_any w.heap.size w.heap.size (([] ++ (⟨#[71, 82]⟩ : ByteArray).data.toList) ++ (⟨#[46]⟩ : ByteArray).data.toList) ⟨#[70, 85, 82]⟩ _ B3.out (by decide) (by decide) (by omega)).mono ?_
  rintro r w4 ⟨rfl, hb, hg⟩
  have B4 := Lib.hid hb; have G4 := Lib.hid (belowTrans G3.out hg); have hz4 := blkLe G4.out
  clear hb hg B3
  have k2_ := (gb_cell G4.out hbk (o := o + 2) (by simp)).trans h2
  go_wp2_with fail
  rw [rounds_succ]
  go_wp2_with fail
  refine (bwrite_any w.heap.size w.heap.size ((([] ++ (⟨#[71, 82]⟩ : ByteArray).data.toList) ++ (⟨#[46]⟩ : ByteArray).data.toList) ++ (⟨#[70, 85, 82]⟩ : ByteArray).data.toList) ⟨#[46]⟩ _ B4.out (by decide) (by decide) (by omega)).mono ?_
  rintro r w5 ⟨rfl, hb, hg⟩
  have B5 := Lib.hid hb; have G5 := Lib.hid (belowTrans G4.out hg); have hz5 := blkLe G5.out
  clear hb hg B4
  go_wp2_with fail
  refine (bwrite_any w.heap.size w.heap.size (((([] ++ (⟨#[71, 82]⟩ : ByteArray).data.toList) ++ (⟨#[46]⟩ : ByteArray).data.toList) ++ (⟨#[70, 85, 82]⟩ : ByteArray).data.toList) ++ (⟨#[46]⟩ : ByteArray).data.toList) ⟨#[]⟩ _ B5.out (by decide) (by decide) (by omega)).mono ?_
  rintro r w6 ⟨rfl, hb, hg⟩
  have B6 := Lib.hid hb; have G6 := Lib.hid (belowTrans G5.out hg); have hz6 := blkLe G6.out
  clear hb hg B5
  have k3_ := (gb_cell G6.out hbk (o := o + 3) (by simp)).trans h3
  go_wp2_with fail
  rw [rounds_succ]
  go_wp2_with fail
  refine (bwrite_any w.heap.size w.heap.size ((((([] ++ (⟨#[71, 82]⟩ : ByteArray).data.toList) ++ (⟨#[46]⟩ : ByteArray).data.toList) ++ (⟨#[70, 85, 82]⟩ : ByteArray).data.toList) ++ (⟨#[46]⟩ : ByteArray).data.toList) ++ (⟨#[]⟩ : ByteArray).data.toList) ⟨#[46]⟩ _ B6.out (by decide) (by decide) (by omega)).mono ?_
  rintro r w7 ⟨rfl, hb, hg⟩
  have B7 := Lib.hid hb; have G7 := Lib.hid (belowTrans G6.out hg); have hz7 := blkLe G7.out
  clear hb hg B6
  go_wp2_with fail
  refine (bwrite_any w.heap.size w.heap.size (((((([] ++ (⟨#[71, 82]⟩ : ByteArray).data.toList) ++ (⟨#[46]⟩ : ByteArray).data.toList) ++ (⟨#[70, 85, 82]⟩ : ByteArray).data.toList) ++ (⟨#[46]⟩ : ByteArray).data.toList) ++ (⟨#[]⟩ : ByteArray).data.toList) ++ (⟨#[46]⟩ : ByteArray).data.toList) ⟨#[72, 72, 90]⟩ _ B7.out (by decide) (by decide) (by omega)).mono ?_
  rintro r w8 ⟨rfl, hb, hg⟩
  have B8 := Lib.hid hb; have G8 := Lib.hid (belowTrans G7.out hg); have hz8 := blkLe G8.out
  clear hb hg B7
  go_wp2_with fail
  rw [rounds_succ]
  go_wp2_with fail
  (refine (Tryz.Builder_String_any w.heap.size w.heap.size ((((((([] ++ (⟨#[71, 82]⟩ : ByteArray).data.toList) ++ (⟨#[46]⟩ : ByteArray).data.toList) ++ (⟨#[70, 85, 82]⟩ : ByteArray).data.toList) ++ (⟨#[46]⟩ : ByteArray).data.toList) ++ (⟨#[]⟩ : ByteArray).data.toList) ++ (⟨#[46]⟩ : ByteArray).data.toList) ++ (⟨#[72, 72, 90]⟩ : ByteArray).data.toList) _ (.inr B8.out) (by omega)).mono ?_)
  rintro r w9 ⟨rfl, hg⟩
  have G9 := Lib.hid (belowTrans G8.out hg)
  clear hg B8
  go_wp2_with fail
  go_ret
  exact ⟨rfl, G9.out⟩
end Go.Proofs.YtlddgafbgaaiiaaGreatDoor
