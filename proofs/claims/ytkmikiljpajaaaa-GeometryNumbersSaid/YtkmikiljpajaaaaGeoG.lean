/- Layer 24: Hull. Written by gen_geoG.py. -/
import Derived.Test.YtkmikiljpajaaaaGeoH
import Derived.BigRegion
namespace Go.Proofs.Ytkmikiljpajaaaa
set_option linter.all false
open Go.RowKit Rg

def huL (v : Bool) (a x : Int) : Int := if v then min a x else 0
def huH (v : Bool) (a x : Int) : Int := if v then max a x else 0
def sel (k j : Nat) (m a : Int) : Int := if j < k then m else a
/-- Where Hull's own blocks lie, and what they hold. -/
structure HulAt (w : World) (p q r s : Nat) (l0 l1 l2 h0 h1 h2 x0 y0 z0 x1 y1 z1 : Int) (u : World) : Prop where
  res : u.heap[w.heap.size + 2]? = some (.cells #[.int .i64 0, .int .i64 0, .int .i64 0, .int .i64 0, .int .i64 0, .int .i64 0] 44 (0, 0))
  low : u.heap[p]? = some (.cells #[.int .i64 l0, .int .i64 l1, .int .i64 l2] 81 (0, 0))
  high : u.heap[q]? = some (.cells #[.int .i64 h0, .int .i64 h1, .int .i64 h2] 81 (0, 0))
  fro : u.heap[r]? = some (.cells #[.int .i64 x0, .int .i64 y0, .int .i64 z0] 81 (0, 0))
  til : u.heap[s]? = some (.cells #[.int .i64 x1, .int .i64 y1, .int .i64 z1] 81 (0, 0))
  at' : w.heap.size + 2 < p ∧ w.heap.size + 2 < q ∧ w.heap.size + 2 < r ∧ w.heap.size + 2 < s
  apart : p ≠ q ∧ p ≠ r ∧ p ≠ s ∧ q ≠ r ∧ q ≠ s ∧ r ≠ s
  grown : w.grownBy u none
theorem HulAt.made {w : World} {p q r s : Nat} {l0 l1 l2 h0 h1 h2 x0 y0 z0 x1 y1 z1 : Int} {u u' : World} (h : HulAt w p q r s l0 l1 l2 h0 h1 h2 x0 y0 z0 x1 y1 z1 u) (hg : u.grownBy u' none) : HulAt w p q r s l0 l1 l2 h0 h1 h2 x0 y0 z0 x1 y1 z1 u' :=
  ⟨block_kept hg h.res rfl, block_kept hg h.low rfl, block_kept hg h.high rfl, block_kept hg h.fro rfl, block_kept hg h.til rfl, h.at', h.apart, gb_trans h.grown hg⟩

set_option maxRecDepth 100000 in
set_option maxHeartbeats 2000000 in
theorem hull_any (a0 b0 c0 a1 b1 c1 x0 y0 z0 x1 y1 z1 : Int) (w : World) :
    Calls Try.prog 48 #[.agg #[.int .i64 a0, .int .i64 b0, .int .i64 c0, .int .i64 a1, .int .i64 b1, .int .i64 c1], .agg #[.int .i64 x0, .int .i64 y0, .int .i64 z0, .int .i64 x1, .int .i64 y1, .int .i64 z1]] w fun e w' =>
      e = .returned (.agg #[.int .i64 (huL (bP a0 b0 c0 a1 b1 c1 && bP x0 y0 z0 x1 y1 z1) a0 x0), .int .i64 (huL (bP a0 b0 c0 a1 b1 c1 && bP x0 y0 z0 x1 y1 z1) b0 y0), .int .i64 (huL (bP a0 b0 c0 a1 b1 c1 && bP x0 y0 z0 x1 y1 z1) c0 z0), .int .i64 (huH (bP a0 b0 c0 a1 b1 c1 && bP x0 y0 z0 x1 y1 z1) a1 x1), .int .i64 (huH (bP a0 b0 c0 a1 b1 c1 && bP x0 y0 z0 x1 y1 z1) b1 y1), .int .i64 (huH (bP a0 b0 c0 a1 b1 c1 && bP x0 y0 z0 x1 y1 z1) c1 z1)]) ∧ w.grownBy w' none := by
  go_enter Try.func48, Try.ntmps48
  go_wp2_with fail
  (with_reducible refine (validBox_any _ _ _ _ _ _ _).mono ?_)
  rintro e w1 ⟨rfl, hg1⟩
  have HA1 := Lib.hid (show w1.heap[w.heap.size]? = some (.cells #[.int .i64 a0, .int .i64 b0, .int .i64 c0, .int .i64 a1, .int .i64 b1, .int .i64 c1] 44 (0, 0)) from block_kept hg1 (by rw [heap_alloc_old _ _ (by simp; omega), heap_alloc_old _ _ (by simp), heap_alloc_new]) rfl)
  have HX1 := Lib.hid (show w1.heap[w.heap.size + 1]? = some (.cells #[.int .i64 x0, .int .i64 y0, .int .i64 z0, .int .i64 x1, .int .i64 y1, .int .i64 z1] 44 (0, 0)) from block_kept hg1 (by rw [heap_alloc_old _ _ (by simp)]; simpa using heap_alloc_new (w.alloc _) _) rfl)
  have HR1 := Lib.hid (show w1.heap[w.heap.size + 2]? = some (.cells #[.int .i64 0, .int .i64 0, .int .i64 0, .int .i64 0, .int .i64 0, .int .i64 0] 44 (0, 0)) from block_kept hg1 (by simpa using heap_alloc_new ((w.alloc _).alloc _) _) rfl)
  have HG1 := Lib.hid (gb_trans (gb_alloc (gb_alloc (gb_alloc (gb_refl _ _) _) _) _) hg1); clear hg1
  cases hv0 : bP a0 b0 c0 a1 b1 c1
  · have hR := HR1.out
    have HN := Lib.hid (setRow_at (cs := #[.int .i64 0, .int .i64 0, .int .i64 0, .int .i64 0, .int .i64 0, .int .i64 0]) hR)
    have HGE := Lib.hid (gb_setRow (cs := #[.int .i64 0, .int .i64 0, .int .i64 0, .int .i64 0, .int .i64 0, .int .i64 0]) HG1.out (g := w.heap.size + 2) (.inl (by omega)))
    go_wp2_with (with_reducible refine wpList_store_row rfl _ _ _ rfl (w.heap.size + 2) #[.int .i64 0, .int .i64 0, .int .i64 0, .int .i64 0, .int .i64 0, .int .i64 0] rfl rfl _ _ hR (by kernel_rfl) rfl (by simp [Value.oneCell']) ?_)
    obtain ⟨e0, e1, e2, e3, e4, e5⟩ := cells6 HN.out
    refine bodyPost_ret (v := .agg #[.int .i64 0, .int .i64 0, .int .i64 0, .int .i64 0, .int .i64 0, .int .i64 0]) (by simp [results, Try.results48, go_sem, e0, e1, e2, e3, e4, e5]) rfl ⟨by simp [huL, huH, hv0], HGE.out⟩
  obtain ⟨d0, d1, d2, d3, d4, d5⟩ := cells6 HX1.out
  go_wp2_with fail
  (with_reducible refine (validBox_any _ _ _ _ _ _ _).mono ?_)
  rintro e w2 ⟨rfl, hg2⟩
  have HA2 := Lib.hid (block_kept hg2 HA1.out rfl)
  have HX2 := Lib.hid (block_kept hg2 HX1.out rfl)
  have HR2 := Lib.hid (block_kept hg2 HR1.out rfl)
  have HG2 := Lib.hid (gb_trans HG1.out hg2)
  clear hg2 HG1 HA1 HX1 HR1 d0 d1 d2 d3 d4 d5
  cases hv1 : bP x0 y0 z0 x1 y1 z1
  · have hR := HR2.out
    have HN := Lib.hid (setRow_at (cs := #[.int .i64 0, .int .i64 0, .int .i64 0, .int .i64 0, .int .i64 0, .int .i64 0]) hR)
    have HGE := Lib.hid (gb_setRow (cs := #[.int .i64 0, .int .i64 0, .int .i64 0, .int .i64 0, .int .i64 0, .int .i64 0]) HG2.out (g := w.heap.size + 2) (.inl (by omega)))
    go_wp2_with (with_reducible refine wpList_store_row rfl _ _ _ rfl (w.heap.size + 2) #[.int .i64 0, .int .i64 0, .int .i64 0, .int .i64 0, .int .i64 0, .int .i64 0] rfl rfl _ _ hR (by kernel_rfl) rfl (by simp [Value.oneCell']) ?_)
    obtain ⟨e0, e1, e2, e3, e4, e5⟩ := cells6 HN.out
    refine bodyPost_ret (v := .agg #[.int .i64 0, .int .i64 0, .int .i64 0, .int .i64 0, .int .i64 0, .int .i64 0]) (by simp [results, Try.results48, go_sem, e0, e1, e2, e3, e4, e5]) rfl ⟨by simp [huL, huH, hv1], HGE.out⟩
  have HV := Lib.hid (show (bP a0 b0 c0 a1 b1 c1 && bP x0 y0 z0 x1 y1 z1) = true from by simp [hv0, hv1])
  clear hv0 hv1
  obtain ⟨q0, q1, q2, q3, q4, q5⟩ := cells6 HA2.out
  obtain ⟨d0, d1, d2, d3, d4, d5⟩ := cells6 HX2.out
  have ka := Made.cells (block_lt HA2.out)
  have kx := Made.cells (block_lt HX2.out)
  go_wp2_with fail
  refine Rg.region (Made w2) Makes (fun k => if k = 2 then some (isV (.agg #[.int .i64 a0, .int .i64 b0, .int .i64 c0])) else if k = 5 then some (isV (.agg #[.int .i64 a1, .int .i64 b1, .int .i64 c1])) else if k = 8 then some (isV (.agg #[.int .i64 x0, .int .i64 y0, .int .i64 z0])) else if k = 11 then some (isV (.agg #[.int .i64 x1, .int .i64 y1, .int .i64 z1])) else if k = 12 then some (isNew w2 #[.int .i64 0, .int .i64 0, .int .i64 0] 81) else if k = 13 then some (isNew w2 #[.int .i64 0, .int .i64 0, .int .i64 0] 81) else if k = 14 then some (isNew w2 #[.int .i64 0, .int .i64 0, .int .i64 0] 81) else if k = 15 then some (isNew w2 #[.int .i64 0, .int .i64 0, .int .i64 0] 81) else none)
    (fun k => k == 12 || k == 13 || k == 14 || k == 15) 0 16 (by kernel_rfl) (by kernel_rfl) (by kernel_rfl) (by kernel_rfl) (by kernel_rfl) (by kernel_rfl) (by kernel_rfl) Makes.size (Made.start w2) (fun hne => ?_)
  (repeat (refine rLexL_quiet (by rfl) (by rfl) (by rfl) (by rfl) ?_; go_big_quiet_step (fail); refine wpQuiet_nil ?_))
  refine rg_fix (.agg #[.int .i64 a0, .int .i64 b0, .int .i64 c0]) 75 #[.agg #[.int .i64 a0, .int .i64 b0, .int .i64 c0]] rfl rfl rfl (fun _ => by go_simp) (fun u hu => of_any _ _ _ u) ?_
  simp only [Act.put, List.setIfInBounds_toArray, List.set_cons_zero, List.set_cons_succ]
  (repeat (refine rLexL_quiet (by rfl) (by rfl) (by rfl) (by rfl) ?_; go_big_quiet_step (fail); refine wpQuiet_nil ?_))
  refine rg_fix (.agg #[.int .i64 a1, .int .i64 b1, .int .i64 c1]) 75 #[.agg #[.int .i64 a1, .int .i64 b1, .int .i64 c1]] rfl rfl rfl (fun _ => by go_simp) (fun u hu => of_any _ _ _ u) ?_
  simp only [Act.put, List.setIfInBounds_toArray, List.set_cons_zero, List.set_cons_succ]
  (repeat (refine rLexL_quiet (by rfl) (by rfl) (by rfl) (by rfl) ?_; go_big_quiet_step (fail); refine wpQuiet_nil ?_))
  refine rg_fix (.agg #[.int .i64 x0, .int .i64 y0, .int .i64 z0]) 75 #[.agg #[.int .i64 x0, .int .i64 y0, .int .i64 z0]] rfl rfl rfl (fun _ => by go_simp) (fun u hu => of_any _ _ _ u) ?_
  simp only [Act.put, List.setIfInBounds_toArray, List.set_cons_zero, List.set_cons_succ]
  (repeat (refine rLexL_quiet (by rfl) (by rfl) (by rfl) (by rfl) ?_; go_big_quiet_step (fail); refine wpQuiet_nil ?_))
  refine rg_fix (.agg #[.int .i64 x1, .int .i64 y1, .int .i64 z1]) 75 #[.agg #[.int .i64 x1, .int .i64 y1, .int .i64 z1]] rfl rfl rfl (fun _ => by go_simp) (fun u hu => of_any _ _ _ u) ?_
  simp only [Act.put, List.setIfInBounds_toArray, List.set_cons_zero, List.set_cons_succ]
  refine rg_new #[.int .i64 0, .int .i64 0, .int .i64 0] 81 rfl rfl (fun _ => by go_simp) (fun p hp => ?_)
  simp only [Act.put, List.setIfInBounds_toArray, List.set_cons_zero, List.set_cons_succ]
  refine rg_new #[.int .i64 0, .int .i64 0, .int .i64 0] 81 rfl rfl (fun _ => by go_simp) (fun q hq' => ?_)
  simp only [Act.put, List.setIfInBounds_toArray, List.set_cons_zero, List.set_cons_succ]
  refine rg_new #[.int .i64 0, .int .i64 0, .int .i64 0] 81 rfl rfl (fun _ => by go_simp) (fun r hr => ?_)
  simp only [Act.put, List.setIfInBounds_toArray, List.set_cons_zero, List.set_cons_succ]
  refine rg_new #[.int .i64 0, .int .i64 0, .int .i64 0] 81 rfl rfl (fun _ => by go_simp) (fun s hs => ?_)
  simp only [Act.put, List.setIfInBounds_toArray, List.set_cons_zero, List.set_cons_succ]
  rintro wq hq hf hD
  have ep := isNew.out (hf 12)
  have eq := isNew.out (hf 13)
  have er := isNew.out (hf 14)
  have es := isNew.out (hf 15)
  have npq : p ≠ q := (hD 12 _ _ rfl (by kernel_rfl) rfl rfl p rfl (Nat.zero_le _)).2 13 _ _ rfl (by decide) (by kernel_rfl) rfl rfl q rfl (Nat.zero_le _)
  have npr : p ≠ r := (hD 12 _ _ rfl (by kernel_rfl) rfl rfl p rfl (Nat.zero_le _)).2 14 _ _ rfl (by decide) (by kernel_rfl) rfl rfl r rfl (Nat.zero_le _)
  have nps : p ≠ s := (hD 12 _ _ rfl (by kernel_rfl) rfl rfl p rfl (Nat.zero_le _)).2 15 _ _ rfl (by decide) (by kernel_rfl) rfl rfl s rfl (Nat.zero_le _)
  have nqr : q ≠ r := (hD 13 _ _ rfl (by kernel_rfl) rfl rfl q rfl (Nat.zero_le _)).2 14 _ _ rfl (by decide) (by kernel_rfl) rfl rfl r rfl (Nat.zero_le _)
  have nqs : q ≠ s := (hD 13 _ _ rfl (by kernel_rfl) rfl rfl q rfl (Nat.zero_le _)).2 15 _ _ rfl (by decide) (by kernel_rfl) rfl rfl s rfl (Nat.zero_le _)
  have nrs : r ≠ s := (hD 14 _ _ rfl (by kernel_rfl) rfl rfl r rfl (Nat.zero_le _)).2 15 _ _ rfl (by decide) (by kernel_rfl) rfl rfl s rfl (Nat.zero_le _)
  clear hf hD
  refine wpList_store_row rfl _ _ _ rfl p #[.int .i64 a0, .int .i64 b0, .int .i64 c0] rfl rfl _ _ ep (by kernel_rfl) rfl (by simp [Value.oneCell']) ?_
  replace ep := setRow_at (cs := #[.int .i64 a0, .int .i64 b0, .int .i64 c0]) ep
  replace eq := (setRow_far (g := p) (cs := #[.int .i64 a0, .int .i64 b0, .int .i64 c0]) (Ne.symm npq)).trans eq
  replace er := (setRow_far (g := p) (cs := #[.int .i64 a0, .int .i64 b0, .int .i64 c0]) (Ne.symm npr)).trans er
  replace es := (setRow_far (g := p) (cs := #[.int .i64 a0, .int .i64 b0, .int .i64 c0]) (Ne.symm nps)).trans es
  refine wpList_store_row rfl _ _ _ rfl q #[.int .i64 a1, .int .i64 b1, .int .i64 c1] rfl rfl _ _ eq (by kernel_rfl) rfl (by simp [Value.oneCell']) ?_
  replace ep := (setRow_far (g := q) (cs := #[.int .i64 a1, .int .i64 b1, .int .i64 c1]) npq).trans ep
  replace eq := setRow_at (cs := #[.int .i64 a1, .int .i64 b1, .int .i64 c1]) eq
  replace er := (setRow_far (g := q) (cs := #[.int .i64 a1, .int .i64 b1, .int .i64 c1]) (Ne.symm nqr)).trans er
  replace es := (setRow_far (g := q) (cs := #[.int .i64 a1, .int .i64 b1, .int .i64 c1]) (Ne.symm nqs)).trans es
  refine wpList_store_row rfl _ _ _ rfl r #[.int .i64 x0, .int .i64 y0, .int .i64 z0] rfl rfl _ _ er (by kernel_rfl) rfl (by simp [Value.oneCell']) ?_
  replace ep := (setRow_far (g := r) (cs := #[.int .i64 x0, .int .i64 y0, .int .i64 z0]) npr).trans ep
  replace eq := (setRow_far (g := r) (cs := #[.int .i64 x0, .int .i64 y0, .int .i64 z0]) nqr).trans eq
  replace er := setRow_at (cs := #[.int .i64 x0, .int .i64 y0, .int .i64 z0]) er
  replace es := (setRow_far (g := r) (cs := #[.int .i64 x0, .int .i64 y0, .int .i64 z0]) (Ne.symm nrs)).trans es
  refine wpList_store_row rfl _ _ _ rfl s #[.int .i64 x1, .int .i64 y1, .int .i64 z1] rfl rfl _ _ es (by kernel_rfl) rfl (by simp [Value.oneCell']) ?_
  replace ep := (setRow_far (g := s) (cs := #[.int .i64 x1, .int .i64 y1, .int .i64 z1]) nps).trans ep
  replace eq := (setRow_far (g := s) (cs := #[.int .i64 x1, .int .i64 y1, .int .i64 z1]) nqs).trans eq
  replace er := (setRow_far (g := s) (cs := #[.int .i64 x1, .int .i64 y1, .int .i64 z1]) nrs).trans er
  replace es := setRow_at (cs := #[.int .i64 x1, .int .i64 y1, .int .i64 z1]) es
  have hgq : w2.grownBy ((((wq.setRow p #[.int .i64 a0, .int .i64 b0, .int .i64 c0]).setRow q #[.int .i64 a1, .int .i64 b1, .int .i64 c1]).setRow r #[.int .i64 x0, .int .i64 y0, .int .i64 z0]).setRow s #[.int .i64 x1, .int .i64 y1, .int .i64 z1]) none := gb_setRow (gb_setRow (gb_setRow (gb_setRow hq (.inl hp)) (.inl hq')) (.inl hr)) (.inl hs)
  have HS3 : Hid (HulAt w p q r s a0 b0 c0 a1 b1 c1 x0 y0 z0 x1 y1 z1 ((((wq.setRow p #[.int .i64 a0, .int .i64 b0, .int .i64 c0]).setRow q #[.int .i64 a1, .int .i64 b1, .int .i64 c1]).setRow r #[.int .i64 x0, .int .i64 y0, .int .i64 z0]).setRow s #[.int .i64 x1, .int .i64 y1, .int .i64 z1])) := Lib.hid (by
    have := block_lt HR2.out
    exact ⟨block_kept hgq HR2.out rfl, ep, eq, er, es, by omega, ⟨npq, npr, nps, nqr, nqs, nrs⟩, gb_trans HG2.out hgq⟩)
  generalize ((((wq.setRow p #[.int .i64 a0, .int .i64 b0, .int .i64 c0]).setRow q #[.int .i64 a1, .int .i64 b1, .int .i64 c1]).setRow r #[.int .i64 x0, .int .i64 y0, .int .i64 z0]).setRow s #[.int .i64 x1, .int .i64 y1, .int .i64 z1]) = w3 at *
  clear hgq hp hq' hr hs hq ep eq er es npq npr nps nqr nqs nrs q0 q1 q2 q3 q4 q5 d0 d1 d2 d3 d4 d5 ka kx hne HA2 HX2 HR2 HG2
  refine wpList_nil ?_
  simp only [Act.put, List.setIfInBounds_toArray, List.set_cons_zero, List.set_cons_succ]
  obtain ⟨m0, hm0⟩ : ∃ m, m = min a0 x0 := ⟨_, rfl⟩
  obtain ⟨m1, hm1⟩ : ∃ m, m = min b0 y0 := ⟨_, rfl⟩
  obtain ⟨m2, hm2⟩ : ∃ m, m = min c0 z0 := ⟨_, rfl⟩
  obtain ⟨k0, hk0⟩ : ∃ m, m = max a1 x1 := ⟨_, rfl⟩
  obtain ⟨k1, hk1⟩ : ∃ m, m = max b1 y1 := ⟨_, rfl⟩
  obtain ⟨k2, hk2⟩ : ∃ m, m = max c1 z1 := ⟨_, rfl⟩
  have HM0 := Lib.hid hm0; have HM1 := Lib.hid hm1; have HM2 := Lib.hid hm2; have HK0 := Lib.hid hk0; have HK1 := Lib.hid hk1; have HK2 := Lib.hid hk2
  clear hm0 hm1 hm2 hk0 hk1 hk2
  go_wp2_with fail
  go_loopw [31] (fun x wr => ∃ k : Nat, k ≤ 3 ∧ x = .int .i64 k ∧ HulAt w p q r s (sel k 0 m0 a0) (sel k 1 m1 b0) (sel k 2 m2 c0) (sel k 0 k0 a1) (sel k 1 k1 b1) (sel k 2 k2 c1) x0 y0 z0 x1 y1 z1 wr) (fun x _ => 3 - (intOf x).toNat)
  case atStart => exact ⟨0, by omega, rfl, HS3.out⟩
  case round =>
  obtain ⟨k, hk, rfl, hul⟩ := hrel
  have HU := Lib.hid hul; clear hul HS3
  obtain rfl | rfl | rfl | rfl : k = 0 ∨ k = 1 ∨ k = 2 ∨ k = 3 := by omega
  · have HS3 : Hid (HulAt w p q r s a0 b0 c0 a1 b1 c1 x0 y0 z0 x1 y1 z1 wr) := HU
    clear HU
    obtain ⟨l0_, l1_, l2_⟩ := cells3 HS3.out.low
    obtain ⟨h0_, h1_, h2_⟩ := cells3 HS3.out.high
    obtain ⟨f0_, f1_, f2_⟩ := cells3 HS3.out.fro
    obtain ⟨t0_, t1_, t2_⟩ := cells3 HS3.out.til
    have fl := frozen3 HS3.out.low
    have fh := frozen3 HS3.out.high
    obtain ⟨npq, npr, nps, nqr, nqs, nrs⟩ := HS3.out.apart
    have mqp := Ne.symm npq; have mrp := Ne.symm npr; have msp := Ne.symm nps; have mrq := Ne.symm nqr; have msq := Ne.symm nqs
    go_wp2_with fail
    go_region
    rw [← HM0.out, ← HK0.out]
    have HS4 : Hid (HulAt w p q r s m0 b0 c0 k0 b1 c1 x0 y0 z0 x1 y1 z1 ((wr.setCell ⟨p, 0, none⟩ (.int .i64 m0)).setCell ⟨q, 0, none⟩ (.int .i64 k0)).drew) := Lib.hid (by
      have hs := HS3.out
      have hat := hs.at'
      have hd : ∀ u : World, u.grownBy u.drew none := fun u => gb_drew (gb_refl _ _)
      refine HulAt.made ?_ (hd _)
      exact ⟨(setCell_far (by show w.heap.size + 2 ≠ q; omega)).trans ((setCell_far (by show w.heap.size + 2 ≠ p; omega)).trans hs.res), (setCell_far npq).trans (set_block hs.low 0 (.int .i64 m0)), set_block ((setCell_far mqp).trans hs.high) 0 (.int .i64 k0),
        (setCell_far mrq).trans ((setCell_far mrp).trans hs.fro), (setCell_far msq).trans ((setCell_far msp).trans hs.til), hs.at', hs.apart, gb_setCell (gb_setCell hs.grown (.inl (by show w.heap.size ≤ p; omega)) _) (.inl (by show w.heap.size ≤ q; omega)) _⟩)
    generalize ((wr.setCell ⟨p, 0, none⟩ (.int .i64 m0)).setCell ⟨q, 0, none⟩ (.int .i64 k0)).drew = w4 at *
    clear l0_ l1_ l2_ h0_ h1_ h2_ f0_ f1_ f2_ t0_ t1_ t2_ fl fh npq npr nps nqr nqs nrs mqp mrp msp mrq msq HS3
    go_wp2_with fail
    go_roundw
    case rel => exact ⟨0+1, by omega, by go_num, HS4.out⟩
    case measure => simp [intOf]
  · have HS3 : Hid (HulAt w p q r s m0 b0 c0 k0 b1 c1 x0 y0 z0 x1 y1 z1 wr) := HU
    clear HU
    obtain ⟨l0_, l1_, l2_⟩ := cells3 HS3.out.low
    obtain ⟨h0_, h1_, h2_⟩ := cells3 HS3.out.high
    obtain ⟨f0_, f1_, f2_⟩ := cells3 HS3.out.fro
    obtain ⟨t0_, t1_, t2_⟩ := cells3 HS3.out.til
    have fl := frozen3 HS3.out.low
    have fh := frozen3 HS3.out.high
    obtain ⟨npq, npr, nps, nqr, nqs, nrs⟩ := HS3.out.apart
    have mqp := Ne.symm npq; have mrp := Ne.symm npr; have msp := Ne.symm nps; have mrq := Ne.symm nqr; have msq := Ne.symm nqs
    go_wp2_with fail
    go_region
    rw [← HM1.out, ← HK1.out]
    have HS4 : Hid (HulAt w p q r s m0 m1 c0 k0 k1 c1 x0 y0 z0 x1 y1 z1 ((wr.setCell ⟨p, 1, none⟩ (.int .i64 m1)).setCell ⟨q, 1, none⟩ (.int .i64 k1)).drew) := Lib.hid (by
      have hs := HS3.out
      have hat := hs.at'
      have hd : ∀ u : World, u.grownBy u.drew none := fun u => gb_drew (gb_refl _ _)
      refine HulAt.made ?_ (hd _)
      exact ⟨(setCell_far (by show w.heap.size + 2 ≠ q; omega)).trans ((setCell_far (by show w.heap.size + 2 ≠ p; omega)).trans hs.res), (setCell_far npq).trans (set_block hs.low 1 (.int .i64 m1)), set_block ((setCell_far mqp).trans hs.high) 1 (.int .i64 k1),
        (setCell_far mrq).trans ((setCell_far mrp).trans hs.fro), (setCell_far msq).trans ((setCell_far msp).trans hs.til), hs.at', hs.apart, gb_setCell (gb_setCell hs.grown (.inl (by show w.heap.size ≤ p; omega)) _) (.inl (by show w.heap.size ≤ q; omega)) _⟩)
    generalize ((wr.setCell ⟨p, 1, none⟩ (.int .i64 m1)).setCell ⟨q, 1, none⟩ (.int .i64 k1)).drew = w4 at *
    clear l0_ l1_ l2_ h0_ h1_ h2_ f0_ f1_ f2_ t0_ t1_ t2_ fl fh npq npr nps nqr nqs nrs mqp mrp msp mrq msq HS3
    go_wp2_with fail
    go_roundw
    case rel => exact ⟨1+1, by omega, by go_num, HS4.out⟩
    case measure => simp [intOf]
  · have HS3 : Hid (HulAt w p q r s m0 m1 c0 k0 k1 c1 x0 y0 z0 x1 y1 z1 wr) := HU
    clear HU
    obtain ⟨l0_, l1_, l2_⟩ := cells3 HS3.out.low
    obtain ⟨h0_, h1_, h2_⟩ := cells3 HS3.out.high
    obtain ⟨f0_, f1_, f2_⟩ := cells3 HS3.out.fro
    obtain ⟨t0_, t1_, t2_⟩ := cells3 HS3.out.til
    have fl := frozen3 HS3.out.low
    have fh := frozen3 HS3.out.high
    obtain ⟨npq, npr, nps, nqr, nqs, nrs⟩ := HS3.out.apart
    have mqp := Ne.symm npq; have mrp := Ne.symm npr; have msp := Ne.symm nps; have mrq := Ne.symm nqr; have msq := Ne.symm nqs
    go_wp2_with fail
    go_region
    rw [← HM2.out, ← HK2.out]
    have HS4 : Hid (HulAt w p q r s m0 m1 m2 k0 k1 k2 x0 y0 z0 x1 y1 z1 ((wr.setCell ⟨p, 2, none⟩ (.int .i64 m2)).setCell ⟨q, 2, none⟩ (.int .i64 k2)).drew) := Lib.hid (by
      have hs := HS3.out
      have hat := hs.at'
      have hd : ∀ u : World, u.grownBy u.drew none := fun u => gb_drew (gb_refl _ _)
      refine HulAt.made ?_ (hd _)
      exact ⟨(setCell_far (by show w.heap.size + 2 ≠ q; omega)).trans ((setCell_far (by show w.heap.size + 2 ≠ p; omega)).trans hs.res), (setCell_far npq).trans (set_block hs.low 2 (.int .i64 m2)), set_block ((setCell_far mqp).trans hs.high) 2 (.int .i64 k2),
        (setCell_far mrq).trans ((setCell_far mrp).trans hs.fro), (setCell_far msq).trans ((setCell_far msp).trans hs.til), hs.at', hs.apart, gb_setCell (gb_setCell hs.grown (.inl (by show w.heap.size ≤ p; omega)) _) (.inl (by show w.heap.size ≤ q; omega)) _⟩)
    generalize ((wr.setCell ⟨p, 2, none⟩ (.int .i64 m2)).setCell ⟨q, 2, none⟩ (.int .i64 k2)).drew = w4 at *
    clear l0_ l1_ l2_ h0_ h1_ h2_ f0_ f1_ f2_ t0_ t1_ t2_ fl fh npq npr nps nqr nqs nrs mqp mrp msp mrq msq HS3
    go_wp2_with fail
    go_roundw
    case rel => exact ⟨2+1, by omega, by go_num, HS4.out⟩
    case measure => simp [intOf]
  · have HS6 : Hid (HulAt w p q r s m0 m1 m2 k0 k1 k2 x0 y0 z0 x1 y1 z1 wr) := HU
    clear HU
    obtain ⟨l0_, l1_, l2_⟩ := cells3 HS6.out.low
    obtain ⟨h0_, h1_, h2_⟩ := cells3 HS6.out.high
    have lp := MadeB.cells (r := w.heap.size + 2) (n := 6) (T := 44) (block_lt HS6.out.low) (by have := HS6.out.at'; omega)
    have lq := MadeB.cells (r := w.heap.size + 2) (n := 6) (T := 44) (block_lt HS6.out.high) (by have := HS6.out.at'; omega)
    go_wp2_with fail
    refine Rg.region (MadeB wr (w.heap.size + 2) 6 44) (MakesB 5 (w.heap.size + 2)) (fun k => if k = 1 then some (isV (.agg #[.int .i64 m0, .int .i64 m1, .int .i64 m2])) else if k = 3 then some (isV (.agg #[.int .i64 k0, .int .i64 k1, .int .i64 k2])) else none) (fun _ => false) 0 5 (by kernel_rfl) (by kernel_rfl) (by kernel_rfl) (by kernel_rfl) (by kernel_rfl) (by kernel_rfl) (by kernel_rfl) (MakesB.size 5 _) (MadeB.start HS6.out.res rfl) (fun hne => ?_)
    (repeat (refine rLexL_quiet (by rfl) (by rfl) (by rfl) (by rfl) ?_; go_big_quiet_step (fail); refine wpQuiet_nil ?_))
    refine rg_fixG MadeB.grown (MakesB.none (by decide)) (.agg #[.int .i64 m0, .int .i64 m1, .int .i64 m2]) 80 #[.agg #[.int .i64 m0, .int .i64 m1, .int .i64 m2]] rfl rfl rfl (fun _ => by go_simp) (fun u hu => position_any _ _ _ u) ?_
    simp only [Act.put, List.setIfInBounds_toArray, List.set_cons_zero, List.set_cons_succ]
    (repeat (refine rLexL_quiet (by rfl) (by rfl) (by rfl) (by rfl) ?_; go_big_quiet_step (fail); refine wpQuiet_nil ?_))
    refine rg_fixG MadeB.grown (MakesB.none (by decide)) (.agg #[.int .i64 k0, .int .i64 k1, .int .i64 k2]) 80 #[.agg #[.int .i64 k0, .int .i64 k1, .int .i64 k2]] rfl rfl rfl (fun _ => by go_simp) (fun u hu => position_any _ _ _ u) ?_
    simp only [Act.put, List.setIfInBounds_toArray, List.set_cons_zero, List.set_cons_succ]
    (repeat (refine rLexL_quiet (by rfl) (by rfl) (by rfl) (by rfl) ?_; go_big_quiet_step (fail); refine wpQuiet_nil ?_))
    rintro wq2 ⟨hq, rcs, hrcs, hR⟩ - -
    have hgw : w.grownBy wq2 none := gb_new HS6.out.grown hq (by simp)
    refine wpList_store_row rfl _ _ _ rfl (w.heap.size + 2) #[.int .i64 m0, .int .i64 m1, .int .i64 m2, .int .i64 k0, .int .i64 k1, .int .i64 k2] rfl rfl _ _ hR (by kernel_rfl) hrcs (by simp [Value.oneCell']) ?_
    obtain ⟨e0, e1, e2, e3, e4, e5⟩ := cells6 (setRow_at (cs := #[.int .i64 m0, .int .i64 m1, .int .i64 m2, .int .i64 k0, .int .i64 k1, .int .i64 k2]) hR)
    have HGE := Lib.hid (gb_setRow (cs := #[.int .i64 m0, .int .i64 m1, .int .i64 m2, .int .i64 k0, .int .i64 k1, .int .i64 k2]) hgw (g := w.heap.size + 2) (.inl (by omega)))
    clear hgw hR hrcs hq hne lp lq l0_ l1_ l2_ h0_ h1_ h2_ HS6
    refine wpList_nil ?_
    simp only [Act.put, List.setIfInBounds_toArray, List.set_cons_zero, List.set_cons_succ]
    go_wp2
    refine bodyPost_ret (v := .agg #[.int .i64 m0, .int .i64 m1, .int .i64 m2, .int .i64 k0, .int .i64 k1, .int .i64 k2]) (by simp [results, Try.results48, go_sem, e0, e1, e2, e3, e4, e5]) rfl ⟨by rw [HM0.out, HM1.out, HM2.out, HK0.out, HK1.out, HK2.out]; simp [huL, huH, HV.out], HGE.out⟩
end Go.Proofs.Ytkmikiljpajaaaa
