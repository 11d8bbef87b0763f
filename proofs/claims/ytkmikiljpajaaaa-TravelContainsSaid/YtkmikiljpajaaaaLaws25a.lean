/- The walks of TravelGrows, TravelRounds. -/
import Derived.Test.YtkmikiljpajaaaaTrvG
import Derived.Test.YtkmikiljpajaaaaTable
import Derived.Test.YtkmikiljpajaaaaAwake25
namespace Go.Proofs.Ytkmikiljpajaaaa
set_option linter.all false
open Go.RowKit

theorem min_le_max_int (x y : Int) : min x y ≤ max x y := by omega

set_option maxRecDepth 100000 in
set_option maxHeartbeats 400000 in
theorem travelGrows_walk (w : World) (v : Value) (xs : List Int) (hs : Sl w v xs) (_hx : ∀ x ∈ xs, -9223372036854775808 ≤ x ∧ x ≤ 9223372036854775807) :
    Calls Try.prog 3 #[v] w fun e w' => e = .returned (.bool true) ∧ Below w.heap.size w w' := by
  go_enter Try.func3, Try.ntmps3
  go_wp2_with fail
  (with_reducible refine (new_any w v xs hs).mono ?_)
  rintro e w1 ⟨rfl, hS, hg1⟩
  have HG1 := Lib.hid hg1; clear hg1 hs
  go_wp2_with fail
  (with_reducible refine (table_any w.heap.size w1 w.heap.size hS).mono ?_)
  rintro e w2 ⟨step, vl, vh, ls, hs, rfl, tok, hst, h400, hlen, ol, oh, -, hS2, hg2⟩
  obtain ⟨al, cl, rfl⟩ := owns_slice ol
  obtain ⟨ah, ch, rfl⟩ := owns_slice oh
  obtain ⟨r1, r2⟩ := reach_small tok.1 hst h400 hlen
  have hg3 := gb_alloc (gb_refl w2 none) (.cells #[.int .i64 step, .slice al ls.length cl, .slice ah hs.length ch] 26)
  have sl := Lib.hid (Sl_of_owns ol rfl); have sh := Lib.hid (Sl_of_owns oh rfl)
  have HG2 := Lib.hid hg2
  have hrl : ∀ b off len cap, Value.slice al ls.length cl = .slice (some ⟨b, off, none⟩) len cap → 0 < len → some b ≠ some w.heap.size := by
    intro b off len cap e _ e2
    have := (ol.lt b (by rw [e]; rfl)).1; have := hS.lt; simp at e2; omega
  have hrh : ∀ b off len cap, Value.slice ah hs.length ch = .slice (some ⟨b, off, none⟩) len cap → 0 < len → some b ≠ some w.heap.size := by
    intro b off len cap e _ e2
    have := (oh.lt b (by rw [e]; rfl)).1; have := hS.lt; simp at e2; omega
  have Hrl := Lib.hid hrl; have Hrh := Lib.hid hrh; clear hrl hrh
  have HT := Lib.hid tok
  have HS2 := Lib.hid hS2
  clear hS hg2 ol oh h400 hlen hst tok hS2
  go_wp2_with fail
  (with_reducible refine (Reach_any _ _ _ ls hs _ (sl.out.after hg3) (sh.out.after hg3)).mono ?_)
  rintro e w3 ⟨rfl, hg4⟩
  rw [show reachV step ls hs = reachS step ls from if_pos HT.out]
  have HF := Lib.hid (fun (x y : Int) => btw_sq (x := x) (y := y) HT.out)
  have HGR := Lib.hid (fun (x y : Int) => grows_plain (x := x) (y := y) HT.out)
  generalize reachS step ls = R at *
  have hp2 : w.heap.size < w2.heap.size := HS2.out.lt.2
  have HS3 := Lib.hid (HS2.out.later (gb_trans hg3 hg4) (by simp))
  have HG4 := Lib.hid hg4
  clear hg4 hg3 HS2
  go_wp2_with fail
  (with_reducible refine (n_any w.heap.size w3 w.heap.size (R + 1) HS3.out (by omega) (by omega)).mono ?_)
  rintro e w4 ⟨x0, rfl, hx0, hS4, hg5⟩
  have HS4 := Lib.hid hS4; have HG5 := Lib.hid (gb_trans (gb_none (row := some w.heap.size) HG4.out) hg5)
  clear hS4 hg5 HS3 HG4
  go_wp2_with fail
  (with_reducible refine (n_any w.heap.size w4 w.heap.size (R + 1) HS4.out (by omega) (by omega)).mono ?_)
  rintro e w5 ⟨y0, rfl, hy0, hS5, hg6⟩
  have HG6 := Lib.hid (gb_trans HG5.out hg6)
  have cT : ∀ o, w5.cell? ⟨w2.heap.size, o, none⟩ = (w2.alloc (.cells #[.int .i64 step, .slice al ls.length cl, .slice ah hs.length ch] 26)).cell? ⟨w2.heap.size, o, none⟩ := fun o => gb_cell HG6.out (by simp) (by simp; omega)
  have hz5 : w2.heap.size < w5.heap.size := by have := HG6.out.size; simp at this; omega
  clear hS5 hg6 HS4 HG5
  have hxm := min_le_max_int x0 y0
  have h0m : 0 ≤ min x0 y0 := by omega
  have hRm : max x0 y0 ≤ R := by omega
  go_wp2_with fail
  generalize min x0 y0 = x at *
  generalize max x0 y0 = y at *
  clear hx0 hy0
  have qx : 0 ≤ x * x ∧ x * x ≤ 2200 * 2200 := ⟨sq_nonneg h0m, sq_le h0m (by omega)⟩
  have qy : x * x ≤ y * y ∧ y * y ≤ 2200 * 2200 := ⟨sq_le h0m hxm, sq_le (by omega) (by omega)⟩
  have F1 := Lib.hid (HF.out x x h0m (Int.le_refl _) (by omega))
  have F2 := Lib.hid (HF.out y y (by omega) (Int.le_refl _) hRm)
  have F3 := Lib.hid (HF.out x y h0m hxm hRm)
  obtain ⟨p1, p2, p3, p4⟩ := HGR.out x y h0m hxm hRm
  have S5l := Lib.hid (sl.out.later (row := some w.heap.size) (gb_trans (gb_none (gb_alloc (gb_refl w2 none) _)) HG6.out) Hrl.out)
  have S5h := Lib.hid (sh.out.later (row := some w.heap.size) (gb_trans (gb_none (gb_alloc (gb_refl w2 none) _)) HG6.out) Hrh.out)
  clear HF HGR sl sh Hrl Hrh
  generalize loA step ls x = a1 at *
  generalize loA step ls y = a2 at *
  generalize hiA step hs x = b1 at *
  generalize hiA step hs y = b2 at *
  generalize hqx : x * x = qx' at *
  generalize hqy : y * y = qy' at *
  have wx : wrap64 qx' = qx' := IntWalk.wrap64_in _ (by omega)
  have wy : wrap64 qy' = qy' := IntWalk.wrap64_in _ (by omega)
  rw [wx]
  (with_reducible refine (between_any _ _ _ _ _ _ _ w5 S5l.out S5h.out (by omega)).mono ?_)
  rintro e w6 ⟨rfl, hg7⟩
  rw [F1.out]
  obtain ⟨c6, z6⟩ := gb_at hg7 hz5
  have S6l := Lib.hid (S5l.out.after hg7)
  have S6h := Lib.hid (S5h.out.after hg7)
  have HG7 := Lib.hid (gb_trans HG6.out (gb_none hg7))
  clear hg7 S5l S5h HG6
  go_wp2_with fail
  (with_reducible refine (between_any _ _ _ _ _ _ _ w6 S6l.out S6h.out (by omega)).mono ?_)
  rintro e w7 ⟨rfl, hg8⟩
  rw [F2.out]
  obtain ⟨c7, z7⟩ := gb_at hg8 z6
  have S7l := Lib.hid (S6l.out.after hg8)
  have S7h := Lib.hid (S6h.out.after hg8)
  have HG8 := Lib.hid (gb_trans HG7.out (gb_none hg8))
  clear hg8 S6l S6h HG7
  go_wp2_with fail
  (with_reducible refine (between_any _ _ _ _ _ _ _ w7 S7l.out S7h.out (by omega)).mono ?_)
  rintro e w8 ⟨rfl, hg9⟩
  rw [F3.out]
  have HG9 := Lib.hid (gb_trans HG8.out (gb_none hg9))
  clear hg9 S7l S7h HG8
  go_wp2_with fail
  (with_reducible refine (awake25_any _).mono ?_)
  rintro e w9 ⟨rfl, hg10⟩
  have HG10 := Lib.hid (gb_trans HG9.out (gb_none hg10))
  clear hg10 HG9
  go_wp2
  go_ret
  refine ⟨rfl, ?_⟩
  have k1 : w.grownBy w2 none := gb_new HG1.out HG2.out (by simp)
  have k2 : w.grownBy (w2.alloc (.cells #[.int .i64 step, .slice al ls.length cl, .slice ah hs.length ch] 26)) none := gb_alloc k1 _
  exact gb_end (gb_new k2 HG10.out (by simp))
set_option maxRecDepth 100000 in
set_option maxHeartbeats 400000 in
theorem travelRounds_walk (w : World) (v : Value) (xs : List Int) (hs : Sl w v xs) (_hx : ∀ x ∈ xs, -9223372036854775808 ≤ x ∧ x ≤ 9223372036854775807) (n0 : Int) (_h1 : -9223372036854775808 ≤ n0) (_h2 : n0 ≤ 9223372036854775807) :
    Calls Try.prog 5 #[v, .int .i64 n0] w fun e w' => e = .returned (.bool true) ∧ Below w.heap.size w w' := by
  go_enter Try.func5, Try.ntmps5
  go_wp2_with fail
  (with_reducible refine (new_any w v xs hs).mono ?_)
  rintro e w1 ⟨rfl, hS, hg1⟩
  have HG1 := Lib.hid hg1; clear hg1 hs
  go_wp2_with fail
  (with_reducible refine (table_any w.heap.size w1 w.heap.size hS).mono ?_)
  rintro e w2 ⟨step, vl, vh, ls, hs, rfl, tok, hst, h400, hlen, ol, oh, -, hS2, hg2⟩
  obtain ⟨al, cl, rfl⟩ := owns_slice ol
  obtain ⟨ah, ch, rfl⟩ := owns_slice oh
  obtain ⟨r1, r2⟩ := reach_small tok.1 hst h400 hlen
  have hg3 := gb_alloc (gb_refl w2 none) (.cells #[.int .i64 step, .slice al ls.length cl, .slice ah hs.length ch] 26)
  have sl := Lib.hid (Sl_of_owns ol rfl); have sh := Lib.hid (Sl_of_owns oh rfl)
  have HG2 := Lib.hid hg2
  have hrl : ∀ b off len cap, Value.slice al ls.length cl = .slice (some ⟨b, off, none⟩) len cap → 0 < len → some b ≠ some w.heap.size := by
    intro b off len cap e _ e2
    have := (ol.lt b (by rw [e]; rfl)).1; have := hS.lt; simp at e2; omega
  have hrh : ∀ b off len cap, Value.slice ah hs.length ch = .slice (some ⟨b, off, none⟩) len cap → 0 < len → some b ≠ some w.heap.size := by
    intro b off len cap e _ e2
    have := (oh.lt b (by rw [e]; rfl)).1; have := hS.lt; simp at e2; omega
  have Hrl := Lib.hid hrl; have Hrh := Lib.hid hrh; clear hrl hrh
  have HT := Lib.hid tok
  have HS2 := Lib.hid hS2
  clear hS hg2 ol oh h400 hlen hst tok hS2
  go_wp2_with fail
  (with_reducible refine (Reach_any _ _ _ ls hs _ (sl.out.after hg3) (sh.out.after hg3)).mono ?_)
  rintro e w3 ⟨rfl, hg4⟩
  rw [show reachV step ls hs = reachS step ls from if_pos HT.out]
  have HF := Lib.hid (fun (x y : Int) => btw_sq (x := x) (y := y) HT.out)
  have HB := Lib.hid (fun (n : Int) => btw_good (near := n) (far := n) HT.out)
  generalize reachS step ls = R at *
  have hRR : 0 ≤ R * R ∧ R * R ≤ 2200 * 2200 := ⟨sq_nonneg (by omega), sq_le (by omega) r2⟩
  have HROOT := Lib.hid (fun (n : Int) (h0 : 0 ≤ n) (h : n ≤ R * R) => ceilI_le_root h0 h (by omega))
  generalize hRq : R * R = RR at *
  have wR : wrap64 RR = RR := IntWalk.wrap64_in _ (by omega)
  have hg5 := gb_trans hg3 hg4
  have S5l := Lib.hid (sl.out.after hg5)
  have S5h := Lib.hid (sh.out.after hg5)
  have HG6 := Lib.hid hg5
  obtain ⟨c3, hz5⟩ := gb_at hg4 (b := w2.heap.size) (by simp)
  clear hg4 hg3 HS2 hg5 sl sh Hrl Hrh
  go_wp2_with fail
  (with_reducible refine (mod_any n0 (RR + 1) _ (by omega) (by omega)).mono ?_)
  rintro e w5 ⟨rfl, rfl⟩
  have hn0 := Int.emod_nonneg n0 (show RR + 1 ≠ 0 by omega)
  have hn1 := Int.emod_lt_of_pos n0 (show 0 < RR + 1 by omega)
  generalize n0 % (RR + 1) = n at *
  have hroot := HROOT.out n hn0 (by omega)
  have F3 := Lib.hid (HB.out n hn0 (Int.le_refl _) hroot)
  have f1 := floorI_le (n := n) (by omega)
  have f2 := ceilI_ge n
  have F1 := Lib.hid (HF.out (floorI n) (floorI n) f1.1 (Int.le_refl _) (by omega))
  have F2 := Lib.hid (HF.out (ceilI n) (ceilI n) (by omega) (Int.le_refl _) hroot)
  have q1 : 0 ≤ floorI n * floorI n ∧ floorI n * floorI n ≤ 2200 * 2200 := ⟨sq_nonneg f1.1, sq_le f1.1 (by omega)⟩
  have q2 : 0 ≤ ceilI n * ceilI n ∧ ceilI n * ceilI n ≤ 2200 * 2200 := ⟨sq_nonneg (by omega), sq_le (by omega) (by omega)⟩
  clear HF HB HROOT
  generalize loA step ls (floorI n) = a1 at *
  generalize loA step ls (ceilI n) = a2 at *
  generalize hiA step hs (floorI n) = b1 at *
  generalize hiA step hs (ceilI n) = b2 at *
  go_wp2_with fail
  (with_reducible refine (gfloor_any n _ (by omega)).mono ?_)
  rintro e w6 ⟨rfl, rfl⟩
  go_wp2_with fail
  (with_reducible refine (gceil_any n _ (by omega)).mono ?_)
  rintro e w6 ⟨rfl, rfl⟩
  generalize floorI n = fl at *
  generalize ceilI n = ce at *
  generalize hqx : fl * fl = qx' at *
  generalize hqy : ce * ce = qy' at *
  have wx : wrap64 qx' = qx' := IntWalk.wrap64_in _ (by omega)
  have wy : wrap64 qy' = qy' := IntWalk.wrap64_in _ (by omega)
  go_wp2_with fail
  (with_reducible refine (between_any _ _ _ _ _ _ _ w3 S5l.out S5h.out (by omega)).mono ?_)
  rintro e w6 ⟨rfl, hg7⟩
  rw [F1.out]
  obtain ⟨c6, z6⟩ := gb_at hg7 hz5
  have S6l := Lib.hid (S5l.out.after hg7)
  have S6h := Lib.hid (S5h.out.after hg7)
  have HG7 := Lib.hid (gb_trans HG6.out hg7)
  clear hg7 S5l S5h HG6
  go_wp2_with fail
  (with_reducible refine (between_any _ _ _ _ _ _ _ w6 S6l.out S6h.out (by omega)).mono ?_)
  rintro e w7 ⟨rfl, hg8⟩
  rw [F2.out]
  obtain ⟨c7, z7⟩ := gb_at hg8 z6
  have S7l := Lib.hid (S6l.out.after hg8)
  have S7h := Lib.hid (S6h.out.after hg8)
  have HG8 := Lib.hid (gb_trans HG7.out hg8)
  clear hg8 S6l S6h HG7
  go_wp2_with fail
  (with_reducible refine (between_any _ _ _ _ _ _ _ w7 S7l.out S7h.out (by omega)).mono ?_)
  rintro e w8 ⟨rfl, hg9⟩
  rw [F3.out]
  have HG9 := Lib.hid (gb_trans HG8.out hg9)
  clear hg9 S7l S7h HG8
  go_wp2_with fail
  (with_reducible refine (awake25_any _).mono ?_)
  rintro e w9 ⟨rfl, hg10⟩
  have HG10 := Lib.hid (gb_trans HG9.out hg10)
  clear hg10 HG9
  go_wp2
  go_ret
  exact ⟨rfl, gb_end (gb_trans (gb_new HG1.out HG2.out (by simp)) HG10.out)⟩
end Go.Proofs.Ytkmikiljpajaaaa
