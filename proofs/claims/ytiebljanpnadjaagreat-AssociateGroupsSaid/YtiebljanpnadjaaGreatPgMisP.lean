import Derived.Test.YtiebljanpnadjaaGreatPgMis
namespace Go.Proofs.YtiebljanpnadjaaGreat
set_option linter.all false
section LReach24
open Go.RowKit
theorem sq_flip (a b : Int) : (a - b) * (a - b) = (b - a) * (b - a) := by grind
theorem near_sq {x lo hi q : Int} (h0 : lo ≤ q) (h1 : q ≤ hi) : nearS x lo hi * nearS x lo hi ≤ (x - q) * (x - q) := by
 rcases Int.le_total 0 (x - q) with h | h
 ·exact sq_up (by unfold nearS; omega) (by unfold nearS; omega)
 ·rw [sq_flip]; exact sq_up (by unfold nearS; omega) (by unfold nearS; omega)
theorem far_sq {x lo hi q : Int} (h0 : lo ≤ q) (h1 : q ≤ hi) : (x - q) * (x - q) ≤ farS x lo hi * farS x lo hi := by
 rcases Int.le_total 0 (x - q) with h | h
 ·exact sq_up h (by unfold farS; omega)
 ·rw [sq_flip]; exact sq_up (by omega) (by unfold farS; omega)
theorem near_at {x lo hi : Int} (h : lo ≤ hi) : ∃ q, lo ≤ q ∧ q ≤ hi ∧ (x - q) * (x - q) = nearS x lo hi * nearS x lo hi := by
 rcases Int.lt_or_le x lo with h1 | h1
 ·exact ⟨lo, by omega, by omega, by rw [show nearS x lo hi = lo - x by unfold nearS; omega, sq_flip]⟩
 ·rcases Int.lt_or_le hi x with h2 | h2
  ·exact ⟨hi, by omega, by omega, by rw [show nearS x lo hi = x - hi by unfold nearS; omega]⟩
  ·exact ⟨x, by omega, by omega, by rw [show nearS x lo hi = 0 by unfold nearS; omega]; simp⟩
theorem far_at {x lo hi : Int} (h : lo ≤ hi) : ∃ q, lo ≤ q ∧ q ≤ hi ∧ (x - q) * (x - q) = farS x lo hi * farS x lo hi := by
 rcases Int.le_total (hi - x) (x - lo) with h1 | h1
 ·exact ⟨lo, by omega, by omega, by rw [show farS x lo hi = x - lo by unfold farS; omega]⟩
 ·exact ⟨hi, by omega, by omega, by rw [show farS x lo hi = hi - x by unfold farS; omega, sq_flip]⟩
end LReach24
section LBndP
open Go.RowKit
theorem intV_ok {step : Int} {ls hs : List Int} {x0 y0 z0 x1 y1 z1 d : Int} (h : tOk step ls hs) (v0 : vP x0 y0 z0 = true) (v1 : vP x1 y1 z1 = true) (hd : sqD x0 y0 z0 x1 y1 z1 = d) (hr : ceilI d ≤ reachS step ls) :
  intV step ls hs x0 y0 z0 x1 y1 z1 = .tuple #[.int .i64 (loA step ls (floorI d)), .int .i64 (hiA step hs (ceilI d)), (0:Int)] := by
 have h0 : 0 ≤ d := hd ▸ sqD_nonneg _ _ _ _ _ _
 unfold intV; rw [if_pos h, v0, v1, hd]; simp only [Bool.and_self, if_true]
 exact btw_good h h0 (Int.le_refl _) hr
theorem place_ok {m x y z : Int} (h : placeIn m x y z) (hm : m ≤ 10000) : vP x y z = true := by
 obtain ⟨a, b, c, d, e, f⟩ := h
 simp [vP]; omega
theorem sq_abs {d m : Int} (h0 : -m ≤ d) (h1 : d ≤ m) : d * d ≤ m * m := by
 rcases Int.le_total 0 d with h | h
 ·exact Int.mul_le_mul h1 h1 h (by omega)
 ·have := Int.mul_le_mul (a := -d) (b := -d) (c := m) (d := m) (by omega) (by omega) (by omega) (by omega)
  rwa [Int.neg_mul_neg] at this
theorem ceilI_mono {a b : Int} (h0 : 0 ≤ a) (h : a ≤ b) : ceilI a ≤ ceilI b := by
 obtain ⟨c0, c1⟩ := ceilI_sq_ge (n := b) (by omega)
 exact ceilI_le_root h0 (by omega) c0
theorem low_mono {step : Int} {ls hs : List Int} {d d' : Int} (h : tOk step ls hs) (h0 : 0 ≤ d) (h1 : d ≤ d') (hf : d' ≤ 9223372036854775807) (hr : ceilI d' ≤ reachS step ls) : loA step ls (floorI d) ≤ loA step ls (floorI d') := by
 have k := (between_fits h (by omega : 0 ≤ d') (Int.le_refl _) hf hr).2.1
 exact (at0_mono h (loI_mono h.1 (floorI_mono h1)) k).1
theorem high_mono {step : Int} {ls hs : List Int} {d d' : Int} (h : tOk step ls hs) (h0 : 0 ≤ d) (h1 : d ≤ d') (hf : d' ≤ 9223372036854775807) (hr : ceilI d' ≤ reachS step ls) : hiA step hs (ceilI d) ≤ hiA step hs (ceilI d') := by
 have k := (between_fits h (by omega : 0 ≤ d') (Int.le_refl _) hf hr).2.2.2
 exact (at0_mono h (upI_mono h.1 (ceilI_mono h0 h1)) k).2
theorem time_bounds {step : Int} {ls hs : List Int} {d : Int} (h : tOk step ls hs) (h0 : 0 ≤ d) (hf : d ≤ 9223372036854775807) (hr : ceilI d ≤ reachS step ls) : 0 ≤ loA step ls (floorI d) ∧ loA step ls (floorI d) ≤ 1099511627776 ∧ 0 ≤ hiA step hs (ceilI d) ∧ hiA step hs (ceilI d) ≤ 1099511627776 := by
 obtain ⟨-, k1, -, k2⟩ := between_fits h h0 (Int.le_refl _) hf hr
 have a := tOk_at h k1; have b := tOk_at h k2
 unfold loA hiA; omega
structure Near (step : Int) (ls hs : List Int) (x0 y0 z0 x1 y1 z1 px py pz : Int) : Prop where
 ok : tOk step ls hs
 vb : bP x0 y0 z0 x1 y1 z1 = true
 vp : vP px py pz = true
 reach : ceilI (farD x0 y0 z0 x1 y1 z1 px py pz) ≤ reachS step ls
theorem Near.bnd {step : Int} {ls hs : List Int} {x0 y0 z0 x1 y1 z1 px py pz : Int} (h : Near step ls hs x0 y0 z0 x1 y1 z1 px py pz) :
  bndA step ls hs x0 y0 z0 x1 y1 z1 px py pz = loA step ls (floorI (nearD x0 y0 z0 x1 y1 z1 px py pz)) ∧ bndB step ls hs x0 y0 z0 x1 y1 z1 px py pz = hiA step hs (ceilI (farD x0 y0 z0 x1 y1 z1 px py pz)) ∧ bndE step ls hs x0 y0 z0 x1 y1 z1 px py pz = 0 := by
 obtain ⟨n0, n1, n2⟩ := far_small h.vb h.vp
 have e : bndE step ls hs x0 y0 z0 x1 y1 z1 px py pz = 0 := by
  unfold bndE; rw [if_pos h.ok, h.vb, h.vp, nearP_ok h.vb h.vp, farP_ok h.vb h.vp]; exact btwE_ok h.ok n0 n1 h.reach
 unfold bndA bndB; rw [if_pos e, if_pos e, nearP_ok h.vb h.vp, farP_ok h.vb h.vp]
 exact ⟨rfl, rfl, e⟩
theorem Near.val {step : Int} {ls hs : List Int} {x0 y0 z0 x1 y1 z1 px py pz : Int} (h : Near step ls hs x0 y0 z0 x1 y1 z1 px py pz) :
  bndV step ls hs x0 y0 z0 x1 y1 z1 px py pz = .tuple #[.int .i64 (loA step ls (floorI (nearD x0 y0 z0 x1 y1 z1 px py pz))), .int .i64 (hiA step hs (ceilI (farD x0 y0 z0 x1 y1 z1 px py pz))), (0:Int)] := by
 obtain ⟨a, b, c⟩ := h.bnd
 unfold bndV; rw [a, b, c]
theorem near_mk {step : Int} {ls hs : List Int} {x0 y0 z0 x1 y1 z1 px py pz a s q : Int} (ht : tOk step ls hs) (hr : 400 ≤ reachS step ls) (hb : boxIn a s x0 y0 z0 x1 y1 z1) (hp : placeIn q px py pz) (ha : a ≤ 60) (hsd : s ≤ 40) (hq : q ≤ 60) : Near step ls hs x0 y0 z0 x1 y1 z1 px py pz := by
 have vb := boxIn_ok hb (by omega) (by omega)
 have vp := place_ok hp (by omega)
 refine ⟨ht, vb, vp, ?_⟩
 obtain ⟨n0, n1, n2⟩ := far_small vb vp
 unfold boxIn placeIn at hb; unfold placeIn at hp
 have s0 := sq_abs (d := farS px x0 x1) (m := 160) (by unfold farS; omega) (by unfold farS; omega)
 have s1 := sq_abs (d := farS py y0 y1) (m := 160) (by unfold farS; omega) (by unfold farS; omega)
 have s2 := sq_abs (d := farS pz z0 z1) (m := 100) (by unfold farS; omega) (by unfold farS; omega)
 have : ceilI (farD x0 y0 z0 x1 y1 z1 px py pz) ≤ 400 := ceilI_le_root (by omega) (by unfold farD; omega) (by omega)
 omega
theorem near_point {x0 y0 z0 x1 y1 z1 px py pz q r s : Int} (h0 : x0 ≤ q ∧ q ≤ x1) (h1 : y0 ≤ r ∧ r ≤ y1) (h2 : z0 ≤ s ∧ s ≤ z1) : nearD x0 y0 z0 x1 y1 z1 px py pz ≤ sqD q r s px py pz ∧ sqD q r s px py pz ≤ farD x0 y0 z0 x1 y1 z1 px py pz := by
 have a := near_sq (x := px) h0.1 h0.2; have b := near_sq (x := py) h1.1 h1.2; have c := near_sq (x := pz) h2.1 h2.2
 have a' := far_sq (x := px) h0.1 h0.2; have b' := far_sq (x := py) h1.1 h1.2; have c' := far_sq (x := pz) h2.1 h2.2
 rw [sqD_comm]; unfold nearD farD sqD; omega
theorem near_is {x0 y0 z0 x1 y1 z1 px py pz : Int} (hx : x0 ≤ x1) (hy : y0 ≤ y1) (hz : z0 ≤ z1) : ∃ q r s, (x0 ≤ q ∧ q ≤ x1) ∧ (y0 ≤ r ∧ r ≤ y1) ∧ (z0 ≤ s ∧ s ≤ z1) ∧ sqD q r s px py pz = nearD x0 y0 z0 x1 y1 z1 px py pz := by
 obtain ⟨a, a0, a1, ea⟩ := near_at (x := px) hx
 obtain ⟨b, b0, b1, eb⟩ := near_at (x := py) hy
 obtain ⟨c, c0, c1, ec⟩ := near_at (x := pz) hz
 exact ⟨a, b, c, ⟨a0, a1⟩, ⟨b0, b1⟩, ⟨c0, c1⟩, by rw [sqD_comm]; unfold nearD sqD; rw [← ea, ← eb, ← ec]⟩
theorem far_is {x0 y0 z0 x1 y1 z1 px py pz : Int} (hx : x0 ≤ x1) (hy : y0 ≤ y1) (hz : z0 ≤ z1) : ∃ q r s, (x0 ≤ q ∧ q ≤ x1) ∧ (y0 ≤ r ∧ r ≤ y1) ∧ (z0 ≤ s ∧ s ≤ z1) ∧ sqD q r s px py pz = farD x0 y0 z0 x1 y1 z1 px py pz := by
 obtain ⟨a, a0, a1, ea⟩ := far_at (x := px) hx
 obtain ⟨b, b0, b1, eb⟩ := far_at (x := py) hy
 obtain ⟨c, c0, c1, ec⟩ := far_at (x := pz) hz
 exact ⟨a, b, c, ⟨a0, a1⟩, ⟨b0, b1⟩, ⟨c0, c1⟩, by rw [sqD_comm]; unfold farD sqD; rw [← ea, ← eb, ← ec]⟩
theorem one_near (q r s px py pz : Int) : nearD q r s q r s px py pz = sqD q r s px py pz ∧ farD q r s q r s px py pz = sqD q r s px py pz := by
 have a := near_point (px := px) (py := py) (pz := pz) (x0 := q) (x1 := q) (y0 := r) (y1 := r) (z0 := s) (z1 := s) (q := q) (r := r) (s := s) ⟨Int.le_refl _, Int.le_refl _⟩ ⟨Int.le_refl _, Int.le_refl _⟩ ⟨Int.le_refl _, Int.le_refl _⟩
 obtain ⟨q', r', s', h0, h1, h2, e⟩ := near_is (x0 := q) (x1 := q) (y0 := r) (y1 := r) (z0 := s) (z1 := s) (px := px) (py := py) (pz := pz) (Int.le_refl _) (Int.le_refl _) (Int.le_refl _)
 obtain ⟨q2, r2, s2, k0, k1, k2, e2⟩ := far_is (x0 := q) (x1 := q) (y0 := r) (y1 := r) (z0 := s) (z1 := s) (px := px) (py := py) (pz := pz) (Int.le_refl _) (Int.le_refl _) (Int.le_refl _)
 obtain rfl : q' = q := by omega
 obtain rfl : r' = r := by omega
 obtain rfl : s' = s := by omega
 obtain rfl : q2 = q' := by omega
 obtain rfl : r2 = r' := by omega
 obtain rfl : s2 = s' := by omega
 exact ⟨e.symm, e2.symm⟩
theorem Near.point {step : Int} {ls hs : List Int} {x0 y0 z0 x1 y1 z1 px py pz q r s : Int} (h : Near step ls hs x0 y0 z0 x1 y1 z1 px py pz) (h0 : x0 ≤ q ∧ q ≤ x1) (h1 : y0 ≤ r ∧ r ≤ y1) (h2 : z0 ≤ s ∧ s ≤ z1) :
  vP q r s = true ∧ ceilI (sqD q r s px py pz) ≤ reachS step ls ∧ loA step ls (floorI (nearD x0 y0 z0 x1 y1 z1 px py pz)) ≤ loA step ls (floorI (sqD q r s px py pz)) ∧ hiA step hs (ceilI (sqD q r s px py pz)) ≤ hiA step hs (ceilI (farD x0 y0 z0 x1 y1 z1 px py pz)) ∧
   intV step ls hs q r s px py pz = .tuple #[.int .i64 (loA step ls (floorI (sqD q r s px py pz))), .int .i64 (hiA step hs (ceilI (sqD q r s px py pz))), (0:Int)] := by
 obtain ⟨n0, n1, n2⟩ := far_small h.vb h.vp
 obtain ⟨a, b⟩ := near_point (px := px) (py := py) (pz := pz) h0 h1 h2
 obtain ⟨v0, v1, o0, o1, o2⟩ := bP_iff h.vb
 have i0 := vP_iff v0; have i1 := vP_iff v1
 have hv : vP q r s = true := vP_mk (by omega)
 have hc : ceilI (sqD q r s px py pz) ≤ reachS step ls := Int.le_trans (ceilI_mono (by omega) b) h.reach
 exact ⟨hv, hc, low_mono h.ok n0 a (by omega) hc, high_mono h.ok (by omega) b (by omega) h.reach, intV_ok h.ok hv h.vp rfl hc⟩
theorem Near.one {step : Int} {ls hs : List Int} {x0 y0 z0 x1 y1 z1 px py pz q r s : Int} (h : Near step ls hs x0 y0 z0 x1 y1 z1 px py pz) (h0 : x0 ≤ q ∧ q ≤ x1) (h1 : y0 ≤ r ∧ r ≤ y1) (h2 : z0 ≤ s ∧ s ≤ z1) : Near step ls hs q r s q r s px py pz := by
 obtain ⟨v, c, -, -, -⟩ := h.point h0 h1 h2
 exact ⟨h.ok, bP_mk v v (Int.le_refl _) (Int.le_refl _) (Int.le_refl _), h.vp, by rw [(one_near q r s px py pz).2]; exact c⟩
theorem Near.within {step : Int} {ls hs : List Int} {x0 y0 z0 x1 y1 z1 px py pz a0 b0 c0 a1 b1 c1 : Int} (h : Near step ls hs x0 y0 z0 x1 y1 z1 px py pz) (hw : wiP a0 b0 c0 a1 b1 c1 x0 y0 z0 x1 y1 z1 = true) :
  Near step ls hs a0 b0 c0 a1 b1 c1 px py pz ∧ loA step ls (floorI (nearD x0 y0 z0 x1 y1 z1 px py pz)) ≤ loA step ls (floorI (nearD a0 b0 c0 a1 b1 c1 px py pz)) ∧ hiA step hs (ceilI (farD a0 b0 c0 a1 b1 c1 px py pz)) ≤ hiA step hs (ceilI (farD x0 y0 z0 x1 y1 z1 px py pz)) := by
 obtain ⟨va, -, hx0, hx1, hy0, hy1, hz0, hz1⟩ := wiP_iff.1 hw
 obtain ⟨v0, v1, o0, o1, o2⟩ := bP_iff va
 have nu := near_up (px := px) (py := py) (pz := pz) ⟨hx0, hx1⟩ ⟨hy0, hy1⟩ ⟨hz0, hz1⟩
 have fu := far_up (px := px) (py := py) (pz := pz) ⟨hx0, o0, hx1⟩ ⟨hy0, o1, hy1⟩ ⟨hz0, o2, hz1⟩
 obtain ⟨n0, n1, n2⟩ := far_small h.vb h.vp
 obtain ⟨k0, k1, k2⟩ := far_small va h.vp
 have hr := Int.le_trans (ceilI_mono (by omega) fu) h.reach
 exact ⟨⟨h.ok, va, h.vp, hr⟩, low_mono h.ok n0 nu (by omega) (Int.le_trans (ceilI_mono k0 k1) hr), high_mono h.ok (by omega) fu (by omega) h.reach⟩
end LBndP
section LPhase
open Go.RowKit Rg
def phaseIn (x y z e l n : Int) : Prop := placeIn 60 x y z ∧ 1000 ≤ e ∧ e ≤ 2999 ∧ e ≤ l ∧ l ≤ e + 40 ∧ 1 ≤ n ∧ n ≤ 4
set_option maxRecDepth 100000 in
set_option maxHeartbeats 1000000 in
theorem phase_any (B : Nat) (w : World) (p : Nat) (h : Src B w p) :
  Calls Tryz.prog 29 #[.pointer (some ⟨p, 0, none⟩)] w (At6 B p phaseIn w) := by
 have hp := h.lt
 have hg0 := gb_alloc (gb_refl w none) (.cells #[(0:Int), (0:Int), (0:Int), (0:Int), (0:Int), (0:Int)] 51)
 have HS0 := zH (h.later hg0 (by simp))
 have HG0 := zH (gb_none (row := some p) hg0)
 have HR0 := zH (heap_alloc_new w (.cells #[(0:Int), (0:Int), (0:Int), (0:Int), (0:Int), (0:Int)] 51))
 clear h hg0
 go_enter Tryz.func29, Tryz.ntmps29
 go_wp2_with fail
 (with_reducible refine (place_any B _ p 60 HS0.out (by omega) (by omega)).mono ?_)
 rintro e w1 ⟨x, y, z, rfl, hx, hs1, hg1⟩
 have HS1 := zH hs1; have HR1 := zH (block_keptp hg1 HR0.out (by omega)); have HG1 := zH (gb_trans HG0.out hg1)
 clear hs1 hg1 HS0 HR0 HG0
 go_wp2_with fail
 (with_reducible refine (n_any B _ p _ HS1.out (by omega) (by omega)).mono ?_)
 rintro e w2 ⟨t, rfl, ht, hs2, hg2⟩
 have HS2 := zH hs2; have HR2 := zH (block_keptp hg2 HR1.out (by omega)); have HG2 := zH (gb_trans HG1.out hg2)
 clear hs2 hg2 HS1 HR1 HG1
 go_wp2_with fail
 (with_reducible refine (n_any B _ p _ HS2.out (by omega) (by omega)).mono ?_)
 rintro e w3 ⟨n, rfl, hn, hs3, hg3⟩
 have hR3 := block_keptp hg3 HR2.out (by omega)
 have hg4 := gb_alloc (gb_refl w3 none) (.cells #[x, y, z, .int .i64 (1000 + t), (0:Int), .int .i64 (1 + n)] 51)
 have HS4 := zH (hs3.later hg4 (by simp)); have HR4 := zH (block_kept hg4 hR3 rfl); have HG4 := zH (gb_trans (gb_trans HG2.out hg3) (gb_none (row := some p) hg4))
 have HB4 := zH (heap_alloc_new w3 (.cells #[x, y, z, .int .i64 (1000 + t), (0:Int), .int .i64 (1 + n)] 51))
 have hz : w3.heap.size ≠ p := by have := hs3.lt; omega
 have hwb : w.heap.size < w3.heap.size := block_lt' hR3
 clear hs3 hg3 HS2 HR2 HG2 hR3 hg4
 go_wp2_with fail
 generalize w3.alloc (.cells #[x, y, z, .int .i64 (1000 + t), (0:Int), .int .i64 (1 + n)] 51) = w4 at *
 generalize w3.heap.size = q at *
 have hp4 := HS4.out.lt.2
 obtain ⟨c0, c1, c2, c3, c4, c5⟩ := six HB4.out
 have d3 := Pulled.cell (B := B) (p := p) c3 (block_lt' HB4.out) hz
 refine Rg.rR (Pulled w4 B p) (Pull p) (fun k => if k = 3 then some (isLit w4 [0, 0, 3, 10, 40]) else if k = 4 then some (isInt fun x => x ∈ [0, 0, 3, 10, 40]) else none) (fun _ => false) 0 6 Pull.size (Pulled.start HS4.out) (fun hne => ?_)
 (repeat (refine rQ ?_; go_big_quiet_step (fail); refine wpQuiet_nil ?_))
 refine rg_lit [0, 0, 3, 10, 40] 3 rfl rfl (fun _ => by go_simp) rfl hp4 (fun v2 => ?_)
 simp only [zA, zB, zC, zD, zX]
 refine rg_draw (fun x => x ∈ [0, 0, 3, 10, 40]) 37 #[.pointer (some ⟨p, 0, none⟩), v2] rfl rfl (fun _ => by go_simp) (fun u hu hd => pick_lit w4 B p u [0, 0, 3, 10, 40] v2 hu (hd ⟨3, .data⟩ (by simp) rfl) hp4 (by decide) (by decide)) (fun d hd => ?_)
 simp only [zA, zB, zC, zD, zX]
 have hd' : 0 ≤ d ∧ d ≤ 40 := by simp at hd; omega
 have wd : IntKind.i64.wrap (1000 + t + d) = 1000 + t + d := by rw [IntKind.wrap_i64]; omega
 (repeat (refine rQ ?_; go_big_quiet_step (fail); refine wpQuiet_nil ?_))
 rintro w5 ⟨hg5, hs5⟩ - -
 have hB5 := block_keptp hg5 HB4.out hz
 have hR5 := block_keptp hg5 HR4.out (by omega)
 have hF5 := frozen3 hB5
 obtain ⟨b0, b1, b2, b3, b4, b5⟩ := six hB5
 have hS6 := set_block hB5 4 (.int .i64 (1000 + t + d))
 have hR6 := (setCell_far (a := ⟨q, 4, none⟩) (u := .int .i64 (1000 + t + d)) (by show w.heap.size ≠ q; omega)).trans hR5
 have HR6 := zH hR6
 obtain ⟨s0, s1, s2, s3, s4, s5⟩ := six hS6
 have hgA : w4.grownBy (w5.setCell ⟨q, 4, none⟩ (.int .i64 (1000 + t + d))) (some p) → True := fun _ => trivial
 clear hgA
 have HGE := zH (gb_setRow (cs := #[x, y, z, .int .i64 (1000 + t), .int .i64 (1000 + t + d), .int .i64 (1 + n)]) (gb_setCell (gb_trans HG4.out hg5) (a := ⟨q, 4, none⟩) (.inl (by show w.heap.size ≤ q; omega)) (.int .i64 (1000 + t + d))) (g := w.heap.size) (.inl (Nat.le_refl _)))
 have hS5 : Src B (w5.setCell ⟨q, 4, none⟩ (.int .i64 (1000 + t + d))) p := hs5.later (row := some q) (gb_setCell (gb_refl _ _) (.inr rfl) _) (fun k hk => by simp at hk; omega)
 have HSE : Hid (Src B ((w5.setCell ⟨q, 4, none⟩ (.int .i64 (1000 + t + d))).setRow w.heap.size #[x, y, z, .int .i64 (1000 + t), .int .i64 (1000 + t + d), .int .i64 (1 + n)]) p) := zH (hS5.later (row := some w.heap.size) ⟨rfl, rfl, rfl, by simp [World.setRow], fun i _ hr => setRow_far (fun e => hr (by rw [e]))⟩ (fun q hq => by simp at hq; omega))
 have HN := zH (setRow_at (cs := #[x, y, z, .int .i64 (1000 + t), .int .i64 (1000 + t + d), .int .i64 (1 + n)]) hR6)
 clear hd hg5 hs5 hB5 hR5 hS6 hR6 hS5 d3 c0 c1 c2 c3 c4 c5 wd
 go_wp2_with (with_reducible refine wpList_store_row rfl _ _ _ rfl w.heap.size #[x, y, z, .int .i64 (1000 + t), .int .i64 (1000 + t + d), .int .i64 (1 + n)] rfl rfl _ _ HR6.out (by kernel_rfl) rfl (by simp [Value.oneCell']) ?_)
 obtain ⟨e0, e1, e2, e3, e4, e5⟩ := six HN.out
 exact bodyPost_ret (v := .agg #[x, y, z, .int .i64 (1000 + t), .int .i64 (1000 + t + d), .int .i64 (1 + n)]) (by simp [results, Tryz.results29, go_sem, e0, e1, e2, e3, e4, e5]) rfl
  ⟨_, _, _, _, _, _, rfl, ⟨hx, by omega, by omega, by omega, by omega, by omega, by omega⟩, HSE.out, HGE.out⟩
end LPhase
section LProbA
open Go.RowKit Rg
def goodPh (a : Ph) : Prop := placeIn 60 a.x a.y a.z ∧ 0 ≤ a.e ∧ a.e ≤ a.l ∧ a.l ≤ 2000000000000 ∧ 1 ≤ a.n ∧ a.n ≤ 4
section
end
theorem Tryz.infoPhaseT : (Tryz.prog.info? 51).map (fun i => (i.zero, i.size, i.bytes)) = some (some (.agg #[(0:Int), (0:Int), (0:Int), (0:Int), (0:Int), (0:Int)]), 6, 48) := by kernel_rfl
theorem sqk_any (n : Int) (w : World) (h1 : -4194304 ≤ n) (h2 : n ≤ 4194304) :
  Calls Tryz.prog 38 #[n] w fun e w' => e = .returned (.int .i64 (n * n)) ∧ w = w' := by
 obtain ⟨s0, s1, s2⟩ := sq_small (d := n) h1 h2
 generalize hq : n * n = q at *
 go_enter Tryz.func38, Tryz.ntmps38
 go_wp2
 go_ret
 exact ⟨rfl, rfl⟩
end LProbA
section LProb
open Go.RowKit Rg
end LProb
section LMisP
section LMisP
open Go.RowKit
theorem fold_better {cap : Int} {phs : List Ph} {zs : List Zn} : ∀ (ts : List Int) (b : Int × Int), b.2 = cost cap phs zs b.1 →
  (ts.foldl (better cap phs zs) b).2 = cost cap phs zs (ts.foldl (better cap phs zs) b).1 ∧ ((ts.foldl (better cap phs zs) b).1 = b.1 ∨ (ts.foldl (better cap phs zs) b).1 ∈ ts) ∧
  ((ts.foldl (better cap phs zs) b).2 ≤ b.2 ∧ (b.2 = (ts.foldl (better cap phs zs) b).2 → (ts.foldl (better cap phs zs) b).1 ≤ b.1)) ∧
  ∀ t ∈ ts, (ts.foldl (better cap phs zs) b).2 ≤ cost cap phs zs t ∧ (cost cap phs zs t = (ts.foldl (better cap phs zs) b).2 → (ts.foldl (better cap phs zs) b).1 ≤ t)
 | [], b, hb => ⟨hb, .inl rfl, ⟨Int.le_refl _, fun _ => Int.le_refl _⟩, by simp⟩
 | t :: ts, b, hb => by
  have hbt : (better cap phs zs b t).2 = cost cap phs zs (better cap phs zs b t).1 ∧ ((better cap phs zs b t).1 = b.1 ∨ (better cap phs zs b t).1 = t) ∧ ((better cap phs zs b t).2 ≤ b.2 ∧ (b.2 = (better cap phs zs b t).2 → (better cap phs zs b t).1 ≤ b.1)) ∧
    ((better cap phs zs b t).2 ≤ cost cap phs zs t ∧ (cost cap phs zs t = (better cap phs zs b t).2 → (better cap phs zs b t).1 ≤ t)) := by
   unfold better
   split
   ·exact ⟨rfl, .inr rfl, ⟨by simp only []; omega, by simp only []; omega⟩, Int.le_refl _, fun _ => Int.le_refl _⟩
   ·exact ⟨hb, .inl rfl, ⟨Int.le_refl _, fun _ => Int.le_refl _⟩, by omega, by omega⟩
  obtain ⟨h1, h2, ⟨h3, h3'⟩, h4, h4'⟩ := hbt
  rw [List.foldl_cons]
  generalize better cap phs zs b t = c at *
  obtain ⟨k1, k2, ⟨k3, k3'⟩, k4⟩ := fold_better ts c h1
  generalize ts.foldl (better cap phs zs) c = r at *
  refine ⟨k1, ?_, ⟨by omega, by omega⟩, ?_⟩
  ·rcases k2 with k2 | k2
   ·rcases h2 with h2 | h2
    ·exact .inl (k2.trans h2)
    ·exact .inr (by rw [k2, h2]; exact List.mem_cons_self)
   ·exact .inr (List.mem_cons_of_mem _ k2)
  ·intro u hu
   rcases List.mem_cons.1 hu with rfl | hu
   ·exact ⟨by omega, by omega⟩
   ·exact k4 u hu
theorem best_spec {cap : Int} {phs : List Ph} {zs : List Zn} (h : 0 < zs.length) : (best cap phs zs).2 = cost cap phs zs (best cap phs zs).1 ∧ (best cap phs zs).1 ∈ timesOf zs ∧
  ∀ t ∈ timesOf zs, (best cap phs zs).2 ≤ cost cap phs zs t ∧ (cost cap phs zs t = (best cap phs zs).2 → (best cap phs zs).1 ≤ t) := by
 unfold best
 have hl := timesOf_length zs
 cases hT : timesOf zs with
 | nil => rw [hT] at hl; simp at hl; omega
 | cons t ts =>
  obtain ⟨k1, k2, ⟨k3, k3'⟩, k4⟩ := fold_better (cap := cap) (phs := phs) (zs := zs) ts (t, cost cap phs zs t) rfl
  unfold bestOf
  refine ⟨k1, ?_, fun u hu => ?_⟩
  ·rcases k2 with k2 | k2
   ·rw [k2]; exact List.mem_cons_self
   ·exact List.mem_cons_of_mem _ k2
  ·rcases List.mem_cons.1 hu with rfl | hu
   ·exact ⟨k3, fun e => k3' e⟩
   ·exact k4 u hu
end LMisP
section LMisQ
open Go.RowKit Rg
theorem goodPh.ok {a : Ph} (h : goodPh a) : phP a.x a.y a.z a.e a.l a.n = true :=
 phP_iff.2 ⟨place_ok h.1 (by omega), h.2.1, h.2.2.1, by have := h.2.2.2.1; omega, h.2.2.2.2.1, by have := h.2.2.2.2.2; omega⟩
theorem Near.zE {step : Int} {ls hs : List Int} {x0 y0 z0 x1 y1 z1 px py pz e l n : Int} (h : Near step ls hs x0 y0 z0 x1 y1 z1 px py pz) (hp : phP px py pz e l n = true) :
  znE step ls hs x0 y0 z0 x1 y1 z1 px py pz e l n = 0 ∧ znF step ls hs x0 y0 z0 x1 y1 z1 px py pz e l n = e - hiA step hs (ceilI (farD x0 y0 z0 x1 y1 z1 px py pz)) ∧ znT step ls hs x0 y0 z0 x1 y1 z1 px py pz e l n = l - loA step ls (floorI (nearD x0 y0 z0 x1 y1 z1 px py pz)) := by
 obtain ⟨a, b, c⟩ := h.bnd
 have he : znE step ls hs x0 y0 z0 x1 y1 z1 px py pz e l n = 0 := by unfold znE; rw [if_pos h.ok, if_pos h.vb, if_pos hp]; exact c
 unfold znF znT; rw [if_pos he, if_pos he, a, b]; exact ⟨he, rfl, rfl⟩
structure Good (P : Prob) : Prop where
 sound : Sound P
 near : ∀ a ∈ P.phs, Near P.step P.ls P.hs P.x0 P.y0 P.z0 P.x1 P.y1 P.z1 a.x a.y a.z
 ph : ∀ a ∈ P.phs, goodPh a
theorem good_mk {P : Prob} {side : Int} (hb : boxIn 20 side P.x0 P.y0 P.z0 P.x1 P.y1 P.z1) (hs : side ≤ 40) (hT : tOk P.step P.ls P.hs) (hr : 400 ≤ reachS P.step P.ls) (hc : P.cap ∈ ([10, 50, 200, 1000] : List Int)) (h0 : 0 < P.phs.length) (h1 : (P.phs.length : Int) ≤ 30) (hp : ∀ a ∈ P.phs, goodPh a) : Good P := by
 have nr : ∀ a ∈ P.phs, Near P.step P.ls P.hs P.x0 P.y0 P.z0 P.x1 P.y1 P.z1 a.x a.y a.z := fun a ha => near_mk hT hr hb (hp a ha).1 (by omega) hs (by omega)
 refine ⟨⟨boxIn_ok hb (by omega) (by omega), hT, ⟨h0, by omega⟩, ?_, fun a ha => ((nr a ha).zE (hp a ha).ok).1⟩, nr, hp⟩
 simp only [List.mem_cons, List.not_mem_nil, or_false] at hc
 omega
theorem Good.zones {P : Prob} (h : Good P) {b0 b1 b2 b3 b4 b5 : Int} (hw : wiP b0 b1 b2 b3 b4 b5 P.x0 P.y0 P.z0 P.x1 P.y1 P.z1 = true) : zonesE P b0 b1 b2 b3 b4 b5 = 0 := by
 unfold zonesE
 rw [if_pos (sound_iff.2 h.sound), if_pos hw]
 exact errOf_zero.2 fun a ha => (((h.near a ha).within hw).1.zE (h.ph a ha).ok).1
theorem zonesL_length (P : Prob) (b0 b1 b2 b3 b4 b5 : Int) : (zonesL P b0 b1 b2 b3 b4 b5).length = P.phs.length := by simp [zonesL]
theorem wiP_point {x0 y0 z0 x1 y1 z1 q r s : Int} (h : bP x0 y0 z0 x1 y1 z1 = true) (h0 : x0 ≤ q ∧ q ≤ x1) (h1 : y0 ≤ r ∧ r ≤ y1) (h2 : z0 ≤ s ∧ s ≤ z1) : wiP q r s q r s x0 y0 z0 x1 y1 z1 = true := by
 obtain ⟨v0, v1, o0, o1, o2⟩ := bP_iff h
 have i0 := vP_iff v0; have i1 := vP_iff v1
 have hv : vP q r s = true := vP_mk (by omega)
 exact wiP_iff.2 ⟨bP_mk hv hv (by omega) (by omega) (by omega), h, by omega, by omega, by omega, by omega, by omega, by omega⟩
end LMisQ
section LMisR
open Go.RowKit Rg
def mm (P : Prob) (b0 b1 b2 b3 b4 b5 : Int) : Int := (best P.cap P.phs (zonesL P b0 b1 b2 b3 b4 b5)).2
def tt (P : Prob) (x y z : Int) : Int := (best P.cap P.phs (zonesL P x y z x y z)).1
theorem Good.at {P : Prob} (h : Good P) {vl vh vp : Value} {cs : Array Value} (hcs : cs = P.val vl vh vp) (x y z : Int) (u : World) (hw : wiP x y z x y z P.x0 P.y0 P.z0 P.x1 P.y1 P.z1 = true) (hi : ProbIn P vl vh vp u) :
  Calls Tryz.prog 161 #[.agg cs, .agg #[x, y, z]] u fun e w' => e = .returned (.tuple #[.int .i64 (tt P x y z), .int .i64 (mm P x y z x y z), (0:Int)]) ∧ u.grownBy w' none := by
 have hb := at_any P vl vh vp x y z u hi (by have := h.sound.some; omega)
 unfold atV at hb
 rw [if_pos (h.zones hw)] at hb
 rw [hcs]; exact hb
end LMisR
end LMisP
section LMisZ
section LMisZ
open Go.RowKit Rg
def resL (zs : List Zn) (t : Int) : List Int := zs.map fun q => resid q t
theorem resL_take (zs : List Zn) (t : Int) (k : Nat) (h : k < zs.length) : resL (zs.take (k + 1)) t = resL (zs.take k) t ++ [resid zs[k] t] := by
 unfold resL; rw [List.take_succ_eq_append_getElem h, List.map_append]; rfl
set_option maxRecDepth 100000 in
set_option maxHeartbeats 2000000 in
theorem residuals_any (P : Prob) (vl vh vp : Value) (x y z t : Int) (w : World) (hi : ProbIn P vl vh vp w) (hbig : P.phs.length ≤ 1000000000) (h0 : zonesE P x y z x y z = 0) (ht0 : -18014398509481984 ≤ t) (ht1 : t ≤ 18014398509481984) :
  Calls Tryz.prog 46 #[.agg (P.val vl vh vp), .agg #[x, y, z], t] w fun e w' => ∃ v, e = .returned (.tuple #[v, (0:Int)]) ∧ Sl w' v (resL (zonesL P x y z x y z) t) ∧ w.grownBy w' none := by
 have hg0 := gb_alloc (gb_alloc (gb_refl w none) (.cells (P.val vl vh vp) 83)) (.cells #[x, y, z] 23)
 have hS := zonesE_sound h0
 have hfair := hS.fair x y z x y z
 have hsome : (zonesL P x y z x y z).length ≤ 64 ∧ 0 < (zonesL P x y z x y z).length := by have := hS.some; simp [zonesL]; omega
 have HI := zH (hi.after hg0); have HG0 := zH hg0
 obtain ⟨pa, pc, rfl⟩ := hi.p.slice
 obtain ⟨la, ln, lc, rfl⟩ := sl_slice hi.l
 obtain ⟨ha, hn, hc, rfl⟩ := sl_slice hi.h
 clear hi hg0 hS
 have HTAME := zH hfair.tame; clear hfair
 have HZ := zH (fun (u : World) hu => Zones_any P (.slice la ln lc) (.slice ha hn hc) (.slice pa P.phs.length pc) x y z x y z u hu hbig)
 rw [h0] at HZ
 clear h0
 generalize zonesL P x y z x y z = zs at *
 obtain ⟨x0, y0, z0, x1, y1, z1, step, ls, hs, phs, cap⟩ := P
 simp only [Prob.val] at *
 go_enter Tryz.func46, Tryz.ntmps46
 go_wp2_with fail
 generalize (w.alloc (.cells #[x0, y0, z0, x1, y1, z1, step, .slice la ln lc, .slice ha hn hc, .slice pa phs.length pc, cap] 83)).alloc (.cells #[x, y, z] 23) = w1 at *
 (with_reducible refine (HZ.out _ HI.out).mono ?_)
 rintro e w2 hZ
 rcases hZ with ⟨-, v, rfl, hsl, -, hg2⟩ | ⟨h0, -, -⟩
 rotate_left
 ·exact absurd rfl h0
 obtain ⟨zb, zoff, zcap, rfl, hzb, -⟩ := hsl.block hsome.2
 have HSL := zH hsl; have HG2 := zH (gb_trans HG0.out hg2)
 clear hsl hg2 HI HG0 HZ
 have D1 : decide (t < -18014398509481984) = false := by simp; omega
 have D2 : decide (18014398509481984 < t) = false := by simp; omega
 go_wp2_with (with_reducible refine wpList_makes rfl _ _ _ rfl w2.heap.size 3 (.int .i64 0) 1 8 Tryz.underlying26 Tryz.infoIntT _ zs.length rfl rfl rfl (by omega) (by omega) (by first | omega | simp) ?_; intro w3 hown hg3)
 have HOWN := zH hown; have HGW := zH hg3; clear hown hg3
 go_loopw [10, 35] (fun v i wr => ∃ k : Nat, k ≤ zs.length ∧ i = .int .i64 k ∧ wr.ownsRow w2.heap.size 3 1 v k ((resL (zs.take k) t).map (Value.int .i64)) ∧ w2.grownBy wr none) (fun _ i _ => zs.length - (intOf i).toNat)
 case atStart => exact ⟨0, by omega, rfl, by simpa [resL] using HOWN.out, HGW.out⟩
 case round =>
  obtain ⟨k, hk, rfl, hown, hgr⟩ := hrel
  have HOW := zH hown; clear hown
  by_cases hlt : k < zs.length
  ·obtain ⟨zb', zoff', zcap', hzv, hzb', hzc, hzm, hzcell⟩ := (HSL.out.after hgr).block hsome.2
   simp only [Value.slice.injEq, Option.some.injEq, Addr.mk.injEq, true_and, and_true] at hzv
   obtain ⟨⟨rfl, rfl⟩, rfl⟩ := hzv
   obtain ⟨d0, d1⟩ := SlC.zn hzcell k hlt
   have HTK := zH (resL_take zs t k hlt)
   have hT := HTAME.out k hlt
   rw [show zs[k]?.getD default = zs[k] by simp [hlt]] at hT
   clear hzcell
   generalize hzk : zs[k] = zk at *
   obtain ⟨zf, zt⟩ := zk
   simp only [Tame] at d0 d1 HTK hT
   clear hzk
   have HRES := zH (fun u => residual_any ⟨zf, zt⟩ t u hT.1 hT.2 (by omega))
   generalize resid ⟨zf, zt⟩ t = r at *
   clear hT
   have HOW2 := zH (HOW.out.alloc (.cells #[zf, zt] 97))
   have HGR := zH (gb_alloc hgr (.cells #[zf, zt] 97))
   clear hgr HOW
   go_wp2_with fail
   (with_reducible refine (HRES.out _).mono ?_)
   rintro e w5 ⟨rfl, hg5⟩
   have HOW5 := zH (owns_keep HOW2.out hg5); have HG5 := zH (gb_trans HGR.out hg5)
   have hgs := HG5.out.size
   have hlen : (resL (zs.take k) t).length = k := by simp [resL]; omega
   clear hg5 HOW2 HGR d0 d1 HRES
   have PUSH := zH (fun (v' : Value) (u : World) (h : u.ownsRow w2.heap.size 3 1 v' (k + 1) ((resL (zs.take k) t).map (Value.int .i64) ++ [.int .i64 r])) (hg : (w5.alloc (.cells #[.int .i64 r] 3)).grownBy u (u10).ownBlock) =>
    show u.ownsRow w2.heap.size 3 1 v' (k + 1) ((resL (zs.take (k + 1)) t).map (Value.int .i64)) ∧ w2.grownBy u none from
     ⟨by rw [HTK.out, List.map_append]; exact h, gb_new (gb_alloc HG5.out _) hg (fun q hq => (HOW5.out.lt q hq).1)⟩)
   go_wp2_with (at_builtin; refine wpList_push rfl _ _ 26 rfl w2.heap.size 3 (.int .i64 0) 1 8 Tryz.underlying26 Tryz.infoIntT rfl (by decide) (by decide) _ _ _ rfl (HOW5.out.alloc _) w5.heap.size 1 [.int .i64 r] 3 rfl (heap_alloc_new w5 _) rfl (by simp [Value.oneCell']) (by omega) (by simp; omega) ?_; intro v' w6 hown' hg')
   have HN := zH (PUSH.out v' w6 hown' hg')
   clear hown' hg' PUSH HOW5
   go_roundw
   case rel => exact ⟨k + 1, by omega, by go_num, HN.out.1, HN.out.2⟩
   case measure => simp [intOf]; omega
  ·obtain rfl : k = zs.length := by omega
   rw [List.take_length] at HOW
   obtain ⟨oa, oc, rfl⟩ := owns_slice HOW.out
   have HGE := zH (gb_trans HG2.out hgr)
   go_wp2_with fail
   exact bodyPost_ret (v := .tuple #[.slice oa zs.length oc, (0:Int)]) (by simp [results, Tryz.results46, go_sem]) rfl ⟨_, rfl, Sl_of_owns HOW.out (by simp [resL]), HGE.out⟩
abbrev isF (F : Value → World → Prop) : List Value → Value → World → Prop := fun _ v u => F v u
theorem rg_fixF {P : Program} {ops : Array Oper} {md : Region.Mode} {w0 : World} {sp : Nat → Option (List Value → Value → World → Prop)} {al : Nat → Bool} {N : Nat} {Q : List Oper → Act → Facts → Prop} {n k : Nat} {o : Oper} {l : List Oper} {a : Act} {f : Facts}
  (F : Value → World → Prop) (fid : FuncId) (args : Array Value) (hs : sp k = some (isF F)) (hw : Region.wanted o (yielded ops a.tmps) = true) (hal : al k = false) (hst : ∀ v u u', F v u → u.grownBy u' none → F v u')
  (hrun : ∀ w, (execOp a.eval o).run P w = .ok (.enter fid args) w)
  (hc : ∀ u, w0.grownBy u none → Calls P fid args u fun e w' => ∃ v, e = .returned v ∧ F v w' ∧ u.grownBy w' none)
  (h : ∀ v u, F v u → rLexL P md ops ⟨In (Made w0), Makes, sp, al, N⟩ Q n l (k + 1) (a.put o.dst v) (upd f k (F v))) :
  rLexL P md ops ⟨In (Made w0), Makes, sp, al, N⟩ Q (n + 1) (o :: l) k a f := by
 refine rLexL_spec (isF F) hs hw (fun v j w w' _ _ _ hR h => hst v w w' h hR) (fun w hC hd => stepTo_call (hrun w) ?_) ?_
 ·refine (hc w hC.out).mono ?_
  rintro e w' ⟨v, rfl, hF, hg⟩
  exact ⟨_, rfl, In.mk (gb_trans hC.out hg), hg, hF, fun e => by rw [hal] at e; cases e⟩
 ·intro v w hC hv
  exact h v w hv
end LMisZ
end LMisZ
end Go.Proofs.YtiebljanpnadjaaGreat
