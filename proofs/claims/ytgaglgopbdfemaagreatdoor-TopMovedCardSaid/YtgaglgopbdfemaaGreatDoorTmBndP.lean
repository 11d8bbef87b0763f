/- BndP -/
import Derived.Test.YtgaglgopbdfemaaGreatDoorTmRgPos
import Derived.Test.YtgaglgopbdfemaaGreatDoorTmBnd
namespace Go.Proofs.YtgaglgopbdfemaaGreatDoor
set_option linter.all false
section LReach24
open Go.RowKit
theorem sq_flip (a b : Int) : (a - b) * (a - b) = (b - a) * (b - a) := by grind
theorem near_sq {x lo hi q : Int} (h0 : lo ≤ q) (h1 : q ≤ hi) : nearS x lo hi * nearS x lo hi ≤ (x - q) * (x - q) := by
  rcases Int.le_total 0 (x - q) with h | h
  · exact sq_up (by unfold nearS; omega) (by unfold nearS; omega)
  · rw [sq_flip]; exact sq_up (by unfold nearS; omega) (by unfold nearS; omega)
theorem far_sq {x lo hi q : Int} (h0 : lo ≤ q) (h1 : q ≤ hi) : (x - q) * (x - q) ≤ farS x lo hi * farS x lo hi := by
  rcases Int.le_total 0 (x - q) with h | h
  · exact sq_up h (by unfold farS; omega)
  · rw [sq_flip]; exact sq_up (by omega) (by unfold farS; omega)
theorem near_at {x lo hi : Int} (h : lo ≤ hi) : ∃ q, lo ≤ q ∧ q ≤ hi ∧ (x - q) * (x - q) = nearS x lo hi * nearS x lo hi := by
  rcases Int.lt_or_le x lo with h1 | h1
  · exact ⟨lo, by omega, by omega, by rw [show nearS x lo hi = lo - x by unfold nearS; omega, sq_flip]⟩
  · rcases Int.lt_or_le hi x with h2 | h2
    · exact ⟨hi, by omega, by omega, by rw [show nearS x lo hi = x - hi by unfold nearS; omega]⟩
    · exact ⟨x, by omega, by omega, by rw [show nearS x lo hi = 0 by unfold nearS; omega]; simp⟩
theorem far_at {x lo hi : Int} (h : lo ≤ hi) : ∃ q, lo ≤ q ∧ q ≤ hi ∧ (x - q) * (x - q) = farS x lo hi * farS x lo hi := by
  rcases Int.le_total (hi - x) (x - lo) with h1 | h1
  · exact ⟨lo, by omega, by omega, by rw [show farS x lo hi = x - lo by unfold farS; omega]⟩
  · exact ⟨hi, by omega, by omega, by rw [show farS x lo hi = hi - x by unfold farS; omega, sq_flip]⟩
end LReach24
section LBndP
open Go.RowKit
theorem intV_ok {step : Int} {ls hs : List Int} {x0 y0 z0 x1 y1 z1 d : Int} (h : tOk step ls hs) (v0 : vP x0 y0 z0 = true) (v1 : vP x1 y1 z1 = true) (hd : sqD x0 y0 z0 x1 y1 z1 = d) (hr : ceilI d ≤ reachS step ls) :
    intV step ls hs x0 y0 z0 x1 y1 z1 = .tuple #[.int .i64 (loA step ls (floorI d)), .int .i64 (hiA step hs (ceilI d)), .int .i64 0] := by
  have h0 : 0 ≤ d := hd ▸ sqD_nonneg _ _ _ _ _ _
  unfold intV; rw [if_pos h, v0, v1, hd]; simp only [Bool.and_self, if_true]
  exact btw_good h h0 (Int.le_refl _) hr
theorem place_ok {m x y z : Int} (h : placeIn m x y z) (hm : m ≤ 10000) : vP x y z = true := by
  obtain ⟨a, b, c, d, e, f⟩ := h
  simp [vP]; omega
theorem sq_abs {d m : Int} (h0 : -m ≤ d) (h1 : d ≤ m) : d * d ≤ m * m := by
  rcases Int.le_total 0 d with h | h
  · exact Int.mul_le_mul h1 h1 h (by omega)
  · have := Int.mul_le_mul (a := -d) (b := -d) (c := m) (d := m) (by omega) (by omega) (by omega) (by omega)
    rwa [Int.neg_mul_neg] at this
theorem ceilI_mono {a b : Int} (h0 : 0 ≤ a) (h : a ≤ b) : ceilI a ≤ ceilI b := by
  obtain ⟨c0, c1⟩ := ceilI_sq_ge (n := b) (by omega)
  exact ceilI_le_root h0 (by omega) c0
/-- Times of a squared distance. -/
theorem low_mono {step : Int} {ls hs : List Int} {d d' : Int} (h : tOk step ls hs) (h0 : 0 ≤ d) (h1 : d ≤ d') (hf : d' ≤ 9223372036854775807) (hr : ceilI d' ≤ reachS step ls) : loA step ls (floorI d) ≤ loA step ls (floorI d') := by
  have k := (between_fits h (by omega : 0 ≤ d') (Int.le_refl _) hf hr).2.1
  exact (at0_mono h (loI_mono h.1 (floorI_mono h1)) k).1
theorem high_mono {step : Int} {ls hs : List Int} {d d' : Int} (h : tOk step ls hs) (h0 : 0 ≤ d) (h1 : d ≤ d') (hf : d' ≤ 9223372036854775807) (hr : ceilI d' ≤ reachS step ls) : hiA step hs (ceilI d) ≤ hiA step hs (ceilI d') := by
  have k := (between_fits h (by omega : 0 ≤ d') (Int.le_refl _) hf hr).2.2.2
  exact (at0_mono h (upI_mono h.1 (ceilI_mono h0 h1)) k).2
theorem low_high {step : Int} {ls hs : List Int} {d d' : Int} (h : tOk step ls hs) (h0 : 0 ≤ d) (h1 : d ≤ d') (hf : d' ≤ 9223372036854775807) (hr : ceilI d' ≤ reachS step ls) : loA step ls (floorI d) ≤ hiA step hs (ceilI d') := by
  have hfl := floorI_le (n := d') (by omega)
  have hcg : floorI d' ≤ ceilI d' := ceilI_ge d'
  have a := low_mono h h0 h1 hf hr
  have := grows_plain h hfl.1 hcg hr
  omega
theorem time_bounds {step : Int} {ls hs : List Int} {d : Int} (h : tOk step ls hs) (h0 : 0 ≤ d) (hf : d ≤ 9223372036854775807) (hr : ceilI d ≤ reachS step ls) : 0 ≤ loA step ls (floorI d) ∧ loA step ls (floorI d) ≤ 1099511627776 ∧ 0 ≤ hiA step hs (ceilI d) ∧ hiA step hs (ceilI d) ≤ 1099511627776 := by
  obtain ⟨-, k1, -, k2⟩ := between_fits h h0 (Int.le_refl _) hf hr
  have a := tOk_at h k1; have b := tOk_at h k2
  unfold loA hiA; omega
/-- A box within reach. -/
structure Near (step : Int) (ls hs : List Int) (x0 y0 z0 x1 y1 z1 px py pz : Int) : Prop where
  ok : tOk step ls hs
  vb : bP x0 y0 z0 x1 y1 z1 = true
  vp : vP px py pz = true
  reach : ceilI (farD x0 y0 z0 x1 y1 z1 px py pz) ≤ reachS step ls
theorem Near.bnd {step : Int} {ls hs : List Int} {x0 y0 z0 x1 y1 z1 px py pz : Int} (h : Near step ls hs x0 y0 z0 x1 y1 z1 px py pz) :
    bndA step ls hs x0 y0 z0 x1 y1 z1 px py pz = loA step ls (floorI (nearD x0 y0 z0 x1 y1 z1 px py pz)) ∧ bndB step ls hs x0 y0 z0 x1 y1 z1 px py pz = hiA step hs (ceilI (farD x0 y0 z0 x1 y1 z1 px py pz)) ∧ bndE step ls hs x0 y0 z0 x1 y1 z1 px py pz = 0 := by
  obtain ⟨n0, n1, n2⟩ := far_small h.vb h.vp
  have e : bndE step ls hs x0 y0 z0 x1 y1 z1 px py pz = 0 := by
    unfold bndE; rw [if_pos h.ok, h.vb, h.vp, nearP_ok h.vb h.vp, farP_ok h.vb h.vp]; exact btwE_ok h.ok n0 n1 h.reach
  unfold bndA bndB; rw [if_pos e, if_pos e, nearP_ok h.vb h.vp, farP_ok h.vb h.vp]
  exact ⟨rfl, rfl, e⟩
theorem Near.val {step : Int} {ls hs : List Int} {x0 y0 z0 x1 y1 z1 px py pz : Int} (h : Near step ls hs x0 y0 z0 x1 y1 z1 px py pz) :
    bndV step ls hs x0 y0 z0 x1 y1 z1 px py pz = .tuple #[.int .i64 (loA step ls (floorI (nearD x0 y0 z0 x1 y1 z1 px py pz))), .int .i64 (hiA step hs (ceilI (farD x0 y0 z0 x1 y1 z1 px py pz))), .int .i64 0] := by
  obtain ⟨a, b, c⟩ := h.bnd
  unfold bndV; rw [a, b, c]
/-- A box and a station of the statements. -/
theorem near_mk {step : Int} {ls hs : List Int} {x0 y0 z0 x1 y1 z1 px py pz a s q : Int} (ht : tOk step ls hs) (hr : 400 ≤ reachS step ls) (hb : boxIn a s x0 y0 z0 x1 y1 z1) (hp : placeIn q px py pz) (ha : a ≤ 60) (hsd : s ≤ 40) (hq : q ≤ 60) : Near step ls hs x0 y0 z0 x1 y1 z1 px py pz := by
  have vb := boxIn_ok hb (by omega) (by omega)
  have vp := place_ok hp (by omega)
  refine ⟨ht, vb, vp, ?_⟩
  obtain ⟨n0, n1, n2⟩ := far_small vb vp
  unfold boxIn placeIn at hb; unfold placeIn at hp
  have s0 := sq_abs (d := farS px x0 x1) (m := 160) (by unfold farS; omega) (by unfold farS; omega)
  have s1 := sq_abs (d := farS py y0 y1) (m := 160) (by unfold farS; omega) (by unfold farS; omega)
  have s2 := sq_abs (d := farS pz z0 z1) (m := 100) (by unfold farS; omega) (by unfold farS; omega)
  have : ceilI (farD x0 y0 z0 x1 y1 z1 px py pz) ≤ 400 := ceilI_le_root (by omega) (by unfold farD; omega) (by omega)
  omega
/-- A point of a box. -/
theorem near_point {x0 y0 z0 x1 y1 z1 px py pz q r s : Int} (h0 : x0 ≤ q ∧ q ≤ x1) (h1 : y0 ≤ r ∧ r ≤ y1) (h2 : z0 ≤ s ∧ s ≤ z1) : nearD x0 y0 z0 x1 y1 z1 px py pz ≤ sqD q r s px py pz ∧ sqD q r s px py pz ≤ farD x0 y0 z0 x1 y1 z1 px py pz := by
  have a := near_sq (x := px) h0.1 h0.2; have b := near_sq (x := py) h1.1 h1.2; have c := near_sq (x := pz) h2.1 h2.2
  have a' := far_sq (x := px) h0.1 h0.2; have b' := far_sq (x := py) h1.1 h1.2; have c' := far_sq (x := pz) h2.1 h2.2
  rw [sqD_comm]; unfold nearD farD sqD; omega
theorem near_is {x0 y0 z0 x1 y1 z1 px py pz : Int} (hx : x0 ≤ x1) (hy : y0 ≤ y1) (hz : z0 ≤ z1) : ∃ q r s, (x0 ≤ q ∧ q ≤ x1) ∧ (y0 ≤ r ∧ r ≤ y1) ∧ (z0 ≤ s ∧ s ≤ z1) ∧ sqD q r s px py pz = nearD x0 y0 z0 x1 y1 z1 px py pz := by
  obtain ⟨a, a0, a1, ea⟩ := near_at (x := px) hx
  obtain ⟨b, b0, b1, eb⟩ := near_at (x := py) hy
  obtain ⟨c, c0, c1, ec⟩ := near_at (x := pz) hz
  exact ⟨a, b, c, ⟨a0, a1⟩, ⟨b0, b1⟩, ⟨c0, c1⟩, by rw [sqD_comm]; unfold nearD sqD; rw [← ea, ← eb, ← ec]⟩
theorem far_is {x0 y0 z0 x1 y1 z1 px py pz : Int} (hx : x0 ≤ x1) (hy : y0 ≤ y1) (hz : z0 ≤ z1) : ∃ q r s, (x0 ≤ q ∧ q ≤ x1) ∧ (y0 ≤ r ∧ r ≤ y1) ∧ (z0 ≤ s ∧ s ≤ z1) ∧ sqD q r s px py pz = farD x0 y0 z0 x1 y1 z1 px py pz := by
  obtain ⟨a, a0, a1, ea⟩ := far_at (x := px) hx
  obtain ⟨b, b0, b1, eb⟩ := far_at (x := py) hy
  obtain ⟨c, c0, c1, ec⟩ := far_at (x := pz) hz
  exact ⟨a, b, c, ⟨a0, a1⟩, ⟨b0, b1⟩, ⟨c0, c1⟩, by rw [sqD_comm]; unfold farD sqD; rw [← ea, ← eb, ← ec]⟩
/-- One point as a box. -/
theorem one_near (q r s px py pz : Int) : nearD q r s q r s px py pz = sqD q r s px py pz ∧ farD q r s q r s px py pz = sqD q r s px py pz := by
  have a := near_point (px := px) (py := py) (pz := pz) (x0 := q) (x1 := q) (y0 := r) (y1 := r) (z0 := s) (z1 := s) (q := q) (r := r) (s := s) ⟨Int.le_refl _, Int.le_refl _⟩ ⟨Int.le_refl _, Int.le_refl _⟩ ⟨Int.le_refl _, Int.le_refl _⟩
  obtain ⟨q', r', s', h0, h1, h2, e⟩ := near_is (x0 := q) (x1 := q) (y0 := r) (y1 := r) (z0 := s) (z1 := s) (px := px) (py := py) (pz := pz) (Int.le_refl _) (Int.le_refl _) (Int.le_refl _)
  obtain ⟨q2, r2, s2, k0, k1, k2, e2⟩ := far_is (x0 := q) (x1 := q) (y0 := r) (y1 := r) (z0 := s) (z1 := s) (px := px) (py := py) (pz := pz) (Int.le_refl _) (Int.le_refl _) (Int.le_refl _)
  obtain rfl : q' = q := by omega
  obtain rfl : r' = r := by omega
  obtain rfl : s' = s := by omega
  obtain rfl : q2 = q' := by omega
  obtain rfl : r2 = r' := by omega
  obtain rfl : s2 = s' := by omega
  exact ⟨e.symm, e2.symm⟩
/-- What a box within reach is to its points. -/
theorem Near.point {step : Int} {ls hs : List Int} {x0 y0 z0 x1 y1 z1 px py pz q r s : Int} (h : Near step ls hs x0 y0 z0 x1 y1 z1 px py pz) (h0 : x0 ≤ q ∧ q ≤ x1) (h1 : y0 ≤ r ∧ r ≤ y1) (h2 : z0 ≤ s ∧ s ≤ z1) :
    vP q r s = true ∧ ceilI (sqD q r s px py pz) ≤ reachS step ls ∧ loA step ls (floorI (nearD x0 y0 z0 x1 y1 z1 px py pz)) ≤ loA step ls (floorI (sqD q r s px py pz)) ∧ hiA step hs (ceilI (sqD q r s px py pz)) ≤ hiA step hs (ceilI (farD x0 y0 z0 x1 y1 z1 px py pz)) ∧
      intV step ls hs q r s px py pz = .tuple #[.int .i64 (loA step ls (floorI (sqD q r s px py pz))), .int .i64 (hiA step hs (ceilI (sqD q r s px py pz))), .int .i64 0] := by
  obtain ⟨n0, n1, n2⟩ := far_small h.vb h.vp
  obtain ⟨a, b⟩ := near_point (px := px) (py := py) (pz := pz) h0 h1 h2
  obtain ⟨v0, v1, o0, o1, o2⟩ := bP_iff h.vb
  have i0 := vP_iff v0; have i1 := vP_iff v1
  have hv : vP q r s = true := vP_mk (by omega)
  have hc : ceilI (sqD q r s px py pz) ≤ reachS step ls := Int.le_trans (ceilI_mono (by omega) b) h.reach
  exact ⟨hv, hc, low_mono h.ok n0 a (by omega) hc, high_mono h.ok (by omega) b (by omega) h.reach, intV_ok h.ok hv h.vp rfl hc⟩
theorem Near.one {step : Int} {ls hs : List Int} {x0 y0 z0 x1 y1 z1 px py pz q r s : Int} (h : Near step ls hs x0 y0 z0 x1 y1 z1 px py pz) (h0 : x0 ≤ q ∧ q ≤ x1) (h1 : y0 ≤ r ∧ r ≤ y1) (h2 : z0 ≤ s ∧ s ≤ z1) : Near step ls hs q r s q r s px py pz := by
  obtain ⟨v, c, -, -, -⟩ := h.point h0 h1 h2
  exact ⟨h.ok, bP_mk v v (Int.le_refl _) (Int.le_refl _) (Int.le_refl _), h.vp, by rw [(one_near q r s px py pz).2]; exact c⟩
/-- A box within a box. -/
theorem Near.within {step : Int} {ls hs : List Int} {x0 y0 z0 x1 y1 z1 px py pz a0 b0 c0 a1 b1 c1 : Int} (h : Near step ls hs x0 y0 z0 x1 y1 z1 px py pz) (hw : wiP a0 b0 c0 a1 b1 c1 x0 y0 z0 x1 y1 z1 = true) :
    Near step ls hs a0 b0 c0 a1 b1 c1 px py pz ∧ loA step ls (floorI (nearD x0 y0 z0 x1 y1 z1 px py pz)) ≤ loA step ls (floorI (nearD a0 b0 c0 a1 b1 c1 px py pz)) ∧ hiA step hs (ceilI (farD a0 b0 c0 a1 b1 c1 px py pz)) ≤ hiA step hs (ceilI (farD x0 y0 z0 x1 y1 z1 px py pz)) := by
  obtain ⟨va, -, hx0, hx1, hy0, hy1, hz0, hz1⟩ := wiP_iff.1 hw
  obtain ⟨v0, v1, o0, o1, o2⟩ := bP_iff va
  have nu := near_up (px := px) (py := py) (pz := pz) ⟨hx0, hx1⟩ ⟨hy0, hy1⟩ ⟨hz0, hz1⟩
  have fu := far_up (px := px) (py := py) (pz := pz) ⟨hx0, o0, hx1⟩ ⟨hy0, o1, hy1⟩ ⟨hz0, o2, hz1⟩
  obtain ⟨n0, n1, n2⟩ := far_small h.vb h.vp
  obtain ⟨k0, k1, k2⟩ := far_small va h.vp
  have hr := Int.le_trans (ceilI_mono (by omega) fu) h.reach
  exact ⟨⟨h.ok, va, h.vp, hr⟩, low_mono h.ok n0 nu (by omega) (Int.le_trans (ceilI_mono k0 k1) hr), high_mono h.ok (by omega) fu (by omega) h.reach⟩
end LBndP
end Go.Proofs.YtgaglgopbdfemaaGreatDoor
