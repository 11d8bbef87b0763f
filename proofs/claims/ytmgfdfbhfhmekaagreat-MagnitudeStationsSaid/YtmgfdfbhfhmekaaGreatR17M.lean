/- ref17: From. -/
import Derived.Test.YtmgfdfbhfhmekaaGreatNatA
import Derived.Test.YtmgfdfbhfhmekaaGreatRsp
import Derived.Test.YtmgfdfbhfhmekaaGreatNatT
namespace Go.Proofs.YtmgfdfbhfhmekaaGreat
set_option linter.all false
section LR17
open Go.RowKit Rg

def lim17 (m k : Nat) : Prop := (k = 0 ∧ m < 1237940039285380274899124224) ∨ (k = 1 ∧ m < 1152921504606846976) ∨ (k = 2 ∧ m < 1073741824) ∨ (k = 3 ∧ m = 0)
set_option maxHeartbeats 1000000 in
theorem rfrom_nat (N : Nat) (w : World) (h : N < 9223372036854775808) :
    Calls Tryz.prog 93 #[.int .i64 N] w fun e w' => ∃ v, e = .returned (.tuple #[v, .int .i64 0]) ∧ Sl w' v (natL N) ∧ w.grownBy w' none := by
  have hneg : decide ((N : Int) < 0) = false := decide_eq_false (by omega)
  have HN := Lib.hid h
  go_enter Tryz.func93, Tryz.ntmps93
  go_wp2_with fail
  go_loopw [0, 4] (fun n o wr => ∃ (m : Nat) (ys : List Int), n = .int .i64 m ∧ lim17 m ys.length ∧ m < 9223372036854775808 ∧ natL N = ys ++ natL m ∧ wr.ownsRow w.heap.size 3 1 o ys.length (ys.map (Value.int .i64)) ∧ w.grownBy wr none) (fun n _ _ => (intOf n).toNat)
  case atStart => exact ⟨N, [], rfl, .inl ⟨rfl, by omega⟩, h, rfl, World.ownsRow_nil _ _ _ _, gb_refl _ _⟩
  case round =>
    obtain ⟨m, ys, rfl, hlim, hm, hnat, hown, hgr⟩ := hrel
    obtain ⟨oa, oc, rfl⟩ := owns_slice hown
    have HLIM := Lib.hid hlim; have HNT := Lib.hid hnat; have HO := Lib.hid hown; have HG := Lib.hid hgr
    clear hlim hnat hown
    by_cases h0 : 0 < m
    · have hd : decide ((m : Int) > 0) = true := decide_eq_true (by omega)
      have hlen : ys.length ≤ 2 := by rcases HLIM.out with h | h | h | h <;> omega
      have hr : (m : Int).tmod 1073741824 = ((m % 1073741824 : Nat) : Int) := by rw [Int.tmod_eq_emod_of_nonneg (by omega)]; omega
      have hq : (m : Int).tdiv 1073741824 = ((m / 1073741824 : Nat) : Int) := by rw [Int.tdiv_eq_ediv_of_nonneg (by omega)]; omega
      have HR := Lib.hid hr; have HQ := Lib.hid hq
      have hsz := HG.out.size
      clear hgr
      clear hr hq
      have hr := HR.out
      go_wp2_with (at_builtin; go_loud (refine wpList_push rfl _ _ 66 rfl w.heap.size 3 (.int .i64 0) 1 8 Tryz.underlying66 Tryz.infoIntR rfl (by decide) (by decide) (.slice oa ys.length oc) ys.length (ys.map (Value.int .i64)) rfl (HO.out.alloc _) wr.heap.size 1 [.int .i64 ((m : Int) % 1073741824)] 3 rfl (heap_alloc_new _ _) rfl (by simp [Value.oneCell']) (by omega) (by simp; omega) ?_); refine Hid.out ?_)
      refine Lib.hid ?_
      intro v' w4 hown' hg'
      have R1 : Hid (w4.ownsRow w.heap.size 3 1 v' (ys ++ [(m : Int) % 1073741824]).length ((ys ++ [(m : Int) % 1073741824]).map (Value.int .i64))) := Lib.hid (by rw [List.length_append, List.map_append]; exact hown')
      have R2 := Lib.hid (push_grown HG.out HO.out (Nat.le_refl _) hg')
      have HNX : Hid (natL N = (ys ++ [(m : Int) % 1073741824]) ++ natL (m / 1073741824)) := Lib.hid (by rw [HNT.out, natL_pos (by omega), List.append_assoc]; simp)
      clear hown' hg' hr
      have hq := HQ.out
      go_wp2_with fail
      go_roundw
      case rel => exact ⟨m / 1073741824, _, rfl, by have := HLIM.out; unfold lim17 at *; simp only [List.length_append, List.length_singleton]; omega, by omega, HNX.out, R1.out, R2.out⟩
      case measure => simp [intOf]; omega
    · have hd : decide ((m : Int) > 0) = false := decide_eq_false (by omega)
      have hm0 : m = 0 := by omega
      have HE : Hid (natL N = ys) := Lib.hid (by rw [HNT.out, hm0, natL_zero, List.append_nil])
      clear hm0 hgr
      go_wp2_with fail
      go_ret2
      exact ⟨_, rfl, by rw [HE.out]; exact Sl_of_owns HO.out rfl, HG.out⟩
set_option maxHeartbeats 1000000 in
theorem rtrim_any (xs : List Int) (v : Value) (w : World) (hs : Sl w v xs) (hl : xs.length ≤ 1000000) :
    Calls Tryz.prog 114 #[v] w (Trim xs w) := by
  have HS := Lib.hid hs
  by_cases h0 : 0 < xs.length
  · obtain ⟨b, off, cap, rfl, hb, hn, hm, hc⟩ := hs.block h0
    have HC := Lib.hid hc
    clear hs hc
    go_enter Tryz.func114, Tryz.ntmps114
    go_wp2_with fail
    go_loopw [0] (fun v wr => ∃ k : Nat, k ≤ xs.length ∧ v = .slice (some ⟨b, off, none⟩) k cap ∧ (∀ j, k ≤ j → j < xs.length → xs[j]?.getD 0 = 0) ∧ w = wr) (fun v _ => slLen v)
    case atStart => exact ⟨xs.length, Nat.le_refl _, rfl, fun j h1 h2 => by omega, rfl⟩
    case round =>
      obtain ⟨k, hk, rfl, hz, rfl⟩ := hrel
      by_cases hk0 : k = 0
      · subst hk0
        have HZ := Lib.hid hz; clear hz
        go_wp2
        go_ret
        exact ⟨0, _, rfl, rfl, HS.out.take (Nat.zero_le _), Nat.zero_le _, HZ.out, fun h => absurd h (by omega)⟩
      obtain ⟨m, rfl⟩ : ∃ m, k = m + 1 := ⟨k - 1, by omega⟩
      have hx : w.cell? ⟨b, off + m, none⟩ = some (.int .i64 (xs[m]?.getD 0)) := HC.out m (by omega)
      have hw_ : IntKind.i64.wrap (((m + 1 : Nat) : Int) - 1) = (m : Int) := by rw [IntKind.wrap_i64]; omega
      have hw2 : IntKind.i64.wrap ((m : Int) + 1 - 1) = (m : Int) := by rw [IntKind.wrap_i64]; omega
      have HZ := Lib.hid hz; clear hz
      by_cases hz0 : xs[m]?.getD 0 = 0
      · have HZ0 := Lib.hid hz0
        rw [hz0] at hx
        clear hz0
        go_wp2_with fail
        go_roundw
        case rel => exact ⟨m, by omega, rfl, fun j h1 h2 => by
          by_cases e : j = m
          · subst e; exact HZ0.out
          · exact HZ.out j (by omega) h2, trivial⟩
        case measure => simp [slLen]
      · have hne : (xs[m]?.getD 0 == 0) = false := by simpa using hz0
        have HN := Lib.hid hz0; clear hz0
        generalize hd : xs[m]?.getD 0 = d at *
        have HD := Lib.hid hd; clear hd
        go_wp2
        go_ret
        exact ⟨m + 1, _, rfl, rfl, HS.out.take (by omega), by omega, HZ.out, fun _ => by rw [Nat.add_sub_cancel, HD.out]; exact HN.out⟩
  · obtain rfl : xs = [] := List.length_eq_zero_iff.1 (by omega)
    obtain ⟨a, cap, rfl⟩ := hs.shape
    clear hs
    go_enter Tryz.func114, Tryz.ntmps114
    go_wp2_with fail
    go_loopw [0] (fun v wr => v = .slice a ([] : List Int).length cap ∧ w = wr) (fun v _ => slLen v)
    case atStart => exact ⟨rfl, rfl⟩
    case round =>
      obtain ⟨rfl, rfl⟩ := hrel
      go_wp2
      go_ret
      exact ⟨0, _, rfl, rfl, by simpa using HS.out, Nat.le_refl _, fun j _ h => absurd h (by simp), fun h => absurd h (by omega)⟩
theorem rlimited_any (xs : List Int) (v : Value) (w : World) (hs : Sl w v xs) (hl : xs.length ≤ 64) :
    Calls Tryz.prog 95 #[v] w fun e w' => e = .returned (.tuple #[v, .int .i64 0]) ∧ w = w' := by
  obtain ⟨a, c, rfl⟩ := hs.shape
  generalize xs.length = n at *
  have hnot : ¬ 64 < n := by omega
  have hd : decide ((n : Int) > 64) = false := decide_eq_false (by omega)
  clear hs
  go_enter Tryz.func95, Tryz.ntmps95
  go_wp2_with fail
  go_ret2
  exact ⟨rfl, rfl⟩
end LR17
section LR17a
open Go.RowKit Rg

def Top17 (xs ys os : List Int) (k : Nat) (c : Int) : Prop := c = 0 → xs.length ≤ k → ys.length ≤ k → 0 < k → os[k - 1]?.getD 0 ≠ 0
theorem Top17.step {xs ys os : List Int} {k : Nat} {c m n : Int} (hx : IsNat xs m) (hy : IsNat ys n) (h : SumAt xs ys os k c) (hc : k < xs.length ∨ k < ys.length ∨ 0 < c) :
    Top17 xs ys (os ++ [(c + (xs[k]?.getD 0 + ys[k]?.getD 0)) % 1073741824]) (k + 1) ((c + (xs[k]?.getD 0 + ys[k]?.getD 0)) / 1073741824) := by
  intro h0 h1 h2 _
  have e : (os ++ [(c + (xs[k]?.getD 0 + ys[k]?.getD 0)) % 1073741824])[k + 1 - 1]?.getD 0 = (c + (xs[k]?.getD 0 + ys[k]?.getD 0)) % 1073741824 := by
    rw [Nat.add_sub_cancel, List.getElem?_append_right (by rw [h.len]; omega), h.len]; simp
  rw [e]
  have a1 := hx.dig.at k; have a2 := hy.dig.at k; have a3 := h.c0
  have b1 : k < xs.length → xs[k]?.getD 0 ≠ 0 := fun hk => by
    have := hx.top (List.ne_nil_of_length_pos (by omega))
    rwa [show xs.length - 1 = k by omega] at this
  have b2 : k < ys.length → ys[k]?.getD 0 ≠ 0 := fun hk => by
    have := hy.top (List.ne_nil_of_length_pos (by omega))
    rwa [show ys.length - 1 = k by omega] at this
  rcases hc with hc | hc | hc
  · have := b1 hc; omega
  · have := b2 hc; omega
  · omega
theorem SumAt.fin {xs ys os : List Int} {k : Nat} {m n : Int} (hx : IsNat xs m) (hy : IsNat ys n) (h : SumAt xs ys os k 0) (ht : Top17 xs ys os k 0) (h1 : xs.length ≤ k) (h2 : ys.length ≤ k) : IsNat os (m + n) := by
  refine ⟨h.dig, fun h0 => ?_, ?_⟩
  · have := ht rfl h1 h2 (by rw [← h.len]; exact List.length_pos_iff.2 h0)
    rwa [h.len]
  · have := h.val
    rw [List.take_of_length_le h1, List.take_of_length_le h2, hx.val, hy.val] at this
    simpa using this
-- radd
theorem SumAt.c_zero {xs ys os : List Int} {N : Nat} {c : Int} {m n : Int} (h : SumAt xs ys os (N + 1) c) (hx : xs.length ≤ N) (hy : ys.length ≤ N) (hm : IsNat xs m) (hn : IsNat ys n) : c = 0 := by
  have h1 := h.out hx hy hm hn
  have hv := h.val
  rw [List.take_of_length_le (by omega), List.take_of_length_le (by omega), hm.val, hn.val, h1] at hv
  have := bpow_pos (N + 1)
  have h0 : bpow (N + 1) * c = 0 := by omega
  rcases Int.mul_eq_zero.1 h0 with h | h <;> omega
theorem Sl.form17 {w : World} {v : Value} {xs : List Int} (h : Sl w v xs) : ∃ a c, v = .slice a xs.length c ∧ (0 < xs.length → ∃ b o, a = some ⟨b, o, none⟩ ∧ b < w.heap.size ∧ ∀ k, k < xs.length → w.cell? ⟨b, o + k, none⟩ = some (.int .i64 (xs[k]?.getD 0))) := by
  obtain ⟨a, c, rfl⟩ := h.shape
  refine ⟨a, c, rfl, fun h0 => ?_⟩
  obtain ⟨b, off, cap, e, hb, -, -, hc⟩ := h.block h0
  simp only [Value.slice.injEq, true_and] at e
  exact ⟨b, off, e.1, hb, hc⟩
set_option maxRecDepth 100000 in
set_option maxHeartbeats 4000000 in
theorem radd_nat (xs ys : List Int) (v u : Value) (m n : Int) (w : World) (h1 : Sl w v xs) (h2 : Sl w u ys) (hm : IsNat xs m) (hn : IsNat ys n) (hx : xs.length ≤ 64) (hy : ys.length ≤ 64) (hmn : m + n < bpow 64) :
    Calls Tryz.prog 94 #[v, u] w fun e w' => ∃ v' zs, e = .returned (.tuple #[v', .int .i64 0]) ∧ Sl w' v' zs ∧ IsNat zs (m + n) ∧ zs.length ≤ 64 ∧ w.grownBy w' none := by
  have A := Lib.hid (rnvalid_any xs v w h1); have B := Lib.hid (rnvalid_any ys u w h2)
  rw [hm.valid hx] at A; rw [hn.valid hy] at B
  obtain ⟨N, hN, hNx, hNy⟩ : ∃ N : Nat, N ≤ 64 ∧ xs.length ≤ N ∧ ys.length ≤ N := ⟨max xs.length ys.length, by omega, by omega, by omega⟩
  obtain ⟨a1, c1, rfl, hX⟩ := h1.form17; obtain ⟨a2, c2, rfl, hY⟩ := h2.form17
  have HX := Lib.hid hX; have HY := Lib.hid hY
  have HLX := Lib.hid (Nat.le_refl xs.length); have HLY := Lib.hid (Nat.le_refl ys.length)
  have STEP := Lib.hid (fun (os : List Int) (k : Nat) (c : Int) (h : SumAt xs ys os k c) => h.step hm.dig hn.dig)
  have TOP := Lib.hid (fun (os : List Int) (k : Nat) (c : Int) (h : SumAt xs ys os k c) (hc : k < xs.length ∨ k < ys.length ∨ 0 < c) => Top17.step hm hn h hc)
  have FIN := Lib.hid (fun (os : List Int) (k : Nat) (h : SumAt xs ys os k 0) (ht : Top17 xs ys os k 0) (q1 : xs.length ≤ k) (q2 : ys.length ≤ k) => SumAt.fin hm hn h ht q1 q2)
  have CAR := Lib.hid (fun (os : List Int) (c : Int) (h : SumAt xs ys os (N + 1) c) => h.c_zero hNx hNy hm hn)
  have START := Lib.hid (show SumAt xs ys [] 0 0 from ⟨rfl, by intro z hz; simp at hz, by omega, by omega, by simp [valL]⟩)
  have HNN := Lib.hid (And.intro hN (And.intro hNx hNy)); have HMN := Lib.hid hmn
  have DIG := Lib.hid (And.intro (fun k => hm.dig.at k) (fun k => hn.dig.at k))
  have HVM := Lib.hid (And.intro hm.val hn.val)
  clear h1 h2 hm hn hmn hNx hNy hX hY hx hy
  generalize hlx : xs.length = lx at *
  generalize hly : ys.length = ly at *
  have LX := Lib.hid hlx; have LY := Lib.hid hly
  clear hlx hly
  go_enter Tryz.func94, Tryz.ntmps94
  go_wp2_with fail
  (with_reducible refine A.out.mono ?_)
  rintro e w' ⟨rfl, rfl⟩
  go_wp2_with fail
  (with_reducible refine B.out.mono ?_)
  rintro e w' ⟨rfl, rfl⟩
  go_wp2_with fail
  go_loopw [6, 7, 8] (fun o c i wr => ∃ (k : Nat) (cy : Int) (os : List Int), k ≤ N + 1 ∧ i = .int .i64 k ∧ c = .int .i64 cy ∧ SumAt xs ys os k cy ∧ Top17 xs ys os k cy ∧ wr.ownsRow w.heap.size 3 1 o os.length (os.map (Value.int .i64)) ∧ w.grownBy wr none) (fun _ _ i _ => N + 1 - (intOf i).toNat)
  case atStart => exact ⟨0, 0, [], by omega, rfl, rfl, START.out, fun _ _ _ h => absurd h (by omega), World.ownsRow_nil _ _ _ _, gb_refl _ _⟩
  case round =>
    obtain ⟨k, cy, os, hk, rfl, rfl, hS, hT, hown, hgr⟩ := hrel
    obtain ⟨s0, s1, s2, s3, hS2⟩ := STEP.out os k cy hS
    have HLEN := Lib.hid hS.len
    have hc0 := hS.c0; have hc1 := hS.c1
    have HOW := Lib.hid hown; have HGR := Lib.hid hgr; have HS2 := Lib.hid hS2
    clear hown hgr hS2
    by_cases hkx : k < lx
    · have d1_ : decide ((k : Int) < (lx : Int)) = true := decide_eq_true (by omega)
      have HT2 := Lib.hid (TOP.out os k cy hS (.inl hkx))
      have HKN : Hid (k < N + 1) := Lib.hid (by have := HNN.out.2.1; have := LX.out; omega)
      clear hT hS
      by_cases hky : k < ly
      · have d2_ : decide ((k : Int) < (ly : Int)) = true := decide_eq_true (by omega)
        obtain ⟨b1, o1, hsa1, hb1, hc1⟩ := HX.out (by omega)
        have hx_ : wr.cell? ⟨b1, o1 + k, none⟩ = some (.int .i64 (xs[k]?.getD 0)) := (gb_cell HGR.out hb1 (by simp)).trans (hc1 k hkx)
        have hbx_ : b1 < wr.heap.size := Nat.lt_of_lt_of_le hb1 HGR.out.size
        clear hb1 hc1
        obtain ⟨b2, o2, hsa2, hb2, hc2⟩ := HY.out (by omega)
        have hy_ : wr.cell? ⟨b2, o2 + k, none⟩ = some (.int .i64 (ys[k]?.getD 0)) := (gb_cell HGR.out hb2 (by simp)).trans (hc2 k hky)
        have hby_ : b2 < wr.heap.size := Nat.lt_of_lt_of_le hb2 HGR.out.size
        clear hb2 hc2
        have dx_ := DIG.out.1 k
        have dy_ := DIG.out.2 k
        generalize xs[k]?.getD 0 = x at *
        generalize ys[k]?.getD 0 = y at *
        obtain ⟨z, hz⟩ : ∃ z, (cy + (x + y)) = z := ⟨_, rfl⟩
        rw [hz] at s0 s1 HS2 HT2
        have w1_ : IntKind.i64.wrap (cy + x) = cy + x := by rw [IntKind.wrap_i64]; omega
        have w2_ : IntKind.i64.wrap (cy + x + y) = z := by rw [IntKind.wrap_i64]; omega
        clear hz s2 s3 dx_ dy_
        have hrm : z.tmod 1073741824 = z % 1073741824 := by rw [Int.tmod_eq_emod_of_nonneg (by omega)]
        have hqt : z.tdiv 1073741824 = z / 1073741824 := by rw [Int.tdiv_eq_ediv_of_nonneg (by omega)]
        have hsz := HGR.out.size
        go_wp2_with (at_builtin; (refine wpList_push rfl _ _ 66 rfl w.heap.size 3 (.int .i64 0) 1 8 Tryz.underlying66 Tryz.infoIntR rfl (by decide) (by decide) _ _ _ rfl (HOW.out.alloc _) wr.heap.size 1 [.int .i64 (z % 1073741824)] 3 rfl (heap_alloc_new _ _) rfl (by simp [Value.oneCell']) (by have := HLEN.out; have := HNN.out.1; omega) (by simp; omega) ?_); refine Hid.out ?_)
        refine Lib.hid ?_
        intro v' w4 hown' hg'
        have R1 := Lib.hid (owns_snoc hown' rfl)
        have R2 := Lib.hid (push_grown HGR.out HOW.out (Nat.le_refl _) hg')
        clear hown' hg' HOW HGR
        rw [← hsa1]
        clear hsa1
        rw [← hsa2]
        clear hsa2
        go_wp2_with fail
        go_roundw
        case rel => exact ⟨k + 1, z / 1073741824, _, by have := HKN.out; omega, by go_num, rfl, HS2.out, HT2.out, R1.out, R2.out⟩
        case measure => have := HKN.out; simp [intOf]; omega
      · have d2_ : decide ((k : Int) < (ly : Int)) = false := decide_eq_false (by omega)
        obtain ⟨b1, o1, hsa1, hb1, hc1⟩ := HX.out (by omega)
        have hx_ : wr.cell? ⟨b1, o1 + k, none⟩ = some (.int .i64 (xs[k]?.getD 0)) := (gb_cell HGR.out hb1 (by simp)).trans (hc1 k hkx)
        have hbx_ : b1 < wr.heap.size := Nat.lt_of_lt_of_le hb1 HGR.out.size
        clear hb1 hc1
        have ey : ys[k]?.getD 0 = 0 := by rw [List.getElem?_eq_none (by have := LY.out; omega)]; rfl
        rw [ey] at s0 s1 s2 s3 HS2 HT2
        have dx_ := DIG.out.1 k
        generalize xs[k]?.getD 0 = x at *
        obtain ⟨z, hz⟩ : ∃ z, (cy + (x + 0)) = z := ⟨_, rfl⟩
        rw [hz] at s0 s1 HS2 HT2
        have w1_ : IntKind.i64.wrap (cy + x) = z := by rw [IntKind.wrap_i64]; omega
        clear hz s2 s3 dx_
        have hrm : z.tmod 1073741824 = z % 1073741824 := by rw [Int.tmod_eq_emod_of_nonneg (by omega)]
        have hqt : z.tdiv 1073741824 = z / 1073741824 := by rw [Int.tdiv_eq_ediv_of_nonneg (by omega)]
        have hsz := HGR.out.size
        go_wp2_with (at_builtin; (refine wpList_push rfl _ _ 66 rfl w.heap.size 3 (.int .i64 0) 1 8 Tryz.underlying66 Tryz.infoIntR rfl (by decide) (by decide) _ _ _ rfl (HOW.out.alloc _) wr.heap.size 1 [.int .i64 (z % 1073741824)] 3 rfl (heap_alloc_new _ _) rfl (by simp [Value.oneCell']) (by have := HLEN.out; have := HNN.out.1; omega) (by simp; omega) ?_); refine Hid.out ?_)
        refine Lib.hid ?_
        intro v' w4 hown' hg'
        have R1 := Lib.hid (owns_snoc hown' rfl)
        have R2 := Lib.hid (push_grown HGR.out HOW.out (Nat.le_refl _) hg')
        clear hown' hg' HOW HGR
        rw [← hsa1]
        clear hsa1
        go_wp2_with fail
        go_roundw
        case rel => exact ⟨k + 1, z / 1073741824, _, by have := HKN.out; omega, by go_num, rfl, HS2.out, HT2.out, R1.out, R2.out⟩
        case measure => have := HKN.out; simp [intOf]; omega
    · have d1_ : decide ((k : Int) < (lx : Int)) = false := decide_eq_false (by omega)
      by_cases hky : k < ly
      · have d2_ : decide ((k : Int) < (ly : Int)) = true := decide_eq_true (by omega)
        have HT2 := Lib.hid (TOP.out os k cy hS (.inr (.inl hky)))
        have HKN : Hid (k < N + 1) := Lib.hid (by have := HNN.out.2.2; have := LY.out; omega)
        clear hT hS
        have ex : xs[k]?.getD 0 = 0 := by rw [List.getElem?_eq_none (by have := LX.out; omega)]; rfl
        obtain ⟨b2, o2, hsa2, hb2, hc2⟩ := HY.out (by omega)
        have hy_ : wr.cell? ⟨b2, o2 + k, none⟩ = some (.int .i64 (ys[k]?.getD 0)) := (gb_cell HGR.out hb2 (by simp)).trans (hc2 k hky)
        have hby_ : b2 < wr.heap.size := Nat.lt_of_lt_of_le hb2 HGR.out.size
        clear hb2 hc2
        rw [ex] at s0 s1 s2 s3 HS2 HT2
        have dy_ := DIG.out.2 k
        generalize ys[k]?.getD 0 = y at *
        obtain ⟨z, hz⟩ : ∃ z, (cy + (0 + y)) = z := ⟨_, rfl⟩
        rw [hz] at s0 s1 HS2 HT2
        have w2_ : IntKind.i64.wrap (cy + y) = z := by rw [IntKind.wrap_i64]; omega
        clear hz s2 s3 dy_
        have hrm : z.tmod 1073741824 = z % 1073741824 := by rw [Int.tmod_eq_emod_of_nonneg (by omega)]
        have hqt : z.tdiv 1073741824 = z / 1073741824 := by rw [Int.tdiv_eq_ediv_of_nonneg (by omega)]
        have hsz := HGR.out.size
        go_wp2_with (at_builtin; (refine wpList_push rfl _ _ 66 rfl w.heap.size 3 (.int .i64 0) 1 8 Tryz.underlying66 Tryz.infoIntR rfl (by decide) (by decide) _ _ _ rfl (HOW.out.alloc _) wr.heap.size 1 [.int .i64 (z % 1073741824)] 3 rfl (heap_alloc_new _ _) rfl (by simp [Value.oneCell']) (by have := HLEN.out; have := HNN.out.1; omega) (by simp; omega) ?_); refine Hid.out ?_)
        refine Lib.hid ?_
        intro v' w4 hown' hg'
        have R1 := Lib.hid (owns_snoc hown' rfl)
        have R2 := Lib.hid (push_grown HGR.out HOW.out (Nat.le_refl _) hg')
        clear hown' hg' HOW HGR
        rw [← hsa2]
        clear hsa2
        go_wp2_with fail
        go_roundw
        case rel => exact ⟨k + 1, z / 1073741824, _, by have := HKN.out; omega, by go_num, rfl, HS2.out, HT2.out, R1.out, R2.out⟩
        case measure => have := HKN.out; simp [intOf]; omega
      · have d2_ : decide ((k : Int) < (ly : Int)) = false := decide_eq_false (by omega)
        by_cases hcp : 0 < cy
        · have d3_ : decide (cy > 0) = true := decide_eq_true hcp
          have HT2 := Lib.hid (TOP.out os k cy hS (.inr (.inr hcp)))
          have HKN : Hid (k < N + 1) := Lib.hid (by
            rcases Nat.lt_or_ge k (N + 1) with h | h
            · exact h
            · obtain rfl : k = N + 1 := by omega
              have := CAR.out os cy hS; omega)
          clear hT hS
          have ex : xs[k]?.getD 0 = 0 := by rw [List.getElem?_eq_none (by have := LX.out; omega)]; rfl
          have ey : ys[k]?.getD 0 = 0 := by rw [List.getElem?_eq_none (by have := LY.out; omega)]; rfl
          rw [ex] at s0 s1 s2 s3 HS2 HT2
          rw [ey] at s0 s1 s2 s3 HS2 HT2
          obtain ⟨z, hz⟩ : ∃ z, (cy + (0 + 0)) = z := ⟨_, rfl⟩
          rw [hz] at s0 s1 HS2 HT2
          obtain rfl : cy = z := by omega
          clear hz s2 s3
          have hrm : cy.tmod 1073741824 = cy % 1073741824 := by rw [Int.tmod_eq_emod_of_nonneg (by omega)]
          have hqt : cy.tdiv 1073741824 = cy / 1073741824 := by rw [Int.tdiv_eq_ediv_of_nonneg (by omega)]
          have hsz := HGR.out.size
          go_wp2_with (at_builtin; (refine wpList_push rfl _ _ 66 rfl w.heap.size 3 (.int .i64 0) 1 8 Tryz.underlying66 Tryz.infoIntR rfl (by decide) (by decide) _ _ _ rfl (HOW.out.alloc _) wr.heap.size 1 [.int .i64 (cy % 1073741824)] 3 rfl (heap_alloc_new _ _) rfl (by simp [Value.oneCell']) (by have := HLEN.out; have := HNN.out.1; omega) (by simp; omega) ?_); refine Hid.out ?_)
          refine Lib.hid ?_
          intro v' w4 hown' hg'
          have R1 := Lib.hid (owns_snoc hown' rfl)
          have R2 := Lib.hid (push_grown HGR.out HOW.out (Nat.le_refl _) hg')
          clear hown' hg' HOW HGR
          go_wp2_with fail
          go_roundw
          case rel => exact ⟨k + 1, cy / 1073741824, _, by have := HKN.out; omega, by go_num, rfl, HS2.out, HT2.out, R1.out, R2.out⟩
          case measure => have := HKN.out; simp [intOf]; omega
        · obtain rfl : cy = 0 := by omega
          have FF := Lib.hid (FIN.out os k hS hT (by have := LX.out; omega) (by have := LY.out; omega))
          obtain ⟨oa, oc, rfl⟩ := owns_slice HOW.out
          have SS := Lib.hid (Sl_of_owns HOW.out rfl)
          have HL64 : Hid (os.length ≤ 64) := Lib.hid (FF.out.length_le HMN.out)
          clear hT hS s0 s1 s2 s3 HS2
          go_wp2_with fail
          (with_reducible refine (rlimited_any os _ wr SS.out HL64.out).mono ?_)
          rintro e w' ⟨rfl, rfl⟩
          go_wp2_with fail
          go_ret2
          exact ⟨_, os, rfl, SS.out, FF.out, HL64.out, HGR.out⟩
end LR17a
section LR17m
open Go.RowKit Rg

theorem MulIn.exit17 {xs ys os : List Int} {I K : Nat} (hI : I < xs.length) (hK : ys.length ≤ K) (hK2 : K ≤ ys.length + 1) (h : MulIn xs ys os I K 0) : MulAt xs ys os (I + 1) := by
  have hv := h.val
  rw [List.take_of_length_le hK] at hv
  refine ⟨h.len, h.dig, ?_, fun j hj => h.zero j (by omega) (by omega)⟩
  rw [valL_take_succ xs I hI]
  grind
set_option maxRecDepth 100000 in
set_option maxHeartbeats 4000000 in
theorem rmul_nat (xs ys : List Int) (v u : Value) (w : World) (h1 : Sl w v xs) (h2 : Sl w u ys) (hdx : Dig xs) (hdy : Dig ys) (hx : xs.length ≤ 64) (hy : ys.length ≤ 64) :
    Calls Tryz.prog 96 #[v, u] w fun e w' => ∃ v' zs, e = .returned v' ∧ Sl w' v' zs ∧ IsNat zs (valL xs * valL ys) ∧ w.grownBy w' none := by
  obtain ⟨a1, c1, rfl, hX⟩ := h1.form17; obtain ⟨a2, c2, rfl, hY⟩ := h2.form17
  have HX := Lib.hid hX; have HY := Lib.hid hY
  clear hX hY
  have HDX := Lib.hid hdx; have HDY := Lib.hid hdy
  clear h1 h2 hdx hdy
  have ST := Lib.hid (MulAt.start xs ys)
  have FIN := Lib.hid (fun os (h : MulAt xs ys os xs.length) => h)
  generalize hlx : xs.length = lx at *
  generalize hly : ys.length = ly at *
  have HLX := Lib.hid hlx; have HLY := Lib.hid hly
  obtain ⟨N, hN⟩ : ∃ N, lx + ly = N := ⟨_, rfl⟩
  rw [hN] at ST
  have hw0 : IntKind.i64.wrap ((lx : Int) + (ly : Int)) = (N : Int) := by rw [IntKind.wrap_i64]; omega
  have hN1 : N ≤ 128 := by omega
  obtain ⟨i0, hi0, hz0, hz1, hz2⟩ := info_parts Tryz.infoIntR
  have IB : Hid (i0.bytes * N ≤ 281474976710656 ∧ N ≤ maxLen) := Lib.hid ⟨by rw [hz2]; omega, by unfold maxLen; omega⟩
  have HN := Lib.hid hN
  clear hlx hly hN
  go_enter Tryz.func96, Tryz.ntmps96
  go_wp2_with (with_reducible refine wpList_make_full _ rfl _ _ 66 rfl w.heap.size 3 i0 (.int .i64 0) 1 Tryz.underlying66 hi0 hz0 hz1 .i64 .i64 (N : Int) (N : Int) N rfl rfl rfl rfl IB.out.1 IB.out.2 (Nat.le_refl _) ?_; refine Hid.out ?_)
  refine Lib.hid ?_
  intro w1 ho hg
  rw [toList_madeCells_one, show List.replicate N (Value.int .i64 0) = (List.replicate N (0 : Int)).map (Value.int .i64) by simp] at ho
  have HO := Lib.hid ho; have HG := Lib.hid hg
  clear ho hg hi0 hz0 hz1 hz2 IB hw0 i0
  go_wp2_with fail
  go_loopw [6] (fun i wr => ∃ (I : Nat) (os : List Int), I ≤ lx ∧ i = .int .i64 I ∧ MulAt xs ys os I ∧ wr.ownsRow w.heap.size 3 1 (.slice (some ⟨w.heap.size, 0, none⟩) N N) N (os.map (Value.int .i64)) ∧ w.grownBy wr none) (fun i _ => lx - (intOf i).toNat)
  case atStart => exact ⟨0, _, by omega, rfl, ST.out, HO.out, HG.out⟩
  case round =>
    obtain ⟨I, os, hI, rfl, hM, hown, hgr⟩ := hrel
    by_cases hlt : I < lx
    · have hIx : I < xs.length := by have := HLX.out; omega
      obtain ⟨b1, o1, hsa1, hb1, hc1⟩ := HX.out (by omega)
      have HX1 : Hid (∀ u : World, w.grownBy u none → u.cell? ⟨b1, o1 + I, none⟩ = some (.int .i64 (xs[I]?.getD 0)) ∧ b1 < u.heap.size) := Lib.hid (fun u hu => ⟨(gb_cell hu hb1 (by simp)).trans (hc1 I (by omega)), Nat.lt_of_lt_of_le hb1 hu.size⟩)
      have HSA1 := Lib.hid hsa1
      clear hsa1 hb1 hc1
      have ME := Lib.hid hM.enter
      have STP := Lib.hid (fun (os : List Int) (K : Nat) (cy : Int) (hK : K ≤ ys.length) (h : MulIn xs ys os I K cy) => h.step HDX.out HDY.out hIx hK)
      have EXT := Lib.hid (fun (os : List Int) (K : Nat) (h1 : ys.length ≤ K) (h2 : K ≤ ys.length + 1) (h : MulIn xs ys os I K 0) => h.exit17 hIx h1 h2)
      have hxd := HDX.out.at I
      generalize xs[I]?.getD 0 = x at *
      have HO1 := Lib.hid hown; have HG1 := Lib.hid hgr
      clear hM hown hgr hIx
      go_wp2_with fail
      go_loopw [7, 8] (fun c k wr => ∃ (K : Nat) (cy : Int) (os : List Int), K ≤ ly + 1 ∧ k = .int .i64 K ∧ c = .int .i64 cy ∧ MulIn xs ys os I K cy ∧ wr.ownsRow w.heap.size 3 1 (.slice (some ⟨w.heap.size, 0, none⟩) N N) N (os.map (Value.int .i64)) ∧ w.grownBy wr none) (fun _ k _ => ly + 1 - (intOf k).toNat)
      case atStart => exact ⟨0, 0, os, by omega, rfl, rfl, ME.out, HO1.out, HG1.out⟩
      case round =>
        obtain ⟨K, cy, os2, hK, rfl, rfl, hM, hown, hgr⟩ := hrel
        have hc0 := hM.c0; have hc1 := hM.c1
        by_cases hlk : K < ly
        · skip
          have d1_ : decide ((K : Int) < (ly : Int)) = true := decide_eq_true (by omega)
          have hKy : K ≤ ys.length := by have := HLY.out; omega
          obtain ⟨s0, s1, hM2⟩ := STP.out os2 K cy hKy hM
          have hol : os2.length = N := by have := hM.len; have := HLX.out; have := HLY.out; have := HN.out; omega
          have hik : I + K < N := by have := HN.out; have := HLY.out; omega
          have hwik : IntKind.i64.wrap ((I : Int) + (K : Int)) = ((I + K : Nat) : Int) := by rw [IntKind.wrap_i64]; omega
          have ho_ : wr.cell? ⟨w.heap.size, I + K, none⟩ = some (.int .i64 (os2[I + K]?.getD 0)) := by
            rw [hown.cellAt _ (by omega), List.getElem?_map, List.getElem?_eq_getElem (by omega)]; rfl
          have hF := hown.frozenAt (I + K)
          have hgz := (hown.lt w.heap.size rfl).2
          have hod := hM.dig.at (I + K)
          obtain ⟨hx_, hbx_⟩ := HX1.out wr hgr
          have hsa1 := HSA1.out
          obtain ⟨b2, o2, hsa2, hb2, hc2⟩ := HY.out (by omega)
          have hy_ : wr.cell? ⟨b2, o2 + K, none⟩ = some (.int .i64 (ys[K]?.getD 0)) := (gb_cell hgr hb2 (by simp)).trans (hc2 K hlk)
          have hby_ : b2 < wr.heap.size := Nat.lt_of_lt_of_le hb2 hgr.size
          clear hb2 hc2
          have hyd := HDY.out.at K
          have hp := mul_small (a := x) (b := ys[K]?.getD 0) (A := 1073741823) (B := 1073741823) hxd.1 (by omega) hyd.1 (by omega)
          have HM2 := Lib.hid hM2
          generalize os2[I + K]?.getD 0 = o at *
          generalize ys[K]?.getD 0 = y at *
          generalize hpe : x * y = p at *
          have hwp : IntKind.i64.wrap p = p := by rw [IntKind.wrap_i64]; omega
          have hwo : IntKind.i64.wrap (cy + o) = cy + o := by rw [IntKind.wrap_i64]; omega
          obtain ⟨sn, hsn⟩ : ∃ sn : Nat, cy + (o + p) = (sn : Int) := ⟨(cy + (o + p)).toNat, by omega⟩
          rw [hsn] at s0 s1 HM2
          have hws : IntKind.i64.wrap (cy + o + p) = (sn : Int) := by rw [IntKind.wrap_i64]; omega
          have HOW := Lib.hid hown; have HGR := Lib.hid hgr
          clear hM hM2 hown hgr hsn hp hyd
          go_wp2_with fail
          go_quiet (fail)
          have hq := gb_drewN (gb_refl wr none) nq
          generalize wr.drewN nq = wq at *
          have HOQ := Lib.hid (owns_keep HOW.out hq); have HGQ := Lib.hid (gb_trans HGR.out hq)
          have hFq := HOQ.out.frozenAt (I + K)
          have hoq : wq.cell? ⟨w.heap.size, I + K, none⟩ = some (.int .i64 o) := (gb_cell hq hgz (by simp)).trans ho_
          have OS := Lib.hid (HOQ.out.stored (I + K) (.int .i64 ((sn : Int) % 1073741824)))
          rw [← List.map_set] at OS
          have HGS := Lib.hid (gb_new HGQ.out OS.out.2 (fun q hq => by simp at hq; omega))
          clear ho_ hF hgz hod hc0 hc1 hpe hwp hwo hws HOW HGR hq HOQ HGQ hx_ hy_ hbx_ hby_
          go_wp2_with fail
          clear hsa1 hsa2
          go_roundw
          case rel => exact ⟨K + 1, (sn : Int) / 1073741824, os2.set (I + K) ((sn : Int) % 1073741824), by omega, by go_num, rfl, HM2.out, OS.out.1, HGS.out⟩
          case measure => simp [intOf]; omega
        · have d1_ : decide ((K : Int) < (ly : Int)) = false := decide_eq_false (by omega)
          by_cases hcp : 0 < cy
          · skip
            have d2_ : decide (cy > 0) = true := decide_eq_true hcp
            have hKe : K = ys.length := by have := hM.last; have := HLY.out; omega
            have hKy : K ≤ ys.length := by omega
            have hKl : K ≤ ly := by have := HLY.out; omega
            obtain ⟨s0, s1, hM2⟩ := STP.out os2 K cy hKy hM
            have hol : os2.length = N := by have := hM.len; have := HLX.out; have := HLY.out; have := HN.out; omega
            have hik : I + K < N := by have := HN.out; have := HLY.out; omega
            have hwik : IntKind.i64.wrap ((I : Int) + (K : Int)) = ((I + K : Nat) : Int) := by rw [IntKind.wrap_i64]; omega
            have ho_ : wr.cell? ⟨w.heap.size, I + K, none⟩ = some (.int .i64 (os2[I + K]?.getD 0)) := by
              rw [hown.cellAt _ (by omega), List.getElem?_map, List.getElem?_eq_getElem (by omega)]; rfl
            have hF := hown.frozenAt (I + K)
            have hgz := (hown.lt w.heap.size rfl).2
            have hod := hM.dig.at (I + K)
            have hy0 : ys[K]?.getD 0 = 0 := by rw [List.getElem?_eq_none (by omega)]; rfl
            rw [hy0, Int.mul_zero, Int.add_zero] at s0 s1 hM2
            clear hy0 hKe
            have HM2 := Lib.hid hM2
            generalize os2[I + K]?.getD 0 = o at *
            obtain ⟨sn, hsn⟩ : ∃ sn : Nat, cy + o = (sn : Int) := ⟨(cy + o).toNat, by omega⟩
            rw [hsn] at s0 s1 HM2
            have hws : IntKind.i64.wrap (cy + o) = (sn : Int) := by rw [IntKind.wrap_i64]; omega
            have HOW := Lib.hid hown; have HGR := Lib.hid hgr
            clear hM hM2 hown hgr hsn
            have OS := Lib.hid (HOW.out.stored (I + K) (.int .i64 ((sn : Int) % 1073741824)))
            rw [← List.map_set] at OS
            have HGS := Lib.hid (gb_new HGR.out OS.out.2 (fun q hq => by simp at hq; omega))
            clear hod hc0 hc1 HOW HGR
            go_wp2_with fail
            go_roundw
            case rel => exact ⟨K + 1, (sn : Int) / 1073741824, os2.set (I + K) ((sn : Int) % 1073741824), by omega, by go_num, rfl, HM2.out, OS.out.1, HGS.out⟩
            case measure => simp [intOf]; omega
          · obtain rfl : cy = 0 := by omega
            have MX := Lib.hid (EXT.out os2 K (by have := HLY.out; omega) (by have := HLY.out; omega) hM)
            have HOW := Lib.hid hown; have HGR := Lib.hid hgr
            clear hM hown hgr
            go_wp2_with fail
            go_roundw
            case rel => exact ⟨I + 1, os2, by omega, by go_num, MX.out, HOW.out, HGR.out⟩
            case measure => simp [intOf]; omega
    · have hIe : I = lx := by omega
      have hd_ : decide ((I : Int) < (lx : Int)) = false := decide_eq_false (by omega)
      subst hIe
      have hol : os.length = N := by have := hM.len; have := HLX.out; have := HLY.out; have := HN.out; omega
      have hv := hM.val
      rw [← HLX.out, List.take_length] at hv
      have TR := Lib.hid (rtrim_any os (.slice (some ⟨w.heap.size, 0, none⟩) N N) wr (Sl_of_owns hown hol.symm) (by omega))
      have MK := Lib.hid (fun (k : Nat) (a : k ≤ os.length) (b : ∀ j, k ≤ j → j < os.length → os[j]?.getD 0 = 0) (c : 0 < k → os[k - 1]?.getD 0 ≠ 0) => IsNat.mk' hM.dig hv a b c)
      have HG1 := Lib.hid hgr
      clear hM hown hgr hv hol
      go_wp2_with fail
      (with_reducible refine TR.out.mono ?_)
      rintro e w' ⟨k, v', rfl, rfl, t1, t2, t3, t4⟩
      have HR := Lib.hid (MK.out k t2 t3 t4)
      obtain ⟨ta, tc, e⟩ := t1.shape
      rw [show (os.take k).length = k by simp; omega] at e
      subst e
      have HT := Lib.hid t1
      clear t1 t3 t4 MK TR
      go_wp2
      go_ret
      exact ⟨_, _, rfl, HT.out, HR.out, HG1.out⟩


theorem rMul_nat (xs ys : List Int) (v u : Value) (m n : Int) (w : World) (h1 : Sl w v xs) (h2 : Sl w u ys) (hm : IsNat xs m) (hn : IsNat ys n) (hx : xs.length ≤ 64) (hy : ys.length ≤ 64) (hmn : m * n < bpow 64) :
    Calls Tryz.prog 76 #[v, u] w fun e w' => ∃ v' zs, e = .returned (.tuple #[v', .int .i64 0]) ∧ Sl w' v' zs ∧ IsNat zs (m * n) ∧ zs.length ≤ 64 ∧ w.grownBy w' none := by
  have A := Lib.hid (rnvalid_any xs v w h1); have B := Lib.hid (rnvalid_any ys u w h2)
  rw [hm.valid hx] at A; rw [hn.valid hy] at B
  have M := Lib.hid (rmul_nat xs ys v u w h1 h2 hm.dig hn.dig hx hy)
  rw [hm.val, hn.val] at M
  have hv : v.oneCell' = true := by obtain ⟨a, c, rfl⟩ := h1.shape; rfl
  have hu : u.oneCell' = true := by obtain ⟨a, c, rfl⟩ := h2.shape; rfl
  have HMN := Lib.hid hmn
  clear h1 h2 hm hn hmn
  generalize m * n = q at *
  go_enter Tryz.func76, Tryz.ntmps76
  go_wp2_with fail
  (with_reducible refine A.out.mono ?_)
  rintro e w' ⟨rfl, rfl⟩
  go_wp2_with fail
  (with_reducible refine B.out.mono ?_)
  rintro e w' ⟨rfl, rfl⟩
  go_wp2_with fail
  (with_reducible refine M.out.mono ?_)
  rintro e w1 ⟨v1, zs, rfl, hs, hz, hg⟩
  have HL : Hid (zs.length ≤ 64) := Lib.hid (hz.length_le HMN.out)
  have L := Lib.hid (rlimited_any zs v1 w1 hs HL.out)
  have HG := Lib.hid hg; have HS := Lib.hid hs; have HZ := Lib.hid hz
  obtain ⟨za, zc, rfl⟩ := hs.shape
  clear hs hz hg
  go_wp2_with fail
  (with_reducible refine L.out.mono ?_)
  rintro e w2 ⟨rfl, rfl⟩
  go_wp2_with fail
  exact bodyPost_ret (v := .tuple #[.slice za zs.length zc, .int .i64 0]) (by simp [results, Tryz.results76, go_sem]) rfl ⟨_, _, rfl, HS.out, HZ.out, HL.out, HG.out⟩
theorem rvfrac_nat (a b : Nat) (v u : Value) (w : World) (h1 : Sl w v (natL a)) (h2 : Sl w u (natL b)) (ha : (a : Int) < bpow 64) (hb : (b : Int) < bpow 64) (hb0 : 0 < b) :
    Calls Tryz.prog 75 #[.agg #[v, u]] w fun e w' => e = .returned (.bool true) ∧ w.grownBy w' none := by
  have HG := Lib.hid (gb_alloc (gb_refl w none) (.cells #[v, u] 68))
  have A := Lib.hid (rnvalid_any _ _ _ (h1.after HG.out)); have B := Lib.hid (rnvalid_any _ _ _ (h2.after HG.out))
  rw [(natL_is a).valid (natL_lt64 ha)] at A; rw [(natL_is b).valid (natL_lt64 hb)] at B
  have hl := natL_pos_len hb0
  obtain ⟨va, vc, rfl⟩ := h1.shape; obtain ⟨ua, uc, rfl⟩ := h2.shape
  clear h1 h2 ha hb
  generalize (natL a).length = na at *
  generalize (natL b).length = nb at *
  have hl' : decide ((nb : Int) > 0) = true := decide_eq_true (by omega)
  go_enter Tryz.func75, Tryz.ntmps75
  go_wp2_with fail
  (with_reducible refine A.out.mono ?_)
  rintro e w' ⟨rfl, rfl⟩
  go_wp2_with fail
  (with_reducible refine B.out.mono ?_)
  rintro e w' ⟨rfl, rfl⟩
  go_wp2
  go_ret
  exact ⟨rfl, HG.out⟩
set_option maxRecDepth 100000 in
set_option maxHeartbeats 2000000 in
theorem rtimes_nat (a b c d : Nat) (v1 v2 v3 v4 : Value) (w : World) (h1 : Sl w v1 (natL a)) (h2 : Sl w v2 (natL b)) (h3 : Sl w v3 (natL c)) (h4 : Sl w v4 (natL d))
    (ha : (a : Int) < bpow 64) (hb : (b : Int) < bpow 64) (hc : (c : Int) < bpow 64) (hd : (d : Int) < bpow 64) (hb0 : 0 < b) (hd0 : 0 < d) (hac : ((a * c : Nat) : Int) < bpow 64) (hbd : ((b * d : Nat) : Int) < bpow 64) :
    Calls Tryz.prog 53 #[.agg #[v1, v2], .agg #[v3, v4]] w fun e w' => ∃ u1 u2, e = .returned (.tuple #[.agg #[u1, u2], .int .i64 0]) ∧ Sl w' u1 (natL (a * c)) ∧ Sl w' u2 (natL (b * d)) ∧ w.grownBy w' none := by
  have VA := Lib.hid (fun (u : World) (hg : w.grownBy u none) => rvfrac_nat a b v1 v2 u (h1.after hg) (h2.after hg) ha hb hb0)
  have VB := Lib.hid (fun (u : World) (hg : w.grownBy u none) => rvfrac_nat c d v3 v4 u (h3.after hg) (h4.after hg) hc hd hd0)
  have MN := Lib.hid (fun (u : World) (hg : w.grownBy u none) => rMul_nat (natL a) (natL c) v1 v3 a c u (h1.after hg) (h3.after hg) (natL_is a) (natL_is c) (natL_lt64 ha) (natL_lt64 hc) (by rw [← Int.natCast_mul]; exact hac))
  have MD := Lib.hid (fun (u : World) (hg : w.grownBy u none) => rMul_nat (natL b) (natL d) v2 v4 b d u (h2.after hg) (h4.after hg) (natL_is b) (natL_is d) (natL_lt64 hb) (natL_lt64 hd) (by rw [← Int.natCast_mul]; exact hbd))
  rw [← Int.natCast_mul] at MN MD
  obtain ⟨a1, c1, rfl⟩ := h1.shape; obtain ⟨a2, c2, rfl⟩ := h2.shape; obtain ⟨a3, c3, rfl⟩ := h3.shape; obtain ⟨a4, c4, rfl⟩ := h4.shape
  clear h1 h2 h3 h4 ha hb hc hd hb0 hd0 hac hbd
  generalize (natL a).length = n1 at *
  generalize (natL b).length = n2 at *
  generalize (natL c).length = n3 at *
  generalize (natL d).length = n4 at *
  generalize a * c = p at *
  generalize b * d = q at *
  have g1 := gb_alloc (gb_refl w none) (.cells #[.slice a1 n1 c1, .slice a2 n2 c2] 68)
  have b1 := heap_alloc_new w (.cells #[.slice a1 n1 c1, .slice a2 n2 c2] 68)
  have l1 : (w.alloc (.cells #[.slice a1 n1 c1, .slice a2 n2 c2] 68)).heap.size = w.heap.size + 1 := by simp
  have W1 := Lib.hid g1; have B1 := Lib.hid b1
  have g2 := gb_alloc (gb_refl (w.alloc (.cells #[.slice a1 n1 c1, .slice a2 n2 c2] 68)) none) (.cells #[.slice a3 n3 c3, .slice a4 n4 c4] 68)
  have b2 := heap_alloc_new (w.alloc (.cells #[.slice a1 n1 c1, .slice a2 n2 c2] 68)) (.cells #[.slice a3 n3 c3, .slice a4 n4 c4] 68)
  rw [l1] at b2
  have l2 : ((w.alloc (.cells #[.slice a1 n1 c1, .slice a2 n2 c2] 68)).alloc (.cells #[.slice a3 n3 c3, .slice a4 n4 c4] 68)).heap.size = w.heap.size + 1 + 1 := by simp
  have W2 := Lib.hid (gb_trans g1 g2); have A2 := Lib.hid (block_kept g2 b1 rfl); have B2 := Lib.hid b2
  have g3 := gb_alloc (gb_refl ((w.alloc (.cells #[.slice a1 n1 c1, .slice a2 n2 c2] 68)).alloc (.cells #[.slice a3 n3 c3, .slice a4 n4 c4] 68)) none) (.cells #[.slice none 0 0, .slice none 0 0] 68)
  have b3 := heap_alloc_new ((w.alloc (.cells #[.slice a1 n1 c1, .slice a2 n2 c2] 68)).alloc (.cells #[.slice a3 n3 c3, .slice a4 n4 c4] 68)) (.cells #[.slice none 0 0, .slice none 0 0] 68)
  rw [l2] at b3
  have A3 := Lib.hid (block_kept g3 A2.out rfl); have B3 := Lib.hid (block_kept g3 b2 rfl); have C3 := Lib.hid b3; have W3 := Lib.hid (gb_trans W2.out g3)
  clear g1 b1 l1 W1 B1 g2 b2 l2 W2 A2 B2 g3 b3
  go_enter Tryz.func53, Tryz.ntmps53
  go_wp2_with fail
  generalize ((w.alloc (.cells #[.slice a1 n1 c1, .slice a2 n2 c2] 68)).alloc (.cells #[.slice a3 n3 c3, .slice a4 n4 c4] 68)).alloc (.cells #[.slice none 0 0, .slice none 0 0] 68) = w3 at *
  have HSZ : Hid (w.heap.size ≤ w.heap.size) := Lib.hid (Nat.le_refl _)
  generalize hz : w.heap.size = z at *
  have HZ := Lib.hid hz
  clear hz HSZ
  (with_reducible refine (VA.out w3 W3.out).mono ?_)
  rintro e w4 ⟨rfl, hg⟩
  have A4 := Lib.hid (block_kept hg A3.out rfl); have B4 := Lib.hid (block_kept hg B3.out rfl); have C4 := Lib.hid (block_kept hg C3.out rfl); have W4 := Lib.hid (gb_trans W3.out hg)
  clear hg A3 B3 C3 W3 VA
  obtain ⟨p0_, p1_⟩ := cells2' B4.out
  go_wp2_with fail
  clear p0_ p1_
  (with_reducible refine (VB.out w4 W4.out).mono ?_)
  rintro e w5 ⟨rfl, hg⟩
  have A5 := Lib.hid (block_kept hg A4.out rfl); have B5 := Lib.hid (block_kept hg B4.out rfl); have C5 := Lib.hid (block_kept hg C4.out rfl); have W5 := Lib.hid (gb_trans W4.out hg)
  clear hg A4 B4 C4 W4 VB
  obtain ⟨p0_, p1_⟩ := cells2' A5.out
  obtain ⟨q0_, q1_⟩ := cells2' B5.out
  go_wp2_with fail
  clear p0_ p1_ q0_ q1_
  (with_reducible refine (MN.out w5 W5.out).mono ?_)
  rintro e w6 ⟨v7, z7, rfl, hs, hz, hl, hg⟩
  have A6 := Lib.hid (block_kept hg A5.out rfl); have B6 := Lib.hid (block_kept hg B5.out rfl); have C6 := Lib.hid (block_kept hg C5.out rfl); have W6 := Lib.hid (gb_trans W5.out hg)
  have S7 := Lib.hid hs; have Z7 := Lib.hid hz.eq
  obtain ⟨ya, yc, rfl⟩ := hs.shape
  clear hg hs hz hl A5 B5 C5 W5 MN
  obtain ⟨p0_, p1_⟩ := cells2' A6.out
  obtain ⟨q0_, q1_⟩ := cells2' B6.out
  go_wp2_with fail
  clear p0_ p1_ q0_ q1_
  (with_reducible refine (MD.out w6 W6.out).mono ?_)
  rintro e w8 ⟨v9, z9, rfl, hs, hz, hl, hg⟩
  have C8 := Lib.hid (block_kept hg C6.out rfl); have W8 := Lib.hid (gb_trans W6.out hg); have S8 := Lib.hid (S7.out.after hg)
  have S9 := Lib.hid hs; have Z9 := Lib.hid hz.eq
  obtain ⟨ua, uc, rfl⟩ := hs.shape
  clear hg hs hz hl A6 B6 C6 W6 S7 MD
  have N8 := S8.out.ne_block C8.out no_ints2; have N9 := S9.out.ne_block C8.out no_ints2
  have R8 := Lib.hid ((S8.out.setCell (k := 0) (x := .slice ya z7.length yc) N8).setCell (k := 1) (x := .slice ua z9.length uc) N8)
  have R9 := Lib.hid ((S9.out.setCell (k := 0) (x := .slice ya z7.length yc) N9).setCell (k := 1) (x := .slice ua z9.length uc) N9)
  have hzz : w.heap.size ≤ z + 1 + 1 := by have := HZ.out; omega
  have G9 := Lib.hid (gb_setCell (gb_setCell W8.out (a := ⟨z + 1 + 1, 0, none⟩) (.inl hzz) (.slice ya z7.length yc)) (a := ⟨z + 1 + 1, 1, none⟩) (.inl hzz) (.slice ua z9.length uc))
  have hc3 := block_lt' C8.out
  have hf0 := frz C8.out 0; have hf1 := frz C8.out 1
  obtain ⟨p0_, p1_⟩ := cells2' C8.out
  clear N8 N9 hzz
  go_wp2_with fail
  exact bodyPost_ret (v := .tuple #[.agg #[.slice ya z7.length yc, .slice ua z9.length uc], .int .i64 0]) (by simp [results, Tryz.results53, go_sem, p0_, p1_]) rfl ⟨_, _, rfl, by rw [← Z7.out]; exact R8.out, by rw [← Z9.out]; exact R9.out, G9.out⟩
end LR17m
end Go.Proofs.YtmgfdfbhfhmekaaGreat
