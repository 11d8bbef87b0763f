/- Det -/
import Derived.Test.YtlddgafbgaaiiaaGreatDoorTsFilP
namespace Go.Proofs.YtlddgafbgaaiiaaGreatDoor
set_option linter.all false
open Go.RowKit Rg
theorem dabs_any (n : Int) (w : World) (h : -1000000 ≤ n ∧ n ≤ 1000000) : Calls Tryz.prog 70 #[.int .i64 n] w fun e w' => e = .returned (.int .i64 (max n (-n))) ∧ w = w' := by
  go_enter Tryz.func70, Tryz.ntmps70
  go_wp2
  all_goals go_ret
  all_goals exact ⟨ret_int (by omega), rfl⟩
theorem absS_bound {l : List Int} {M : Int} (hM : 0 ≤ M) (h : ∀ x ∈ l, -M ≤ x ∧ x ≤ M) : absS l ≤ l.length * M := by
  induction l with
  | nil => simp [absS]
  | cons a l ih =>
    have h1 := ih (fun x hx => h x (List.mem_cons_of_mem _ hx))
    have h2 := h a List.mem_cons_self
    have e : ((l.length + 1 : Nat) : Int) * M = l.length * M + M := by rw [Int.natCast_add, Int.add_mul]; simp
    rw [List.length_cons, e]
    simp only [absS, List.map_cons, List.sum_cons] at h1 ⊢
    omega
set_option maxRecDepth 100000 in
set_option maxHeartbeats 1000000 in
theorem dsum_any (xs : List Int) (v : Value) (w : World) (hs : Sl w v xs) (hx : ∀ x ∈ xs, -1000 ≤ x ∧ x ≤ 1000) (hl : xs.length ≤ 1000) :
    Calls Tryz.prog 69 #[v] w fun e w' => e = .returned (.int .i64 (absS xs)) ∧ w = w' := by
  have HX := Lib.hid hx
  rcases hs with ⟨rfl, a, cap, rfl⟩ | ⟨b, off, cap, rfl, hb, hcap, hcap2, hc⟩
  · clear hx
    go_enter Tryz.func69, Tryz.ntmps69
    go_wp2
    go_rounds 1
    go_ret
    exact ⟨ret_int (by simp [absS]), rfl⟩
  · have HC := Lib.hid hc; clear hc hx
    go_enter Tryz.func69, Tryz.ntmps69
    go_wp2
    go_loop [3, 5, 8] (fun s _ k => ∃ m : Nat, m ≤ xs.length ∧ k = .int .i64 m ∧ s = .int .i64 (absS (xs.take m))) (fun _ _ k => xs.length - (intOf k).toNat)
    case atStart => exact ⟨0, by omega, rfl, rfl⟩
    case round =>
      obtain ⟨m, hm, rfl, rfl⟩ := hrel
      by_cases hlt : m < xs.length
      · have HN := Lib.hid (absS_take_succ hlt)
        have hb1 : 0 ≤ absS (xs.take m) ∧ absS (xs.take m) ≤ 1000000 := by
          have h1 := absS_bound (l := xs.take m) (M := 1000) (by omega) (fun x h => HX.out x (List.mem_of_mem_take h))
          have h2 := absS_nonneg (xs.take m)
          have h3 : (xs.take m).length ≤ 1000 := by simp; omega
          omega
        obtain ⟨x, hx⟩ : ∃ x, xs[m] = x := ⟨_, rfl⟩
        have hxb : -1000 ≤ x ∧ x ≤ 1000 := by rw [← hx]; exact HX.out _ (List.getElem_mem hlt)
        have hcell := (HC.out m hlt).trans (by rw [List.getElem?_eq_getElem hlt, Option.getD_some, hx])
        rw [hx] at HN
        clear hx
        generalize absS (xs.take m) = s at *
        obtain ⟨a, ha⟩ : ∃ a, max x (-x) = a := ⟨_, rfl⟩
        have hab : 0 ≤ a ∧ a ≤ 1000 := by omega
        have HA := Lib.hid (ha ▸ dabs_any x w (by omega))
        rw [ha] at HN
        clear ha
        go_wp2_with (go_at_call 70; refine HA.out.mono ?_; rintro e w' ⟨rfl, rfl⟩)
        go_round
        case rel => exact ⟨m + 1, by omega, by go_num, by rw [HN.out]⟩
        case measure => simp [intOf]; omega
      · obtain rfl : m = xs.length := by omega
        rw [List.take_length] at *
        go_wp2
        go_ret
        exact ⟨rfl, rfl⟩
/-- Whether the ratio reaches p hundredths. -/
def reachB (s l sh lo p : Int) : Bool := lo != 0 && decide (p * s * lo ≤ 100 * l * sh)
set_option maxRecDepth 100000 in
set_option maxHeartbeats 1000000 in
theorem dreaches_any (s l n f sh lo p : Int) (w : World) (hd : DetOk s l n f) (h1 : 0 ≤ sh ∧ sh ≤ 100000) (h2 : 0 ≤ lo ∧ lo ≤ 100000) (hp : 0 ≤ p ∧ p ≤ 1000) :
    Calls Tryz.prog 71 #[.agg #[.int .i64 s, .int .i64 l, .int .i64 n, .int .i64 f], .int .i64 sh, .int .i64 lo, .int .i64 p] w fun e w' => e = .returned (.bool (reachB s l sh lo p)) ∧ w.grownBy w' none := by
  have hs := hd.s1; have hl := hd.l1
  have G1 := Lib.hid (gb_alloc (gb_refl w none) (.cells #[.int .i64 s, .int .i64 l, .int .i64 n, .int .i64 f] 31))
  have B1 := kbox (w := w) #[.int .i64 s, .int .i64 l, .int .i64 n, .int .i64 f] 31
  have ha : 0 ≤ 100 * l ∧ 100 * l ≤ 900 := by omega
  have hb : 0 ≤ 100 * l * sh ∧ 100 * l * sh ≤ 900 * 100000 := ⟨Int.mul_nonneg ha.1 h1.1, Int.mul_le_mul ha.2 h1.2 h1.1 (by omega)⟩
  have hc : 0 ≤ p * s ∧ p * s ≤ 1000 * 3 := ⟨Int.mul_nonneg hp.1 (by omega), Int.mul_le_mul hp.2 hs.2 (by omega) (by omega)⟩
  have hd' : 0 ≤ p * s * lo ∧ p * s * lo ≤ 3000 * 100000 := ⟨Int.mul_nonneg hc.1 h2.1, Int.mul_le_mul hc.2 h2.2 h2.1 (by omega)⟩
  have wa_ : wrap64 (100 * l * sh) = 100 * l * sh := IntWalk.wrap64_in _ (by omega)
  have wb_ : wrap64 (p * s) = p * s := IntWalk.wrap64_in _ (by omega)
  have wc_ : wrap64 (p * s * lo) = p * s * lo := IntWalk.wrap64_in _ (by omega)
  clear hd
  go_enter Tryz.func71, Tryz.ntmps71
  go_wp2
  all_goals go_ret
  all_goals exact ⟨ret_bool (by simp_all [reachB]), G1.out⟩
set_option maxRecDepth 100000 in
set_option maxHeartbeats 1000000 in
theorem dvalid_any (s l n f : Int) (w : World) (hd : DetOk s l n f) :
    Calls Tryz.prog 31 #[.agg #[.int .i64 s, .int .i64 l, .int .i64 n, .int .i64 f]] w fun e w' => e = .returned (.bool true) ∧ w.grownBy w' none := by
  have hs := hd.s1; have hl := hd.l1; have hf := hd.f1
  have G1 := Lib.hid (gb_alloc (gb_refl w none) (.cells #[.int .i64 s, .int .i64 l, .int .i64 n, .int .i64 f] 31))
  clear hd
  go_enter Tryz.func31, Tryz.ntmps31
  go_wp2
  go_ret
  exact ⟨ret_bool (decide_eq_true (by omega)), G1.out⟩
/-- The number of a trigger that is open is not less than 0; what is kept of it. -/
structure OpenOk (l count on off pk : Int) : Prop where
  no : on = -1 → off = 0 ∧ pk = 0
  yes : on ≠ -1 → l ≤ count ∧ (0 ≤ on ∧ on ≤ count - 1) ∧ off = -1 ∧ (0 ≤ pk ∧ pk ≤ 1000)
set_option maxRecDepth 100000 in
set_option maxHeartbeats 2000000 in
theorem dvalidwatch_any (s l n f : Int) (past : List Int) (pv : Value) (count on off pk : Int) (w : World) (hd : DetOk s l n f) (hsp : Sl w pv past) (hx : ∀ x ∈ past, 0 ≤ x ∧ x ≤ 1000) (hl : past.length < l) (hc : past.length ≤ count ∧ count ≤ 100000) (hc2 : past.length < l - 1 → count = past.length) (ho : OpenOk l count on off pk) :
    Calls Tryz.prog 36 #[.agg #[.int .i64 s, .int .i64 l, .int .i64 n, .int .i64 f, pv, .int .i64 count, .int .i64 on, .int .i64 off, .int .i64 pk]] w fun e w' => e = .returned (.bool true) ∧ w.grownBy w' none := by
  obtain ⟨a1, c1, rfl⟩ := hsp.shape'
  have hl9 := hd.l1
  have HV := Lib.hid (fun (u : World) => dvalid_any s l n f u hd)
  have hb : past.any badA = false := any_bad fun x h => by have := hx x h; simp [badA]; omega
  have HC := Lib.hid (fun (u : World) (hu : w.grownBy u none) => hb ▸ ccontainsA_any past _ u (hsp.later hu (by simp)))
  clear hd hsp hx hb
  have B1 := kbox (w := w) #[.int .i64 s, .int .i64 l, .int .i64 n, .int .i64 f, .slice a1 past.length c1, .int .i64 count, .int .i64 on, .int .i64 off, .int .i64 pk] 43
  have G1 := Lib.hid (gb_alloc (gb_refl w none) (.cells #[.int .i64 s, .int .i64 l, .int .i64 n, .int .i64 f, .slice a1 past.length c1, .int .i64 count, .int .i64 on, .int .i64 off, .int .i64 pk] 43))
  have HOP := Lib.hid ho
  clear ho
  go_enter Tryz.func36, Tryz.ntmps36
  go_wp2_with fail
  generalize w.alloc (.cells #[.int .i64 s, .int .i64 l, .int .i64 n, .int .i64 f, .slice a1 past.length c1, .int .i64 count, .int .i64 on, .int .i64 off, .int .i64 pk] 43) = w1 at *
  (with_reducible refine (HV.out _).mono ?_)
  rintro r w2 ⟨rfl, hg⟩
  have B2 := Lib.hid (kept0 hg B1.out); have G2 := Lib.hid (gb_trans G1.out hg)
  clear hg B1 G1 HV
  have f1_ := cellD B2.out 1 _ rfl
  have f4_ := cellD B2.out 4 _ rfl
  have f5_ := cellD B2.out 5 _ rfl
  have f6_ := cellD B2.out 6 _ rfl
  have f7_ := cellD B2.out 7 _ rfl
  have f8_ := cellD B2.out 8 _ rfl
  have K2 := Lib.hid (HC.out _ G2.out)
  clear HC
  by_cases hcl : (past.length : Int) < l - 1
  · have hcp := hc2 hcl
    by_cases hon : on = -1
    · obtain ⟨h7, h8⟩ := HOP.out.no hon
      go_wp2_with (first | (go_at_call 37; (refine K2.out.mono ?_); rintro r w' ⟨rfl, rfl⟩) | (go_at_call 67; refine (din_yes _ _ _ _ (by omega) (by omega)).mono ?_; rintro e w' ⟨rfl, rfl⟩))
      go_ret
      exact ⟨rfl, G2.out⟩
    · have := (HOP.out.yes hon).1
      omega
  · by_cases hon : on = -1
    · obtain ⟨h7, h8⟩ := HOP.out.no hon
      go_wp2_with (first | (go_at_call 37; (refine K2.out.mono ?_); rintro r w' ⟨rfl, rfl⟩) | (go_at_call 67; refine (din_yes _ _ _ _ (by omega) (by omega)).mono ?_; rintro e w' ⟨rfl, rfl⟩))
      go_ret
      exact ⟨rfl, G2.out⟩
    · obtain ⟨h5, h6, h7, h8⟩ := HOP.out.yes hon
      go_wp2_with (first | (go_at_call 37; (refine K2.out.mono ?_); rintro r w' ⟨rfl, rfl⟩) | (go_at_call 67; refine (din_yes _ _ _ _ (by omega) (by omega)).mono ?_; rintro e w' ⟨rfl, rfl⟩))
      go_ret
      exact ⟨rfl, G2.out⟩
set_option maxRecDepth 100000 in
set_option maxHeartbeats 2000000 in
theorem dstart_any (s l n f : Int) (w : World) (hd : DetOk s l n f) :
    Calls Tryz.prog 12 #[.agg #[.int .i64 s, .int .i64 l, .int .i64 n, .int .i64 f]] w fun e w' => e = .returned (.tuple #[.agg #[.int .i64 s, .int .i64 l, .int .i64 n, .int .i64 f, .slice none 0 0, .int .i64 0, .int .i64 (-1), .int .i64 0, .int .i64 0], .int .i64 0]) ∧ w.grownBy w' none := by
  have HV := Lib.hid (fun (u : World) => dvalid_any s l n f u hd)
  clear hd
  have G1 := Lib.hid (gb_alloc (gb_alloc (gb_refl w none) (.cells #[.int .i64 s, .int .i64 l, .int .i64 n, .int .i64 f] 31)) (.cells #[.int .i64 0, .int .i64 0, .int .i64 0, .int .i64 0, .slice none 0 0, .int .i64 0, .int .i64 0, .int .i64 0, .int .i64 0] 43))
  have B1 : Hid (((w.alloc (.cells #[.int .i64 s, .int .i64 l, .int .i64 n, .int .i64 f] 31)).alloc (.cells #[.int .i64 0, .int .i64 0, .int .i64 0, .int .i64 0, .slice none 0 0, .int .i64 0, .int .i64 0, .int .i64 0, .int .i64 0] 43)).heap[w.heap.size]? = _) := Lib.hid (heapOld (kbox _ _).out)
  have R1 : Hid (((w.alloc (.cells #[.int .i64 s, .int .i64 l, .int .i64 n, .int .i64 f] 31)).alloc (.cells #[.int .i64 0, .int .i64 0, .int .i64 0, .int .i64 0, .slice none 0 0, .int .i64 0, .int .i64 0, .int .i64 0, .int .i64 0] 43)).heap[w.heap.size + 1]? = some (.cells #[.int .i64 0, .int .i64 0, .int .i64 0, .int .i64 0, .slice none 0 0, .int .i64 0, .int .i64 0, .int .i64 0, .int .i64 0] 43 (0, 0))) := Lib.hid (by simpa using (kbox (w := w.alloc (.cells #[.int .i64 s, .int .i64 l, .int .i64 n, .int .i64 f] 31)) #[.int .i64 0, .int .i64 0, .int .i64 0, .int .i64 0, .slice none 0 0, .int .i64 0, .int .i64 0, .int .i64 0, .int .i64 0] 43).out)
  go_enter Tryz.func12, Tryz.ntmps12
  go_wp2_with fail
  generalize (w.alloc (.cells #[.int .i64 s, .int .i64 l, .int .i64 n, .int .i64 f] 31)).alloc (.cells #[.int .i64 0, .int .i64 0, .int .i64 0, .int .i64 0, .slice none 0 0, .int .i64 0, .int .i64 0, .int .i64 0, .int .i64 0] 43) = w1 at *
  (with_reducible refine (HV.out _).mono ?_)
  rintro r w2 ⟨rfl, hg⟩
  have B2 := Lib.hid (kept0 hg B1.out); have R2 := Lib.hid (kept0 hg R1.out); have G2 := Lib.hid (gb_trans G1.out hg)
  clear hg B1 R1 G1 HV
  have f0_ := cellD B2.out 0 _ rfl
  have f1_ := cellD B2.out 1 _ rfl
  have f2_ := cellD B2.out 2 _ rfl
  have f3_ := cellD B2.out 3 _ rfl
  have r0_ := cellD R2.out 0 _ rfl
  have r1_ := cellD R2.out 1 _ rfl
  have r2_ := cellD R2.out 2 _ rfl
  have r3_ := cellD R2.out 3 _ rfl
  have r4_ := cellD R2.out 4 _ rfl
  have r5_ := cellD R2.out 5 _ rfl
  have r6_ := cellD R2.out 6 _ rfl
  have r7_ := cellD R2.out 7 _ rfl
  have r8_ := cellD R2.out 8 _ rfl
  have rz_ := frozD R2.out
  have n5 := Lib.hid (set_block (set_block (set_block (set_block (set_block (set_block (set_block (set_block (set_block R2.out 0 (.int .i64 s)) 1 (.int .i64 l)) 2 (.int .i64 n)) 3 (.int .i64 f)) 4 (.slice none 0 0)) 5 (.int .i64 0)) 6 (.int .i64 (-1))) 7 (.int .i64 0)) 8 (.int .i64 0))
  have gR := Lib.hid (gb_setCell (a := ⟨w.heap.size + 1, 8, none⟩) (gb_setCell (a := ⟨w.heap.size + 1, 7, none⟩) (gb_setCell (a := ⟨w.heap.size + 1, 6, none⟩) (gb_setCell (a := ⟨w.heap.size + 1, 5, none⟩) (gb_setCell (a := ⟨w.heap.size + 1, 4, none⟩) (gb_setCell (a := ⟨w.heap.size + 1, 3, none⟩) (gb_setCell (a := ⟨w.heap.size + 1, 2, none⟩) (gb_setCell (a := ⟨w.heap.size + 1, 1, none⟩) (gb_setCell (a := ⟨w.heap.size + 1, 0, none⟩) (gb_refl w2 (some (w.heap.size + 1))) (.inr rfl) (.int .i64 s)) (.inr rfl) (.int .i64 l)) (.inr rfl) (.int .i64 n)) (.inr rfl) (.int .i64 f)) (.inr rfl) (.slice none 0 0)) (.inr rfl) (.int .i64 0)) (.inr rfl) (.int .i64 (-1))) (.inr rfl) (.int .i64 0)) (.inr rfl) (.int .i64 0))
  clear B2 R2
  go_wp2_with fail
  exact bodyPost_ret (v := .tuple #[.agg #[.int .i64 s, .int .i64 l, .int .i64 n, .int .i64 f, .slice none 0 0, .int .i64 0, .int .i64 (-1), .int .i64 0, .int .i64 0], .int .i64 0]) (by simp [results, Tryz.results12, go_sem, World.cell?, n5.out]) rfl ⟨rfl, gbNew G2.out gR.out (fun k hk => by simp at hk; omega)⟩
end Go.Proofs.YtlddgafbgaaiiaaGreatDoor
