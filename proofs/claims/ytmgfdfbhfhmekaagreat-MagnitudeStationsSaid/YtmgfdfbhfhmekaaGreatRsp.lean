/- response: in, terms, sum, ValidStage, factor, Valid. -/
import Derived.Test.YtmgfdfbhfhmekaaGreatMagM
import Derived.Test.YtmgfdfbhfhmekaaGreatMis
import Derived.ChangeKeysEq
namespace Go.Proofs.YtmgfdfbhfhmekaaGreat
set_option linter.all false
open Go.RowKit

/-- A stage, and the value of its taps. -/
structure Stv where
  s : Stg
  tv : Value
def Stv.cells (x : Stv) : List Value := [.int .i64 x.s.kind, .int .i64 x.s.n0, .int .i64 x.s.n1, .int .i64 x.s.n2, .int .i64 x.s.d0, .int .i64 x.s.d1, .int .i64 x.s.d2, x.tv, .int .i64 x.s.factor, .int .i64 x.s.shift]
def flatS (L : List Stv) : List Value := L.flatMap Stv.cells
theorem flatS_length (l : List Stv) : (flatS l).length = l.length * 10 := by
  induction l with
  | nil => rfl
  | cons a l ih => simp only [flatS, List.flatMap_cons, List.length_append] at *; rw [ih]; simp [Stv.cells]; omega
theorem flatS_at : ∀ (l : List Stv) (i : Nat) (h : i < l.length) (j : Nat), j < 10 → (flatS l)[i * 10 + j]? = (l[i]).cells[j]?
  | a :: l, 0, _, j, hj => by
    have e : flatS (a :: l) = a.cells ++ flatS l := by simp [flatS]
    rw [e, Nat.zero_mul, Nat.zero_add, List.getElem?_append_left (by simp [Stv.cells]; omega)]; rfl
  | a :: l, i + 1, h, j, hj => by
    have e : flatS (a :: l) = a.cells ++ flatS l := by simp [flatS]
    have hl : a.cells.length = 10 := rfl
    rw [e, List.getElem?_append_right (by rw [hl]; omega), hl, show (i + 1) * 10 + j - 10 = i * 10 + j by omega, flatS_at l i (by simpa using h) j hj]; rfl
/-- v reads as these stages. -/
def StIn (w : World) (v : Value) (L : List Stv) : Prop := SlC 10 w v L.length (flatS L) ∧ ∀ x ∈ L, Sl w x.tv x.s.taps
theorem StIn.after {w w' : World} {v : Value} {L : List Stv} (h : StIn w v L) (hg : w.grownBy w' none) : StIn w' v L := ⟨h.1.after hg, fun x hx => (h.2 x hx).after hg⟩
theorem SlC.st {w : World} {b off : Nat} {l : List Stv} (h : ∀ j u, (flatS l)[j]? = some u → w.cell? ⟨b, off + j, none⟩ = some u) (i : Nat) (hi : i < l.length) :
    w.cell? ⟨b, off + i * 10, none⟩ = some (.int .i64 l[i].s.kind) ∧ w.cell? ⟨b, off + i * 10 + 1, none⟩ = some (.int .i64 l[i].s.n0) ∧ w.cell? ⟨b, off + i * 10 + 2, none⟩ = some (.int .i64 l[i].s.n1) ∧ w.cell? ⟨b, off + i * 10 + 3, none⟩ = some (.int .i64 l[i].s.n2) ∧
    w.cell? ⟨b, off + i * 10 + 4, none⟩ = some (.int .i64 l[i].s.d0) ∧ w.cell? ⟨b, off + i * 10 + 5, none⟩ = some (.int .i64 l[i].s.d1) ∧ w.cell? ⟨b, off + i * 10 + 6, none⟩ = some (.int .i64 l[i].s.d2) ∧ w.cell? ⟨b, off + i * 10 + 7, none⟩ = some l[i].tv ∧ w.cell? ⟨b, off + i * 10 + 8, none⟩ = some (.int .i64 l[i].s.factor) ∧ w.cell? ⟨b, off + i * 10 + 9, none⟩ = some (.int .i64 l[i].s.shift) :=
  ⟨h (i * 10) _ (flatS_at l i hi 0 (by omega)), by rw [Nat.add_assoc]; exact h _ _ (flatS_at l i hi 1 (by omega)), by rw [Nat.add_assoc]; exact h _ _ (flatS_at l i hi 2 (by omega)), by rw [Nat.add_assoc]; exact h _ _ (flatS_at l i hi 3 (by omega)), by rw [Nat.add_assoc]; exact h _ _ (flatS_at l i hi 4 (by omega)), by rw [Nat.add_assoc]; exact h _ _ (flatS_at l i hi 5 (by omega)), by rw [Nat.add_assoc]; exact h _ _ (flatS_at l i hi 6 (by omega)), by rw [Nat.add_assoc]; exact h _ _ (flatS_at l i hi 7 (by omega)), by rw [Nat.add_assoc]; exact h _ _ (flatS_at l i hi 8 (by omega)), by rw [Nat.add_assoc]; exact h _ _ (flatS_at l i hi 9 (by omega))⟩

theorem rin_any (n lo hi : Int) (w : World) :
    Calls Tryz.prog 65 #[.int .i64 n, .int .i64 lo, .int .i64 hi] w fun e w' => e = .returned (.bool (inB n lo hi)) ∧ w = w' := by
  by_cases h1 : lo ≤ n
  · go_enter Tryz.func65, Tryz.ntmps65
    go_wp2
    go_ret
    exact ⟨by simp [inB, h1], rfl⟩
  · go_enter Tryz.func65, Tryz.ntmps65
    go_wp2
    go_ret
    exact ⟨by simp [inB]; omega, rfl⟩
def badT (x : Int) : Bool := !inB x (-1048576) 1048576
theorem termsOk_any (xs : List Int) : termsOk xs = !xs.any badT := by
  unfold termsOk
  induction xs with
  | nil => rfl
  | cons a xs ih => rw [List.all_cons, List.any_cons, ih]; simp [badT]
theorem badT_any (x : Int) (w : World) :
    Calls Tryz.prog 122 #[.int .i64 x] w fun e w' => e = .returned (.bool (badT x)) ∧ w = w' := by
  go_enter Tryz.func122, Tryz.ntmps122
  go_wp2_with fail
  (with_reducible refine (rin_any _ _ _ _).mono ?_)
  rintro e w' ⟨rfl, rfl⟩
  go_wp2
  go_ret
  exact ⟨rfl, rfl⟩
set_option maxHeartbeats 400000 in
theorem indexT_any (xs : List Int) (v : Value) (w : World) (hs : Sl w v xs) :
    Calls Tryz.prog 125 #[v, .func (.func 122) #[] #[]] w fun e w' => ∃ r : Int, e = .returned (.int .i64 r) ∧ w = w' ∧ (0 ≤ r → xs.any badT = true) ∧ (r < 0 → xs.any badT = false) := by
  rcases hs with ⟨rfl, a, cap, rfl⟩ | ⟨b, off, cap, rfl, hb, hcap, hcap2, hc⟩
  · go_enter Tryz.func125, Tryz.ntmps125
    go_wp2
    go_rounds 1
    go_ret
    exact ⟨_, rfl, rfl, by simp, by simp⟩
  · have HC := Lib.hid hc; clear hc
    go_enter Tryz.func125, Tryz.ntmps125
    go_wp2
    go_loop [5, 8] (fun _ i => ∃ k : Nat, k ≤ xs.length ∧ i = .int .i64 k ∧ (xs.take k).any badT = false) (fun _ i => xs.length - (intOf i).toNat)
    case atStart => exact ⟨0, by omega, rfl, rfl⟩
    case round =>
      obtain ⟨k, hk, rfl, hp⟩ := hrel
      have HP := Lib.hid hp; clear hp
      by_cases hlt : k < xs.length
      · have hcell := HC.out k hlt
        go_wp2_with (go_at_call 122; refine (badT_any _ _).mono ?_; rintro e w' ⟨rfl, rfl⟩)
        · go_ret
          have h : badT xs[k] = true := by assumption
          exact ⟨_, rfl, rfl, fun _ => List.any_eq_true.2 ⟨_, List.getElem_mem hlt, h⟩, fun h => by omega⟩
        · have h : badT xs[k] = false := by assumption
          go_round
          case rel => exact ⟨k + 1, by omega, by go_num, by rw [List.take_succ_eq_append_getElem hlt, List.any_append, HP.out]; simp [h]⟩
          case measure => simp [intOf]; omega
      · go_wp2
        go_ret
        exact ⟨_, rfl, rfl, fun h => by omega, fun _ => by have := HP.out; rw [List.take_of_length_le (by omega)] at this; simpa using this⟩
theorem containsT_any (xs : List Int) (v : Value) (w : World) (hs : Sl w v xs) :
    Calls Tryz.prog 121 #[v, .func (.func 122) #[] #[]] w fun e w' => e = .returned (.bool (xs.any badT)) ∧ w = w' := by
  have HS := Lib.hid hs; clear hs
  go_enter Tryz.func121, Tryz.ntmps121
  go_wp2_with fail
  refine (indexT_any xs v w HS.out).mono ?_
  rintro e w' ⟨r, rfl, rfl, h1, h2⟩
  have H1 := Lib.hid h1; have H2 := Lib.hid h2; clear h1 h2
  by_cases hr : 0 ≤ r
  · go_wp2
    go_ret
    exact ⟨by rw [H1.out hr]; rfl, rfl⟩
  · go_wp2
    go_ret
    exact ⟨by rw [H2.out (by omega)]; simp; omega, rfl⟩
theorem terms_any (xs : List Int) (v : Value) (w : World) (hs : Sl w v xs) :
    Calls Tryz.prog 107 #[v] w fun e w' => e = .returned (.bool (termsOk xs)) ∧ w = w' := by
  rw [termsOk_any]
  have HS := Lib.hid (containsT_any xs v w hs)
  have ho : v.oneCell' = true := by obtain ⟨a, c, rfl⟩ := hs.shape; rfl
  clear hs
  go_enter Tryz.func107, Tryz.ntmps107
  go_wp2_with fail
  (with_reducible refine HS.out.mono ?_)
  rintro e w' ⟨rfl, rfl⟩
  go_wp2
  go_ret
  exact ⟨rfl, rfl⟩
theorem sumL_take {xs : List Int} {k : Nat} (h : k < xs.length) : sumL (xs.take (k + 1)) = sumL (xs.take k) + xs[k] := by
  rw [List.take_succ_eq_append_getElem h, sumL_snoc]
theorem termsOk_take {xs : List Int} (h : termsOk xs = true) (k : Nat) : termsOk (xs.take k) = true := by
  unfold termsOk at *
  rw [List.all_eq_true] at *
  exact fun x hx => h x (List.mem_of_mem_take hx)
set_option maxHeartbeats 400000 in
theorem sum_any (xs : List Int) (v : Value) (w : World) (hs : Sl w v xs) (ht : termsOk xs = true) (hl : xs.length ≤ 1000) :
    Calls Tryz.prog 84 #[v] w fun e w' => e = .returned (.int .i64 (sumL xs)) ∧ w = w' := by
  rcases hs with ⟨rfl, a, cap, rfl⟩ | ⟨b, off, cap, rfl, hb, hcap, hcap2, hc⟩
  · go_enter Tryz.func84, Tryz.ntmps84
    go_wp2
    go_rounds 1
    go_ret
    exact ⟨rfl, rfl⟩
  · have HC := Lib.hid hc; have HT := Lib.hid ht; clear hc ht
    go_enter Tryz.func84, Tryz.ntmps84
    go_wp2
    go_loop [3, 5, 8] (fun n _ i => ∃ k : Nat, k ≤ xs.length ∧ i = .int .i64 k ∧ n = .int .i64 (sumL (xs.take k))) (fun _ _ i => xs.length - (intOf i).toNat)
    case atStart => exact ⟨0, by omega, rfl, rfl⟩
    case round =>
      obtain ⟨k, hk, rfl, rfl⟩ := hrel
      by_cases hlt : k < xs.length
      · have hcell := HC.out k hlt
        have e : xs[k]?.getD 0 = xs[k] := by rw [List.getElem?_eq_getElem hlt]; rfl
        rw [e] at hcell
        clear e
        have hs1 := sumL_in (termsOk_take HT.out (k + 1))
        have hs0 := sumL_take hlt
        have hlk : ((xs.take (k + 1)).length : Int) ≤ 1000 := by rw [List.length_take]; omega
        have hw_ : IntKind.i64.wrap (sumL (xs.take k) + xs[k]) = sumL (xs.take (k + 1)) := by rw [← hs0, IntKind.wrap_i64]; omega
        have HW := Lib.hid hw_
        clear hs1 hs0 hlk hw_
        generalize xs[k] = x at *
        generalize sumL (xs.take k) = y at *
        have hw_ := HW.out
        go_wp2
        go_round
        case rel => exact ⟨k + 1, by omega, by go_num, rfl⟩
        case measure => simp [intOf]; omega
      · go_wp2
        go_ret
        exact ⟨by rw [List.take_of_length_le (by omega)]; rfl, rfl⟩

theorem Tryz.infoIntR : (Tryz.prog.info? 3).map (fun i => (i.zero, i.size, i.bytes)) = some (some (.int .i64 0), 1, 8) := by kernel_rfl
/-- Two arrays of three are equal. -/
def eqA (a b c x y z : Int) : Bool := a == x && b == y && c == z
theorem run_eqA (a b c x y z : Int) (w : World) :
    (binOp .eql 51 (.agg #[.int .i64 a, .int .i64 b, .int .i64 c]) (.agg #[.int .i64 x, .int .i64 y, .int .i64 z])).run Tryz.prog w = .ok (.bool (eqA a b c x y z)) w := by
  have hu : Tryz.prog.underlying 51 = some (.array 3 3) := Tryz.underlying51
  obtain ⟨i, hi, -⟩ := info_parts Tryz.infoIntR
  have hc : Tryz.prog.cellsOf 3 = 1 := by kernel_rfl
  rw [run_eql_struct, show (10000 : Nat) = 9999 + 1 from rfl, run_equalIn_array w 9999 _ _ hu hi, hc, show List.range 3 = [0, 1, 2] from rfl]
  unfold eqA
  by_cases h0 : a = x <;> by_cases h1 : b = y <;> by_cases h2 : c = z <;> simp [Op.eqItems, part, go_sem, h0, h1, h2]
attribute [go_sem high] run_eqA
theorem cells10 {w : World} {b : Nat} {x0 x1 x2 x3 x4 x5 x6 x7 x8 x9 : Value} {t : TypeId} {fr : Nat × Nat} (h : w.heap[b]? = some (.cells #[x0, x1, x2, x3, x4, x5, x6, x7, x8, x9] t fr)) :
    w.cell? ⟨b, 0, none⟩ = some x0 ∧ w.cell? ⟨b, 1, none⟩ = some x1 ∧ w.cell? ⟨b, 2, none⟩ = some x2 ∧ w.cell? ⟨b, 3, none⟩ = some x3 ∧ w.cell? ⟨b, 4, none⟩ = some x4 ∧ w.cell? ⟨b, 5, none⟩ = some x5 ∧ w.cell? ⟨b, 6, none⟩ = some x6 ∧ w.cell? ⟨b, 7, none⟩ = some x7 ∧ w.cell? ⟨b, 8, none⟩ = some x8 ∧ w.cell? ⟨b, 9, none⟩ = some x9 := by simp [World.cell?, h]
def Stg.val (s : Stg) (tv : Value) : Value := .agg #[.int .i64 s.kind, .int .i64 s.n0, .int .i64 s.n1, .int .i64 s.n2, .int .i64 s.d0, .int .i64 s.d1, .int .i64 s.d2, tv, .int .i64 s.factor, .int .i64 s.shift]
theorem sl3 {w : World} {b off : Nat} {x y z : Int} (hb : b < w.heap.size) (h0 : w.cell? ⟨b, off, none⟩ = some (.int .i64 x)) (h1 : w.cell? ⟨b, off + 1, none⟩ = some (.int .i64 y)) (h2 : w.cell? ⟨b, off + 2, none⟩ = some (.int .i64 z)) : Sl w (.slice (some ⟨b, off, none⟩) 3 3) [x, y, z] :=
  .inr ⟨b, off, 3, rfl, hb, by simp, by omega, fun k hk => by
    match k, hk with
    | 0, _ => exact h0
    | 1, _ => exact h1
    | 2, _ => exact h2⟩

theorem int_beq (a b : Int) : (a == b) = decide (a = b) := by rw [Bool.eq_iff_iff]; simp
theorem Stg.ok_eq (kind n0 n1 n2 d0 d1 d2 : Int) (taps : List Int) (fac sh : Int) : Stg.ok ⟨kind, n0, n1, n2, d0, d1, d2, taps, fac, sh⟩ = (if kind = 0 then (decide (taps.length = 0) && decide (fac = 0) && decide (sh = 0)) && eqA n0 n1 n2 n0 0 0 && eqA d0 d1 d2 d0 0 0 && inB n0 1 1048576 && inB d0 1 1048576
    else if kind = 1 then (decide (taps.length = 0) && decide (fac = 0) && decide (sh = 0)) && termsOk [n0, n1, n2] && termsOk [d0, d1, d2] && (d0 != 0)
    else if kind = 2 then eqA n0 n1 n2 0 0 0 && eqA d0 d1 d2 0 0 0 && inB taps.length 1 128 && termsOk taps && (sumL taps != 0) && inB fac 1 64 && inB sh 0 40 else false) := by
  unfold Stg.ok Stg.plain eqA
  simp only [int_beq, bne, decide_true, Bool.true_and, Bool.and_assoc]
set_option maxRecDepth 100000 in
set_option maxHeartbeats 4000000 in
theorem vstage_any (s : Stg) (tv : Value) (w : World) (hs : Sl w tv s.taps) :
    Calls Tryz.prog 80 #[s.val tv] w fun e w' => e = .returned (.bool s.ok) ∧ w.grownBy w' none := by
  obtain ⟨kind, n0, n1, n2, d0, d1, d2, taps, fac, sh⟩ := s
  have HG := Lib.hid (gb_alloc (gb_refl w none) (.cells #[.int .i64 kind, .int .i64 n0, .int .i64 n1, .int .i64 n2, .int .i64 d0, .int .i64 d1, .int .i64 d2, tv, .int .i64 fac, .int .i64 sh] 53))
  have HN := Lib.hid (heap_alloc_new w (.cells #[.int .i64 kind, .int .i64 n0, .int .i64 n1, .int .i64 n2, .int .i64 d0, .int .i64 d1, .int .i64 d2, tv, .int .i64 fac, .int .i64 sh] 53))
  dsimp only at hs
  obtain ⟨ta, tc, rfl⟩ := hs.shape
  have TM := Lib.hid (terms_any taps _ _ (hs.after HG.out))
  have SM := Lib.hid (fun a b => sum_any taps _ _ (hs.after HG.out) a b)
  clear hs
  obtain ⟨p, hp⟩ : ∃ p, (decide (taps.length = 0) && decide (fac = 0) && decide (sh = 0)) = p := ⟨_, rfl⟩
  obtain ⟨xn, hxn⟩ : ∃ p, eqA n0 n1 n2 n0 0 0 = p := ⟨_, rfl⟩
  obtain ⟨xd, hxd⟩ : ∃ p, eqA d0 d1 d2 d0 0 0 = p := ⟨_, rfl⟩
  obtain ⟨un, hun⟩ : ∃ p, inB n0 1 1048576 = p := ⟨_, rfl⟩
  obtain ⟨ud, hud⟩ : ∃ p, inB d0 1 1048576 = p := ⟨_, rfl⟩
  obtain ⟨tn, htn⟩ : ∃ p, termsOk [n0, n1, n2] = p := ⟨_, rfl⟩
  obtain ⟨td, htd⟩ : ∃ p, termsOk [d0, d1, d2] = p := ⟨_, rfl⟩
  obtain ⟨z, hz⟩ : ∃ p, (d0 != 0) = p := ⟨_, rfl⟩
  obtain ⟨an, han⟩ : ∃ p, eqA n0 n1 n2 0 0 0 = p := ⟨_, rfl⟩
  obtain ⟨ad, had⟩ : ∃ p, eqA d0 d1 d2 0 0 0 = p := ⟨_, rfl⟩
  obtain ⟨c, hc⟩ : ∃ p, inB taps.length 1 128 = p := ⟨_, rfl⟩
  obtain ⟨tt, htt⟩ : ∃ p, termsOk taps = p := ⟨_, rfl⟩
  obtain ⟨s0, hs0⟩ : ∃ p, (sumL taps != 0) = p := ⟨_, rfl⟩
  obtain ⟨f, hf⟩ : ∃ p, inB fac 1 64 = p := ⟨_, rfl⟩
  obtain ⟨g, hg⟩ : ∃ p, inB sh 0 40 = p := ⟨_, rfl⟩
  have HOK : Hid (Stg.ok ⟨kind, n0, n1, n2, d0, d1, d2, taps, fac, sh⟩ = (if kind = 0 then p && xn && xd && un && ud else if kind = 1 then p && tn && td && z else if kind = 2 then an && ad && c && tt && s0 && f && g else false)) := Lib.hid (by
    rw [Stg.ok_eq, hp, hxn, hxd, hun, hud, htn, htd, hz, han, had, hc, htt, hs0, hf, hg])
  generalize Stg.ok ⟨kind, n0, n1, n2, d0, d1, d2, taps, fac, sh⟩ = ok at *
  simp only [Stg.val]
  rw [htt] at TM
  have SM2 : Hid (tt = true → c = true → Calls Tryz.prog 84 #[.slice ta taps.length tc] (w.alloc (.cells #[.int .i64 kind, .int .i64 n0, .int .i64 n1, .int .i64 n2, .int .i64 d0, .int .i64 d1, .int .i64 d2, .slice ta taps.length tc, .int .i64 fac, .int .i64 sh] 53)) fun e w' => e = .returned (.int .i64 (sumL taps)) ∧ (w.alloc (.cells #[.int .i64 kind, .int .i64 n0, .int .i64 n1, .int .i64 n2, .int .i64 d0, .int .i64 d1, .int .i64 d2, .slice ta taps.length tc, .int .i64 fac, .int .i64 sh] 53)) = w') := Lib.hid (fun a b => SM.out (htt.trans a) (by have := hc.trans b; rw [inB_iff] at this; omega))
  clear SM htt
  have HP : Hid ((decide (taps.length = 0) && decide (fac = 0) && decide (sh = 0)) = p) := Lib.hid hp
  clear hp
  obtain ⟨q0_, q1_, q2_, q3_, q4_, q5_, q6_, q7_, q8_, q9_⟩ := cells10 HN.out
  have hbl := block_lt' HN.out
  have TN := Lib.hid (terms_any _ _ _ (sl3 hbl q1_ q2_ q3_))
  have TD := Lib.hid (terms_any _ _ _ (sl3 hbl q4_ q5_ q6_))
  rw [htn] at TN; rw [htd] at TD
  clear htn htd
  go_enter Tryz.func80, Tryz.ntmps80
  go_upto_region 1 with fail
  generalize w.alloc (.cells #[.int .i64 kind, .int .i64 n0, .int .i64 n1, .int .i64 n2, .int .i64 d0, .int .i64 d1, .int .i64 d2, .slice ta taps.length tc, .int .i64 fac, .int .i64 sh] 53) = w1 at *
  generalize w.heap.size = b at *
  go_cut [3] from 4 to 17 (fun v wc => v = .bool p ∧ wc = w1)
  case first =>
    by_cases h1 : taps.length = 0
    · have t1_ : ((taps.length : Int) == 0) = true := by simpa using h1
      by_cases h2 : fac = 0
      · have t2_ : (fac == 0) = true := by simpa using h2
        have HE : Hid (p = (sh == 0)) := Lib.hid (by rw [← HP.out, decide_eq_true h1, decide_eq_true h2, int_beq]; rfl)
        clear h1 h2
        go_wp2
        go_meet
        case rel => exact ⟨by rw [HE.out], rfl⟩
      · have t2_ : (fac == 0) = false := by simpa using h2
        have HE : Hid (p = false) := Lib.hid (by rw [← HP.out, decide_eq_false h2]; simp)
        clear h1 h2
        go_wp2
        go_meet
        case rel => exact ⟨by rw [HE.out], rfl⟩
    · have t1_ : ((taps.length : Int) == 0) = false := by simpa using h1
      have HE : Hid (p = false) := Lib.hid (by rw [← HP.out, decide_eq_false h1]; simp)
      clear h1
      go_wp2
      go_meet
      case rel => exact ⟨by rw [HE.out], rfl⟩
  case rest =>
  obtain ⟨rfl, hwc⟩ := hcut
  obtain rfl : w1 = wc := hwc.symm
  clear HP HN
  by_cases h0 : kind = 0
  · subst h0
    rw [if_pos rfl] at HOK
    clear TM SM2 TN TD hz han had hc hs0 hf hg
    cases p
    · go_wp2_with (first
        | (go_at_call 65; refine (rin_any _ _ _ _).mono ?_; rintro e w' ⟨rfl, rfl⟩))
      go_ret
      exact ⟨by rw [HOK.out]; rfl, HG.out⟩
    cases xn
    · go_wp2_with (first
        | (go_at_call 65; refine (rin_any _ _ _ _).mono ?_; rintro e w' ⟨rfl, rfl⟩))
      go_ret
      exact ⟨by rw [HOK.out]; rfl, HG.out⟩
    cases xd
    · go_wp2_with (first
        | (go_at_call 65; refine (rin_any _ _ _ _).mono ?_; rintro e w' ⟨rfl, rfl⟩))
      go_ret
      exact ⟨by rw [HOK.out]; rfl, HG.out⟩
    cases un
    · go_wp2_with (first
        | (go_at_call 65; refine (rin_any _ _ _ _).mono ?_; rintro e w' ⟨rfl, rfl⟩))
      go_ret
      exact ⟨by rw [HOK.out]; rfl, HG.out⟩
    cases ud
    · go_wp2_with (first
        | (go_at_call 65; refine (rin_any _ _ _ _).mono ?_; rintro e w' ⟨rfl, rfl⟩))
      go_ret
      exact ⟨by rw [HOK.out]; rfl, HG.out⟩
    go_wp2_with (first
      | (go_at_call 65; refine (rin_any _ _ _ _).mono ?_; rintro e w' ⟨rfl, rfl⟩))
    go_ret
    exact ⟨by rw [HOK.out]; rfl, HG.out⟩
  have h0_ : (kind == 0) = false := by simpa using h0
  rw [if_neg h0] at HOK
  clear h0 hxn hxd hun hud
  by_cases h1 : kind = 1
  · subst h1
    rw [if_pos rfl] at HOK
    clear TM SM2 han had hc hs0 hf hg
    cases p
    · go_wp2_with (first
        | (go_at_call 107; first | (with_reducible refine TN.out.mono ?_) | (with_reducible refine TD.out.mono ?_); rintro e w' ⟨rfl, rfl⟩))
      go_ret
      exact ⟨by rw [HOK.out]; rfl, HG.out⟩
    cases tn
    · go_wp2_with (first
        | (go_at_call 107; first | (with_reducible refine TN.out.mono ?_) | (with_reducible refine TD.out.mono ?_); rintro e w' ⟨rfl, rfl⟩))
      go_ret
      exact ⟨by rw [HOK.out]; rfl, HG.out⟩
    cases td
    · go_wp2_with (first
        | (go_at_call 107; first | (with_reducible refine TN.out.mono ?_) | (with_reducible refine TD.out.mono ?_); rintro e w' ⟨rfl, rfl⟩))
      go_ret
      exact ⟨by rw [HOK.out]; rfl, HG.out⟩
    cases z
    · go_wp2_with (first
        | (go_at_call 107; first | (with_reducible refine TN.out.mono ?_) | (with_reducible refine TD.out.mono ?_); rintro e w' ⟨rfl, rfl⟩))
      go_ret
      exact ⟨by rw [HOK.out]; rfl, HG.out⟩
    go_wp2_with (first
      | (go_at_call 107; first | (with_reducible refine TN.out.mono ?_) | (with_reducible refine TD.out.mono ?_); rintro e w' ⟨rfl, rfl⟩))
    go_ret
    exact ⟨by rw [HOK.out]; rfl, HG.out⟩
  have h1_ : (kind == 1) = false := by simpa using h1
  rw [if_neg h1] at HOK
  clear h1 TN TD hz
  by_cases h2 : kind = 2
  · subst h2
    rw [if_pos rfl] at HOK
    cases an
    · go_wp2_with (first
        | (go_at_call 65; refine (rin_any _ _ _ _).mono ?_; rintro e w' ⟨rfl, rfl⟩)
        | (go_at_call 107; (with_reducible refine TM.out.mono ?_); rintro e w' ⟨rfl, rfl⟩)
        | (go_at_call 84; (with_reducible refine (SM2.out rfl rfl).mono ?_); rintro e w' ⟨rfl, rfl⟩))
      go_ret
      exact ⟨by rw [HOK.out]; rfl, HG.out⟩
    cases ad
    · go_wp2_with (first
        | (go_at_call 65; refine (rin_any _ _ _ _).mono ?_; rintro e w' ⟨rfl, rfl⟩)
        | (go_at_call 107; (with_reducible refine TM.out.mono ?_); rintro e w' ⟨rfl, rfl⟩)
        | (go_at_call 84; (with_reducible refine (SM2.out rfl rfl).mono ?_); rintro e w' ⟨rfl, rfl⟩))
      go_ret
      exact ⟨by rw [HOK.out]; rfl, HG.out⟩
    cases c
    · go_wp2_with (first
        | (go_at_call 65; refine (rin_any _ _ _ _).mono ?_; rintro e w' ⟨rfl, rfl⟩)
        | (go_at_call 107; (with_reducible refine TM.out.mono ?_); rintro e w' ⟨rfl, rfl⟩)
        | (go_at_call 84; (with_reducible refine (SM2.out rfl rfl).mono ?_); rintro e w' ⟨rfl, rfl⟩))
      go_ret
      exact ⟨by rw [HOK.out]; rfl, HG.out⟩
    cases tt
    · go_wp2_with (first
        | (go_at_call 65; refine (rin_any _ _ _ _).mono ?_; rintro e w' ⟨rfl, rfl⟩)
        | (go_at_call 107; (with_reducible refine TM.out.mono ?_); rintro e w' ⟨rfl, rfl⟩)
        | (go_at_call 84; (with_reducible refine (SM2.out rfl rfl).mono ?_); rintro e w' ⟨rfl, rfl⟩))
      go_ret
      exact ⟨by rw [HOK.out]; rfl, HG.out⟩
    have SM3 := Lib.hid (SM2.out rfl rfl)
    clear SM2
    cases s0
    · go_wp2_with (first
        | (go_at_call 65; refine (rin_any _ _ _ _).mono ?_; rintro e w' ⟨rfl, rfl⟩)
        | (go_at_call 107; (with_reducible refine TM.out.mono ?_); rintro e w' ⟨rfl, rfl⟩)
        | (go_at_call 84; (with_reducible refine SM3.out.mono ?_); rintro e w' ⟨rfl, rfl⟩))
      go_ret
      exact ⟨by rw [HOK.out]; rfl, HG.out⟩
    cases f
    · go_wp2_with (first
        | (go_at_call 65; refine (rin_any _ _ _ _).mono ?_; rintro e w' ⟨rfl, rfl⟩)
        | (go_at_call 107; (with_reducible refine TM.out.mono ?_); rintro e w' ⟨rfl, rfl⟩)
        | (go_at_call 84; (with_reducible refine SM3.out.mono ?_); rintro e w' ⟨rfl, rfl⟩))
      go_ret
      exact ⟨by rw [HOK.out]; rfl, HG.out⟩
    cases g
    · go_wp2_with (first
        | (go_at_call 65; refine (rin_any _ _ _ _).mono ?_; rintro e w' ⟨rfl, rfl⟩)
        | (go_at_call 107; (with_reducible refine TM.out.mono ?_); rintro e w' ⟨rfl, rfl⟩)
        | (go_at_call 84; (with_reducible refine SM3.out.mono ?_); rintro e w' ⟨rfl, rfl⟩))
      go_ret
      exact ⟨by rw [HOK.out]; rfl, HG.out⟩
    go_wp2_with (first
      | (go_at_call 65; refine (rin_any _ _ _ _).mono ?_; rintro e w' ⟨rfl, rfl⟩)
      | (go_at_call 107; (with_reducible refine TM.out.mono ?_); rintro e w' ⟨rfl, rfl⟩)
      | (go_at_call 84; (with_reducible refine SM3.out.mono ?_); rintro e w' ⟨rfl, rfl⟩))
    go_ret
    exact ⟨by rw [HOK.out]; rfl, HG.out⟩
  have h2_ : (kind == 2) = false := by simpa using h2
  rw [if_neg h2] at HOK
  clear h2 TM SM2 han had hc hs0 hf hg
  go_wp2
  go_ret
  exact ⟨by rw [HOK.out]; rfl, HG.out⟩
end Go.Proofs.YtmgfdfbhfhmekaaGreat
