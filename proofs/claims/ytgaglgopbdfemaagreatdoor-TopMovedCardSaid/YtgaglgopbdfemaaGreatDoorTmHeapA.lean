/- HeapA -/
import Derived.Laws.OwnMore
import Derived.BigRegion
import Derived.Test.YtgaglgopbdfemaaGreatDoorTmRefC
import Derived.Test.YtgaglgopbdfemaaGreatDoorTmSwpA
namespace Go.Proofs.YtgaglgopbdfemaaGreatDoor
set_option linter.all false
section LHq
open Go.RowKit Rg
/-- An open box with its bound and its number. -/
structure Hi where
  b : Bx
  c : Int
  n : Int
deriving Inhabited, DecidableEq
def Hi.cells (i : Hi) : List Value := [.int .i64 i.b.a, .int .i64 i.b.b, .int .i64 i.b.c, .int .i64 i.b.d, .int .i64 i.b.e, .int .i64 i.b.f, .int .i64 i.c, .int .i64 i.n]
def flatHi (l : List Hi) : List Value := l.flatMap Hi.cells
theorem flatHi_cons (a : Hi) (l : List Hi) : flatHi (a :: l) = a.cells ++ flatHi l := by simp [flatHi]
theorem flatHi_append (l m : List Hi) : flatHi (l ++ m) = flatHi l ++ flatHi m := by simp [flatHi]
theorem Hi.cells_length (a : Hi) : a.cells.length = 8 := rfl
theorem flatHi_length (l : List Hi) : (flatHi l).length = l.length * 8 := by
  induction l with
  | nil => rfl
  | cons a l ih => rw [flatHi_cons, List.length_append, ih, Hi.cells_length, List.length_cons]; omega
/-- Item i of a list. -/
def hiAt (l : List Hi) (i : Nat) : Hi := l[i]?.getD default
theorem hiAt_eq {l : List Hi} {i : Nat} (h : i < l.length) : hiAt l i = l[i] := by simp [hiAt, h]
theorem flatHi_at : ∀ (l : List Hi) (i : Nat) (_ : i < l.length) (j : Nat), j < 8 → (flatHi l)[i * 8 + j]? = (hiAt l i).cells[j]?
  | a :: l, 0, _, j, hj => by
    rw [flatHi_cons, Nat.zero_mul, Nat.zero_add, List.getElem?_append_left (by rw [Hi.cells_length]; omega)]; rfl
  | a :: l, i + 1, h, j, hj => by
    rw [flatHi_cons, List.getElem?_append_right (by rw [Hi.cells_length]; omega), Hi.cells_length, show (i + 1) * 8 + j - 8 = i * 8 + j by omega, flatHi_at l i (by simpa using h) j hj]; rfl
/-- The order of the queue. -/
def hlt (a b : Hi) : Bool := decide (a.c < b.c) || (decide (a.c = b.c) && decide (a.n < b.n))
/-- The row of a queue. -/
def Row (B : Nat) (l : List Hi) (v : Value) (u : World) : Prop := u.ownsRow B 63 8 v l.length (flatHi l)
theorem Row.at {B : Nat} {l : List Hi} {v : Value} {u : World} (h : Row B l v u) (h0 : 0 < l.length) :
    ∃ q cp, v = .slice (some ⟨q, 0, none⟩) l.length cp ∧ q < u.heap.size ∧ B ≤ q ∧ l.length ≤ cp ∧ cp ≤ 9223372036854775807 := by
  obtain ⟨h1, ⟨-, h2⟩ | ⟨q, cp, cur, rfl, hb, hg, hle, hcap, hcs, ht⟩⟩ := h
  · omega
  · exact ⟨q, cp, rfl, block_lt' hg, hb, hle, hcap⟩
theorem Row.it {B : Nat} {l : List Hi} {u : World} {q n cp : Nat} (h : Row B l (.slice (some ⟨q, 0, none⟩) n cp) u) (i : Nat) (hi : i < l.length) :
    u.cell? ⟨q, i * 8, none⟩ = some (.int .i64 (hiAt l i).b.a) ∧ u.cell? ⟨q, i * 8 + 1, none⟩ = some (.int .i64 (hiAt l i).b.b) ∧ u.cell? ⟨q, i * 8 + 2, none⟩ = some (.int .i64 (hiAt l i).b.c) ∧ u.cell? ⟨q, i * 8 + 3, none⟩ = some (.int .i64 (hiAt l i).b.d) ∧ u.cell? ⟨q, i * 8 + 4, none⟩ = some (.int .i64 (hiAt l i).b.e) ∧ u.cell? ⟨q, i * 8 + 5, none⟩ = some (.int .i64 (hiAt l i).b.f) ∧ u.cell? ⟨q, i * 8 + 6, none⟩ = some (.int .i64 (hiAt l i).c) ∧ u.cell? ⟨q, i * 8 + 7, none⟩ = some (.int .i64 (hiAt l i).n) := by
  have hc : ∀ j x, (flatHi l)[j]? = some x → u.cell? ⟨q, j, none⟩ = some x := fun j x hj => by
    have := World.ownsRow.cells (g := q) h rfl j x hj
    have hadd : (⟨q, 0, none⟩ : Addr).add j = ⟨q, j, none⟩ := by unfold Addr.add; split <;> simp_all
    rw [hadd] at this; exact this
  exact ⟨hc _ _ (flatHi_at l i hi 0 (by omega)), hc _ _ (flatHi_at l i hi 1 (by omega)), hc _ _ (flatHi_at l i hi 2 (by omega)), hc _ _ (flatHi_at l i hi 3 (by omega)), hc _ _ (flatHi_at l i hi 4 (by omega)), hc _ _ (flatHi_at l i hi 5 (by omega)), hc _ _ (flatHi_at l i hi 6 (by omega)), hc _ _ (flatHi_at l i hi 7 (by omega))⟩
theorem Row.keep {B : Nat} {l : List Hi} {v : Value} {u u' : World} (h : Row B l v u) (hg : u.grownBy u' none) : Row B l v u' := owns_keep h hg
set_option maxHeartbeats 1000000 in
theorem cmpor2_any (a b : Int) (v : Value) (w : World) (h : Sl w v [a, b]) :
    Calls Tryz.prog 121 #[v] w fun e w' => e = .returned (.int .i64 (if a ≠ 0 then a else b)) ∧ w = w' := by
  rcases h with ⟨h, _⟩ | ⟨g, off, cap, rfl, hb, hcap, hcap2, hc⟩
  · cases h
  have c0 := hc 0 (by simp); have c1 := hc 1 (by simp)
  simp only [List.length_cons, List.length_nil, List.getElem?_cons_zero, List.getElem?_cons_succ, Option.getD_some, Nat.add_zero] at c0 c1 hcap
  clear hc
  by_cases ha : a = 0
  rotate_left
  · go_enter Tryz.func121, Tryz.ntmps121
    go_wp2
    refine wp_loop_rounds 3 ?_
    repeat any_goals (rw [rounds_succ]; go_wp2)
    go_ret
    exact ⟨ret_int (by simp [ha]), rfl⟩
  by_cases hb : b = 0
  all_goals
    go_enter Tryz.func121, Tryz.ntmps121
    go_wp2
    refine wp_loop_rounds 3 ?_
    repeat any_goals (rw [rounds_succ]; go_wp2)
    go_ret
    exact ⟨ret_int (by simp [ha, hb]), rfl⟩
set_option maxRecDepth 100000 in
set_option maxHeartbeats 2000000 in
theorem qless_any (B : Nat) (l : List Hi) (v : Value) (w : World) (h : Row B l v w) (i k : Nat) (hi : i < l.length) (hk : k < l.length) :
    Calls Tryz.prog 551 #[v, .int .i64 i, .int .i64 k] w fun e w' => e = .returned (.bool (hlt (hiAt l i) (hiAt l k))) ∧ w.grownBy w' none := by
  obtain ⟨q, cp, rfl, hq, -, hcp, hcp2⟩ := h.at (by omega)
  obtain ⟨-, -, -, -, -, -, i6_, i7_⟩ := h.it i hi
  obtain ⟨-, -, -, -, -, -, k6_, k7_⟩ := h.it k hk
  have hln : (l.length : Int) ≤ 9223372036854775807 := by omega
  have HR : Hid (hlt (hiAt l i) (hiAt l k) = decide ((if sgn (hiAt l i).c (hiAt l k).c ≠ 0 then sgn (hiAt l i).c (hiAt l k).c else sgn (hiAt l i).n (hiAt l k).n) < 0)) := Lib.hid (by
    generalize hiAt l i = a; generalize hiAt l k = b
    unfold hlt sgn
    rcases Int.lt_trichotomy a.c b.c with h1 | h1 | h1
    · simp [h1]
    · rw [h1]
      rcases Int.lt_trichotomy a.n b.n with h2 | h2 | h2
      · simp [h2]
      · simp [h2]
      · simp [h2, show ¬ a.n < b.n by omega]
    · simp [h1, show ¬ a.c < b.c by omega, show ¬ a.c = b.c by omega])
  clear h
  generalize hlt (hiAt l i) (hiAt l k) = r_ at *
  generalize (hiAt l i).c = ic at *
  generalize (hiAt l i).n = in_ at *
  generalize (hiAt l k).c = kc at *
  generalize (hiAt l k).n = kn at *
  go_enter Tryz.func551, Tryz.ntmps551
  go_wp2_with fail
  refine Rg.region (Made w) Makes (fun k => if k = 10 then some (isV (.int .i64 (sgn ic kc))) else if k = 21 then some (isV (.int .i64 (sgn in_ kn))) else if k = 22 then some (isLit w [sgn ic kc, sgn in_ kn]) else if k = 23 then some (isV (.int .i64 (if sgn ic kc ≠ 0 then sgn ic kc else sgn in_ kn))) else none) (fun _ => false) 0 26 (by kernel_rfl) (by kernel_rfl) (by kernel_rfl) (by kernel_rfl) (by kernel_rfl) (by kernel_rfl) (by kernel_rfl) Makes.size (Made.start w) (fun hne => ?_)
  have lx := fun o (u : Cls (Made w)) => gb_cell (evr_h u) (o := o) hq (by simp)
  (repeat (refine rLexL_quiet (by rfl) (by rfl) (by rfl) (by rfl) ?_; go_big_quiet_step (fail); refine wpQuiet_nil ?_))
  refine rg_fix (.int .i64 (sgn ic kc)) 176 #[.int .i64 ic, .int .i64 kc] rfl rfl rfl (fun _ => by go_simp) (fun u hu => same_grown (cmpc_any _ _ u)) ?_
  simp only [Act.put, List.setIfInBounds_toArray, List.set_cons_zero, List.set_cons_succ]
  (repeat (refine rLexL_quiet (by rfl) (by rfl) (by rfl) (by rfl) ?_; go_big_quiet_step (fail); refine wpQuiet_nil ?_))
  refine rg_fix (.int .i64 (sgn in_ kn)) 176 #[.int .i64 in_, .int .i64 kn] rfl rfl rfl (fun _ => by go_simp) (fun u hu => same_grown (cmpc_any _ _ u)) ?_
  simp only [Act.put, List.setIfInBounds_toArray, List.set_cons_zero, List.set_cons_succ]
  (repeat (refine rLexL_quiet (by rfl) (by rfl) (by rfl) (by rfl) ?_; go_big_quiet_step (fail); refine wpQuiet_nil ?_))
  refine rg_litM [sgn ic kc, sgn in_ kn] 3 rfl rfl rfl (fun _ => by go_simp) rfl (fun vl => ?_)
  simp only [Act.put, List.setIfInBounds_toArray, List.set_cons_zero, List.set_cons_succ]
  (repeat (refine rLexL_quiet (by rfl) (by rfl) (by rfl) (by rfl) ?_; go_big_quiet_step (fail); refine wpQuiet_nil ?_))
  refine rg_fixD (.int .i64 (if sgn ic kc ≠ 0 then sgn ic kc else sgn in_ kn)) 121 #[vl] rfl rfl rfl (fun _ => by go_simp) (fun u hu hd => same_grown (cmpor2_any _ _ vl u (hd ⟨22, .data⟩ (by simp) rfl).1)) ?_
  simp only [Act.put, List.setIfInBounds_toArray, List.set_cons_zero, List.set_cons_succ]
  generalize (if sgn ic kc ≠ 0 then sgn ic kc else sgn in_ kn) = r2 at *
  (repeat (refine rLexL_quiet (by rfl) (by rfl) (by rfl) (by rfl) ?_; go_big_quiet_step (fail); refine wpQuiet_nil ?_))
  rintro wq hgq - -
  have HG := Lib.hid (show w.grownBy wq none from hgq)
  clear hgq hne lx
  refine wpList_nil ?_
  go_wp2_with fail
  go_ret
  exact ⟨ret_bool HR.out.symm, HG.out⟩
theorem qlen_any (v : Value) (a : Option Addr) (n c : Nat) (w : World) (hv : v = .slice a n c) :
    Calls Tryz.prog 550 #[v] w fun e w' => e = .returned (.int .i64 n) ∧ w = w' := by
  subst hv
  go_enter Tryz.func550, Tryz.ntmps550
  go_wp2
  go_ret
  exact ⟨rfl, rfl⟩
/-- Two items are exchanged. -/
def swapL (l : List Hi) (i k : Nat) : List Hi := (l.set i (hiAt l k)).set k (hiAt l i)
theorem swapL_length (l : List Hi) (i k : Nat) : (swapL l i k).length = l.length := by simp [swapL]
theorem flatHi_set : ∀ (l : List Hi) (i : Nat) (x : Hi), i < l.length → flatHi (l.set i x) = setLL (flatHi l) (i * 8) x.cells
  | a :: l, 0, x, _ => by
    rw [List.set_cons_zero, flatHi_cons, flatHi_cons]
    simp [Hi.cells, setLL]
  | a :: l, i + 1, x, h => by
    rw [List.set_cons_succ, flatHi_cons, flatHi_cons, flatHi_set l i x (by simpa using h), show (i + 1) * 8 = a.cells.length + i * 8 by rw [Hi.cells_length]; omega, setLL_append]
theorem Row.swap {B : Nat} {l : List Hi} {u : World} {q cp : Nat} (h : Row B l (.slice (some ⟨q, 0, none⟩) l.length cp) u) (i k : Nat) (hi : i < l.length) (hk : k < l.length) :
    Row B (swapL l i k) (.slice (some ⟨q, 0, none⟩) l.length cp) ((u.setCells q (i * 8) (hiAt l k).cells).setCells q (k * 8) (hiAt l i).cells) ∧ u.grownBy ((u.setCells q (i * 8) (hiAt l k).cells).setCells q (k * 8) (hiAt l i).cells) (some q) := by
  refine ⟨?_, setCells_grown _ _ _ (setCells_grown _ _ _ (gb_refl _ _) (.inr rfl)) (.inr rfl)⟩
  unfold Row swapL
  rw [List.length_set, List.length_set, flatHi_set _ _ _ (by simpa using hk), flatHi_set _ _ _ hi]
  exact owns_setCells _ _ _ _ (owns_setCells _ _ _ _ h)
theorem apart128 {i k : Nat} (h : i ≠ k) : ¬ (i * 8 = k * 8) ∧ ¬ (i * 8 = k * 8 + 1) ∧ ¬ (i * 8 = k * 8 + 2) ∧ ¬ (i * 8 = k * 8 + 3) ∧ ¬ (i * 8 = k * 8 + 4) ∧ ¬ (i * 8 = k * 8 + 5) ∧ ¬ (i * 8 = k * 8 + 6) ∧ ¬ (i * 8 = k * 8 + 7) ∧ ¬ (i * 8 + 1 = k * 8) ∧ ¬ (i * 8 + 1 = k * 8 + 1) ∧ ¬ (i * 8 + 1 = k * 8 + 2) ∧ ¬ (i * 8 + 1 = k * 8 + 3) ∧ ¬ (i * 8 + 1 = k * 8 + 4) ∧ ¬ (i * 8 + 1 = k * 8 + 5) ∧ ¬ (i * 8 + 1 = k * 8 + 6) ∧ ¬ (i * 8 + 1 = k * 8 + 7) ∧ ¬ (i * 8 + 2 = k * 8) ∧ ¬ (i * 8 + 2 = k * 8 + 1) ∧ ¬ (i * 8 + 2 = k * 8 + 2) ∧ ¬ (i * 8 + 2 = k * 8 + 3) ∧ ¬ (i * 8 + 2 = k * 8 + 4) ∧ ¬ (i * 8 + 2 = k * 8 + 5) ∧ ¬ (i * 8 + 2 = k * 8 + 6) ∧ ¬ (i * 8 + 2 = k * 8 + 7) ∧ ¬ (i * 8 + 3 = k * 8) ∧ ¬ (i * 8 + 3 = k * 8 + 1) ∧ ¬ (i * 8 + 3 = k * 8 + 2) ∧ ¬ (i * 8 + 3 = k * 8 + 3) ∧ ¬ (i * 8 + 3 = k * 8 + 4) ∧ ¬ (i * 8 + 3 = k * 8 + 5) ∧ ¬ (i * 8 + 3 = k * 8 + 6) ∧ ¬ (i * 8 + 3 = k * 8 + 7) ∧ ¬ (i * 8 + 4 = k * 8) ∧ ¬ (i * 8 + 4 = k * 8 + 1) ∧ ¬ (i * 8 + 4 = k * 8 + 2) ∧ ¬ (i * 8 + 4 = k * 8 + 3) ∧ ¬ (i * 8 + 4 = k * 8 + 4) ∧ ¬ (i * 8 + 4 = k * 8 + 5) ∧ ¬ (i * 8 + 4 = k * 8 + 6) ∧ ¬ (i * 8 + 4 = k * 8 + 7) ∧ ¬ (i * 8 + 5 = k * 8) ∧ ¬ (i * 8 + 5 = k * 8 + 1) ∧ ¬ (i * 8 + 5 = k * 8 + 2) ∧ ¬ (i * 8 + 5 = k * 8 + 3) ∧ ¬ (i * 8 + 5 = k * 8 + 4) ∧ ¬ (i * 8 + 5 = k * 8 + 5) ∧ ¬ (i * 8 + 5 = k * 8 + 6) ∧ ¬ (i * 8 + 5 = k * 8 + 7) ∧ ¬ (i * 8 + 6 = k * 8) ∧ ¬ (i * 8 + 6 = k * 8 + 1) ∧ ¬ (i * 8 + 6 = k * 8 + 2) ∧ ¬ (i * 8 + 6 = k * 8 + 3) ∧ ¬ (i * 8 + 6 = k * 8 + 4) ∧ ¬ (i * 8 + 6 = k * 8 + 5) ∧ ¬ (i * 8 + 6 = k * 8 + 6) ∧ ¬ (i * 8 + 6 = k * 8 + 7) ∧ ¬ (i * 8 + 7 = k * 8) ∧ ¬ (i * 8 + 7 = k * 8 + 1) ∧ ¬ (i * 8 + 7 = k * 8 + 2) ∧ ¬ (i * 8 + 7 = k * 8 + 3) ∧ ¬ (i * 8 + 7 = k * 8 + 4) ∧ ¬ (i * 8 + 7 = k * 8 + 5) ∧ ¬ (i * 8 + 7 = k * 8 + 6) ∧ ¬ (i * 8 + 7 = k * 8 + 7) ∧ ¬ (k * 8 = i * 8) ∧ ¬ (k * 8 + 1 = i * 8) ∧ ¬ (k * 8 + 2 = i * 8) ∧ ¬ (k * 8 + 3 = i * 8) ∧ ¬ (k * 8 + 4 = i * 8) ∧ ¬ (k * 8 + 5 = i * 8) ∧ ¬ (k * 8 + 6 = i * 8) ∧ ¬ (k * 8 + 7 = i * 8) ∧ ¬ (k * 8 = i * 8 + 1) ∧ ¬ (k * 8 + 1 = i * 8 + 1) ∧ ¬ (k * 8 + 2 = i * 8 + 1) ∧ ¬ (k * 8 + 3 = i * 8 + 1) ∧ ¬ (k * 8 + 4 = i * 8 + 1) ∧ ¬ (k * 8 + 5 = i * 8 + 1) ∧ ¬ (k * 8 + 6 = i * 8 + 1) ∧ ¬ (k * 8 + 7 = i * 8 + 1) ∧ ¬ (k * 8 = i * 8 + 2) ∧ ¬ (k * 8 + 1 = i * 8 + 2) ∧ ¬ (k * 8 + 2 = i * 8 + 2) ∧ ¬ (k * 8 + 3 = i * 8 + 2) ∧ ¬ (k * 8 + 4 = i * 8 + 2) ∧ ¬ (k * 8 + 5 = i * 8 + 2) ∧ ¬ (k * 8 + 6 = i * 8 + 2) ∧ ¬ (k * 8 + 7 = i * 8 + 2) ∧ ¬ (k * 8 = i * 8 + 3) ∧ ¬ (k * 8 + 1 = i * 8 + 3) ∧ ¬ (k * 8 + 2 = i * 8 + 3) ∧ ¬ (k * 8 + 3 = i * 8 + 3) ∧ ¬ (k * 8 + 4 = i * 8 + 3) ∧ ¬ (k * 8 + 5 = i * 8 + 3) ∧ ¬ (k * 8 + 6 = i * 8 + 3) ∧ ¬ (k * 8 + 7 = i * 8 + 3) ∧ ¬ (k * 8 = i * 8 + 4) ∧ ¬ (k * 8 + 1 = i * 8 + 4) ∧ ¬ (k * 8 + 2 = i * 8 + 4) ∧ ¬ (k * 8 + 3 = i * 8 + 4) ∧ ¬ (k * 8 + 4 = i * 8 + 4) ∧ ¬ (k * 8 + 5 = i * 8 + 4) ∧ ¬ (k * 8 + 6 = i * 8 + 4) ∧ ¬ (k * 8 + 7 = i * 8 + 4) ∧ ¬ (k * 8 = i * 8 + 5) ∧ ¬ (k * 8 + 1 = i * 8 + 5) ∧ ¬ (k * 8 + 2 = i * 8 + 5) ∧ ¬ (k * 8 + 3 = i * 8 + 5) ∧ ¬ (k * 8 + 4 = i * 8 + 5) ∧ ¬ (k * 8 + 5 = i * 8 + 5) ∧ ¬ (k * 8 + 6 = i * 8 + 5) ∧ ¬ (k * 8 + 7 = i * 8 + 5) ∧ ¬ (k * 8 = i * 8 + 6) ∧ ¬ (k * 8 + 1 = i * 8 + 6) ∧ ¬ (k * 8 + 2 = i * 8 + 6) ∧ ¬ (k * 8 + 3 = i * 8 + 6) ∧ ¬ (k * 8 + 4 = i * 8 + 6) ∧ ¬ (k * 8 + 5 = i * 8 + 6) ∧ ¬ (k * 8 + 6 = i * 8 + 6) ∧ ¬ (k * 8 + 7 = i * 8 + 6) ∧ ¬ (k * 8 = i * 8 + 7) ∧ ¬ (k * 8 + 1 = i * 8 + 7) ∧ ¬ (k * 8 + 2 = i * 8 + 7) ∧ ¬ (k * 8 + 3 = i * 8 + 7) ∧ ¬ (k * 8 + 4 = i * 8 + 7) ∧ ¬ (k * 8 + 5 = i * 8 + 7) ∧ ¬ (k * 8 + 6 = i * 8 + 7) ∧ ¬ (k * 8 + 7 = i * 8 + 7) := ⟨by omega, by omega, by omega, by omega, by omega, by omega, by omega, by omega, by omega, by omega, by omega, by omega, by omega, by omega, by omega, by omega, by omega, by omega, by omega, by omega, by omega, by omega, by omega, by omega, by omega, by omega, by omega, by omega, by omega, by omega, by omega, by omega, by omega, by omega, by omega, by omega, by omega, by omega, by omega, by omega, by omega, by omega, by omega, by omega, by omega, by omega, by omega, by omega, by omega, by omega, by omega, by omega, by omega, by omega, by omega, by omega, by omega, by omega, by omega, by omega, by omega, by omega, by omega, by omega, by omega, by omega, by omega, by omega, by omega, by omega, by omega, by omega, by omega, by omega, by omega, by omega, by omega, by omega, by omega, by omega, by omega, by omega, by omega, by omega, by omega, by omega, by omega, by omega, by omega, by omega, by omega, by omega, by omega, by omega, by omega, by omega, by omega, by omega, by omega, by omega, by omega, by omega, by omega, by omega, by omega, by omega, by omega, by omega, by omega, by omega, by omega, by omega, by omega, by omega, by omega, by omega, by omega, by omega, by omega, by omega, by omega, by omega, by omega, by omega, by omega, by omega, by omega, by omega⟩
set_option maxRecDepth 100000 in
set_option maxHeartbeats 8000000 in
theorem qswap_any (B : Nat) (l : List Hi) (q cp : Nat) (w : World) (h : Row B l (.slice (some ⟨q, 0, none⟩) l.length cp) w) (i k : Nat) (hi : i < l.length) (hk : k < l.length) :
    Calls Tryz.prog 552 #[.slice (some ⟨q, 0, none⟩) l.length cp, .int .i64 i, .int .i64 k] w fun e w' => e = .returned (.tuple #[]) ∧ Row B (swapL l i k) (.slice (some ⟨q, 0, none⟩) l.length cp) w' ∧ w.grownBy w' (some q) := by
  obtain ⟨q', cp', he, hq, -, hcp, hcp2⟩ := h.at (by omega)
  simp only [Value.slice.injEq, Option.some.injEq, Addr.mk.injEq, true_and, and_true] at he
  obtain ⟨rfl, rfl⟩ := he
  have HS := Lib.hid (h.swap i k hi hk)
  have hf := fun j => World.ownsRow.frozenAt h j
  obtain ⟨i0_, i1_, i2_, i3_, i4_, i5_, i6_, i7_⟩ := h.it i hi
  obtain ⟨k0_, k1_, k2_, k3_, k4_, k5_, k6_, k7_⟩ := h.it k hk
  have hln : (l.length : Int) ≤ 9223372036854775807 := by omega
  clear h
  by_cases hik : i = k
  · subst hik
    clear k0_ k1_ k2_ k3_ k4_ k5_ k6_ k7_
    go_enter Tryz.func552, Tryz.ntmps552
    go_wp2_with fail
    go_region
    exact bodyPost_end (v := .tuple #[]) (by simp [results, Tryz.results552, go_sem]) rfl ⟨rfl, Row.keep HS.out.1 (gb_drew (gb_refl _ _)), gb_drew HS.out.2⟩
  · obtain ⟨n0_, n1_, n2_, n3_, n4_, n5_, n6_, n7_, n8_, n9_, n10_, n11_, n12_, n13_, n14_, n15_, n16_, n17_, n18_, n19_, n20_, n21_, n22_, n23_, n24_, n25_, n26_, n27_, n28_, n29_, n30_, n31_, n32_, n33_, n34_, n35_, n36_, n37_, n38_, n39_, n40_, n41_, n42_, n43_, n44_, n45_, n46_, n47_, n48_, n49_, n50_, n51_, n52_, n53_, n54_, n55_, n56_, n57_, n58_, n59_, n60_, n61_, n62_, n63_, n64_, n65_, n66_, n67_, n68_, n69_, n70_, n71_, n72_, n73_, n74_, n75_, n76_, n77_, n78_, n79_, n80_, n81_, n82_, n83_, n84_, n85_, n86_, n87_, n88_, n89_, n90_, n91_, n92_, n93_, n94_, n95_, n96_, n97_, n98_, n99_, n100_, n101_, n102_, n103_, n104_, n105_, n106_, n107_, n108_, n109_, n110_, n111_, n112_, n113_, n114_, n115_, n116_, n117_, n118_, n119_, n120_, n121_, n122_, n123_, n124_, n125_, n126_, n127_⟩ := apart128 hik
    go_enter Tryz.func552, Tryz.ntmps552
    go_wp2_with fail
    go_region
    exact bodyPost_end (v := .tuple #[]) (by simp [results, Tryz.results552, go_sem]) rfl ⟨rfl, Row.keep HS.out.1 (gb_drew (gb_refl _ _)), gb_drew HS.out.2⟩
end LHq
section LHeap
open Go.RowKit Rg
theorem method_row {P : Program} {t : TypeId} {name : String} {p : Array FieldStep} {fn : Option (FuncId × Bool)} (h : ((P.info? t).bind fun i => (i.methods.find? (·.name == name)).map fun m => (m.path, m.func)) = some (p, fn)) :
    ∃ i m, P.info? t = some i ∧ i.methods.find? (·.name == name) = some m ∧ m.path = p ∧ m.func = fn := by
  cases hi : P.info? t with
  | none => rw [hi] at h; simp at h
  | some i =>
    rw [hi] at h
    cases hm : i.methods.find? (·.name == name) with
    | none => simp only [Option.bind_some, hm] at h; simp at h
    | some m => simp only [Option.bind_some, hm] at h; simp at h; exact ⟨i, m, rfl, hm, h.1, h.2⟩
theorem wnc (x : Array TypeId) (t : TypeId) (a : Addr) (s1 s2 : String) : Builtin.ssaWrapNilChk_ x t #[.pointer (some a), strVal s1, strVal s2] = pure (.pointer (some a)) := rfl
theorem und_run {P : Program} {t : TypeId} {d : TypeDesc} {w : World} (h : P.underlying t = some d) : (underlying t).run P w = .ok d w := by
  unfold underlying
  simp [go_sem, h]
theorem method_val {P : Program} {n t : Nat} {name : String} {f : FuncId} {el : TypeId} {a : Addr} {v : Value} {w : World} (h : ((P.info? t).bind fun i => (i.methods.find? (·.name == name)).map fun m => (m.path, m.func)) = some (#[], some (f, false)))
    (hu : P.underlying t = some (.pointer el)) (hl : (loadVar el a).run P w = .ok v w) : (method (n + 1) t (.pointer (some a)) name).run P w = .ok (f, v) w := by
  obtain ⟨i, m, hi, hm, hp, hf⟩ := method_row h
  have h1 : (typeInfo t).run P w = .ok i w := by simp [typeInfo, go_sem, hi]
  unfold method
  simp only [Sem.run_bind, h1, Result.andThen_ok, hm, hp, hf, follow, Sem.run_pure, receiverAt, und_run hu, Place.get, asAddr, List.toList_toArray, Array.isEmpty, List.size_toArray, List.length_nil, decide_true, if_true, wnc, hl]
theorem method_ptr {P : Program} {n t : Nat} {name : String} {f : FuncId} {el : TypeId} {a : Addr} {w : World} (h : ((P.info? t).bind fun i => (i.methods.find? (·.name == name)).map fun m => (m.path, m.func)) = some (#[], some (f, true)))
    (hu : P.underlying t = some (.pointer el)) : (method (n + 1) t (.pointer (some a)) name).run P w = .ok (f, .pointer (some a)) w := by
  obtain ⟨i, m, hi, hm, hp, hf⟩ := method_row h
  unfold method
  simp [typeInfo, go_sem, hi, hm, hp, hf, follow, receiverAt, und_run hu, Place.get]
theorem undQ : Tryz.prog.underlying 174 = some (.pointer 59) := by kernel_rfl
theorem load_q {S : Nat} {w : World} {v : Value} (h : w.cell? ⟨S, 11, none⟩ = some v) : (loadVar 59 ⟨S, 11, none⟩).run Tryz.prog w = .ok v w := by go_simp
theorem meth_less {S : Nat} {w : World} {v : Value} (h : w.cell? ⟨S, 11, none⟩ = some v) (n : Nat) : (method (n + 1) 174 (.pointer (some ⟨S, 11, none⟩)) "Less").run Tryz.prog w = .ok (551, v) w := method_val (by kernel_rfl) undQ (load_q h)
theorem meth_swap {S : Nat} {w : World} {v : Value} (h : w.cell? ⟨S, 11, none⟩ = some v) (n : Nat) : (method (n + 1) 174 (.pointer (some ⟨S, 11, none⟩)) "Swap").run Tryz.prog w = .ok (552, v) w := method_val (by kernel_rfl) undQ (load_q h)
theorem meth_len {S : Nat} {w : World} {v : Value} (h : w.cell? ⟨S, 11, none⟩ = some v) (n : Nat) : (method (n + 1) 174 (.pointer (some ⟨S, 11, none⟩)) "Len").run Tryz.prog w = .ok (550, v) w := method_val (by kernel_rfl) undQ (load_q h)
theorem meth_push (S : Nat) (w : World) (n : Nat) : (method (n + 1) 174 (.pointer (some ⟨S, 11, none⟩)) "Push").run Tryz.prog w = .ok (554, .pointer (some ⟨S, 11, none⟩)) w := method_ptr (by kernel_rfl) undQ
theorem meth_pop (S : Nat) (w : World) (n : Nat) : (method (n + 1) 174 (.pointer (some ⟨S, 11, none⟩)) "Pop").run Tryz.prog w = .ok (553, .pointer (some ⟨S, 11, none⟩)) w := method_ptr (by kernel_rfl) undQ
/-- The queue, a field of the search in block S. -/
structure Qu (S B : Nat) (cs : Array Value) (l : List Hi) (v : Value) (u : World) : Prop where
  s : u.heap[S]? = some (.cells cs 61 (0, 0))
  hv : cs[11]? = some v
  row : Row B l v u
  lt : S < B
  le : B ≤ u.heap.size
/-- What is done by up, at most f times. -/
def upF : Nat → List Hi → Nat → List Hi
  | 0, l, _ => l
  | f + 1, l, j => if (j - 1) / 2 = j then l else if hlt (hiAt l j) (hiAt l ((j - 1) / 2)) then upF f (swapL l ((j - 1) / 2) j) ((j - 1) / 2) else l
theorem upF_length : ∀ (f : Nat) (l : List Hi) (j : Nat), (upF f l j).length = l.length
  | 0, _, _ => rfl
  | f + 1, l, j => by
    unfold upF; split
    · rfl
    · split
      · rw [upF_length f, swapL_length]
      · rfl
theorem Qu.keep {S B : Nat} {cs : Array Value} {l : List Hi} {v : Value} {u u' : World} (h : Qu S B cs l v u) (hg : u.grownBy u' none) : Qu S B cs l v u' := ⟨block_kept hg h.s rfl, h.hv, h.row.keep hg, h.lt, Nat.le_trans h.le hg.size⟩
theorem Qu.cell {S B : Nat} {cs : Array Value} {l : List Hi} {v : Value} {u : World} (h : Qu S B cs l v u) : u.cell? ⟨S, 11, none⟩ = some v := by simp [World.cell?, h.s, h.hv]
theorem Qu.turn {S B : Nat} {cs : Array Value} {l l' : List Hi} {q n cp : Nat} {u u' : World} (h : Qu S B cs l (.slice (some ⟨q, 0, none⟩) n cp) u) (hr : Row B l' (.slice (some ⟨q, 0, none⟩) n cp) u') (hg : u.grownBy u' (some q)) : Qu S B cs l' (.slice (some ⟨q, 0, none⟩) n cp) u' :=
  ⟨block_keptp hg h.s (fun e => by have := (World.ownsRow.lt h.row q rfl).1; have := h.lt; omega), h.hv, hr, h.lt, Nat.le_trans h.le hg.size⟩
set_option maxRecDepth 100000 in
set_option maxHeartbeats 4000000 in
theorem up_any (S B : Nat) (cs : Array Value) (q cp : Nat) (l : List Hi) (j : Nat) (w : World) (h : Qu S B cs l (.slice (some ⟨q, 0, none⟩) l.length cp) w) (hj : j < l.length) :
    Calls Tryz.prog 107 #[.iface 174 (.pointer (some ⟨S, 11, none⟩)), .int .i64 j] w fun e w' => e = .returned (.tuple #[]) ∧ Qu S B cs (upF (j + 1) l j) (.slice (some ⟨q, 0, none⟩) l.length cp) w' ∧ w.grownBy w' (some q) := by
  have hqq : B ≤ q ∧ l.length ≤ cp ∧ cp ≤ 9223372036854775807 := by
    obtain ⟨q', cp', he, -, hb, hcp, hcp2⟩ := h.row.at (by omega)
    simp only [Value.slice.injEq, Option.some.injEq, Addr.mk.injEq, true_and, and_true] at he
    obtain ⟨rfl, rfl⟩ := he
    exact ⟨hb, hcp, hcp2⟩
  have Q0 := Lib.hid h
  clear h
  generalize hN : l.length = N at *
  go_enter Tryz.func107, Tryz.ntmps107
  go_upto_block 0 with fail
  go_wp2_with fail
  go_loopg [1] (j + 1) (fun gk x wr => ∃ (l' : List Hi) (j' : Nat), x = .int .i64 j' ∧ upF (j + 1) l j = upF gk l' j' ∧ j' < gk ∧ l'.length = N ∧ j' < N ∧ Qu S B cs l' (.slice (some ⟨q, 0, none⟩) N cp) wr ∧ w.grownBy wr (some q))
  case atStart => exact ⟨l, j, rfl, rfl, by omega, hN, hj, Q0.out, gb_refl _ _⟩
  case round =>
    clear Q0
    obtain ⟨l', j', rfl, hup, hjk, hl', hj', hq, hg⟩ := hrel
    have HU := Lib.hid hup; have QR := Lib.hid hq; have GR := Lib.hid hg
    clear hup hq hg
    have hc := QR.out.cell
    have hml := meth_less hc; have hms := meth_swap hc
    obtain ⟨g, rfl⟩ : ∃ g, gk = g + 1 := ⟨gk - 1, by omega⟩
    by_cases h0 : j' = 0
    · subst h0
      have HE : Hid (upF (g + 1) l' 0 = l') := Lib.hid (by simp [upF])
      go_wp2_with fail
      go_end0
      exact ⟨rfl, by rw [HU.out, HE.out]; exact QR.out, GR.out⟩
    obtain ⟨i, hi⟩ : ∃ i : Nat, i = (j' - 1) / 2 := ⟨_, rfl⟩
    have htd : Int.tdiv ((j' : Int) - 1) 2 = (i : Int) := by
      rw [Int.tdiv_eq_ediv_of_nonneg (by omega)]; omega
    have hij : i < j' := by omega
    have hne : ((i : Int) == (j' : Int)) = false := by simp; omega
    have HL := Lib.hid (qless_any B l' _ wr QR.out.row j' i (by omega) (by omega))
    have HN : Hid (upF (g + 1) l' j' = if hlt (hiAt l' j') (hiAt l' i) then upF g (swapL l' i j') i else l') := Lib.hid (by rw [upF, if_neg (by omega), ← hi])
    clear hi
    go_wp2_with fail
    (with_reducible refine HL.out.mono ?_)
    rintro e w2 ⟨rfl, hg⟩
    have Q2 := Lib.hid (QR.out.keep hg); have G2 := Lib.hid (gb_trans GR.out (gb_none hg))
    clear hg hc hml hms QR GR HL
    have hc := Q2.out.cell
    have hms := meth_swap hc
    obtain ⟨hb, hbe⟩ : ∃ b, hlt (hiAt l' j') (hiAt l' i) = b := ⟨_, rfl⟩
    rw [hbe] at HN ⊢
    clear hbe
    cases hb
    · have HE : Hid (upF (g + 1) l' j' = l') := Lib.hid (by rw [HN.out]; rfl)
      go_wp2_with fail
      go_end0
      exact ⟨rfl, by rw [HU.out, HE.out]; exact Q2.out, G2.out⟩
    · have HE : Hid (upF (g + 1) l' j' = upF g (swapL l' i j') i) := Lib.hid (by rw [HN.out]; rfl)
      have HS := Lib.hid (qswap_any B l' q cp w2 (by rw [hl']; exact Q2.out.row) i j' (by omega) (by omega))
      rw [hl'] at HS
      go_wp2_with fail
      (with_reducible refine HS.out.mono ?_)
      rintro e w3 ⟨rfl, hr, hg⟩
      have Q3 := Lib.hid (Q2.out.turn hr hg); have G3 := Lib.hid (gb_trans G2.out hg)
      clear hr hg
      go_wp2_with fail
      go_roundg g
      case measure => omega
      case rel => exact ⟨swapL l' i j', i, rfl, by rw [HU.out, HE.out], by omega, by rw [swapL_length]; exact hl', by omega, Q3.out, G3.out⟩
end LHeap
section LHeapD
open Go.RowKit Rg
/-- The lesser child. -/
def kid (l : List Hi) (i n : Nat) : Nat := if decide (2 * i + 1 + 1 < n) && hlt (hiAt l (2 * i + 1 + 1)) (hiAt l (2 * i + 1)) then 2 * i + 1 + 1 else 2 * i + 1
/-- What is done by down, at most f times, among the first n. -/
def downF : Nat → List Hi → Nat → Nat → List Hi
  | 0, l, _, _ => l
  | f + 1, l, i, n => if n ≤ 2 * i + 1 then l else if hlt (hiAt l (kid l i n)) (hiAt l i) then downF f (swapL l i (kid l i n)) (kid l i n) n else l
theorem downF_length : ∀ (f : Nat) (l : List Hi) (i n : Nat), (downF f l i n).length = l.length
  | 0, _, _, _ => rfl
  | f + 1, l, i, n => by
    unfold downF; split
    · rfl
    · split
      · rw [downF_length f, swapL_length]
      · rfl
set_option maxRecDepth 100000 in
set_option maxHeartbeats 8000000 in
theorem down_any (S B : Nat) (cs : Array Value) (q cp : Nat) (l : List Hi) (n : Nat) (w : World) (h : Qu S B cs l (.slice (some ⟨q, 0, none⟩) l.length cp) w) (hn : n ≤ l.length) (hl0 : 0 < l.length) (hlb : l.length ≤ 1000000) :
    Calls Tryz.prog 108 #[.iface 174 (.pointer (some ⟨S, 11, none⟩)), .int .i64 0, .int .i64 n] w fun e w' => ∃ b, e = .returned (.bool b) ∧ Qu S B cs (downF (n + 1) l 0 n) (.slice (some ⟨q, 0, none⟩) l.length cp) w' ∧ w.grownBy w' (some q) := by
  have hqq : B ≤ q ∧ l.length ≤ cp ∧ cp ≤ 9223372036854775807 := by
    obtain ⟨q', cp', he, -, hb, hcp, hcp2⟩ := h.row.at (by omega)
    simp only [Value.slice.injEq, Option.some.injEq, Addr.mk.injEq, true_and, and_true] at he
    obtain ⟨rfl, rfl⟩ := he
    exact ⟨hb, hcp, hcp2⟩
  have Q0 := Lib.hid h
  clear h
  generalize hN : l.length = N at *
  go_enter Tryz.func108, Tryz.ntmps108
  go_wp2_with fail
  go_loopg [7] (n + 1) (fun gk x wr => ∃ (l' : List Hi) (i : Nat), x = .int .i64 i ∧ downF (n + 1) l 0 n = downF gk l' i n ∧ n < i + gk + 1 ∧ i ≤ n ∧ l'.length = N ∧ Qu S B cs l' (.slice (some ⟨q, 0, none⟩) N cp) wr ∧ w.grownBy wr (some q))
  case atStart => exact ⟨l, 0, rfl, rfl, by omega, by omega, hN, Q0.out, gb_refl _ _⟩
  case round =>
    clear Q0
    obtain ⟨l', i, rfl, hup, hik, hin, hl', hq, hg⟩ := hrel
    have HU := Lib.hid hup; have Q1 := Lib.hid hq; have G1 := Lib.hid hg
    clear hup hq hg
    generalize wr = w1 at *
    obtain ⟨j1, hj1⟩ : ∃ j1, j1 = 2 * i + 1 := ⟨_, rfl⟩
    have hx : (2 : Int) * (i : Int) + 1 = (j1 : Int) := by omega
    by_cases hend : n ≤ j1
    · have he' : decide ((j1 : Int) ≥ (n : Int)) = true := decide_eq_true (by omega)
      have HE : Hid (downF gk l' i n = l') := Lib.hid (by cases gk <;> simp [downF]; omega)
      clear hj1
      go_wp2_with fail
      go_ret
      exact ⟨_, rfl, by rw [HU.out, HE.out]; exact Q1.out, G1.out⟩
    obtain ⟨g, rfl⟩ : ∃ g, gk = g + 1 := ⟨gk - 1, by omega⟩
    have HN : Hid (downF (g + 1) l' i n = if hlt (hiAt l' (kid l' i n)) (hiAt l' i) then downF g (swapL l' i (kid l' i n)) (kid l' i n) n else l') := Lib.hid (by rw [downF, if_neg (by omega)])
    have HK : Hid (kid l' i n = if decide (j1 + 1 < n) && hlt (hiAt l' (j1 + 1)) (hiAt l' j1) then j1 + 1 else j1) := Lib.hid (by rw [hj1]; rfl)
    have h1 : decide ((j1 : Int) ≥ (n : Int)) = false := decide_eq_false (by omega)
    have h2 : decide ((j1 : Int) < 0) = false := decide_eq_false (by omega)
    have hjj : i < j1 ∧ j1 < n := by omega
    clear hj1
    by_cases hr : j1 + 1 < n
    rotate_left
    · have hr' : decide (((j1 : Nat) : Int) + 1 < (n : Int)) = false := decide_eq_false (by omega)
      have HJ : Hid (downF (g + 1) l' i n = if hlt (hiAt l' j1) (hiAt l' i) then downF g (swapL l' i j1) j1 n else l') := Lib.hid (by rw [HN.out, HK.out, decide_eq_false hr]; rfl)
      clear HN HK
      have hc := Q1.out.cell
      have hml := meth_less hc; have hms := meth_swap hc
      have HL := Lib.hid (qless_any B l' _ w1 Q1.out.row (j1) i (by omega) (by omega))
      go_wp2_with fail
      (with_reducible refine HL.out.mono ?_)
      rintro e w2 ⟨rfl, hg⟩
      have Q2 := Lib.hid (Q1.out.keep hg); have G2 := Lib.hid (gb_trans G1.out (gb_none hg))
      clear hg hc hml hms Q1 G1 HL
      have hc := Q2.out.cell
      have hms := meth_swap hc
      obtain ⟨hb, hbe⟩ : ∃ b, hlt (hiAt l' (j1)) (hiAt l' i) = b := ⟨_, rfl⟩
      rw [hbe] at HJ ⊢
      clear hbe
      cases hb
      · have HE : Hid (downF (g + 1) l' i n = l') := Lib.hid (by rw [HJ.out]; rfl)
        go_wp2_with fail
        go_ret
        exact ⟨_, rfl, by rw [HU.out, HE.out]; exact Q2.out, G2.out⟩
      · have HE : Hid (downF (g + 1) l' i n = downF g (swapL l' i (j1)) (j1) n) := Lib.hid (by rw [HJ.out]; rfl)
        have HS := Lib.hid (qswap_any B l' q cp w2 (by rw [hl']; exact Q2.out.row) i (j1) (by omega) (by omega))
        rw [hl'] at HS
        go_wp2_with fail
        (with_reducible refine HS.out.mono ?_)
        rintro e w3 ⟨rfl, hr, hg⟩
        have Q3 := Lib.hid (Q2.out.turn hr hg); have G3 := Lib.hid (gb_trans G2.out hg)
        clear hr hg
        go_wp2_with fail
        go_roundg g
        case measure => omega
        case rel => exact ⟨swapL l' i (j1), j1, rfl, by rw [HU.out, HE.out], by omega, by omega, by rw [swapL_length]; exact hl', Q3.out, G3.out⟩
    have hr' : decide (((j1 : Nat) : Int) + 1 < (n : Int)) = true := decide_eq_true (by omega)
    have hjn : (j1 : Int) ≤ 1000000 := by omega
    have hc := Q1.out.cell
    have hml := meth_less hc
    have HL := Lib.hid (qless_any B l' _ w1 Q1.out.row (j1 + 1) j1 (by omega) (by omega))
    push_cast at HL
    go_wp2_with fail
    (with_reducible refine HL.out.mono ?_)
    rintro e w2 ⟨rfl, hg⟩
    have Q2 := Lib.hid (Q1.out.keep hg); have G2 := Lib.hid (gb_trans G1.out (gb_none hg))
    clear hg hc hml Q1 G1 HL
    obtain ⟨hb, hbe⟩ : ∃ b, hlt (hiAt l' (j1 + 1)) (hiAt l' j1) = b := ⟨_, rfl⟩
    rw [hbe] at HK ⊢
    clear hbe
    cases hb
    · have HJ : Hid (downF (g + 1) l' i n = if hlt (hiAt l' j1) (hiAt l' i) then downF g (swapL l' i j1) j1 n else l') := Lib.hid (by rw [HN.out, HK.out]; simp)
      clear HN HK
      have hc := Q2.out.cell
      have hml := meth_less hc; have hms := meth_swap hc
      have HL := Lib.hid (qless_any B l' _ w2 Q2.out.row (j1) i (by omega) (by omega))
      go_wp2_with fail
      (with_reducible refine HL.out.mono ?_)
      rintro e w3 ⟨rfl, hg⟩
      have Q3 := Lib.hid (Q2.out.keep hg); have G3 := Lib.hid (gb_trans G2.out (gb_none hg))
      clear hg hc hml hms Q2 G2 HL
      have hc := Q3.out.cell
      have hms := meth_swap hc
      obtain ⟨hb, hbe⟩ : ∃ b, hlt (hiAt l' (j1)) (hiAt l' i) = b := ⟨_, rfl⟩
      rw [hbe] at HJ ⊢
      clear hbe
      cases hb
      · have HE : Hid (downF (g + 1) l' i n = l') := Lib.hid (by rw [HJ.out]; rfl)
        go_wp2_with fail
        go_ret
        exact ⟨_, rfl, by rw [HU.out, HE.out]; exact Q3.out, G3.out⟩
      · have HE : Hid (downF (g + 1) l' i n = downF g (swapL l' i (j1)) (j1) n) := Lib.hid (by rw [HJ.out]; rfl)
        have HS := Lib.hid (qswap_any B l' q cp w3 (by rw [hl']; exact Q3.out.row) i (j1) (by omega) (by omega))
        rw [hl'] at HS
        go_wp2_with fail
        (with_reducible refine HS.out.mono ?_)
        rintro e w4 ⟨rfl, hr, hg⟩
        have Q4 := Lib.hid (Q3.out.turn hr hg); have G4 := Lib.hid (gb_trans G3.out hg)
        clear hr hg
        go_wp2_with fail
        go_roundg g
        case measure => omega
        case rel => exact ⟨swapL l' i (j1), j1, rfl, by rw [HU.out, HE.out], by omega, by omega, by rw [swapL_length]; exact hl', Q4.out, G4.out⟩
    · have HJ : Hid (downF (g + 1) l' i n = if hlt (hiAt l' (j1 + 1)) (hiAt l' i) then downF g (swapL l' i (j1 + 1)) (j1 + 1) n else l') := Lib.hid (by rw [HN.out, HK.out, decide_eq_true hr]; rfl)
      clear HN HK
      obtain ⟨j2, hj2⟩ : ∃ j2, j2 = j1 + 1 := ⟨_, rfl⟩
      rw [← hj2] at HJ
      have hy2 : ((j1 : Nat) : Int) + 1 = (j2 : Int) := by omega
      have hj2n : i < j2 ∧ j2 < n := by omega
      clear hj2 hr hr'
      rw [hy2]
      have hc := Q2.out.cell
      have hml := meth_less hc; have hms := meth_swap hc
      have HL := Lib.hid (qless_any B l' _ w2 Q2.out.row (j2) i (by omega) (by omega))
      go_wp2_with fail
      (with_reducible refine HL.out.mono ?_)
      rintro e w3 ⟨rfl, hg⟩
      have Q3 := Lib.hid (Q2.out.keep hg); have G3 := Lib.hid (gb_trans G2.out (gb_none hg))
      clear hg hc hml hms Q2 G2 HL
      have hc := Q3.out.cell
      have hms := meth_swap hc
      obtain ⟨hb, hbe⟩ : ∃ b, hlt (hiAt l' (j2)) (hiAt l' i) = b := ⟨_, rfl⟩
      rw [hbe] at HJ ⊢
      clear hbe
      cases hb
      · have HE : Hid (downF (g + 1) l' i n = l') := Lib.hid (by rw [HJ.out]; rfl)
        go_wp2_with fail
        go_ret
        exact ⟨_, rfl, by rw [HU.out, HE.out]; exact Q3.out, G3.out⟩
      · have HE : Hid (downF (g + 1) l' i n = downF g (swapL l' i (j2)) (j2) n) := Lib.hid (by rw [HJ.out]; rfl)
        have HS := Lib.hid (qswap_any B l' q cp w3 (by rw [hl']; exact Q3.out.row) i (j2) (by omega) (by omega))
        rw [hl'] at HS
        go_wp2_with fail
        (with_reducible refine HS.out.mono ?_)
        rintro e w4 ⟨rfl, hr, hg⟩
        have Q4 := Lib.hid (Q3.out.turn hr hg); have G4 := Lib.hid (gb_trans G3.out hg)
        clear hr hg
        go_wp2_with fail
        go_roundg g
        case measure => omega
        case rel => exact ⟨swapL l' i (j2), j2, rfl, by rw [HU.out, HE.out], by omega, by omega, by rw [swapL_length]; exact hl', Q4.out, G4.out⟩
end LHeapD
end Go.Proofs.YtgaglgopbdfemaaGreatDoor
