/- Mem -/
import Derived.Deep.AppendLies
import Derived.Test.YtgaglgopbdfemaaGreatDoorTmTrv
import Derived.Test.YtgaglgopbdfemaaGreatDoorTmRgMade
import Derived.Test.YtgaglgopbdfemaaGreatDoorTmGeo
import Derived.Test.YtgaglgopbdfemaaGreatDoorTmRgPos
import Derived.Test.YtgaglgopbdfemaaGreatDoorTmBase
namespace Go.Proofs.YtgaglgopbdfemaaGreatDoor
set_option linter.all false
section LTable
open Go.RowKit Rg
theorem Tryz.infoIntT : (Tryz.prog.info? 3).map (fun i => (i.zero, i.size, i.bytes)) = some (some (.int .i64 0), 1, 8) := by kernel_rfl
theorem Sl.lit4 (w : World) (a b c d : Int) (e : TypeId) : Sl (w.alloc (.cells #[.int .i64 a, .int .i64 b, .int .i64 c, .int .i64 d] e)) (.slice (some ⟨w.heap.size, 0, none⟩) 4 4) [a, b, c, d] := by
  refine .inr ⟨w.heap.size, 0, 4, rfl, by simp, by simp, by omega, fun k hk => ?_⟩
  rw [cell_new]
  match k, hk with
  | 0, _ => rfl
  | 1, _ => rfl
  | 2, _ => rfl
  | 3, _ => rfl
/-- One of four numbers of a literal. -/
theorem pick4_any (B : Nat) (w : World) (p : Nat) (a b c d : Int) (e : TypeId) (h : Src B w p) (g : Nat) (hz : w.heap.size = g) :
    Calls Tryz.prog 9 #[.pointer (some ⟨p, 0, none⟩), .slice (some ⟨g, 0, none⟩) 4 4] (w.alloc (.cells #[.int .i64 a, .int .i64 b, .int .i64 c, .int .i64 d] e))
      (fun r w' => ∃ x : Int, r = .returned (.int .i64 x) ∧ (x = a ∨ x = b ∨ x = c ∨ x = d) ∧ Src B w' p ∧ (w.alloc (.cells #[.int .i64 a, .int .i64 b, .int .i64 c, .int .i64 d] e)).grownBy w' (some p)) := by
  subst hz
  refine (pick_any B _ p _ [a, b, c, d] (h.later (gb_alloc (gb_refl w none) _) (by simp)) (Sl.lit4 w a b c d e) (by simp) (by simp) ?_).mono ?_
  · rintro b' off len cap he
    have := h.lt
    simp at he
    omega
  · rintro r w' ⟨x, rfl, hx, hs, hg⟩
    exact ⟨x, rfl, by simpa using hx, hs, hg⟩
/-- What the loop keeps: the entries so far are in order, the next ones are not less. -/
def Grow (ls hs : List Int) (k : Nat) (lo hi : Int) : Prop :=
  ls.length = k ∧ hs.length = k ∧ (∀ j, j < k → okAt ls hs j) ∧ (if k = 0 then 0 else at0 ls (k - 1)) ≤ lo ∧ (if k = 0 then 0 else at0 hs (k - 1)) ≤ hi ∧ 0 ≤ lo ∧ lo ≤ hi ∧ lo ≤ 60 * k ∧ hi ≤ 90 * k + 2
theorem at0_snoc {xs : List Int} {x : Int} : at0 (xs ++ [x]) xs.length = x := by simp [at0]
theorem at0_left {xs : List Int} {x : Int} {j : Nat} (h : j < xs.length) : at0 (xs ++ [x]) j = at0 xs j := by simp [at0, List.getElem?_append_left h]
theorem Grow.step {ls hs : List Int} {k : Nat} {lo hi d e s : Int} (h : Grow ls hs k lo hi) (hk : k ≤ 25) (hd : 0 ≤ d ∧ d ≤ 35) (hs' : 0 ≤ s ∧ s ≤ 25) (he : 0 ≤ e ∧ e ≤ 30) :
    Grow (ls ++ [lo]) (hs ++ [hi]) (k + 1) (lo + (d + s)) (max hi (lo + (d + s)) + e) := by
  obtain ⟨h1, h2, h3, h4, h5, h6, h7, h8, h9⟩ := h
  have a1 : at0 (ls ++ [lo]) k = lo := by rw [← h1]; exact at0_snoc
  have a2 : at0 (hs ++ [hi]) k = hi := by rw [← h2]; exact at0_snoc
  have b1 : ∀ j, j < k → at0 (ls ++ [lo]) j = at0 ls j := fun j hj => at0_left (by omega)
  have b2 : ∀ j, j < k → at0 (hs ++ [hi]) j = at0 hs j := fun j hj => at0_left (by omega)
  refine ⟨by simp [h1], by simp [h2], fun j hj => ?_, ?_, ?_, by omega, by omega, by omega, by omega⟩
  · by_cases hjk : j = k
    · subst hjk
      unfold okAt
      rw [a1, a2]
      rcases Nat.eq_zero_or_pos j with h0 | h0
      · rw [if_pos h0, if_pos h0]; exact ⟨h6, by omega, h7, by omega⟩
      · rw [if_neg (by omega), if_neg (by omega), b1 _ (by omega), b2 _ (by omega)]
        rw [if_neg (by omega)] at h4 h5
        exact ⟨h4, h5, h7, by omega⟩
    · have := h3 j (by omega)
      unfold okAt at this ⊢
      rw [b1 j (by omega), b2 j (by omega), b1 (j - 1) (by omega), b2 (j - 1) (by omega)]
      exact this
  · rw [if_neg (by omega), Nat.add_sub_cancel, a1]; omega
  · rw [if_neg (by omega), Nat.add_sub_cancel, a2]; omega
theorem Grow.start {h : Int} (h0 : 0 ≤ h) (h1 : h ≤ 2) : Grow [] [] 0 0 h :=
  ⟨rfl, rfl, fun j hj => by omega, by simp, by simp; omega, by omega, h0, by omega, by omega⟩
/-- The cells of the loop: the table's block, two rows of its own, the reader. -/
def Making (w : World) (B p T : Nat) (step : Int) (ls hs : List Int) (wr : World) : Prop :=
  ∃ lv hv, wr.heap[w.heap.size]? = some (.cells #[.int .i64 0, .slice none 0 0, .slice none 0 0] 30 (0, 0)) ∧ w.heap.size < T ∧ wr.heap[T]? = some (.cells #[.int .i64 step, lv, hv] 30 (0, 0)) ∧
    wr.ownsRow (T + 1) 3 1 lv ls.length (ls.map (Value.int .i64)) ∧ wr.ownsRow (T + 1) 3 1 hv hs.length (hs.map (Value.int .i64)) ∧
    (∀ g, lv.ownBlock = some g → hv.ownBlock ≠ some g) ∧ Src B wr p ∧ p < w.heap.size ∧ w.grownBy wr (some p)
theorem owns_mono {w : World} {B B' e s : Nat} {v : Value} {n : Nat} {xs : List Value} (h : w.ownsRow B e s v n xs) (hb : B' ≤ B) : w.ownsRow B' e s v n xs :=
  ⟨h.1, h.2.imp id fun ⟨g, cap, cur, a, b, c⟩ => ⟨g, cap, cur, a, by omega, c⟩⟩
theorem Making.later {w : World} {B p T : Nat} {step : Int} {ls hs : List Int} {wr w' : World} (h : Making w B p T step ls hs wr) (hs' : Src B w' p) (hg : wr.grownBy w' (some p)) : Making w B p T step ls hs w' := by
  obtain ⟨lv, hv, m0, m1, m2, m3, m4, m5, m6, m7, m8⟩ := h
  have hT := (Array.getElem?_eq_some_iff.1 m2).1
  refine ⟨lv, hv, ?_, m1, ?_, owns_keepp m3 hg (by omega), owns_keepp m4 hg (by omega), m5, hs', m7, gb_trans m8 hg⟩
  · rw [hg.block _ (by omega) (by simp; omega)]; exact m0
  · rw [hg.block _ hT (by simp; omega)]; exact m2
/-- A table is returned, in new memory; the reader goes on. -/
def NewTable (B p : Nat) (w : World) (e : Ending) (w' : World) : Prop :=
  ∃ (step : Int) (vl vh : Value) (ls hs : List Int), e = .returned (.agg #[.int .i64 step, vl, vh]) ∧ tOk step ls hs ∧ step ≤ 100 ∧ 400 ≤ step * ((ls.length : Int) - 1) ∧ ls.length ≤ 23 ∧
    w'.ownsRow w.heap.size 3 1 vl ls.length (ls.map (Value.int .i64)) ∧ w'.ownsRow w.heap.size 3 1 vh hs.length (hs.map (Value.int .i64)) ∧ (∀ g, vl.ownBlock = some g → vh.ownBlock ≠ some g) ∧
    Src B w' p ∧ w.grownBy w' (some p)
/-- The same, and its lower times are small. -/
def NewTableL (B p : Nat) (w : World) (e : Ending) (w' : World) : Prop :=
  ∃ (step : Int) (vl vh : Value) (ls hs : List Int), e = .returned (.agg #[.int .i64 step, vl, vh]) ∧ tOk step ls hs ∧ step ≤ 100 ∧ 400 ≤ step * ((ls.length : Int) - 1) ∧ ls.length ≤ 23 ∧ (∀ i, at0 ls i ≤ 2000) ∧
    w'.ownsRow w.heap.size 3 1 vl ls.length (ls.map (Value.int .i64)) ∧ w'.ownsRow w.heap.size 3 1 vh hs.length (hs.map (Value.int .i64)) ∧ (∀ g, vl.ownBlock = some g → vh.ownBlock ≠ some g) ∧
    Src B w' p ∧ w.grownBy w' (some p)
theorem Grow.low {ls hs : List Int} {k : Nat} {lo hi : Int} (h : Grow ls hs k lo hi) (hk : k ≤ 30) (i : Nat) : at0 ls i ≤ 2000 := by
  obtain ⟨h1, -, h3, h4, -, h6, -, h8, -⟩ := h
  have key : ∀ d i, i + d + 1 = k → at0 ls i ≤ at0 ls (k - 1) := by
    intro d
    induction d with
    | zero => intro i e; rw [show k - 1 = i by omega]; exact Int.le_refl _
    | succ d ih =>
      intro i e
      have h := ih (i + 1) (by omega)
      have h2 := (h3 (i + 1) (by omega)).1
      rw [if_neg (by omega), Nat.add_sub_cancel] at h2
      omega
  by_cases hi : i < k
  · have := key (k - 1 - i) i (by omega)
    rw [if_neg (by omega)] at h4
    omega
  · have : at0 ls i = 0 := by unfold at0; rw [List.getElem?_eq_none (by omega)]; rfl
    omega
theorem making_exit {w w3 : World} {B p T : Nat} {step : Int} {ls hs : List Int} {lv hv : Value} (m1 : w.heap.size < T)
    (m3 : w3.ownsRow (T + 1) 3 1 lv ls.length (ls.map (Value.int .i64))) (m4 : w3.ownsRow (T + 1) 3 1 hv hs.length (hs.map (Value.int .i64)))
    (m5 : ∀ g, lv.ownBlock = some g → hv.ownBlock ≠ some g) (m6 : Src B w3 p) (m7 : p < w.heap.size) (m8 : w.grownBy w3 (some p)) (ht : tOk step ls hs) (h1 : step ≤ 100) (h2 : 400 ≤ step * ((ls.length : Int) - 1)) (h3 : ls.length ≤ 23) (h4 : ∀ i, at0 ls i ≤ 2000) :
    NewTableL B p w (.returned (.agg #[.int .i64 step, lv, hv])) (((w3.setCell ⟨w.heap.size, 0, none⟩ (.int .i64 step)).setCell ⟨w.heap.size, 1, none⟩ lv).setCell ⟨w.heap.size, 2, none⟩ hv) := by
  have hB := m6.lt
  have g1 : w3.grownBy (w3.setCell ⟨w.heap.size, 0, none⟩ (.int .i64 step)) (some w.heap.size) := gb_setCell (gb_refl _ _) (.inr rfl) _
  have k1 : w.grownBy (w3.setCell ⟨w.heap.size, 0, none⟩ (.int .i64 step)) (some p) := gb_setCell m8 (.inl (Nat.le_refl _)) _
  generalize w3.setCell ⟨w.heap.size, 0, none⟩ (.int .i64 step) = wa at *
  have g2 : w3.grownBy (wa.setCell ⟨w.heap.size, 1, none⟩ lv) (some w.heap.size) := gb_setCell (gb_trans g1 (gb_refl _ _)) (.inr rfl) _
  have k2 : w.grownBy (wa.setCell ⟨w.heap.size, 1, none⟩ lv) (some p) := gb_setCell k1 (.inl (Nat.le_refl _)) _
  generalize wa.setCell ⟨w.heap.size, 1, none⟩ lv = wb at *
  have g3 : w3.grownBy (wb.setCell ⟨w.heap.size, 2, none⟩ hv) (some w.heap.size) := gb_setCell g2 (.inr rfl) _
  have k3 : w.grownBy (wb.setCell ⟨w.heap.size, 2, none⟩ hv) (some p) := gb_setCell k2 (.inl (Nat.le_refl _)) _
  generalize wb.setCell ⟨w.heap.size, 2, none⟩ hv = wc at *
  have hS : Src B wc p := Src.later m6 g3 (fun q hq => by simp at hq; omega)
  exact ⟨step, lv, hv, ls, hs, rfl, ht, h1, h2, h3, h4, owns_mono (owns_keepp m3 g3 (by omega)) (by omega), owns_mono (owns_keepp m4 g3 (by omega)) (by omega), m5, hS, k3⟩
theorem h400 {c : Nat} {step : Int} {n : Int} (h : (c : Int) * step = 400) (h0 : 0 ≤ step) (hlen : (c : Int) ≤ n) : 400 ≤ step * n := by
  have := Int.mul_le_mul_of_nonneg_left hlen h0
  rw [Int.mul_comm] at h
  omega
/-- The same, the two slices named. -/
def MakingAt (w : World) (B p T : Nat) (step : Int) (ls hs : List Int) (lv hv : Value) (wr : World) : Prop :=
  wr.heap[w.heap.size]? = some (.cells #[.int .i64 0, .slice none 0 0, .slice none 0 0] 30 (0, 0)) ∧ w.heap.size < T ∧ wr.heap[T]? = some (.cells #[.int .i64 step, lv, hv] 30 (0, 0)) ∧
    wr.ownsRow (T + 1) 3 1 lv ls.length (ls.map (Value.int .i64)) ∧ wr.ownsRow (T + 1) 3 1 hv hs.length (hs.map (Value.int .i64)) ∧
    (∀ g, lv.ownBlock = some g → hv.ownBlock ≠ some g) ∧ Src B wr p ∧ p < w.heap.size ∧ w.grownBy wr (some p)
theorem MakingAt.cell1 {w : World} {B p T : Nat} {step : Int} {ls hs : List Int} {lv hv : Value} {u : World} (h : MakingAt w B p T step ls hs lv hv u) : u.cell? ⟨T, 1, none⟩ = some lv := by simp [World.cell?, h.2.2.1]
theorem MakingAt.cell2 {w : World} {B p T : Nat} {step : Int} {ls hs : List Int} {lv hv : Value} {u : World} (h : MakingAt w B p T step ls hs lv hv u) : u.cell? ⟨T, 2, none⟩ = some hv := by simp [World.cell?, h.2.2.1]
theorem MakingAt.grown {w : World} {B p T : Nat} {step : Int} {ls hs : List Int} {lv hv : Value} {u u' : World} {row : Option Nat} (h : MakingAt w B p T step ls hs lv hv u) (hg : u.grownBy u' row) (hr : ∀ q, row = some q → T + 1 ≤ q)
    (h3 : u'.ownsRow (T + 1) 3 1 lv ls.length (ls.map (Value.int .i64))) (h4 : u'.ownsRow (T + 1) 3 1 hv hs.length (hs.map (Value.int .i64))) : MakingAt w B p T step ls hs lv hv u' := by
  obtain ⟨m0, m1, m2, -, -, m5, m6, m7, m8⟩ := h
  have hT := (Array.getElem?_eq_some_iff.1 m2).1
  refine ⟨?_, m1, ?_, h3, h4, m5, m6.later hg (fun q hq => ?_), m7, ?_⟩
  · rw [hg.block _ (by omega) (fun e => by have := hr _ e.symm; omega)]; exact m0
  · rw [hg.block _ hT (fun e => by have := hr _ e.symm; omega)]; exact m2
  · have := hr q hq; have := m6.lt; omega
  · exact ⟨hg.os.trans m8.os, hg.tape.trans m8.tape, hg.output.trans m8.output, Nat.le_trans m8.size hg.size, fun i hi hne => (hg.block i (Nat.lt_of_lt_of_le hi m8.size) (fun e => by have := hr _ e.symm; have := m8.size; omega)).trans (m8.block i hi hne)⟩
/-- The class of the region with two appends; what each operation may do; what is said of them. -/
def G6 (w : World) (B p T : Nat) (step : Int) (ls hs : List Int) (lv hv : Value) (w3 : World) (u : World) : Prop := MakingAt w B p T step ls hs lv hv u ∧ w3.heap.size ≤ u.heap.size
def R6 (lv hv : Value) (k : Nat) (u u' : World) : Prop := u.grownBy u' (if k = 4 then lv.ownBlock else if k = 9 then hv.ownBlock else none)
abbrev one6 (w3 : World) (x : Int) : List Value → Value → World → Prop := fun _ v u => ∃ b, v = .slice (some ⟨b, 0, none⟩) 1 1 ∧ w3.heap.size ≤ b ∧ u.heap[b]? = some (.cells #[.int .i64 x] 3 (0, 0))
abbrev row6 (T : Nat) (w3 : World) (lv : Value) (ls : List Int) (x : Int) : List Value → Value → World → Prop := fun _ v u => u.ownsRow (T + 1) 3 1 v (ls.length + 1) (ls.map (Value.int .i64) ++ [.int .i64 x]) ∧ (∀ b, v.ownBlock = some b → lv.ownBlock = some b ∨ w3.heap.size ≤ b)
structure Rows6 (w : World) (B p T : Nat) (step : Int) (ls hs : List Int) (lv hv : Value) (w3 : World) (x y : Int) : Prop where
  start : G6 w B p T step ls hs lv hv w3 w3.drew
  low : ∀ b, lv.ownBlock = some b → T + 1 ≤ b ∧ b < w3.heap.size
  high : ∀ b, hv.ownBlock = some b → T + 1 ≤ b ∧ b < w3.heap.size
  apart : ∀ g, lv.ownBlock = some g → hv.ownBlock ≠ some g
theorem rows6 {w : World} {B p T : Nat} {step : Int} {ls hs : List Int} {lv hv : Value} {w3 : World} {x y : Int} (h : MakingAt w B p T step ls hs lv hv w3) : Rows6 w B p T step ls hs lv hv w3 x y :=
  ⟨⟨h.grown (row := none) (gb_drew (gb_refl _ _)) (by simp) (owns_keep h.2.2.2.1 (gb_drew (gb_refl _ _))) (owns_keep h.2.2.2.2.1 (gb_drew (gb_refl _ _))), Nat.le_refl _⟩, h.2.2.2.1.lt, h.2.2.2.2.1.lt, h.2.2.2.2.2.1⟩
section
variable {ops : Array Oper} {md : Region.Mode} {w : World} {B p T : Nat} {step : Int} {ls hs : List Int} {lv hv : Value} {w3 : World} {sp : Nat → Option (List Value → Value → World → Prop)} {al : Nat → Bool} {N : Nat} {Q : List Oper → Act → Facts → Prop} {n k : Nat} {o : Oper} {l : List Oper} {a : Act} {f : Facts}
theorem Rows6.far {x y : Int} (h : Rows6 w B p T step ls hs lv hv w3 x y) (k b : Nat) (hb : w3.heap.size ≤ b) : some b ≠ (if k = 4 then lv.ownBlock else if k = 9 then hv.ownBlock else none) := by
  intro e
  split at e
  · have := h.low b e.symm; omega
  · split at e
    · have := h.high b e.symm; omega
    · cases e
theorem rg_one6 {x0 y0 : Int} (H : Rows6 w B p T step ls hs lv hv w3 x0 y0) (x : Int) (hk : k ≠ 4 ∧ k ≠ 9) (hs' : sp k = some (one6 w3 x)) (hw : Region.wanted o (yielded ops a.tmps) = true)
    (hrun : ∀ w, (execOp a.eval o).run Tryz.prog w = .ok (.value (.slice (some ⟨w.heap.size, 0, none⟩) 1 1)) (w.alloc (.cells #[.int .i64 x] 3)))
    (hal : al k = false) (h : ∀ v, rLexL Tryz.prog md ops ⟨In (G6 w B p T step ls hs lv hv w3), R6 lv hv, sp, al, N⟩ Q n l (k + 1) (a.put o.dst v) (upd f k (one6 w3 x [] v))) :
    rLexL Tryz.prog md ops ⟨In (G6 w B p T step ls hs lv hv w3), R6 lv hv, sp, al, N⟩ Q (n + 1) (o :: l) k a f := by
  refine rLexL_spec (one6 w3 x) hs' hw (fun v j u u' _ _ _ hR ⟨b, e, hb, hblk⟩ => ⟨b, e, hb, ?_⟩) (fun u hC hd => stepTo_run (hrun u) ?_) (fun v _ _ _ => h v)
  · rw [World.grownBy.block hR b (Array.getElem?_eq_some_iff.1 hblk).1 (H.far j b hb)]; exact hblk
  · obtain ⟨hM, hsz⟩ := hC.out
    have hg : u.grownBy (u.alloc (.cells #[.int .i64 x] 3)) none := gb_alloc (gb_refl _ _) _
    refine ⟨In.mk ⟨hM.grown hg (by simp) (owns_keep hM.2.2.2.1 hg) (owns_keep hM.2.2.2.2.1 hg), Nat.le_trans hsz hg.size⟩, ?_, ⟨u.heap.size, rfl, hsz, heap_alloc_new u _⟩, fun e => by rw [hal] at e; cases e⟩
    unfold R6; rw [if_neg hk.1, if_neg hk.2]; exact hg
theorem rg_push6 {x0 y0 : Int} (H : Rows6 w B p T step ls hs lv hv w3 x0 y0) (x : Int) (rv : Value) (rs : List Int) (hrv : (k = 4 ∧ rv = lv ∧ rs = ls) ∨ (k = 9 ∧ rv = hv ∧ rs = hs)) (kb : Nat) (hafter : ∃ e ∈ o.after, Region.binds md e = true ∧ e.on = kb)
    (s y : Operand) (tb : Value) (hf : f kb = one6 w3 x [] tb) (hs' : sp k = some (row6 T w3 rv rs x)) (hw : Region.wanted o (yielded ops a.tmps) = true)
    (ho : o.op = .call { callee := .builtin .append, args := #[s, y], argTypes := #[22, 22] }) (hsv : a.eval s = rv) (hy : a.eval y = tb) (hN : N = w3.heap.size) (hlen : rs.length + 1 ≤ 1000) (hTN : T + 1 ≤ w3.heap.size)
    (h : ∀ v, rLexL Tryz.prog md ops ⟨In (G6 w B p T step ls hs lv hv w3), R6 lv hv, sp, al, N⟩ Q n l (k + 1) (a.put o.dst v) (upd f k (row6 T w3 rv rs x [] v))) :
    rLexL Tryz.prog md ops ⟨In (G6 w B p T step ls hs lv hv w3), R6 lv hv, sp, al, N⟩ Q (n + 1) (o :: l) k a f := by
  have hrow : ∀ b, rv.ownBlock = some b → T + 1 ≤ b ∧ b < w3.heap.size := by
    rcases hrv with ⟨-, rfl, -⟩ | ⟨-, rfl, -⟩
    · exact H.low
    · exact H.high
  refine rLexL_spec (row6 T w3 rv rs x) hs' hw ?_ (fun u hC hd => ?_) (fun v _ _ _ => h v)
  · rintro v j u u' hj hC hC' hR ⟨h1, h2⟩
    refine ⟨h1.kept hR ?_, h2⟩
    cases hvb : v.ownBlock with
    | none => exact .inl rfl
    | some b =>
      refine .inr fun e => ?_
      rcases h2 b hvb with hb | hb
      · rcases hrv with ⟨rfl, rfl, -⟩ | ⟨rfl, rfl, -⟩
        · rw [if_neg hj] at e
          split at e
          · exact H.apart b hb e.symm
          · cases e
        · rw [if_neg hj] at e
          split at e
          · exact H.apart b e.symm hb
          · cases e
      · exact H.far j b hb e
  · obtain ⟨e, he, hb, rfl⟩ := hafter
    have hdep := hd e he hb
    rw [hf] at hdep
    obtain ⟨bb, rfl, hbb, hblk⟩ := hdep
    obtain ⟨hM, hsz⟩ := hC.out
    have hown : u.ownsRow (T + 1) 3 1 rv rs.length (rs.map (Value.int .i64)) := by
      rcases hrv with ⟨-, rfl, rfl⟩ | ⟨-, rfl, rfl⟩
      · exact hM.2.2.2.1
      · exact hM.2.2.2.2.1
    refine stepTo_push s y 22 ho (T + 1) 3 (.int .i64 0) 1 8 Tryz.underlying22 Tryz.infoIntT rfl (by omega) rv rs.length _ hsv hown bb 1 [.int .i64 x] 3 hy hblk rfl (by simp [Value.oneCell']) (by omega) (by omega) (by omega) ?_
    intro v' u' o1 o2 hg hat
    have hR : R6 lv hv k u u' := by
      unfold R6
      rcases hrv with ⟨rfl, rfl, -⟩ | ⟨rfl, rfl, -⟩
      · exact hg
      · exact hg
    have hne : ∀ rv', (rv' = lv ∨ rv' = hv) → rv' ≠ rv → rv'.ownBlock = none ∨ rv'.ownBlock ≠ rv.ownBlock := by
      intro rv' hr hn
      cases e : rv'.ownBlock with
      | none => exact .inl rfl
      | some g =>
        refine .inr fun e' => ?_
        rcases hrv with ⟨-, rfl, -⟩ | ⟨-, rfl, -⟩
        · rcases hr with rfl | rfl
          · exact hn rfl
          · exact H.apart g e'.symm e
        · rcases hr with rfl | rfl
          · exact H.apart g e e'.symm
          · exact hn rfl
    refine ⟨In.mk ⟨hM.grown hg (fun q hq => (hrow q hq).1) ?_ ?_, Nat.le_trans hsz hg.size⟩, hR, ⟨o1, fun b hb => ?_⟩, fun _ b hb hNb => ?_⟩
    · by_cases e : lv = rv
      · rcases hrv with ⟨-, -, rfl⟩ | ⟨-, rfl, rfl⟩
        · rw [e]; exact o2
        · subst e; exact hM.2.2.2.1.kept hg (by cases e : lv.ownBlock with | none => exact .inl rfl | some g => exact absurd e (H.apart g e))
      · exact hM.2.2.2.1.kept hg (hne lv (.inl rfl) e)
    · by_cases e : hv = rv
      · rcases hrv with ⟨-, rfl, rfl⟩ | ⟨-, -, rfl⟩
        · subst e; exact hM.2.2.2.2.1.kept hg (by cases e : hv.ownBlock with | none => exact .inl rfl | some g => exact absurd e (H.apart g e))
        · rw [e]; exact o2
      · exact hM.2.2.2.2.1.kept hg (hne hv (.inr rfl) e)
    · rcases hat with e | e
      · exact .inl (e.symm.trans hb)
      · rw [hb] at e; cases e; exact .inr hsz
    · obtain ⟨g, cap, hv', -, hglt⟩ := o1.form (by omega)
      subst hv'
      have hbg : g = b := by simpa [blk] using hb
      subst hbg
      refine ⟨?_, hglt⟩
      rcases hat with e | e
      · have := (hrow g e.symm).2; omega
      · have : g = u.heap.size := by simpa [Value.ownBlock] using e
        omega
end
set_option maxHeartbeats 1000000 in
theorem tableL_any (B : Nat) (w : World) (p : Nat) (h : Src B w p) :
    Calls Tryz.prog 13 #[.pointer (some ⟨p, 0, none⟩)] w (NewTableL B p w) := by
  have hp := h.lt
  go_enter Tryz.func13, Tryz.ntmps13
  have hg0 := gb_alloc (gb_refl w none) (.cells #[.int .i64 0, .slice none 0 0, .slice none 0 0] 30)
  go_wp2_with fail
  (with_reducible refine (pick4_any B _ p 20 25 40 100 _ (h.later hg0 (by simp)) (w.heap.size + 1) (by simp)).mono ?_)
  rintro e w1 ⟨step, rfl, hstep, hs1, hg1⟩
  have HG1 := Lib.hid (gb_trans (gb_none (gb_alloc hg0 _)) hg1)
  have hz1 := HG1.out.size
  have hz1' : w.heap.size < w1.heap.size := by have := hg1.size; simp at this; omega
  have HB := Lib.hid (show w1.heap[w.heap.size]? = some (.cells #[.int .i64 0, .slice none 0 0, .slice none 0 0] 30 (0, 0)) from by rw [hg1.block _ (by simp <;> omega) (by simp; omega), heap_alloc_old _ _ (by simp), heap_alloc_new])
  have hs2 : Src B (w1.alloc (.cells #[.int .i64 step, .slice none 0 0, .slice none 0 0] 30)) p := hs1.later (gb_alloc (gb_refl w1 none) _) (by simp)
  have HS2 := Lib.hid hs2
  clear hs2 hs1 hg1 hg0 h
  go_wp2_with fail
  (with_reducible refine (n_any B _ p 3 HS2.out (by omega) (by omega)).mono ?_)
  rintro e w2 ⟨hi0, rfl, hhi, hs3, hg3⟩
  have hM : Making w B p w1.heap.size step [] [] w2 := by
    refine ⟨.slice none 0 0, .slice none 0 0, ?_, ?_, ?_, World.ownsRow_nil _ _ _ _, World.ownsRow_nil _ _ _ _, by simp [Value.ownBlock], hs3, hp.2, gb_trans (gb_alloc HG1.out _) hg3⟩
    · rw [hg3.block _ (by simp; omega) (by simp; omega), heap_alloc_old _ _ hz1', HB.out]
    · exact hz1'
    · rw [hg3.block _ (by simp) (by simp; omega), heap_alloc_new]
  have HM := Lib.hid hM
  clear hM hs3 hg3
  obtain ⟨c, hc, hc1, hc2, hc3⟩ : ∃ c : Nat, 400 / step = (c : Int) ∧ 4 ≤ c ∧ c ≤ 20 ∧ (c : Int) * step = 400 := by
    rcases hstep with rfl | rfl | rfl | rfl
    · exact ⟨20, by decide⟩
    · exact ⟨16, by decide⟩
    · exact ⟨10, by decide⟩
    · exact ⟨4, by decide⟩
  obtain ⟨q, hq, hq1, hq2⟩ : ∃ q : Nat, step / 4 = (q : Int) ∧ 5 ≤ q ∧ q ≤ 25 := by
    rcases hstep with rfl | rfl | rfl | rfl
    · exact ⟨5, by decide⟩
    · exact ⟨6, by decide⟩
    · exact ⟨10, by decide⟩
    · exact ⟨25, by decide⟩
  have hst : 20 ≤ step ∧ step ≤ 100 := by omega
  have hs0 : ¬ step = 0 := by omega
  have hdv : IntKind.i64.wrap (Int.tdiv 400 step) = (c : Int) := by rw [IntWalk.i64_quo _ _ (by omega), hc]
  have hdv4 : IntKind.i64.wrap (Int.tdiv step 4) = (q : Int) := by rw [IntWalk.i64_quo _ _ (by omega), hq]
  have HQC := Lib.hid (And.intro hc hq); clear hc hq
  have HST := Lib.hid hstep; have HC3 := Lib.hid hc3; clear hstep hc3
  generalize w1.heap.size = T at *
  go_wp2_with fail
  go_loopw [4, 5, 6] (fun lo hi k wr => ∃ (x y : Int) (j : Nat) (ls hs : List Int), lo = .int .i64 x ∧ hi = .int .i64 y ∧ k = .int .i64 j ∧ j ≤ c + 3 ∧ Grow ls hs j x y ∧ Making w B p T step ls hs wr)
    (fun _ _ k _ => 100 - (intOf k).toNat)
  case atStart => exact ⟨0, hi0, 0, [], [], rfl, rfl, rfl, by omega, Grow.start hhi.1 (by omega), HM.out⟩
  case round =>
    obtain ⟨x, y, j, ls, hs, rfl, rfl, rfl, hj, hgr, hm⟩ := hrel
    have HGR := Lib.hid hgr; have HMR := Lib.hid hm; clear hgr
    obtain ⟨lv0, hv0, m0, m1, m2, m3, m4, m5, m6, m7, m8⟩ := hm
    have hTp : ¬ T = p := by omega
    have ct0 : wr.cell? ⟨T, 0, none⟩ = some (.int .i64 step) := by simp [World.cell?, m2]
    have hTlt := (Array.getElem?_eq_some_iff.1 m2).1
    have HS6 := Lib.hid m6
    clear m0 m2 m3 m4 m5 m6 m8
    have ctx := Pulled.cell (B := B) ct0 hTlt hTp
    go_wp2_with fail
    refine Rg.region (Pulled wr B p) (Pull p) (fun k => if k = 5 then some (isInt fun x => 0 ≤ x ∧ x < 3) else none) (fun _ => false) 0 8 (by kernel_rfl) (by kernel_rfl) (by kernel_rfl) (by kernel_rfl) (by kernel_rfl) (by kernel_rfl) (by kernel_rfl) Pull.size (Pulled.start HS6.out) (fun hne => ?_)
    (repeat (refine rLexL_quiet (by rfl) (by rfl) (by rfl) (by rfl) ?_; go_big_quiet_step (fail); refine wpQuiet_nil ?_))
    refine rg_draw (fun x => 0 ≤ x ∧ x < 3) 15 #[.pointer (some ⟨p, 0, none⟩), .int .i64 3] rfl rfl (fun _ => by go_simp) (fun w hw _ => n_any B w p 3 hw.2 (by omega) (by omega)) (fun n3 hn3 => ?_)
    simp only [Act.put, List.setIfInBounds_toArray, List.set_cons_zero, List.set_cons_succ]
    have hw3 : IntKind.i64.wrap ((c : Int) + n3) = (c : Int) + n3 := by rw [IntKind.wrap_i64]; omega
    (repeat (refine rLexL_quiet (by rfl) (by rfl) (by rfl) (by rfl) ?_; go_big_quiet_step (fail); refine wpQuiet_nil ?_))
    rintro w3 ⟨hg3, hs3⟩ - -
    refine wpList_nil ?_
    have hg3' := hg3
    have HM3 := Lib.hid (HMR.out.later hs3 hg3')
    clear HS6 ct0 hTlt HMR hs3 hg3 hg3' ctx hne
    obtain ⟨lv, hv, m0, m1, m2, m3, m4, m5, m6, m7, m8⟩ := HM3.out
    obtain ⟨la, lc, hlv⟩ := owns_slice m3
    obtain ⟨ha, hc', hhv⟩ := owns_slice m4
    have HLV := Lib.hid hlv; have HHV := Lib.hid hhv; clear hlv hhv
    have hne : hv.ownBlock = none ∨ hv.ownBlock ≠ lv.ownBlock := by
      cases e : hv.ownBlock with
      | none => exact .inl rfl
      | some g => exact .inr fun e' => m5 g e'.symm e
    have hlvn : ∀ b, w3.heap.size ≤ b → some b ≠ lv.ownBlock := fun b hb e => by have := (m3.lt b e.symm).2; omega
    have hhvn : ∀ b, w3.heap.size ≤ b → some b ≠ hv.ownBlock := fun b hb e => by have := (m4.lt b e.symm).2; omega
    have ct0 : w3.cell? ⟨T, 0, none⟩ = some (.int .i64 step) := by simp [World.cell?, m2]
    have ct1 : w3.cell? ⟨T, 1, none⟩ = some lv := by simp [World.cell?, m2]
    have ct2 : w3.cell? ⟨T, 2, none⟩ = some hv := by simp [World.cell?, m2]
    have hTlt := (Array.getElem?_eq_some_iff.1 m2).1
    by_cases hlt : (j : Int) ≤ (c : Int) + n3
    · have hlt' : decide ((j : Int) ≤ (c : Int) + n3) = true := decide_eq_true hlt
      have HM4 : MakingAt w B p T step ls hs lv hv w3 := ⟨m0, m1, m2, m3, m4, m5, m6, m7, m8⟩
      have hj1 : ls.length + 1 ≤ 100 := by have := HGR.out.1; omega
      have hj2 : hs.length + 1 ≤ 100 := by have := HGR.out.2.1; omega
      have HR := Lib.hid (rows6 (x := x) (y := y) HM4)
      clear m0 m2 m3 m4 m5 m6 m8 HM3
      have cT1 := fun (u : Cls (G6 w B p T step ls hs lv hv w3)) => (evr_h u).1.cell1
      have cT2 := fun (u : Cls (G6 w B p T step ls hs lv hv w3)) => (evr_h u).1.cell2
      go_wp2_with fail
      refine Rg.region (G6 w B p T step ls hs lv hv w3) (R6 lv hv) (fun k => if k = 3 then some (one6 w3 x) else if k = 4 then some (row6 T w3 lv ls x) else if k = 8 then some (one6 w3 y) else if k = 9 then some (row6 T w3 hv hs y) else none)
        (fun k => k == 4 || k == 9) w3.heap.size 11 (by kernel_rfl) (by kernel_rfl) (by kernel_rfl) (by kernel_rfl) (by kernel_rfl) (by kernel_rfl) (by kernel_rfl) (fun _ _ _ h => World.grownBy.size h) HR.out.start (fun hne => ?_)
      (repeat (refine rLexL_quiet (by rfl) (by rfl) (by rfl) (by rfl) ?_; go_big_quiet_step (fail); refine wpQuiet_nil ?_))
      refine rg_one6 HR.out x (by decide) rfl rfl (fun w => by go_simp) rfl (fun v3 => ?_)
      simp only [Act.put, List.setIfInBounds_toArray, List.set_cons_zero, List.set_cons_succ]
      refine rg_push6 HR.out x lv ls (.inl ⟨rfl, rfl, rfl⟩) 3 ⟨⟨3, .data⟩, by simp, rfl, rfl⟩ _ _ v3 rfl rfl rfl rfl rfl rfl rfl (by omega) hTlt (fun v4 => ?_)
      simp only [Act.put, List.setIfInBounds_toArray, List.set_cons_zero, List.set_cons_succ]
      (repeat (refine rLexL_quiet (by rfl) (by rfl) (by rfl) (by rfl) ?_; go_big_quiet_step (fail); refine wpQuiet_nil ?_))
      refine rg_one6 HR.out y (by decide) rfl rfl (fun w => by go_simp) rfl (fun v8 => ?_)
      simp only [Act.put, List.setIfInBounds_toArray, List.set_cons_zero, List.set_cons_succ]
      refine rg_push6 HR.out y hv hs (.inr ⟨rfl, rfl, rfl⟩) 8 ⟨⟨8, .data⟩, by simp, rfl, rfl⟩ _ _ v8 rfl rfl rfl rfl rfl rfl rfl (by omega) hTlt (fun v9 => ?_)
      simp only [Act.put, List.setIfInBounds_toArray, List.set_cons_zero, List.set_cons_succ]
      (repeat (refine rLexL_quiet (by rfl) (by rfl) (by rfl) (by rfl) ?_; go_big_quiet_step (fail); refine wpQuiet_nil ?_))
      rintro w4 ⟨hM4, hsz4⟩ hf4 hD4
      obtain ⟨o4, f4⟩ := hf4 4
      obtain ⟨o9, f9⟩ := hf4 9
      have hD := hD4 4 _ _ rfl (by kernel_rfl) rfl rfl
      have hdis : ∀ g, v4.ownBlock = some g → v9.ownBlock ≠ some g := by
        intro g e4 e9
        obtain ⟨g4, c4, h4v, -, -⟩ := o4.form (by omega)
        obtain ⟨g9, c9, h9v, -, -⟩ := o9.form (by omega)
        subst h4v; subst h9v
        obtain rfl : g4 = g := by simpa [Value.ownBlock] using e4
        obtain rfl : g9 = g4 := by simpa [Value.ownBlock] using e9
        rcases f4 g9 rfl with k4 | k4
        · rcases f9 g9 rfl with k9 | k9
          · exact HR.out.apart g9 k4 k9
          · have := (HR.out.low g9 k4).2; omega
        · exact (hD g9 rfl k4).2 9 _ _ rfl (by decide) (by kernel_rfl) rfl rfl g9 rfl k4 rfl
      clear hf4 hD4 hD cT1 cT2 f4 f9
      obtain ⟨a4, c4, h4v⟩ := owns_slice o4
      obtain ⟨a9, c9, h9v⟩ := owns_slice o9
      subst h4v; subst h9v
      obtain ⟨m0, m1, m2, m3, m4, m5, m6, m7, m8⟩ := hM4
      have n1 := set_block m2 1 (.slice a4 (ls.length + 1) c4)
      have n2 := set_block n1 2 (.slice a9 (hs.length + 1) c9)
      have cc1 : w4.cell? ⟨T, 1, none⟩ = some lv := by simp [World.cell?, m2]
      have fc1 : w4.frozen? ⟨T, 1, none⟩ = false := by simp [World.frozen?, m2]
      have cc2 : (w4.setCell ⟨T, 1, none⟩ (.slice a4 (ls.length + 1) c4)).cell? ⟨T, 2, none⟩ = some hv := by simp [World.cell?, n1]
      have fc2 : (w4.setCell ⟨T, 1, none⟩ (.slice a4 (ls.length + 1) c4)).frozen? ⟨T, 2, none⟩ = false := by simp [World.frozen?, n1]
      have hTp' : T ≠ p := by omega
      have hw5 : Making w B p T step (ls ++ [x]) (hs ++ [y]) ((w4.setCell ⟨T, 1, none⟩ (.slice a4 (ls.length + 1) c4)).setCell ⟨T, 2, none⟩ (.slice a9 (hs.length + 1) c9)) := by
        have hT4 := (Array.getElem?_eq_some_iff.1 m2).1
        have g1 : w4.grownBy ((w4.setCell ⟨T, 1, none⟩ (.slice a4 (ls.length + 1) c4)).setCell ⟨T, 2, none⟩ (.slice a9 (hs.length + 1) c9)) (some T) := gb_setCell (a := ⟨T, 2, none⟩) (gb_setCell (a := ⟨T, 1, none⟩) (gb_refl _ _) (.inr rfl) _) (.inr rfl) _
        have k1 : w.grownBy ((w4.setCell ⟨T, 1, none⟩ (.slice a4 (ls.length + 1) c4)).setCell ⟨T, 2, none⟩ (.slice a9 (hs.length + 1) c9)) (some p) := gb_setCell (gb_setCell m8 (.inl (by show w.heap.size ≤ T; omega)) _) (.inl (by show w.heap.size ≤ T; omega)) _
        refine ⟨_, _, ?_, m1, by simpa using n2, ?_, ?_, hdis, m6.later g1 (fun q hq => by simp at hq; have := m6.lt; omega), m7, k1⟩
        · rw [g1.block _ (by omega) (by simp; omega)]; exact m0
        · have := owns_keepp o4 g1 (by omega); simpa using this
        · have := owns_keepp o9 g1 (by omega); simpa using this
      have HM5 := Lib.hid hw5
      have HDIS := Lib.hid hdis
      clear hw5 hdis o4 o9 m0 m2 m3 m4 m5 m6 m8 n1 n2 hTp'
      go_wp2_with fail
      generalize (w4.setCell ⟨T, 1, none⟩ (.slice a4 (ls.length + 1) c4)).setCell ⟨T, 2, none⟩ (.slice a9 (hs.length + 1) c9) = w5 at *
      clear cc1 fc1 cc2 fc2 hsz4 HR hne HDIS hlvn hhvn HLV HHV ct0 ct1 ct2 hTlt
      have hgr := HGR.out
      obtain ⟨-, -, -, -, -, hx0, hxy, hxu, hyu⟩ := hgr
      obtain ⟨lv5, hv5, m0, -, m2, m3, m4, m5, m6, m7, m8⟩ := HM5.out
      have ct0 : w5.cell? ⟨T, 0, none⟩ = some (.int .i64 step) := by simp [World.cell?, m2]
      have hTlt5 := (Array.getElem?_eq_some_iff.1 m2).1
      have hp5 := m6.lt.2
      have ctx := Pulled.cell (B := B) ct0 hTlt5 hTp
      have HS7 := Lib.hid m6
      clear m0 m2 m3 m4 m5 m6 m8
      refine Rg.region (Pulled w5 B p) (Pull p) (fun k => if k = 2 then some (isLit w5 [0, 10, 20, 35]) else if k = 3 then some (isInt fun x => x ∈ [0, 10, 20, 35]) else none) (fun _ => false) 0 10 (by kernel_rfl) (by kernel_rfl) (by kernel_rfl) (by kernel_rfl) (by kernel_rfl) (by kernel_rfl) (by kernel_rfl) Pull.size (Pulled.start HS7.out) (fun hne => ?_)
      (repeat (refine rLexL_quiet (by rfl) (by rfl) (by rfl) (by rfl) ?_; go_big_quiet_step (fail); refine wpQuiet_nil ?_))
      refine rg_lit [0, 10, 20, 35] 3 rfl rfl (fun _ => by go_simp) rfl hp5 (fun v2 => ?_)
      simp only [Act.put, List.setIfInBounds_toArray, List.set_cons_zero, List.set_cons_succ]
      refine rg_draw (fun x => x ∈ [0, 10, 20, 35]) 9 #[.pointer (some ⟨p, 0, none⟩), v2] rfl rfl (fun _ => by go_simp) (fun u hu hd => pick_lit w5 B p u [0, 10, 20, 35] v2 hu (hd ⟨2, .data⟩ (by simp) rfl) hp5 (by decide) (by decide)) (fun d hd => ?_)
      simp only [Act.put, List.setIfInBounds_toArray, List.set_cons_zero, List.set_cons_succ]
      have hd' : 0 ≤ d ∧ d ≤ 35 := by simp at hd; omega
      have hwd : IntKind.i64.wrap (d + (q : Int)) = d + (q : Int) := by rw [IntKind.wrap_i64]; omega
      have hwx : IntKind.i64.wrap (x + (d + (q : Int))) = x + (d + (q : Int)) := by rw [IntKind.wrap_i64]; omega
      (repeat (refine rLexL_quiet (by rfl) (by rfl) (by rfl) (by rfl) ?_; go_big_quiet_step (fail); refine wpQuiet_nil ?_))
      rintro w6 ⟨hg6, hs6⟩ - -
      refine wpList_nil ?_
      have HM6 := Lib.hid (HM5.out.later hs6 hg6)
      have HS6 := Lib.hid hs6
      clear HM5 HS7 hs6 hg6 ctx ct0 hTlt5 hp5 hd hwd hwx hne
      go_wp2_with fail
      (with_reducible refine (pick4_any B _ p 0 0 5 30 _ HS6.out w6.heap.size rfl).mono ?_)
      rintro e w7 ⟨e3, rfl, he3, hs7, hg7⟩
      have HM7 := Lib.hid (HM6.out.later hs7 (gb_trans (gb_alloc (gb_refl _ _) _) hg7))
      clear HM6 HS6 hs7 hg7
      go_wp2_with fail
      exact ⟨⟨_, _, j + 1, ls ++ [x], hs ++ [y], rfl, rfl, by go_num, by omega, HGR.out.step (by omega) hd' (by omega) (by omega), HM7.out⟩, by simp [intOf]; omega⟩
    · have hlt' : decide ((j : Int) ≤ (c : Int) + n3) = false := decide_eq_false hlt
      have n1 := set_block m0 0 (.int .i64 step)
      have n2 := set_block n1 1 lv
      have n3' := set_block n2 2 hv
      have cr0 : w3.cell? ⟨w.heap.size, 0, none⟩ = some (.int .i64 0) := by simp [World.cell?, m0]
      have fr0 : w3.frozen? ⟨w.heap.size, 0, none⟩ = false := by simp [World.frozen?, m0]
      have cr1 : (w3.setCell ⟨w.heap.size, 0, none⟩ (.int .i64 step)).cell? ⟨w.heap.size, 1, none⟩ = some (.slice none 0 0) := by simp [World.cell?, n1]
      have fr1 : (w3.setCell ⟨w.heap.size, 0, none⟩ (.int .i64 step)).frozen? ⟨w.heap.size, 1, none⟩ = false := by simp [World.frozen?, n1]
      have cr2 : ((w3.setCell ⟨w.heap.size, 0, none⟩ (.int .i64 step)).setCell ⟨w.heap.size, 1, none⟩ lv).cell? ⟨w.heap.size, 2, none⟩ = some (.slice none 0 0) := by simp [World.cell?, n2]
      have fr2 : ((w3.setCell ⟨w.heap.size, 0, none⟩ (.int .i64 step)).setCell ⟨w.heap.size, 1, none⟩ lv).frozen? ⟨w.heap.size, 2, none⟩ = false := by simp [World.frozen?, n2]
      have N3 := Lib.hid n3'
      clear n1 n2 n3'
      obtain rfl := HLV.out; obtain rfl := HHV.out; clear HLV HHV
      have HM6 := Lib.hid m6
      clear m0 m2 m6
      go_wp2
      have hgw := m8
      obtain ⟨g1, g2, g3, -⟩ := HGR.out
      have g4 := HGR.out.low (by omega)
      refine bodyPost_ret (v := .agg #[.int .i64 step, .slice la ls.length lc, .slice ha hs.length hc']) ?_ rfl ?_
      · simp [results, Tryz.results13, go_sem, World.cell?, N3.out]
      · exact making_exit m1 m3 m4 m5 HM6.out m7 hgw ⟨by omega, by omega, by omega, by omega, by omega, fun k hk => g3 k (by omega)⟩ (by omega) (h400 HC3.out (by omega) (by omega)) (by omega) g4
theorem table_any (B : Nat) (w : World) (p : Nat) (h : Src B w p) :
    Calls Tryz.prog 13 #[.pointer (some ⟨p, 0, none⟩)] w (NewTable B p w) := by
  refine (tableL_any B w p h).mono ?_
  rintro e w' ⟨step, vl, vh, ls, hs, a1, a2, a3, a4, a5, -, a6⟩
  exact ⟨step, vl, vh, ls, hs, a1, a2, a3, a4, a5, a6⟩
end LTable
section LMem
open Go.RowKit Rg
end LMem
section LOne
open Go.RowKit Rg
end LOne
end Go.Proofs.YtgaglgopbdfemaaGreatDoor
