/- Base Close -/
import Derived.WalkKit
import Derived.WalkSpells
import Derived.WalkLawsBesides
import Derived.Handy
import Derived.Lib.Hide
import Derived.Lib.ItoaNum
import Derived.Deep.QuietTactic
import Derived.BigQuiet
import Derived.Deep.Slices
import Derived.Deep.Cut
import Derived.Deep.CutBlock
import Derived.Deep.LoopGhost
import Derived.Deep.RegionHeld3
import Derived.Deep.RegionWith
import Derived.Deep.DeepCutAuto
import Derived.Test.YtgaglgopbdfemaaGreatDoorRows
import Derived.ProofKit
import Derived.OpenShut
namespace Go.Proofs.YtgaglgopbdfemaaGreatDoor
set_option linter.all false
section LGen
open Go.RowKit
theorem tmod_neg_iff (x n : Int) (h1 : 1 ≤ n) (h : x.tmod n < 0) : x.tmod n + n = x % n := by
  have e : x.tmod n = x % n - _ := Int.tmod_eq_emod
  have h2 := Int.emod_nonneg x (by omega : n ≠ 0)
  split at e <;> omega
theorem tmod_nonneg_iff (x n : Int) (h1 : 1 ≤ n) (h : 0 ≤ x.tmod n) : x.tmod n = x % n := by
  have e : x.tmod n = x % n - _ := Int.tmod_eq_emod
  have h2 := Int.emod_lt_of_pos x (by omega : 0 < n)
  split at e <;> omega
theorem ret_int {k : IntKind} {a b : Int} (h : a = b) : Ending.returned (.int k a) = .returned (.int k b) := by rw [h]
theorem ret_bool {a b : Bool} (h : a = b) : Ending.returned (.bool a) = .returned (.bool b) := by rw [h]
theorem wraps_i64 (n : Int) (h₀ : 0 ≤ n) (h₁ : n < 2 ^ 63) : IntKind.i64.wrap n = n := by rw [IntKind.wrap_i64]; omega
/-- What was read of a world is read in a later one. -/
theorem gb_cell {w w' : World} {row : Option Nat} (h : w.grownBy w' row) {b o : Nat} (hb : b < w.heap.size) (hr : some b ≠ row) : w'.cell? ⟨b, o, none⟩ = w.cell? ⟨b, o, none⟩ :=
  World.cell?_of_block (h.block b hb hr)
theorem gb_frozen {w w' : World} {row : Option Nat} (h : w.grownBy w' row) {b o : Nat} (hb : b < w.heap.size) (hr : some b ≠ row) : w'.frozen? ⟨b, o, none⟩ = w.frozen? ⟨b, o, none⟩ :=
  World.frozen?_of_block (h.block b hb hr)
/-- One block behind a call that turns nothing old: its cells read as they did. -/
theorem gb_at {u w' : World} (h : u.grownBy w' none) {b : Nat} (hb : b < u.heap.size) : (∀ o, w'.cell? ⟨b, o, none⟩ = u.cell? ⟨b, o, none⟩) ∧ b < w'.heap.size :=
  ⟨fun _ => gb_cell h hb (by simp), Nat.lt_of_lt_of_le hb h.size⟩
theorem gb_refl (w : World) (row : Option Nat) : w.grownBy w row := ⟨rfl, rfl, rfl, Nat.le_refl _, fun _ _ _ => rfl⟩
theorem gb_trans {a b c : World} {row : Option Nat} (h : a.grownBy b row) (k : b.grownBy c row) : a.grownBy c row :=
  ⟨k.os.trans h.os, k.tape.trans h.tape, k.output.trans h.output, Nat.le_trans h.size k.size, fun i hi hr => (k.block i (Nat.lt_of_lt_of_le hi h.size) hr).trans (h.block i hi hr)⟩
theorem gb_none {a b : World} {row : Option Nat} (h : a.grownBy b none) : a.grownBy b row :=
  ⟨h.os, h.tape, h.output, h.size, fun i hi _ => h.block i hi (by simp)⟩
theorem gb_drewN {w w' : World} {row : Option Nat} (h : w.grownBy w' row) (n : Nat) : w.grownBy (w'.drewN n) row :=
  ⟨h.os, h.tape, h.output, h.size, h.block⟩
theorem gb_drew {w w' : World} {row : Option Nat} (h : w.grownBy w' row) : w.grownBy w'.drew row :=
  ⟨h.os, h.tape, h.output, h.size, h.block⟩
theorem gb_alloc {w w' : World} {row : Option Nat} (h : w.grownBy w' row) (o : Obj) : w.grownBy (w'.alloc o) row :=
  gb_trans h (gb_none (World.grownBy_alloc w' o none))
theorem gb_setCell {w w' : World} {row : Option Nat} (h : w.grownBy w' row) {a : Addr} (ha : w.heap.size ≤ a.block ∨ row = some a.block) (u : Value) : w.grownBy (w'.setCell a u) row :=
  ⟨h.os, h.tape, h.output, by simpa [World.setCell] using h.size, fun i hi hr => by
    rw [Below.heap_setCell _ _ _ _ (by rcases ha with ha | ha; (omega); exact fun e => hr (by rw [e, ha]))]; exact h.block i hi hr⟩
theorem gb_below {B : Nat} {w w' : World} {row : Option Nat} (h : w.grownBy w' row) (hB : B ≤ w.heap.size) (hr : ∀ k, row = some k → B ≤ k) : Below B w w' :=
  (Below.refl B w).grown h hB hr
/-- A write into a block that is new is none. -/
theorem gb_new {a b c : World} {row : Option Nat} (h : a.grownBy b none) (k : b.grownBy c row) (hq : ∀ q, row = some q → a.heap.size ≤ q) : a.grownBy c none :=
  ⟨k.os.trans h.os, k.tape.trans h.tape, k.output.trans h.output, Nat.le_trans h.size k.size,
    fun i hi _ => (k.block i (Nat.lt_of_lt_of_le hi h.size) (fun e => by have := hq i e.symm; omega)).trans (h.block i hi (by simp))⟩
theorem cell_new (w : World) (cs : Array Value) (e : TypeId) (k : Nat) : (w.alloc (.cells cs e)).cell? ⟨w.heap.size, k, none⟩ = cs[k]? := by
  unfold World.cell?; rw [heap_alloc_new]; rfl
theorem cell_old (w : World) (o : Obj) {b : Nat} (k : Nat) (h : b < w.heap.size) : (w.alloc o).cell? ⟨b, k, none⟩ = w.cell? ⟨b, k, none⟩ :=
  World.cell?_of_block (heap_alloc_old w o h)
theorem cell_new' (w : World) (cs : Array Value) (e : TypeId) (k : Nat) {b : Nat} (h : b = w.heap.size) : (w.alloc (.cells cs e)).cell? ⟨b, k, none⟩ = cs[k]? := by
  subst h; exact cell_new w cs e k
theorem gb_end {w w' : World} (h : w.grownBy w' none) : Below w.heap.size w w' := gb_below h (Nat.le_refl _) (by simp)
/-- append(s, x), x one element of 'size' cells that lie in a block of their own. -/
theorem wpList_push {P : Program} {w : World} {ops : Array Oper} {rest : List Oper} {o : Oper} {a : Act} {Q : Exit → Act → World → Prop} (hgd : o.guard = none) (s x : Operand) (t : TypeId)
    (ho : o.op = .call { callee := .builtin .append, args := #[s, x], argTypes := #[t, t] })
    (base : Nat) (e : TypeId) (z : Value) (size bytes : Nat) (ht : P.underlying t = some (.slice e)) (hinfo : (P.info? e).map (fun i => (i.zero, i.size, i.bytes)) = some (some z, size, bytes)) (hzs : z.cells.size = size) (hsz : 0 < size) (hby : 0 < bytes)
    (v : Value) (n : Nat) (xs : List Value) (hs : a.eval s = v) (hown : w.ownsRow base e size v n xs)
    (b c : Nat) (news : List Value) (e' : TypeId) (hx : a.eval x = .slice (some ⟨b, 0, none⟩) 1 c) (hblk : w.heap[b]? = some (.cells news.toArray e' (0, 0))) (hl : news.length = size) (h1 : ∀ u ∈ news, u.oneCell' = true)
    (hbytes : (n + 1) * bytes ≤ 140737488355328) (hbase : base ≤ w.heap.size)
    (h : ∀ v' w', w'.ownsRow base e size v' (n + 1) (xs ++ news) → w.grownBy w' v.ownBlock → wpList P ops Q rest (a.put o.dst v') w') : wpList P ops Q (o :: rest) a w := by
  obtain ⟨i0, hi, hz0, hz1, hz2⟩ := info_parts hinfo
  refine wpList_append_own w hgd s x t ho base e i0 z size bytes ht hi hz0 hz1 hz2 hzs hsz v n xs hs hown ⟨b, 0, none⟩ 1 c news hx (by omega) ?_ h1 ?_ hbytes hbase (fun v' w' h2 h3 _ => h v' w' h2 h3)
  · intro j u hj
    have hadd : (⟨b, 0, none⟩ : Addr).add j = ⟨b, j, none⟩ := by unfold Addr.add; split <;> simp_all
    rw [hadd]
    simp [World.cell?, hblk]
    exact hj
  · have := Nat.le_mul_of_pos_right (n + 1) hby
    unfold maxLen; omega
/-- An own row that is not empty: where it lies. -/
theorem owns_at {w : World} {B e : Nat} {v : Value} {n : Nat} {ys : List Value} (h : w.ownsRow B e 1 v n ys) (hn : 0 < n) :
    ∃ g cap, v = .slice (some ⟨g, 0, none⟩) n cap ∧ B ≤ g ∧ g < w.heap.size ∧ n ≤ cap ∧ cap ≤ 9223372036854775807 ∧ (∀ j u, ys[j]? = some u → w.cell? ((⟨g, 0, none⟩ : Addr).add j) = some u) := by
  rcases h.2 with ⟨_, h0⟩ | ⟨g, cap, cur, rfl, hb, hg, hle, hcap, _, _⟩
  · omega
  · exact ⟨g, cap, rfl, hb, (Array.getElem?_eq_some_iff.1 hg).1, hle, hcap, fun j u hj => h.cells rfl j u hj⟩
theorem owns_slice {w : World} {B e s : Nat} {v : Value} {n : Nat} {ys : List Value} (h : w.ownsRow B e s v n ys) : ∃ a c, v = .slice a n c := by
  rcases h.2 with ⟨rfl, rfl⟩ | ⟨g, cap, cur, rfl, _⟩
  · exact ⟨_, _, rfl⟩
  · exact ⟨_, _, rfl⟩
theorem owns_keep {w w' : World} {B e s : Nat} {v : Value} {n : Nat} {ys : List Value} (h : w.ownsRow B e s v n ys) (hg : w.grownBy w' none) : w'.ownsRow B e s v n ys :=
  h.kept hg (by cases v.ownBlock <;> simp)
theorem owns_keepp {w w' : World} {B e s : Nat} {v : Value} {n : Nat} {ys : List Value} {p : Nat} (h : w.ownsRow B e s v n ys) (hg : w.grownBy w' (some p)) (hp : p < B) : w'.ownsRow B e s v n ys :=
  h.kept hg (by cases e : v.ownBlock with | none => simp | some k => have := (h.lt k e).1; simp; omega)
end LGen
section LInts
open Go.RowKit
theorem mod_any (x n : Int) (w : World) (hn : n ≤ 9223372036854775807) (h1 : 1 ≤ n) :
    Calls Tryz.prog 7 #[.int .i64 x, .int .i64 n] w fun e w' => e = .returned (.int .i64 (x % n)) ∧ w = w' := by
  go_enter Tryz.func7, Tryz.ntmps7
  go_wp2
  · go_ret
    have h : x.tmod n < 0 := by assumption
    have h2 := tmod_neg_iff x n h1 h
    have h3 := Int.emod_nonneg x (by omega : n ≠ 0)
    have h4 := Int.emod_lt_of_pos x (by omega : 0 < n)
    exact ⟨ret_int (by rw [h2, IntWalk.wrap64_in _ (by omega)]), rfl⟩
  · go_ret
    exact ⟨ret_int (tmod_nonneg_iff x n h1 (by assumption)), rfl⟩
end LInts
section LSl
open Go.RowKit
/-- The slice value v reads as the list xs of ints in the world w. -/
def Sl (w : World) (v : Value) (xs : List Int) : Prop :=
  (xs = [] ∧ ∃ a cap, v = .slice a 0 cap) ∨
  ∃ b off cap, v = .slice (some ⟨b, off, none⟩) xs.length cap ∧ b < w.heap.size ∧ xs.length ≤ cap ∧ cap ≤ 9223372036854775807 ∧ ∀ k, k < xs.length → w.cell? ⟨b, off + k, none⟩ = some (.int .i64 (xs[k]?.getD 0))
theorem Sl.later {w w' : World} {row : Option Nat} {v : Value} {xs : List Int} (h : Sl w v xs) (hg : w.grownBy w' row) (hr : ∀ b off len cap, v = .slice (some ⟨b, off, none⟩) len cap → 0 < len → some b ≠ row) : Sl w' v xs := by
  rcases h with h | ⟨b, off, cap, rfl, hb, h1, h2, h3⟩
  · exact .inl h
  · by_cases h0 : 0 < xs.length
    · exact .inr ⟨b, off, cap, rfl, Nat.lt_of_lt_of_le hb hg.size, h1, h2, fun k hk => (gb_cell hg hb (hr _ _ _ _ rfl h0)).trans (h3 k hk)⟩
    · obtain rfl : xs = [] := List.length_eq_zero_iff.1 (by omega)
      exact .inl ⟨rfl, _, _, rfl⟩
/-- An own row of ints reads as a list. -/
theorem Sl_of_owns {w : World} {base : Nat} {E : TypeId} {v : Value} {n : Nat} {xs : List Int} (h : w.ownsRow base E 1 v n (xs.map (Value.int .i64))) (hn : n = xs.length) : Sl w v xs := by
  subst hn
  rcases h.2 with ⟨rfl, h0⟩ | ⟨g, cap, cur, rfl, hb, hg, hle, hcap, hsz, htk⟩
  · exact .inl ⟨List.length_eq_zero_iff.1 h0, none, 0, by simp⟩
  · refine .inr ⟨g, 0, cap, rfl, (Array.getElem?_eq_some_iff.1 hg).1, hle, by unfold maxLen at hcap; exact hcap, fun k hk => ?_⟩
    have := h.cells (g := g) rfl k (.int .i64 (xs[k]?.getD 0)) (by simp [List.getElem?_map, List.getElem?_eq_getElem hk])
    rw [← this]
    congr 1
    unfold Addr.add; split <;> simp_all
/-- The first m numbers: 's[:m]'. -/
theorem Sl.take {w : World} {b off n cap : Nat} {xs : List Int} (h : Sl w (.slice (some ⟨b, off, none⟩) n cap) xs) {m : Nat} (hm : m ≤ n) : Sl w (.slice (some ⟨b, off, none⟩) m cap) (xs.take m) := by
  rcases h with ⟨rfl, a, c, e⟩ | ⟨b', off', cap', e, hb, h1, h2, h3⟩
  · simp at e; obtain ⟨rfl, rfl, rfl⟩ := e
    obtain rfl : m = 0 := by omega
    exact .inl ⟨rfl, _, _, rfl⟩
  · simp at e; obtain ⟨⟨rfl, rfl⟩, rfl, rfl⟩ := e
    have hl : (xs.take m).length = m := by simp; omega
    refine .inr ⟨_, _, _, by rw [hl], hb, by omega, h2, fun k hk => ?_⟩
    rw [hl] at hk
    rw [h3 k (by omega), List.getElem?_take_of_lt hk]
/-- One number in a block of its own. -/
theorem Sl.one (w : World) (x : Int) (e : TypeId) : Sl (w.alloc (.cells #[.int .i64 x] e)) (.slice (some ⟨w.heap.size, 0, none⟩) 1 1) [x] := by
  refine .inr ⟨w.heap.size, 0, 1, rfl, by simp, by simp, by omega, fun k hk => ?_⟩
  rw [cell_new]
  match k, hk with
  | 0, _ => rfl
end LSl
section LSrc
open Go.RowKit
/-- Block p is a reader over an argument's memory (blocks below B): it holds a slice that reads as a list of ints, and a position in it. -/
def Src (B : Nat) (w : World) (p : Nat) : Prop :=
  ∃ (v : Value) (xs : List Int) (k : Nat), B ≤ p ∧ w.heap[p]? = some (.cells #[v, .int .i64 k] 49 (0, 0)) ∧ Sl w v xs ∧ (∀ b off len cap, v = .slice (some ⟨b, off, none⟩) len cap → 0 < len → b < B) ∧ k ≤ xs.length ∧ xs.length ≤ 2000
theorem Src.later {B : Nat} {w w' : World} {p : Nat} {row : Option Nat} (h : Src B w p) (hg : w.grownBy w' row) (hr : ∀ q, row = some q → B ≤ q ∧ q ≠ p) : Src B w' p := by
  obtain ⟨v, xs, k, h0, h1, h2, h3, h4, h5⟩ := h
  refine ⟨v, xs, k, h0, ?_, h2.later hg ?_, h3, h4, h5⟩
  · rw [hg.block p (Array.getElem?_eq_some_iff.1 h1).1 (fun e => (hr p e.symm).2 rfl)]; exact h1
  · rintro b off len cap hv hl e
    have := h3 b off len cap hv hl
    have := hr b e.symm
    omega
theorem Src.lt {B : Nat} {w : World} {p : Nat} (h : Src B w p) : B ≤ p ∧ p < w.heap.size := by
  obtain ⟨v, xs, k, h0, h1, _⟩ := h
  exact ⟨h0, (Array.getElem?_eq_some_iff.1 h1).1⟩
/-- Some number n with P n is returned; the reader goes on. -/
def Drawn (B p : Nat) (P : Int → Prop) (w : World) (e : Ending) (w' : World) : Prop :=
  ∃ n : Int, e = .returned (.int .i64 n) ∧ P n ∧ Src B w' p ∧ w.grownBy w' (some p)
set_option maxHeartbeats 400000 in
theorem raw_any (B : Nat) (w : World) (p : Nat) (h : Src B w p) :
    Calls Tryz.prog 27 #[.pointer (some ⟨p, 0, none⟩)] w (Drawn B p (fun _ => True) w) := by
  have hS := Lib.hid h
  obtain ⟨v, xs, k, hBp, h1, h2, h3, h4, h5⟩ := h
  have hfin : k < xs.length → Src B (w.setCell ⟨p, 1, none⟩ (.int .i64 ((k : Int) + 1))) p := by
    intro hk
    refine ⟨v, xs, k + 1, hBp, ?_, h2.later (row := some p) (gb_setCell (gb_refl w _) (.inr rfl) _) ?_, h3, by omega, h5⟩
    · simp only [World.setCell, Array.getElem?_modify, if_true, h1]; rfl
    · rintro b off len cap hv hl e
      have := h3 b off len cap hv hl
      simp at e; omega
  have HF := Lib.hid hfin; clear hfin
  have hc1 : w.cell? ⟨p, 1, none⟩ = some (.int .i64 k) := by simp [World.cell?, h1]
  have hf1 : w.frozen? ⟨p, 1, none⟩ = false := by simp [World.frozen?, h1]
  rcases h2 with ⟨rfl, a, cap, rfl⟩ | ⟨b, off, cap, rfl, hb, hcap, hcap2, hc⟩
  · have hc0 : w.cell? ⟨p, 0, none⟩ = some (.slice a 0 cap) := by simp [World.cell?, h1]
    clear h1 h3
    go_enter Tryz.func27, Tryz.ntmps27
    go_wp2
    go_quiet (fail)
    go_wp2
    go_ret
    exact ⟨0, rfl, trivial, hS.out.later (gb_drewN (gb_refl w none) _) (by simp), gb_drewN (gb_refl _ _) _⟩
  · have HC := Lib.hid hc; clear hc
    have hc0 : w.cell? ⟨p, 0, none⟩ = some (.slice (some ⟨b, off, none⟩) xs.length cap) := by simp [World.cell?, h1]
    have H1 := Lib.hid h1; clear h1
    by_cases hlt : k < xs.length
    · have hbp : ¬ b = p := by have := h3 _ _ _ _ rfl (by omega); omega
      clear h3
      have hcell := HC.out k hlt
      go_enter Tryz.func27, Tryz.ntmps27
      go_wp2
      go_quiet (fail)
      go_wp2
      go_quiet (fail)
      go_wp2
      go_ret
      refine ⟨_, rfl, trivial, (HF.out hlt).later (row := none) ?_ (by simp), ?_⟩
      · exact gb_drewN (gb_drewN (gb_refl (w.setCell _ _) none) _) _
      · repeat (first | exact gb_refl _ _ | refine gb_drewN ?_ _ | refine gb_setCell ?_ (.inr rfl) _)
    · clear h3
      go_enter Tryz.func27, Tryz.ntmps27
      go_wp2
      go_quiet (fail)
      go_wp2
      go_ret
      exact ⟨0, rfl, trivial, hS.out.later (gb_drewN (gb_refl w none) _) (by simp), gb_drewN (gb_refl _ _) _⟩
theorem n_any (B : Nat) (w : World) (p : Nat) (n : Int) (h : Src B w p) (hn : n ≤ 9223372036854775807) (h1 : 1 ≤ n) :
    Calls Tryz.prog 15 #[.pointer (some ⟨p, 0, none⟩), .int .i64 n] w (Drawn B p (fun x => 0 ≤ x ∧ x < n) w) := by
  have hS := Lib.hid h; clear h
  go_enter Tryz.func15, Tryz.ntmps15
  go_wp2_with fail
  refine (raw_any B w p hS.out).mono ?_
  rintro e w' ⟨x, rfl, _, hs, hg⟩
  have hS' := Lib.hid hs; clear hs
  have hG := Lib.hid hg; clear hg
  go_wp2_with fail
  refine (mod_any x n _ hn h1).mono ?_
  rintro e w' ⟨rfl, rfl⟩
  go_wp2
  go_ret
  exact ⟨_, rfl, ⟨Int.emod_nonneg x (by omega), Int.emod_lt_of_pos x (by omega)⟩, hS'.out, hG.out⟩
/-- The new reader. -/
def NewSrc (w : World) (e : Ending) (w' : World) : Prop :=
  e = .returned (.pointer (some ⟨w.heap.size, 0, none⟩)) ∧ Src w.heap.size w' w.heap.size ∧ w.grownBy w' none
set_option maxHeartbeats 400000 in
theorem new_any (w : World) (v : Value) (xs : List Int) (h : Sl w v xs) :
    Calls Tryz.prog 4 #[v] w (NewSrc w) := by
  have mk : ∀ (v : Value) (ys : List Int), Sl w v ys → ys.length ≤ 2000 → (∀ b off len cap, v = .slice (some ⟨b, off, none⟩) len cap → 0 < len → b < w.heap.size) → NewSrc w (.returned (.pointer (some ⟨w.heap.size, 0, none⟩))) (w.alloc (.cells #[v, .int .i64 0] 49)) := by
    intro v ys hv hl hb
    refine ⟨rfl, ⟨v, ys, 0, Nat.le_refl _, heap_alloc_new w _, hv.later (gb_alloc (gb_refl w none) _) (by simp), hb, Nat.zero_le _, hl⟩, gb_alloc (gb_refl _ _) _⟩
  have MK := Lib.hid mk; clear mk
  rcases h with ⟨rfl, a, cap, rfl⟩ | ⟨b, off, cap, rfl, hb, hcap, hcap2, hc⟩
  · go_enter Tryz.func4, Tryz.ntmps4
    go_wp2
    go_ret
    exact MK.out (.slice a 0 cap) [] (.inl ⟨rfl, a, cap, rfl⟩) (by simp) (by rintro b off len cap h hl; simp at h; omega)
  · have HC := Lib.hid hc; clear hc
    go_enter Tryz.func4, Tryz.ntmps4
    go_wp2
    · go_ret
      have h2 : 2000 < (xs.length : Int) := by assumption
      refine MK.out _ (xs.take 2000) (.inr ⟨b, off, cap, ?_, hb, ?_, hcap2, ?_⟩) ?_ ?_
      · simp; omega
      · simp; omega
      · intro k hk
        simp at hk
        rw [HC.out k (by omega), List.getElem?_take_of_lt (by omega)]
      · simp; omega
      · rintro b off len cap h hl; simp at h; omega
    · go_ret
      have h2 : (xs.length : Int) ≤ 2000 := by assumption
      refine MK.out _ xs (.inr ⟨b, off, cap, rfl, hb, hcap, hcap2, HC.out⟩) (by omega) ?_
      rintro b off len cap h hl; simp at h; omega
end LSrc
section LPick
open Go.RowKit
/-- One of the numbers of a list. -/
theorem pick_any (B : Nat) (w : World) (p : Nat) (v : Value) (xs : List Int) (h : Src B w p) (hs : Sl w v xs) (h0 : 0 < xs.length) (hl : xs.length ≤ 1000) (hb : ∀ b off len cap, v = .slice (some ⟨b, off, none⟩) len cap → b ≠ p) :
    Calls Tryz.prog 9 #[.pointer (some ⟨p, 0, none⟩), v] w (Drawn B p (fun x => x ∈ xs) w) := by
  rcases hs with ⟨rfl, _⟩ | ⟨b, off, cap, rfl, hbl, hcap, hcap2, hc⟩
  · simp at h0
  have hbp := hb _ _ _ _ rfl; clear hb
  have hS := Lib.hid h; clear h
  have HC := Lib.hid hc; clear hc
  go_enter Tryz.func9, Tryz.ntmps9
  go_wp2_with fail
  refine (n_any B w p xs.length hS.out (by omega) (by omega)).mono ?_
  rintro e w' ⟨x, rfl, ⟨hx0, hx1⟩, hs, hg⟩
  have hS' := Lib.hid hs; clear hs
  obtain ⟨k, rfl⟩ := Int.eq_ofNat_of_zero_le hx0
  have hcell := (gb_cell hg hbl (o := off + k) (by simpa using hbp)).trans (HC.out k (by omega))
  have hG := Lib.hid hg; clear hg
  go_wp2
  go_ret
  refine ⟨_, rfl, ?_, hS'.out, hG.out⟩
  rw [List.getElem?_eq_getElem (by omega)]
  exact List.getElem_mem (by omega)
end LPick
section LGrown
open Go.RowKit
/-- A world that has grown out of w. -/
structure Up (w : World) where
  u : World
  h : w.grownBy u none
instance (w : World) : Nonempty (Up w) := ⟨⟨w, gb_refl w none⟩⟩
def ever (w : World) (x : Up w) : World := x.u
theorem ever_up {w : World} (x : Up w) : w.grownBy (ever w x) none := x.h
@[go_sem] theorem ever_cell {w : World} (x : Up w) {b o : Nat} (hb : b < w.heap.size) : (ever w x).cell? ⟨b, o, none⟩ = w.cell? ⟨b, o, none⟩ := gb_cell x.h hb (by simp)
@[go_sem] theorem ever_frozen {w : World} (x : Up w) {b o : Nat} (hb : b < w.heap.size) : (ever w x).frozen? ⟨b, o, none⟩ = w.frozen? ⟨b, o, none⟩ := gb_frozen x.h hb (by simp)
theorem Calls.grown_of {P : Program} {f : FuncId} {args : Array Value} {w : World} {x : Up w} {v : Value}
    (h : Calls P f args (ever w x) fun e w' => e = .returned v ∧ (ever w x).grownBy w' none) : Calls P f args (ever w x) fun e w'' => e = .returned v ∧ ∃ y, w'' = ever w y :=
  h.mono fun _ w' ⟨he, hm⟩ => ⟨he, ⟨w', gb_trans x.h hm⟩, rfl⟩
theorem Calls.grown_same {P : Program} {f : FuncId} {args : Array Value} {w : World} {x : Up w} {v : Value}
    (h : Calls P f args (ever w x) fun e w' => e = .returned v ∧ ever w x = w') : Calls P f args (ever w x) fun e w'' => e = .returned v ∧ ∃ y, w'' = ever w y :=
  h.mono fun _ w' ⟨he, hm⟩ => ⟨he, x, hm.symm⟩
theorem wp_region_grown {P : Program} {id : Nat} {Q : Exit → Act → World → Prop} {a : Act} {w : World} {l : List Oper} (hm : P.follows .mixedOrders = true) (hB : Region.lexB .any l.toArray = true)
    (h : wpQuiet P l.toArray (fun w' => ∃ x, w' = ever w x) (fun a' => ∀ w', w.grownBy w' none → Q .normal a' w') l a) : (Code.region id l.toArray true).wp P Q a w :=
  wp_region_quiet (C := fun w' => ∃ x, w' = ever w x) hm hB ⟨⟨w.drew, gb_drew (gb_refl _ _)⟩, rfl⟩ (by
    have e : (fun a' => ∀ w', (∃ x, w' = ever w x) → Q .normal a' w') = fun a' => ∀ w', w.grownBy w' none → Q .normal a' w' :=
      funext fun a' => propext ⟨fun k w' hw => k w' ⟨⟨w', hw⟩, rfl⟩, fun k w' hw => by obtain ⟨x, rfl⟩ := hw; exact k _ x.h⟩
    rw [e]; exact h)
end LGrown
end Go.Proofs.YtgaglgopbdfemaaGreatDoor
namespace Go.Proofs.YtgaglgopbdfemaaGreatDoor
set_option linter.all false
open Go.ChangeShapes Go.WideShapes Go.ChangeAt Go.RowKit
section
variable {H : Type} {enc : TypeId × Value → H} {P : Program}
/-- An argument of int type. -/
theorem open_i64 {W : World} {base : Nat} {spare : Nat → Bool} {held : Bool} {r : Reach} {b0 : Nat} {t : TypeId} {v : Value} {d : DataW H} {ps : List MemPlace} (ht : P.underlying t = some (.int .i64)) (hval : Value.okWide P W r b0 t v) (hd : DataW.Trod enc P W base spare held t v d ps) :
    ∃ n, v = .int .i64 n ∧ -9223372036854775808 ≤ n ∧ n ≤ 9223372036854775807 := by
  obtain ⟨n, rfl, _, _, hw⟩ := open_int ht hval hd
  have := bounds_i64 hw
  exact ⟨n, rfl, by omega, by omega⟩
/-- An argument that is a slice of ints. -/
theorem open_sl {W : World} {base : Nat} {held : Bool} {r : Reach} {b0 : Nat} {t e : TypeId} {v : Value} {d : DataW H} {ps : List MemPlace} (ht : P.underlying t = some (.slice e)) (he : P.underlying e = some (.int .i64)) (hc : P.cellsOf e = 1)
    (hval : Value.okWide P W r b0 t v) (hd : DataW.Trod enc P W base (fun _ => true) held t v d ps) :
    ∃ xs, Sl W v xs ∧ (∀ x ∈ xs, -9223372036854775808 ≤ x ∧ x ≤ 9223372036854775807) := by
  obtain ⟨a0, len, cap, rfl⟩ := okWide_slice ht hval
  obtain ⟨fuel, hf⟩ := hd
  rcases open_ints ht he hc hf with ⟨hcs, _⟩ | ⟨a, len', cap', zs, hcs, _, hl, hm, hz, _, hcell, hw⟩
  · simp [Value.cells] at hcs
    obtain ⟨rfl, rfl, rfl⟩ := hcs
    exact ⟨[], .inl ⟨rfl, none, 0, rfl⟩, by simp⟩
  · simp [Value.cells] at hcs
    obtain ⟨rfl, rfl, rfl⟩ := hcs
    simp only [if_true] at hz
    refine ⟨zs.take len, ?_, fun x hx => bounds_i64 (hw x (List.mem_of_mem_take hx))⟩
    by_cases h0 : 0 < len
    · obtain ⟨b, off, rfl, hcc⟩ := ints_at hcell (by omega)
      have hlen : (zs.take len).length = len := by simp; omega
      refine .inr ⟨b, off, cap, by rw [hlen], World.block_lt_of_cell? W _ (hcc 0 (by omega)), by omega, by unfold maxLen at hm; omega, fun k hk => ?_⟩
      rw [hlen] at hk
      rw [hcc k (by omega), List.getElem?_take_of_lt hk]; rfl
    · obtain rfl : len = 0 := by omega
      exact .inl ⟨by simp, _, _, rfl⟩
/-- The law's post: true is returned, and below the heap's old size nothing has turned. -/
theorem law_post {f : Func} {s : ChangeSpec} {W W' : World} {args : Array Value} {ds : List (DataW H)} {before : List MemPlace} {tb : TypeId}
    (hW : DataW.Whole enc P f.params.toList s.vars false W args.toList ds [] before) (hvars : s.vars = [])
    (hr : f.resultTypes = #[tb]) (htb : P.underlying tb = some .bool)
    (hfn : s.fn H (ds ++ []) = { results := [.lit (.bool true)], args := ds })
    (hl : laidOutB P = true) (hread : ∀ t ∈ f.params.toList, P.readableRec t = true ∧ t < P.types.size)
    (hb : Below W.heap.size W W') :
    ∃ v, Ending.returned (.bool true) = .returned v ∧ s.post enc P f false true false false W args v W' := by
  have hW' := hW
  obtain ⟨p, q, hA, hV, rfl, hfz, hnd⟩ := hW
  have hlt : ∀ x ∈ p, x.block < W.heap.size := fun x hx => hW'.lt x (List.mem_append_left _ hx)
  have hV0 : q = [] := by rw [hvars] at hV; exact (trodVars_none hV).2
  subst hV0
  refine ⟨_, rfl, ds, [], p ++ [], [], p, [], hW', ?_, ?_, ?_, hb.frame _, fun h => by cases h⟩
  · rw [hfn, hr]
    exact trodAll_mk1 (shut_bool htb _)
  · rw [hfn]
    have key : ∀ (ts : List TypeId) (vs : List Value) (ds : List (DataW H)) (p : List MemPlace), (∀ t ∈ ts, P.readableRec t = true ∧ t < P.types.size) → (∀ x ∈ p, x.block < W.heap.size) →
        DataW.TrodAll enc P W 0 (fun _ => true) true ts vs ds p → DataW.TrodAll enc P W' 0 (fun b => decide (b < W.heap.size)) true ts vs ds p := by
      intro ts
      induction ts with
      | nil => intro vs ds p _ _ h; obtain ⟨rfl, rfl, rfl⟩ := trodAll_nil h; exact trodAll_mk0
      | cons t ts ih =>
        intro vs ds p hts hp h
        obtain ⟨v, vs', d, ds', p1, q1, rfl, rfl, rfl, hd, hrest⟩ := trodAll_cons h
        have ht := hts t (by simp)
        exact trodAll_cons_mk (Below.trod hl ht.1 ht.2 hd hb (fun x hx => hp x (by simp [hx]))) (ih vs' ds' q1 (fun t ht => hts t (by simp [ht])) (fun x hx => hp x (by simp [hx])) hrest)
    exact key _ _ _ _ hread hlt hA
  · rw [hfn, hvars]
    rfl
end
end Go.Proofs.YtgaglgopbdfemaaGreatDoor
