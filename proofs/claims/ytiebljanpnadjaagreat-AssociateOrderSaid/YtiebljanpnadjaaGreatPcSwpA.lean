/- SwpA -/
import Derived.ArgAppend
import Derived.Deep.AppendLies
import Derived.Test.YtiebljanpnadjaaGreatPcGeoP
import Derived.Test.YtiebljanpnadjaaGreatPcProb
import Derived.Test.YtiebljanpnadjaaGreatPcMisP
import Derived.Test.YtiebljanpnadjaaGreatPcFr
namespace Go.Proofs.YtiebljanpnadjaaGreat
set_option linter.all false
section LMisM
section LMisM
open Go.RowKit Rg
/-- A phase more; another cap. -/
def Prob.more (P : Prob) (a : Ph) : Prob := { P with phs := P.phs ++ [a] }
theorem Good.more {P : Prob} (h : Good P) {a : Ph} (ha : goodPh a) (hn : Near P.step P.ls P.hs P.x0 P.y0 P.z0 P.x1 P.y1 P.z1 a.x a.y a.z) (hl : P.phs.length ≤ 30) : Good (P.more a) := by
  have hmem : ∀ b ∈ (P.more a).phs, b ∈ P.phs ∨ b = a := fun b hb => by simpa [Prob.more] using hb
  refine ⟨⟨h.sound.vb, h.sound.ok, by simp [Prob.more]; omega, h.sound.cap, fun b hb => ?_⟩, fun b hb => ?_, fun b hb => ?_⟩
  · rcases hmem b hb with hb | rfl
    · exact h.sound.ph b hb
    · exact (hn.zE ha.ok).1
  · rcases hmem b hb with hb | rfl
    · exact h.near b hb
    · exact hn
  · rcases hmem b hb with hb | rfl
    · exact h.ph b hb
    · exact ha
end LMisM
end LMisM
section LMisS
section LMisS
open Go.RowKit Rg
end LMisS
end LMisS
section LReP
open Go.RowKit Rg
section
end
end LReP
section LSwp
open Go.RowKit
/-- Phase i of a list. -/
def phAt (l : List Ph) (i : Nat) : Ph := l[i]?.getD default
theorem phAt_eq {l : List Ph} {i : Nat} (h : i < l.length) : phAt l i = l[i] := by simp [phAt, h]
/-- Two phases are exchanged. -/
def swapPh (l : List Ph) (i k : Nat) : List Ph := (l.set i (phAt l k)).set k (phAt l i)
theorem swapPh_length (l : List Ph) (i k : Nat) : (swapPh l i k).length = l.length := by simp [swapPh]
theorem flatP_cons (a : Ph) (l : List Ph) : flatP (a :: l) = a.cells ++ flatP l := by simp [flatP]
theorem Ph.cells_length (a : Ph) : a.cells.length = 6 := rfl
theorem flatP_setLL : ∀ (l : List Ph) (i : Nat) (x : Ph), i < l.length → flatP (l.set i x) = setLL (flatP l) (i * 6) x.cells
  | a :: l, 0, x, _ => by
    rw [List.set_cons_zero, flatP_cons, flatP_cons]
    simp [Ph.cells, setLL]
  | a :: l, i + 1, x, h => by
    rw [List.set_cons_succ, flatP_cons, flatP_cons, flatP_setLL l i x (by simpa using h), show (i + 1) * 6 = a.cells.length + i * 6 by rw [Ph.cells_length]; omega, setLL_append]
theorem swapPh_perm (l : List Ph) {i k : Nat} (hi : i < l.length) (hk : k < l.length) : (swapPh l i k).Perm l := by
  have h := Array.swap_perm (xs := l.toArray) (i := i) (j := k) (by simpa using hi) (by simpa using hk)
  have e : (l.toArray.swap i k (by simpa using hi) (by simpa using hk)).toList = swapPh l i k := by
    unfold swapPh
    rw [phAt_eq hi, phAt_eq hk]
    simp [Array.swap_def]
  have := Array.perm_iff_toList_perm.1 h
  rw [e] at this
  simpa using this
theorem apart72 {i k : Nat} (h : i ≠ k) : ¬ (i * 6 = k * 6) ∧ ¬ (i * 6 = k * 6 + 1) ∧ ¬ (i * 6 = k * 6 + 2) ∧ ¬ (i * 6 = k * 6 + 3) ∧ ¬ (i * 6 = k * 6 + 4) ∧ ¬ (i * 6 = k * 6 + 5) ∧ ¬ (i * 6 + 1 = k * 6) ∧ ¬ (i * 6 + 1 = k * 6 + 1) ∧ ¬ (i * 6 + 1 = k * 6 + 2) ∧ ¬ (i * 6 + 1 = k * 6 + 3) ∧ ¬ (i * 6 + 1 = k * 6 + 4) ∧ ¬ (i * 6 + 1 = k * 6 + 5) ∧ ¬ (i * 6 + 2 = k * 6) ∧ ¬ (i * 6 + 2 = k * 6 + 1) ∧ ¬ (i * 6 + 2 = k * 6 + 2) ∧ ¬ (i * 6 + 2 = k * 6 + 3) ∧ ¬ (i * 6 + 2 = k * 6 + 4) ∧ ¬ (i * 6 + 2 = k * 6 + 5) ∧ ¬ (i * 6 + 3 = k * 6) ∧ ¬ (i * 6 + 3 = k * 6 + 1) ∧ ¬ (i * 6 + 3 = k * 6 + 2) ∧ ¬ (i * 6 + 3 = k * 6 + 3) ∧ ¬ (i * 6 + 3 = k * 6 + 4) ∧ ¬ (i * 6 + 3 = k * 6 + 5) ∧ ¬ (i * 6 + 4 = k * 6) ∧ ¬ (i * 6 + 4 = k * 6 + 1) ∧ ¬ (i * 6 + 4 = k * 6 + 2) ∧ ¬ (i * 6 + 4 = k * 6 + 3) ∧ ¬ (i * 6 + 4 = k * 6 + 4) ∧ ¬ (i * 6 + 4 = k * 6 + 5) ∧ ¬ (i * 6 + 5 = k * 6) ∧ ¬ (i * 6 + 5 = k * 6 + 1) ∧ ¬ (i * 6 + 5 = k * 6 + 2) ∧ ¬ (i * 6 + 5 = k * 6 + 3) ∧ ¬ (i * 6 + 5 = k * 6 + 4) ∧ ¬ (i * 6 + 5 = k * 6 + 5) ∧ ¬ (k * 6 = i * 6) ∧ ¬ (k * 6 + 1 = i * 6) ∧ ¬ (k * 6 + 2 = i * 6) ∧ ¬ (k * 6 + 3 = i * 6) ∧ ¬ (k * 6 + 4 = i * 6) ∧ ¬ (k * 6 + 5 = i * 6) ∧ ¬ (k * 6 = i * 6 + 1) ∧ ¬ (k * 6 + 1 = i * 6 + 1) ∧ ¬ (k * 6 + 2 = i * 6 + 1) ∧ ¬ (k * 6 + 3 = i * 6 + 1) ∧ ¬ (k * 6 + 4 = i * 6 + 1) ∧ ¬ (k * 6 + 5 = i * 6 + 1) ∧ ¬ (k * 6 = i * 6 + 2) ∧ ¬ (k * 6 + 1 = i * 6 + 2) ∧ ¬ (k * 6 + 2 = i * 6 + 2) ∧ ¬ (k * 6 + 3 = i * 6 + 2) ∧ ¬ (k * 6 + 4 = i * 6 + 2) ∧ ¬ (k * 6 + 5 = i * 6 + 2) ∧ ¬ (k * 6 = i * 6 + 3) ∧ ¬ (k * 6 + 1 = i * 6 + 3) ∧ ¬ (k * 6 + 2 = i * 6 + 3) ∧ ¬ (k * 6 + 3 = i * 6 + 3) ∧ ¬ (k * 6 + 4 = i * 6 + 3) ∧ ¬ (k * 6 + 5 = i * 6 + 3) ∧ ¬ (k * 6 = i * 6 + 4) ∧ ¬ (k * 6 + 1 = i * 6 + 4) ∧ ¬ (k * 6 + 2 = i * 6 + 4) ∧ ¬ (k * 6 + 3 = i * 6 + 4) ∧ ¬ (k * 6 + 4 = i * 6 + 4) ∧ ¬ (k * 6 + 5 = i * 6 + 4) ∧ ¬ (k * 6 = i * 6 + 5) ∧ ¬ (k * 6 + 1 = i * 6 + 5) ∧ ¬ (k * 6 + 2 = i * 6 + 5) ∧ ¬ (k * 6 + 3 = i * 6 + 5) ∧ ¬ (k * 6 + 4 = i * 6 + 5) ∧ ¬ (k * 6 + 5 = i * 6 + 5) := ⟨by omega, by omega, by omega, by omega, by omega, by omega, by omega, by omega, by omega, by omega, by omega, by omega, by omega, by omega, by omega, by omega, by omega, by omega, by omega, by omega, by omega, by omega, by omega, by omega, by omega, by omega, by omega, by omega, by omega, by omega, by omega, by omega, by omega, by omega, by omega, by omega, by omega, by omega, by omega, by omega, by omega, by omega, by omega, by omega, by omega, by omega, by omega, by omega, by omega, by omega, by omega, by omega, by omega, by omega, by omega, by omega, by omega, by omega, by omega, by omega, by omega, by omega, by omega, by omega, by omega, by omega, by omega, by omega, by omega, by omega, by omega, by omega⟩
theorem owns_swap {B : Nat} {l : List Ph} {u : World} {q cp : Nat} (h : u.ownsRow B 51 6 (.slice (some ⟨q, 0, none⟩) l.length cp) l.length (flatP l)) (i k : Nat) (hi : i < l.length) (hk : k < l.length) :
    ((u.setCells q (i * 6) (phAt l k).cells).setCells q (k * 6) (phAt l i).cells).ownsRow B 51 6 (.slice (some ⟨q, 0, none⟩) l.length cp) (swapPh l i k).length (flatP (swapPh l i k)) ∧ u.grownBy ((u.setCells q (i * 6) (phAt l k).cells).setCells q (k * 6) (phAt l i).cells) (some q) := by
  refine ⟨?_, setCells_grown _ _ _ (setCells_grown _ _ _ (gb_refl _ _) (.inr rfl)) (.inr rfl)⟩
  unfold swapPh
  rw [List.length_set, List.length_set, flatP_setLL _ _ _ (by simpa using hk), flatP_setLL _ _ _ hi]
  exact owns_setCells _ _ _ _ (owns_setCells _ _ _ _ h)
theorem oneCells (l : List Ph) : ∀ u ∈ flatP l, u.oneCell' = true := by
  intro u hu
  unfold flatP at hu
  obtain ⟨a, -, h⟩ := List.mem_flatMap.1 hu
  simp only [Ph.cells, List.mem_cons, List.not_mem_nil, or_false] at h
  rcases h with rfl | rfl | rfl | rfl | rfl | rfl <;> rfl
/-- append([]T{}, x...), x no empty row. -/
theorem wpList_copyAt {P : Program} {w : World} {ops : Array Oper} {rest : List Oper} {o : Oper} {a : Act} {Q : Exit → Act → World → Prop} (hgd : o.guard = none) (s x : Operand) (t : TypeId)
    (ho : o.op = .call { callee := .builtin .append, args := #[s, x], argTypes := #[t, t] })
    (e : TypeId) (z : Value) (size bytes : Nat) (ht : P.underlying t = some (.slice e)) (hinfo : (P.info? e).map (fun i => (i.zero, i.size, i.bytes)) = some (some z, size, bytes)) (hzs : z.cells.size = size) (hsz : 0 < size)
    (c : Nat) (hs : a.eval s = .slice (some ⟨c, 0, none⟩) 0 0)
    (b off n cap : Nat) (news : List Value) (hx : a.eval x = .slice (some ⟨b, off, none⟩) n cap) (hn0 : 0 < n) (hl : news.length = n * size) (hc : ∀ j u, news[j]? = some u → w.cell? ⟨b, off + j, none⟩ = some u) (h1 : ∀ u ∈ news, u.oneCell' = true)
    (hn1 : n ≤ 1000000) (hbytes : n * bytes ≤ 140737488355328)
    (h : ∀ g gc w', w'.ownsRow w.heap.size e size (.slice (some ⟨g, 0, none⟩) n gc) n news → w.grownBy w' none → wpList P ops Q rest (a.put o.dst (.slice (some ⟨g, 0, none⟩) n gc)) w') : wpList P ops Q (o :: rest) a w := by
  obtain ⟨i0, hi, hz0, hz1, hz2⟩ := info_parts hinfo
  refine wpList_append_grows w hgd s x t ho e i0 z size bytes ht hi hz0 hz1 hz2 hzs hsz (some ⟨c, 0, none⟩) 0 0 [] hs (fun h => by cases h) (by simp) (fun b _ j u hj => by simp at hj) ⟨b, off, none⟩ n cap news hx hl (fun j u hj => by rw [Addr.add_lit]; exact hc j u hj) h1 (by omega) (by unfold maxLen; omega) (by rwa [Nat.zero_add]) (fun v' w' h2 h3 => ?_)
  rw [Nat.zero_add, List.nil_append] at h2
  obtain ⟨g, gc, rfl, -, -⟩ := h2.form hn0
  exact h g gc w' h2 h3
end LSwp
end Go.Proofs.YtiebljanpnadjaaGreat
