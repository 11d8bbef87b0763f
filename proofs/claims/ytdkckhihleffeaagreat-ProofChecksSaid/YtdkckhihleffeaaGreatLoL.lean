/- Rows of locations in memory. -/
import Derived.Test.YtdkckhihleffeaaGreatSnd
namespace Go.Proofs.YtdkckhihleffeaaGreat
set_option linter.all false
open Go.RowKit Rg

def Loc.cells (x : Loc) : List Value := [.int .i64 x.px, .int .i64 x.py, .int .i64 x.pz, .int .i64 x.t, .int .i64 x.m, .int .i64 x.l, .int .i64 x.a0, .int .i64 x.a1, .int .i64 x.a2, .int .i64 x.a3, .int .i64 x.a4, .int .i64 x.a5]
def flatLo (l : List Loc) : List Value := l.flatMap Loc.cells
theorem flatLo_at : ∀ (l : List Loc) (i : Nat) (hi : i < l.length) (j : Nat) (hj : j < 12), (flatLo l)[i * 12 + j]? = l[i].cells[j]?
  | a :: l, 0, _, j, hj => by
    show (a.cells ++ flatLo l)[0 * 12 + j]? = _
    rw [List.getElem?_append_left (by simp [Loc.cells]; omega)]; simp
  | a :: l, i + 1, hi, j, hj => by
    show (a.cells ++ flatLo l)[(i + 1) * 12 + j]? = _
    rw [List.getElem?_append_right (by simp [Loc.cells]; omega), show (i + 1) * 12 + j - a.cells.length = i * 12 + j by simp [Loc.cells]; omega]
    exact flatLo_at l i (by simpa using hi) j hj
theorem rowLo {u : World} {b : Nat} {L : List Loc} {T : TypeId} {fr : Nat × Nat} (h : u.heap[b]? = some (.cells (flatLo L).toArray T fr)) (i : Nat) (hi : i < L.length) :
    u.cell? ⟨b, i * 12, none⟩ = some (.int .i64 L[i].px) ∧ u.cell? ⟨b, i * 12 + 1, none⟩ = some (.int .i64 L[i].py) ∧ u.cell? ⟨b, i * 12 + 2, none⟩ = some (.int .i64 L[i].pz) ∧ u.cell? ⟨b, i * 12 + 3, none⟩ = some (.int .i64 L[i].t) ∧ u.cell? ⟨b, i * 12 + 4, none⟩ = some (.int .i64 L[i].m) ∧ u.cell? ⟨b, i * 12 + 5, none⟩ = some (.int .i64 L[i].l) ∧ u.cell? ⟨b, i * 12 + 6, none⟩ = some (.int .i64 L[i].a0) ∧ u.cell? ⟨b, i * 12 + 7, none⟩ = some (.int .i64 L[i].a1) ∧ u.cell? ⟨b, i * 12 + 8, none⟩ = some (.int .i64 L[i].a2) ∧ u.cell? ⟨b, i * 12 + 9, none⟩ = some (.int .i64 L[i].a3) ∧ u.cell? ⟨b, i * 12 + 10, none⟩ = some (.int .i64 L[i].a4) ∧ u.cell? ⟨b, i * 12 + 11, none⟩ = some (.int .i64 L[i].a5) := by
  have hc : ∀ j y, (flatLo L)[j]? = some y → u.cell? ⟨b, j, none⟩ = some y := fun j y hj => by simpa [World.cell?, h] using hj
  exact ⟨hc _ _ (flatLo_at L i hi 0 (by omega)), hc _ _ (flatLo_at L i hi 1 (by omega)), hc _ _ (flatLo_at L i hi 2 (by omega)), hc _ _ (flatLo_at L i hi 3 (by omega)), hc _ _ (flatLo_at L i hi 4 (by omega)), hc _ _ (flatLo_at L i hi 5 (by omega)), hc _ _ (flatLo_at L i hi 6 (by omega)), hc _ _ (flatLo_at L i hi 7 (by omega)), hc _ _ (flatLo_at L i hi 8 (by omega)), hc _ _ (flatLo_at L i hi 9 (by omega)), hc _ _ (flatLo_at L i hi 10 (by omega)), hc _ _ (flatLo_at L i hi 11 (by omega))⟩
theorem rowV {u : World} {b : Nat} {L : List Value} {T : TypeId} {fr : Nat × Nat} (h : u.heap[b]? = some (.cells L.toArray T fr)) (i : Nat) (hi : i < L.length) : u.cell? ⟨b, i, none⟩ = some L[i] := by
  simp [World.cell?, h, hi]
theorem addr_at (g j : Nat) : (⟨g, 0, none⟩ : Addr).add j = ⟨g, j, none⟩ := by unfold Addr.add; split <;> simp_all
theorem mkE_len {P : Prob} {x : Loc} {tol : Int} : (mkE P x tol).2.length ≤ 6001 := by
  unfold mkE
  split
  · simp
  split
  · simp
  split
  · rename_i h
    obtain ⟨s, -, hl, -⟩ := wr_rd (prV P x tol) 6002 P.reg [] (wr (prV P x tol) 6002 P.reg []).2 (by simp) (by rw [← h])
    exact hl
  · simp

end Go.Proofs.YtdkckhihleffeaaGreat
