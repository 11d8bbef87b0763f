/- With the tolerance 0 the result is exact: plain. -/
import Derived.Test.YtcealhikmbchoaaGreatSrP
namespace Go.Proofs.YtcealhikmbchoaaGreat
set_option linter.all false
open Go.RowKit

theorem fold_none : ∀ (l : List Hi) (y : Loc), y.l = y.m → (∀ i ∈ l, y.m ≤ i.c) → l.foldl Loc.moreU y = y
  | [], _, _, _ => rfl
  | i :: l, y, h, hc => by
    have h1 := hc i (List.mem_cons_self ..)
    have e : y.moreU i = y := by
      unfold Loc.moreU
      simp only [show ¬ i.c < y.m by omega, if_false]
      rw [show min y.l i.c = y.l by omega]
    rw [List.foldl_cons, e]
    exact fold_none l y h (fun j hj => hc j (List.mem_cons_of_mem _ hj))
theorem exact_plain {P : Prob} (h : Good P) (hp : P.reg.pts ≤ 1500) : ∃ y : Loc, locP P 0 = (y, 0) ∧ y.l = y.m ∧ (y.a0 = y.px ∧ y.a1 = y.py ∧ y.a2 = y.pz ∧ y.a3 = y.px ∧ y.a4 = y.py ∧ y.a5 = y.pz) ∧ P.reg.has y.px y.py y.pz ∧ y.m = mm P y.px y.py y.pz y.px y.py y.pz ∧ (0 ≤ y.m ∧ y.m ≤ 10000000000000000) ∧ ∀ q r s, P.reg.has q r s → y.m ≤ mm P q r s q r s := by
  obtain ⟨y, e, hin, -, -, -, l0, l1, l2, l3, -, hm, hall⟩ := least_plain h (tol := 0) (Int.le_refl _) (by omega) hp
  have hS := h.sound
  obtain ⟨s, hrun, hF, hE⟩ := Fine.run hS 0 3000 (Ps.start P) (Fine.start hS) (by show _ - ((0 : Nat) : Int) ≤ _; omega)
  have hfd := hF.fd_end hE
  have hy : y = s.fin s.h.length := by
    unfold locP at e
    rw [if_neg (by rw [show valE P = 0 from sound_iff.2 hS]; simp), if_neg (by omega), hrun] at e
    exact (congrArg Prod.fst e).symm
  have hfin := hF.fin hS hfd s.h.length (Nat.le_refl _)
  rw [← hy] at hfin
  have hmx : y.m = s.x.m := hfin.p.2.2.2.2
  have hc : ∀ i ∈ s.h, s.x.one.m ≤ i.c := fun i hi => by
    obtain ⟨j, hj, e⟩ := List.mem_iff_getElem.1 hi
    have := hfin.l1 j hj
    rw [hiAt_eq hj, e] at this
    show s.x.m ≤ i.c
    omega
  have hone : y = s.x.one := by
    rw [hy, Ps.fin_fold (hF.one_ok hS hfd) (fun i hi => (hF.all i hi).1) _ (Nat.le_refl _), List.take_length]
    exact fold_none _ _ rfl hc
  refine ⟨y, e, by omega, ?_, hin, hm, by omega, fun q r t hq => by have := (hall q r t hq).2.1; omega⟩
  rw [hone]
  exact ⟨rfl, rfl, rfl, rfl, rfl, rfl⟩
end Go.Proofs.YtcealhikmbchoaaGreat
