/- AsT -/
import Derived.Test.YtiebljanpnadjaaGreatPcAsM
import Derived.Test.YtiebljanpnadjaaGreatPcAsJ
import Derived.Test.YtiebljanpnadjaaGreatPcSwpA
namespace Go.Proofs.YtiebljanpnadjaaGreat
set_option linter.all false
open Go.RowKit Rg
theorem key_uniq : ∀ {a b : List Ph}, a.Perm b → a.Pairwise (fun x y => x.key < y.key) → b.Pairwise (fun x y => x.key < y.key) → a = b
  | [], b, h, _, _ => (List.nil_perm.1 h).symm
  | x :: a, [], h, _, _ => (List.perm_nil.1 h)
  | x :: a, y :: b, h, h1, h2 => by
    have e : x = y := by
      by_cases e : x = y
      · exact e
      · exfalso
        have hx : x ∈ y :: b := h.mem_iff.1 (List.mem_cons_self ..)
        have hy : y ∈ x :: a := h.mem_iff.2 (List.mem_cons_self ..)
        have hx' : x ∈ b := by rcases List.mem_cons.1 hx with h | h; exact absurd h e; exact h
        have hy' : y ∈ a := by rcases List.mem_cons.1 hy with h | h; exact absurd h.symm e; exact h
        exact List.lt_asymm (List.rel_of_pairwise_cons h1 hy') (List.rel_of_pairwise_cons h2 hx')
    subst e
    rw [key_uniq (List.Perm.cons_inv h) (List.Pairwise.of_cons h1) (List.Pairwise.of_cons h2)]
theorem phA_eq {P : List Ph} {i : Nat} (h : i < P.length) : phA P i = P[i] := by unfold phA; rw [List.getElem?_eq_getElem h]; rfl
theorem range_phA (P : List Ph) : (List.range P.length).map (phA P) = P := by
  refine List.ext_getElem (by simp) fun i h1 h2 => ?_
  simp [phA_eq h2]
theorem key_ne {P : List Ph} (hd : P.Pairwise (fun a b => a.key ≠ b.key)) {i k : Nat} (hi : i < P.length) (hk : k < P.length) (hne : i ≠ k) : (phA P i).key ≠ (phA P k).key := by
  rw [phA_eq hi, phA_eq hk]
  rcases Nat.lt_or_gt_of_ne hne with h | h
  · exact List.pairwise_iff_getElem.1 hd i k hi hk h
  · exact (List.pairwise_iff_getElem.1 hd k i hk hi h).symm
theorem ord_sorted {P : List Ph} (hd : P.Pairwise (fun a b => a.key ≠ b.key)) : ((ordA P).map (phA P)).Pairwise (fun x y => x.key < y.key) := by
  rw [List.pairwise_map]
  refine (ordA_sorted P).imp_of_mem fun {i k} hi hk h => ?_
  rcases h with h | ⟨e, h⟩
  · exact h
  · exact absurd e (key_ne hd (ordA_lt hi) (ordA_lt hk) (by omega))
theorem ord_perm (P : List Ph) : ((ordA P).map (phA P)).Perm P := by
  have h := (ordA_perm P).map (phA P)
  rw [range_phA] at h
  exact h
theorem phO_get {P : List Ph} {i : Nat} (h : i < P.length) : ((ordA P).map (phA P))[i]? = some (phO P i) := by
  have hi : i < (ordA P).length := by rw [ordA_length]; exact h
  rw [List.getElem?_map, List.getElem?_eq_getElem hi]
  show some (phA P (ordA P)[i]) = some (phA P ((ordA P)[i]?.getD 0))
  rw [List.getElem?_eq_getElem hi]; rfl
theorem phO_order {P Q : List Ph} (hp : Q.Perm P) (hd : P.Pairwise (fun a b => a.key ≠ b.key)) {i : Nat} (hi : i < P.length) : phO Q i = phO P i := by
  have hdQ : Q.Pairwise (fun a b => a.key ≠ b.key) := (hp.pairwise_iff (fun {a b} h => h.symm)).2 hd
  have e : (ordA Q).map (phA Q) = (ordA P).map (phA P) := key_uniq ((ord_perm Q).trans (hp.trans (ord_perm P).symm)) (ord_sorted hdQ) (ord_sorted hd)
  have h1 := phO_get (P := Q) (i := i) (by rw [hp.length_eq]; exact hi)
  have h2 := phO_get hi
  rw [e, h2] at h1
  exact (Option.some.inj h1).symm
theorem trc_order {A : Asc} {P Q : List Ph} (hp : Q.Perm P) (hd : P.Pairwise (fun a b => a.key ≠ b.key)) (hl : 2 ≤ A.least) : trc A Q (Q.length + 1) (List.range Q.length) = trc A P (P.length + 1) (List.range P.length) := by
  have E : Emb A P Q 0 [] := ⟨fun i hi => by rw [Nat.add_zero]; exact phO_order hp hd hi, by simp, by simp⟩
  have h := E.trc hl (P.length + 1) (List.range P.length) (by simp) (fun i hi => List.mem_range.1 hi)
  have e0 : (List.range P.length).map (· + 0) ++ [] = List.range P.length := by simp
  have enil : trc A Q (P.length + 1) [] = (0, [], []) := rfl
  rw [e0, enil] at h
  rw [hp.length_eq, h]
  have he := trc_err A P (P.length + 1) (List.range P.length)
  generalize trc A P (P.length + 1) (List.range P.length) = t at *
  unfold Trc.shift
  by_cases h0 : t.1 = 0
  · rw [if_neg (by simpa using h0), if_neg (by simp)]
    obtain ⟨t1, t2, t3⟩ := t
    simp only [] at h0 ⊢
    subst h0
    simp
  · rw [if_pos h0]; exact (he h0).symm
/-- The same origin, and the same phases. -/
structure SamePh (P Q : List Ph) (g h : Grp) : Prop where
  pos : g.x = h.x ∧ g.y = h.y ∧ g.z = h.z ∧ g.t = h.t
  len : g.ms.length = h.ms.length
  mem : ∀ j ∈ g.ms, ∃ (a b : Nat), j = (a : Int) ∧ a < P.length ∧ (b : Int) ∈ h.ms ∧ b < Q.length ∧ phA P a = phA Q b
  rng : ∀ i ∈ h.ms, ∃ b : Nat, i = (b : Int) ∧ b < Q.length
theorem samePh_of {P Q : List Ph} {M : List Nat} {X : Loc} (hlen : Q.length = P.length) (hph : ∀ i, i < P.length → phO Q i = phO P i) (hM : ∀ i ∈ M, i < P.length) : SamePh P Q (grpOf P M X) (grpOf Q M X) := by
  refine ⟨⟨rfl, rfl, rfl, rfl⟩, ?_, fun j hj => ?_, fun i hi => ?_⟩
  · show (srt _).length = (srt _).length
    rw [srt_len, srt_len, List.length_map, List.length_map]
  · have hj' := (srt_perm _).subset (show j ∈ srt (M.map (fun i => (oA P i : Int))) from hj)
    obtain ⟨i, hi, rfl⟩ := List.mem_map.1 hj'
    refine ⟨oA P i, oA Q i, rfl, oA_lt (hM i hi), ?_, oA_lt (by rw [hlen]; exact hM i hi), ?_⟩
    · show ((oA Q i : Nat) : Int) ∈ srt (M.map (fun i => (oA Q i : Int)))
      exact (srt_perm _).symm.subset (List.mem_map.2 ⟨i, hi, rfl⟩)
    · exact (hph i (hM i hi)).symm
  · have hi' := (srt_perm _).subset (show i ∈ srt (M.map (fun i => (oA Q i : Int))) from hi)
    obtain ⟨k, hk, rfl⟩ := List.mem_map.1 hi'
    exact ⟨oA Q k, rfl, oA_lt (by rw [hlen]; exact hM k hk)⟩
/-- A list in another order has the same groups. -/
theorem order_plain30 {A : Asc} {P Q : List Ph} (hp : Q.Perm P) (hd : P.Pairwise (fun a b => a.key ≠ b.key)) (hl : 2 ≤ A.least) (hvP : avE A P = 0) (hvQ : avE A Q = 0) :
    (assocR A Q).1 = (assocR A P).1 ∧ (assocR A Q).2.1.length = (assocR A P).2.1.length ∧ (assocR A Q).2.2.length = (assocR A P).2.2.length ∧ ∀ (k : Nat) (x y : Grp), (assocR A P).2.1[k]? = some x → (assocR A Q).2.1[k]? = some y → SamePh P Q x y := by
  have ht := trc_order hp hd hl
  have hm := trc_mem A P (P.length + 1) (List.range P.length)
  simp only [assoc_trc hvP, assoc_trc hvQ, ht]
  generalize trc A P (P.length + 1) (List.range P.length) = t at *
  by_cases h0 : t.1 = 0
  · simp only [trR_zero h0, List.nil_append, srt_len, List.length_map, true_and]
    intro k x y h1 h2
    rw [List.getElem?_map] at h1 h2
    cases hk : t.2.1[k]? with
    | none => rw [hk] at h1; cases h1
    | some z =>
      rw [hk] at h1 h2
      simp only [Option.map_some, Option.some.injEq] at h1 h2
      subst h1; subst h2
      exact samePh_of hp.length_eq (fun i hi => phO_order hp hd hi) (fun i hi => List.mem_range.1 (hm.1 _ (List.mem_of_getElem? hk) i hi))
  · have e : ∀ R : List Ph, trR R [] [] t = (t.1, [], []) := fun R => by unfold trR; rw [if_pos h0]
    simp only [e, srt_len, List.length_map, true_and]
    intro k x y h1
    simp at h1
/-- The first k phases have weights of their own. -/
def Ph.wt (a : Ph) (n : Int) : Ph := ⟨a.x, a.y, a.z, a.e, a.l, n⟩
def wtd (k : Nat) (P : List Ph) : List Ph := (List.range P.length).map fun i => if i < k then (phA P i).wt (1 + (i : Int)) else phA P i
theorem wtd_length (k : Nat) (P : List Ph) : (wtd k P).length = P.length := by simp [wtd]
theorem wtd_zero (P : List Ph) : wtd 0 P = P := by
  refine List.ext_getElem (by simp [wtd]) fun i h1 h2 => ?_
  simp [wtd, phA_eq h2]
theorem wtd_at {k : Nat} {P : List Ph} (h : k < P.length) : (wtd k P)[k]'(by rw [wtd_length]; exact h) = P[k] := by
  simp [wtd, phA_eq h]
theorem wtd_step {k : Nat} {P : List Ph} (h : k < P.length) : (wtd k P).set k (P[k].wt (1 + (k : Int))) = wtd (k + 1) P := by
  refine List.ext_getElem (by simp [wtd]) fun i h1 h2 => ?_
  have hi : i < P.length := by rw [wtd_length] at h2; exact h2
  rw [List.getElem_set]
  by_cases e : k = i
  · subst e
    simp [wtd, phA_eq hi]
  · rw [if_neg e]
    by_cases hik : i < k
    · simp [wtd, hik, show i < k + 1 by omega]
    · simp [wtd, hik, show ¬ i < k + 1 by omega]
theorem wtd_all {P : List Ph} {i : Nat} (h : i < (wtd P.length P).length) : (wtd P.length P)[i] = (phA P i).wt (1 + (i : Int)) := by
  have hi : i < P.length := by rw [wtd_length] at h; exact h
  simp [wtd, hi]
theorem wtd_keys (P : List Ph) : (wtd P.length P).Pairwise (fun a b => a.key ≠ b.key) := by
  rw [List.pairwise_iff_getElem]
  intro i k hi hk hik e
  rw [wtd_all hi, wtd_all hk] at e
  simp only [Ph.key, Ph.wt, List.cons.injEq, and_true] at e
  omega
theorem wtd_good {P : List Ph} (hp : ∀ a ∈ P, goodPh a) (hl : P.length ≤ 12) : ∀ a ∈ wtd P.length P, placeIn 60 a.x a.y a.z ∧ phP a.x a.y a.z a.e a.l a.n = true := by
  intro a ha
  obtain ⟨i, hi, rfl⟩ := List.mem_map.1 ha
  have hi := List.mem_range.1 hi
  rw [if_pos hi]
  have h := hp _ (phA_mem hi)
  refine ⟨h.1, phP_iff.2 ⟨place_ok h.1 (by omega), h.2.1, h.2.2.1, by have := h.2.2.2.1; show (phA P i).l ≤ _; omega, by show 1 ≤ 1 + (i : Int); omega, by show 1 + (i : Int) ≤ _; omega⟩⟩
theorem AscGood.avW {side : Int} {A : Asc} {P : List Ph} (h : AscGood side A) (hs : side ≤ 8) (hp : ∀ a ∈ P, placeIn 60 a.x a.y a.z ∧ phP a.x a.y a.z a.e a.l a.n = true) (hl : P.length ≤ 30) : Go.Proofs.YtiebljanpnadjaaGreat.avE A P = 0 := by
  have h0 := h.avE (P := []) hs (by simp) (by simp)
  have hok := (avE_ok h0).1
  unfold Go.Proofs.YtiebljanpnadjaaGreat.avE
  rw [if_neg (by rw [hok]; decide), if_neg (by omega)]
  refine errOf_zero.2 fun a ha => ?_
  exact ((near_mk h.tab (reach_small h.tab.1 h.st h.rea h.len).1 h.box (hp a ha).1 (by omega) (by omega) (by omega)).zE (hp a ha).2).1
/-- append([]Phase{}, x...), x any row. -/
theorem wpList_copyP {w : World} {ops : Array Oper} {rest : List Oper} {o : Oper} {a : Act} {Q : Exit → Act → World → Prop} (hgd : o.guard = none) (s x : Operand) (t : TypeId)
    (ho : o.op = .call { callee := .builtin .append, args := #[s, x], argTypes := #[t, t] }) (ht : Tryz.prog.underlying t = some (.slice 51)) (c n cx base : Nat) (oa : Option Addr) (xs : List Ph) (hs : a.eval s = .slice (some ⟨c, 0, none⟩) 0 0) (hc : w.heap[c]? = some (.cells #[] 51 (0, 0))) (hb : base ≤ c)
    (hx : a.eval x = .slice oa n cx) (hxs : SlC 6 w (.slice oa n cx) n (flatP xs)) (hn : n ≤ 1000000)
    (h : ∀ g gc w', w'.ownsRow base 51 6 (.slice (some ⟨g, 0, none⟩) n gc) n (flatP xs) → w.grownBy w' none → wpList Tryz.prog ops Q rest (a.put o.dst (.slice (some ⟨g, 0, none⟩) n gc)) w') : wpList Tryz.prog ops Q (o :: rest) a w := by
  have hbs : base ≤ w.heap.size := by have := block_lt' hc; omega
  rcases Nat.eq_zero_or_pos n with h0 | h0
  · subst h0
    have hxl : flatP xs = [] := List.length_eq_zero_iff.1 (by have := hxs.1; omega)
    obtain ⟨i0, hi, hz0, hz1, hz2⟩ := info_parts Tryz.infoPhaseT
    have hr := run_append_nothing (P := Tryz.prog) w t t o.type 51 i0 ht hi (some ⟨c, 0, none⟩) 0 0 (Nat.le_refl _) (.slice oa 0 cx) (by
      cases oa with
      | none => exact Src.ofNil w ht cx
      | some ad => exact Src.ofSlice w ht ad 0 cx [] (by simp) (by simp) (by simp))
    refine wpList_plain hgd fun K hK' => ?_
    unfold Oper.wp execOp
    simp only [ho, resolve, invoke, builtin, Sem.run_bind, Sem.run_pure, Result.andThen_ok, List.map_toArray, List.map_cons, List.map_nil, hs, hx, hr]
    refine hK' _ _ (h c 0 w ?_ (gb_refl _ _))
    rw [hxl]
    exact ⟨by simp, .inr ⟨c, 0, #[], rfl, hb, hc, Nat.le_refl _, by simp [maxLen], by simp, by simp⟩⟩
  · obtain ⟨b, off, cap, e, hbb, h1, h2, hcc⟩ := hxs.block h0
    simp only [Value.slice.injEq, true_and] at e
    obtain ⟨rfl, e⟩ := e
    subst e
    refine wpList_copyAt hgd s x t ho 51 _ 6 48 ht Tryz.infoPhaseT rfl (by decide) c hs b off n cx (flatP xs) hx h0 hxs.1 hcc (oneCells xs) hn (by omega) (fun g gc w' h3 h4 => h g gc w' (owns_mono h3 hbs) h4)
/-- The cells of phase i. -/
theorem owns_phA {B : Nat} {u : World} {q n cp : Nat} {l : List Ph} (h : u.ownsRow B 51 6 (.slice (some ⟨q, 0, none⟩) n cp) n (flatP l)) (i : Nat) (hi : i < l.length) :
    u.cell? ⟨q, i * 6, none⟩ = some (.int .i64 (phAt l i).x) ∧ u.cell? ⟨q, i * 6 + 1, none⟩ = some (.int .i64 (phAt l i).y) ∧ u.cell? ⟨q, i * 6 + 2, none⟩ = some (.int .i64 (phAt l i).z) ∧ u.cell? ⟨q, i * 6 + 3, none⟩ = some (.int .i64 (phAt l i).e) ∧ u.cell? ⟨q, i * 6 + 4, none⟩ = some (.int .i64 (phAt l i).l) ∧ u.cell? ⟨q, i * 6 + 5, none⟩ = some (.int .i64 (phAt l i).n) := by
  have hc : ∀ j x, (flatP l)[j]? = some x → u.cell? ⟨q, j, none⟩ = some x := fun j x hj => by
    have := World.ownsRow.cells (g := q) h rfl j x hj
    have hadd : (⟨q, 0, none⟩ : Addr).add j = ⟨q, j, none⟩ := by unfold Addr.add; split <;> simp_all
    rw [hadd] at this; exact this
  rw [phAt_eq hi]
  exact ⟨hc _ _ (flatP_at l i hi 0 (by omega)), hc _ _ (flatP_at l i hi 1 (by omega)), hc _ _ (flatP_at l i hi 2 (by omega)), hc _ _ (flatP_at l i hi 3 (by omega)), hc _ _ (flatP_at l i hi 4 (by omega)), hc _ _ (flatP_at l i hi 5 (by omega))⟩
theorem phA_At (l : List Ph) {i : Nat} (hi : i < l.length) : phA l i = phAt l i := by rw [phA_eq hi, phAt_eq hi]
/-- Two phases are compared. -/
def eqPh (a b : Ph) : Bool := decide (a.x = b.x) && decide (a.y = b.y) && decide (a.z = b.z) && decide (a.e = b.e) && decide (a.l = b.l) && decide (a.n = b.n)
theorem eqPh_self (a : Ph) : eqPh a a = true := by simp [eqPh]
theorem run_eqlPh (a0 a1 a2 a3 a4 a5 b0 b1 b2 b3 b4 b5 : Int) (w : World) :
    (binOp .eql 51 (.agg #[.int .i64 a0, .int .i64 a1, .int .i64 a2, .int .i64 a3, .int .i64 a4, .int .i64 a5]) (.agg #[.int .i64 b0, .int .i64 b1, .int .i64 b2, .int .i64 b3, .int .i64 b4, .int .i64 b5])).run Tryz.prog w = .ok (.bool (eqPh ⟨a0, a1, a2, a3, a4, a5⟩ ⟨b0, b1, b2, b3, b4, b5⟩)) w := by
  refine (Decidable.em (a0 = b0)).elim (fun h0 => ?_) (fun h0 => ?_)
  rotate_left
  · simp [go_sem, eqPh, h0]
  refine (Decidable.em (a1 = b1)).elim (fun h1 => ?_) (fun h1 => ?_)
  rotate_left
  · simp [go_sem, eqPh, h0, h1]
  refine (Decidable.em (a2 = b2)).elim (fun h2 => ?_) (fun h2 => ?_)
  rotate_left
  · simp [go_sem, eqPh, h0, h1, h2]
  refine (Decidable.em (a3 = b3)).elim (fun h3 => ?_) (fun h3 => ?_)
  rotate_left
  · simp [go_sem, eqPh, h0, h1, h2, h3]
  refine (Decidable.em (a4 = b4)).elim (fun h4 => ?_) (fun h4 => ?_)
  rotate_left
  · simp [go_sem, eqPh, h0, h1, h2, h3, h4]
  refine (Decidable.em (a5 = b5)).elim (fun h5 => ?_) (fun h5 => ?_)
  rotate_left
  · simp [go_sem, eqPh, h0, h1, h2, h3, h4, h5]
  simp [go_sem, eqPh, h0, h1, h2, h3, h4, h5]
end Go.Proofs.YtiebljanpnadjaaGreat
