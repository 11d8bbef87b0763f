/- AsU -/
import Derived.Test.YtiebljanpnadjaaGreatPbAsM
import Derived.Test.YtiebljanpnadjaaGreatPbAsZ
namespace Go.Proofs.YtiebljanpnadjaaGreat
set_option linter.all false
open Go.RowKit Rg
theorem phA_left (P Q : List Ph) {i : Nat} (h : i < P.length) : phA (P ++ Q) i = phA P i := by unfold phA; rw [List.getElem?_append_left h]
theorem phA_right (P Q : List Ph) (i : Nat) : phA (P ++ Q) (P.length + i) = phA Q i := by
  unfold phA
  rw [List.getElem?_append_right (by omega), Nat.add_sub_cancel_left]
theorem phA_mem {P : List Ph} {i : Nat} (h : i < P.length) : phA P i ∈ P := by
  unfold phA
  rw [List.getElem?_eq_getElem h]
  exact List.getElem_mem h
theorem ordA_append {P Q : List Ph} (h : ∀ a ∈ P, ∀ b ∈ Q, a.e < b.e) : ordA (P ++ Q) = ordA P ++ (ordA Q).map (P.length + ·) := by
  symm
  refine ordA_uniq ?_ ?_
  · rw [List.length_append, List.range_add]
    exact (ordA_perm P).append ((ordA_perm Q).map _)
  · rw [List.pairwise_append]
    refine ⟨(ordA_sorted P).imp_of_mem fun {i k} hi hk hr => ?_, List.pairwise_map.2 ((ordA_sorted Q).imp fun {i k} hr => ?_), ?_⟩
    · unfold lessA at hr ⊢
      rw [phA_left _ _ (ordA_lt hi), phA_left _ _ (ordA_lt hk)]; exact hr
    · unfold lessA at hr ⊢
      rw [phA_right, phA_right]
      rcases hr with hr | ⟨h1, h2⟩
      · exact .inl hr
      · exact .inr ⟨h1, by omega⟩
    · intro i hi k hk
      obtain ⟨k', hk', rfl⟩ := List.mem_map.1 hk
      left
      rw [phA_left _ _ (ordA_lt hi), phA_right]
      unfold Ph.key
      exact List.cons_lt_cons_iff.2 (.inl (h _ (phA_mem (ordA_lt hi)) _ (phA_mem (ordA_lt hk'))))
section
variable {P Q : List Ph}
theorem oA_left (h : ∀ a ∈ P, ∀ b ∈ Q, a.e < b.e) {i : Nat} (hi : i < P.length) : oA (P ++ Q) i = oA P i := by
  unfold oA
  rw [ordA_append h, List.getElem?_append_left (by rw [ordA_length]; exact hi)]
theorem oA_right (h : ∀ a ∈ P, ∀ b ∈ Q, a.e < b.e) {i : Nat} (hi : i < Q.length) : oA (P ++ Q) (P.length + i) = P.length + oA Q i := by
  unfold oA
  rw [ordA_append h, List.getElem?_append_right (by rw [ordA_length]; omega), ordA_length, Nat.add_sub_cancel_left, List.getElem?_map, List.getElem?_eq_getElem (by rw [ordA_length]; exact hi)]
  rfl
theorem phO_left (h : ∀ a ∈ P, ∀ b ∈ Q, a.e < b.e) {i : Nat} (hi : i < P.length) : phO (P ++ Q) i = phO P i := by
  show phA (P ++ Q) (oA (P ++ Q) i) = phA P (oA P i)
  rw [oA_left h hi, phA_left _ _ (oA_lt hi)]
theorem phO_right (h : ∀ a ∈ P, ∀ b ∈ Q, a.e < b.e) {i : Nat} (hi : i < Q.length) : phO (P ++ Q) (P.length + i) = phO Q i := by
  show phA (P ++ Q) (oA (P ++ Q) (P.length + i)) = phA Q (oA Q i)
  rw [oA_right h hi, phA_right]
end
theorem trc_mem (A : Asc) (P : List Ph) : ∀ (f : Nat) (rest : List Nat), (∀ x ∈ (trc A P f rest).2.1, ∀ i ∈ x.1, i ∈ rest) ∧ ∀ i ∈ (trc A P f rest).2.2, i ∈ rest
  | 0, rest => by simp [trc]
  | f + 1, [] => by simp [trc]
  | f + 1, r :: rs => by
    have hlft : (∀ x ∈ (Trc.left r (trc A P f rs)).2.1, ∀ i ∈ x.1, i ∈ r :: rs) ∧ ∀ i ∈ (Trc.left r (trc A P f rs)).2.2, i ∈ r :: rs := by
      have ih := trc_mem A P f rs
      unfold Trc.left
      split
      · simp
      · exact ⟨fun x hx i hi => List.mem_cons_of_mem _ (ih.1 x hx i hi), fun i hi => by
          rcases List.mem_cons.1 hi with rfl | hi
          · exact List.mem_cons_self ..
          · exact List.mem_cons_of_mem _ (ih.2 i hi)⟩
    rw [trc]
    split
    · exact hlft
    · split
      · simp
      · split
        · simp
        · split
          · exact hlft
          · have ih := trc_mem A P f ((r :: rs).filter (fun i => decide (i ∉ memOf A P (winOf A.span P (r :: rs)) (locA A P (winOf A.span P (r :: rs))).1)))
            unfold Trc.more
            split
            · simp
            · refine ⟨fun x hx i hi => ?_, fun i hi => (List.mem_filter.1 (ih.2 i hi)).1⟩
              rcases List.mem_cons.1 hx with rfl | hx
              · exact (memOf_sub.trans winOf_sub).subset hi
              · exact (List.mem_filter.1 (ih.1 x hx i hi)).1
theorem srt_add (c : Int) (l : List Int) : srt (l.map (· + c)) = (srt l).map (· + c) :=
  srt_of (List.pairwise_map.2 ((srt_sorted l).imp fun h => by omega)) ((srt_perm l).map _)
/-- A group of places that are d farther. -/
def Grp.add (d : Int) (g : Grp) : Grp := ⟨g.ms.map (· + d), g.x, g.y, g.z, g.t⟩
theorem assoc_trc {A : Asc} {P : List Ph} (hv : avE A P = 0) : assocR A P = ((trR P [] [] (trc A P (P.length + 1) (List.range P.length))).1, (trR P [] [] (trc A P (P.length + 1) (List.range P.length))).2.1, srt ((trR P [] [] (trc A P (P.length + 1) (List.range P.length))).2.2.map (fun (i : Nat) => (i : Int)))) := by
  rw [assocR_ok hv, rnd_trc]
theorem trR_zero {P : List Ph} {gs : List Grp} {lf : List Nat} {t : Trc} (h : t.1 = 0) : trR P gs lf t = (0, gs ++ t.2.1.map (fun x => grpOf P x.1 x.2), lf ++ t.2.2.map (oA P)) := by
  unfold trR; rw [if_neg (by simpa using h)]
theorem trR_fst {P : List Ph} {gs : List Grp} {lf : List Nat} {t : Trc} : (trR P gs lf t).1 = t.1 := by
  unfold trR
  by_cases h : t.1 = 0
  · rw [if_neg (by simpa using h)]; exact h.symm
  · rw [if_pos h]
theorem flat_count : ∀ {G : List Grp}, (∀ g ∈ G, 1 ≤ g.ms.length) → G.length ≤ (G.flatMap Grp.ms).length
  | [], _ => by simp
  | a :: G, h => by
    have h1 := flat_count (G := G) (fun g hg => h g (List.mem_cons_of_mem _ hg))
    have h2 := h a (List.mem_cons_self ..)
    rw [List.flatMap_cons, List.length_append, List.length_cons]
    omega
/-- There are at most as many groups as phases. -/
theorem grp_count {A : Asc} {P : List Ph} (hv : avE A P = 0) (hl : 2 ≤ A.least) (h0 : (assocR A P).1 = 0) : (assocR A P).2.1.length ≤ P.length := by
  have hp := (assoc_perm hv hl h0).length_eq
  unfold allM at hp
  simp only [List.length_append, List.length_map, List.length_range] at hp
  have h1 : ∀ g ∈ (assocR A P).2.1, 1 ≤ g.ms.length := fun g hg => by
    rw [assocR_ok hv] at hg
    rcases rnd_good A P _ _ [] [] List.nodup_range (fun i hi => List.mem_range.1 hi) g hg with h | ⟨W, X, -, -, -, h, rfl⟩
    · simp at h
    · show 1 ≤ (srt _).length
      rw [srt_len, List.length_map]; omega
  have := flat_count h1
  omega
theorem left_count {A : Asc} {P : List Ph} (hv : avE A P = 0) (hl : 2 ≤ A.least) (h0 : (assocR A P).1 = 0) : (assocR A P).2.2.length ≤ P.length := by
  have hp := (assoc_perm hv hl h0).length_eq
  unfold allM at hp
  simp only [List.length_append, List.length_map, List.length_range] at hp
  omega
/-- Two lists that are farther apart than the span. -/
theorem apart_plain {A : Asc} {P Q : List Ph} (hl : 2 ≤ A.least) (hsp : 0 ≤ A.span) (hP : avE A P = 0) (hQ : avE A Q = 0) (hR : avE A (P ++ Q) = 0) (h : ∀ a ∈ P, ∀ b ∈ Q, a.e + A.span < b.e) (eP : (assocR A P).1 = 0) (eQ : (assocR A Q).1 = 0) :
    assocR A (P ++ Q) = (0, (assocR A P).2.1 ++ (assocR A Q).2.1.map (Grp.add P.length), (assocR A P).2.2 ++ (assocR A Q).2.2.map (· + (P.length : Int))) := by
  have h' : ∀ a ∈ P, ∀ b ∈ Q, a.e < b.e := fun a ha b hb => by have := h a ha b hb; omega
  have E1 : Emb A P (P ++ Q) 0 ((List.range Q.length).map (P.length + ·)) := by
    refine ⟨fun i hi => by rw [Nat.add_zero]; exact phO_left h' hi, fun t ht i hi => ?_, fun t ht i hi => ?_⟩
    · obtain ⟨k, hk, rfl⟩ := List.mem_map.1 ht
      have hk := List.mem_range.1 hk
      rw [phO_right h' hk]
      have := h _ (phO_mem hi) _ (phO_mem hk)
      omega
    · obtain ⟨k, hk, rfl⟩ := List.mem_map.1 ht
      omega
  have E2 : Emb A Q (P ++ Q) P.length [] := ⟨fun i hi => by rw [Nat.add_comm]; exact phO_right h' hi, by simp, by simp⟩
  rw [assoc_trc hP] at eP ⊢
  rw [assoc_trc hQ] at eQ ⊢
  rw [assoc_trc hR]
  dsimp only at eP eQ ⊢
  rw [trR_fst] at eP eQ
  rw [trR_zero eP, trR_zero eQ]
  have t1 := E1.trc hl (P.length + Q.length + 1) (List.range P.length) (by simp) (fun i hi => List.mem_range.1 hi)
  have t2 := E2.trc hl (P.length + Q.length + 1) (List.range Q.length) (by simp; omega) (fun i hi => List.mem_range.1 hi)
  rw [List.append_nil] at t2
  have ec : (List.range Q.length).map (P.length + ·) = (List.range Q.length).map (· + P.length) := List.map_congr_left fun i _ => Nat.add_comm ..
  have e0 : (List.range P.length).map (· + 0) = List.range P.length := by simp
  have enil : trc A (P ++ Q) (P.length + Q.length + 1) [] = (0, [], []) := rfl
  rw [ec] at t1
  rw [t2, e0, enil, trc_fuel A P hl _ (P.length + 1) _ (by simp; omega) (by simp), trc_fuel A Q hl _ (Q.length + 1) _ (by simp; omega) (by simp)] at t1
  have er : List.range (P ++ Q).length = List.range P.length ++ (List.range Q.length).map (· + P.length) := by rw [List.length_append, List.range_add, ec]
  have el : (P ++ Q).length + 1 = P.length + Q.length + 1 := by rw [List.length_append]
  rw [er, el, t1]
  have m1 := trc_mem A P (P.length + 1) (List.range P.length)
  have m2 := trc_mem A Q (Q.length + 1) (List.range Q.length)
  generalize trc A P (P.length + 1) (List.range P.length) = tP at *
  generalize trc A Q (Q.length + 1) (List.range Q.length) = tQ at *
  have ep : Trc.shift P.length tQ (0, [], []) = (0, tQ.2.1.map (fun x => (x.1.map (· + P.length), x.2)), tQ.2.2.map (· + P.length)) := by
    unfold Trc.shift
    rw [if_neg (by simpa using eQ), if_neg (by simp)]
    simp
  have eq : Trc.shift 0 tP (0, tQ.2.1.map (fun x => (x.1.map (· + P.length), x.2)), tQ.2.2.map (· + P.length)) = (0, tP.2.1 ++ tQ.2.1.map (fun x => (x.1.map (· + P.length), x.2)), tP.2.2 ++ tQ.2.2.map (· + P.length)) := by
    unfold Trc.shift
    rw [if_neg (by simpa using eP), if_neg (by simp)]
    simp
  rw [ep, eq, trR_zero rfl]
  dsimp only
  simp only [List.nil_append]
  have g1 : ∀ x ∈ tP.2.1, grpOf (P ++ Q) x.1 x.2 = grpOf P x.1 x.2 := fun x hx => by
    unfold grpOf
    congr 2
    refine List.map_congr_left fun i hi => ?_
    rw [oA_left h' (List.mem_range.1 (m1.1 x hx i hi))]
  have g2 : ∀ x ∈ tQ.2.1, grpOf (P ++ Q) (x.1.map (· + P.length)) x.2 = (grpOf Q x.1 x.2).add P.length := fun x hx => by
    unfold grpOf Grp.add
    congr 1
    rw [← srt_add, List.map_map, List.map_map]
    congr 1
    refine List.map_congr_left fun i hi => ?_
    simp only [Function.comp]
    rw [Nat.add_comm i, oA_right h' (List.mem_range.1 (m2.1 x hx i hi))]
    omega
  have l1 : tP.2.2.map (oA (P ++ Q)) = tP.2.2.map (oA P) := List.map_congr_left fun i hi => oA_left h' (List.mem_range.1 (m1.2 i hi))
  have l2 : (tQ.2.2.map (· + P.length)).map (oA (P ++ Q)) = (tQ.2.2.map (oA Q)).map (· + P.length) := by
    rw [List.map_map, List.map_map]
    refine List.map_congr_left fun i hi => ?_
    simp only [Function.comp]
    rw [Nat.add_comm i, oA_right h' (List.mem_range.1 (m2.2 i hi)), Nat.add_comm]
  rw [List.map_append, List.map_append, l1, l2]
  refine Prod.ext rfl (Prod.ext ?_ ?_)
  · dsimp only
    rw [List.map_map, List.map_map, List.map_congr_left g1]
    congr 1
    exact List.map_congr_left fun x hx => g2 x hx
  · dsimp only
    rw [← srt_add]
    refine srt_of ?_ ?_
    · rw [List.pairwise_append]
      refine ⟨srt_sorted _, srt_sorted _, fun x hx y hy => ?_⟩
      have hx := (srt_perm _).subset hx
      have hy := (srt_perm _).subset hy
      obtain ⟨a, ha, rfl⟩ := List.mem_map.1 hx
      obtain ⟨b, hb, rfl⟩ := List.mem_map.1 hy
      obtain ⟨i, hi, rfl⟩ := List.mem_map.1 ha
      obtain ⟨k, hk, rfl⟩ := List.mem_map.1 hb
      have := oA_lt (List.mem_range.1 (m1.2 i hi))
      omega
    · rw [List.map_append]
      refine (srt_perm _).append ((srt_perm _).trans ?_)
      simp only [List.map_map]
      refine List.Perm.of_eq (List.map_congr_left fun i _ => ?_)
      simp [Function.comp]
end Go.Proofs.YtiebljanpnadjaaGreat
