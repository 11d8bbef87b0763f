/- AsQ -/
import Derived.Test.YtiebljanpnadjaaGreatPbAsA
namespace Go.Proofs.YtiebljanpnadjaaGreat
set_option linter.all false
open Go.RowKit Rg
/-- All members, and those left out. -/
def allM (gs : List Grp) (lf : List Int) : List Int := gs.flatMap Grp.ms ++ lf
theorem filt_perm {L M : List Nat} (hnd : L.Nodup) (hs : M.Sublist L) : (M ++ L.filter (fun i => decide (i ∉ M))).Perm L := by
  have h1 : (L.filter (fun i => decide (i ∈ M))).Perm M := by
    refine (List.perm_ext_iff_of_nodup (hnd.filter _) (hs.nodup hnd)).2 fun a => ?_
    simp only [List.mem_filter, decide_eq_true_eq]
    exact ⟨fun h => h.2, fun h => ⟨hs.subset h, h⟩⟩
  have h2 := List.filter_append_perm (fun i => decide (i ∈ M)) L
  refine ((h1.symm.append_right _).trans ?_)
  have e : (L.filter (fun i => decide (i ∉ M))) = L.filter (fun i => !decide (i ∈ M)) := List.filter_congr fun i _ => by simp
  rw [e]; exact h2
theorem memOf_sub {A : Asc} {P : List Ph} {W : List Nat} {X : Loc} : (memOf A P W X).Sublist W := List.filter_sublist
theorem rnd_perm (A : Asc) (P : List Ph) (hl : 2 ≤ A.least) : ∀ (f : Nat) (rest : List Nat) (gs : List Grp) (lf : List Nat), rest.length < f → rest.Nodup → (rnd A P f rest gs lf).1 = 0 →
    (allM (rnd A P f rest gs lf).2.1 ((rnd A P f rest gs lf).2.2.map (fun (i : Nat) => (i : Int)))).Perm (allM gs (lf.map (fun (i : Nat) => (i : Int))) ++ rest.map (fun i => (oA P i : Int)))
  | 0, _, _, _, h, _, _ => by omega
  | f + 1, [], gs, lf, _, _, _ => by simp [rnd]
  | f + 1, r :: rs, gs, lf, h, hn, h0 => by
    have left : rs.length < f → rs.Nodup → (rnd A P f rs gs (lf ++ [oA P r])).1 = 0 → (allM (rnd A P f rs gs (lf ++ [oA P r])).2.1 ((rnd A P f rs gs (lf ++ [oA P r])).2.2.map (fun (i : Nat) => (i : Int)))).Perm (allM gs (lf.map (fun (i : Nat) => (i : Int))) ++ (r :: rs).map (fun i => (oA P i : Int))) := fun a b c => by
      refine (rnd_perm A P hl f rs gs (lf ++ [oA P r]) a b c).trans ?_
      simp [allM]
    have hr1 : rs.length < f := by simp at h; omega
    have hr2 : rs.Nodup := (List.nodup_cons.1 hn).2
    rw [rnd] at h0 ⊢
    split at h0
    · next hc => rw [if_pos hc]; exact left hr1 hr2 h0
    · next hc =>
      rw [if_neg hc]
      split at h0
      · next h1 => exact absurd h0 h1
      · next h1 =>
        rw [if_neg h1]
        split at h0
        · next h2 => exact absurd h0 h2
        · next h2 =>
          rw [if_neg h2]
          split at h0
          · next h3 => rw [if_pos h3]; exact left hr1 hr2 h0
          · next h3 =>
            rw [if_neg h3]
            generalize hM : memOf A P (winOf A.span P (r :: rs)) (locA A P (winOf A.span P (r :: rs))).1 = M at *
            have hsub : M.Sublist (r :: rs) := by rw [← hM]; exact memOf_sub.trans winOf_sub
            have hM0 : 0 < M.length := by omega
            have hlen : ((r :: rs).filter (fun i => decide (i ∉ M))).length < (r :: rs).length :=
              List.length_filter_lt_length_iff_exists.2 ⟨M[0], hsub.subset (List.getElem_mem hM0), by simp⟩
            refine (rnd_perm A P hl f _ _ lf (by omega) (hn.filter _) h0).trans ?_
            have hp := (filt_perm hn hsub).map (fun i => (oA P i : Int))
            rw [List.map_append] at hp
            have hs : (grpOf P M (locA A P (winOf A.span P (r :: rs))).1).ms.Perm (M.map (fun i => (oA P i : Int))) := srt_perm _
            unfold allM
            rw [List.flatMap_append, List.flatMap_singleton]
            refine List.Perm.trans ?_ (hp.append_left _)
            refine List.Perm.trans ((hs.append_left _).append_right _ |>.append_right _) ?_
            simp only [List.append_assoc]
            refine List.Perm.append_left _ ?_
            rw [← List.append_assoc, ← List.append_assoc]
            exact List.perm_append_comm.append_right _
theorem ordA_map (P : List Ph) : (List.range P.length).map (fun i => (oA P i : Int)) = (ordA P).map (fun (i : Nat) => (i : Int)) := by
  refine List.ext_getElem (by simp [ordA_length]) fun i h1 h2 => ?_
  have hi : i < (ordA P).length := by simpa using h2
  simp [oA, hi]
/-- Every phase is in one group, or left out. -/
theorem assoc_perm {A : Asc} {P : List Ph} (hv : avE A P = 0) (hl : 2 ≤ A.least) (h0 : (assocR A P).1 = 0) : (allM (assocR A P).2.1 (assocR A P).2.2).Perm ((List.range P.length).map (fun (i : Nat) => (i : Int))) := by
  rw [assocR_ok hv] at h0 ⊢
  dsimp only at h0 ⊢
  have h := rnd_perm A P hl (P.length + 1) (List.range P.length) [] [] (by simp) List.nodup_range h0
  have e : allM [] (([] : List Nat).map (fun (i : Nat) => (i : Int))) = [] := rfl
  rw [e, List.nil_append, ordA_map] at h
  have hs : (srt ((rnd A P (P.length + 1) (List.range P.length) [] []).2.2.map (fun (i : Nat) => (i : Int)))).Perm ((rnd A P (P.length + 1) (List.range P.length) [] []).2.2.map (fun (i : Nat) => (i : Int))) := srt_perm _
  refine List.Perm.trans ?_ (h.trans ((ordA_perm P).map _))
  unfold allM
  exact hs.append_left _
/-- A group comes from a window and a location. -/
def GoodG (A : Asc) (P : List Ph) (g : Grp) : Prop := ∃ (W : List Nat) (X : Loc), (∀ i ∈ W, i < P.length) ∧ W.Nodup ∧ resEr (A.prob (W.map (phO P))) X = 0 ∧ A.least ≤ ((memOf A P W X).length : Int) ∧ g = grpOf P (memOf A P W X) X
theorem rnd_good (A : Asc) (P : List Ph) : ∀ (f : Nat) (rest : List Nat) (gs : List Grp) (lf : List Nat), rest.Nodup → (∀ i ∈ rest, i < P.length) → ∀ g ∈ (rnd A P f rest gs lf).2.1, g ∈ gs ∨ GoodG A P g
  | 0, _, _, _, _, _, g, hg => .inl hg
  | f + 1, [], gs, lf, _, _, g, hg => .inl hg
  | f + 1, r :: rs, gs, lf, hn, hlt, g, hg => by
    have hr2 : rs.Nodup := (List.nodup_cons.1 hn).2
    have hr3 : ∀ i ∈ rs, i < P.length := fun i hi => hlt i (List.mem_cons_of_mem _ hi)
    rw [rnd] at hg
    split at hg
    · exact rnd_good A P f rs gs _ hr2 hr3 g hg
    · split at hg
      · simp at hg
      · split at hg
        · simp at hg
        · next h2 =>
          split at hg
          · exact rnd_good A P f rs gs _ hr2 hr3 g hg
          · next h3 =>
            rcases rnd_good A P f _ _ lf (hn.filter _) (fun i hi => hlt i (List.mem_filter.1 hi).1) g hg with h | h
            · rcases List.mem_append.1 h with h | h
              · exact .inl h
              · refine .inr ⟨winOf A.span P (r :: rs), (locA A P (winOf A.span P (r :: rs))).1, fun i hi => hlt i (winOf_sub.subset hi), winOf_sub.nodup hn, by omega, by omega, ?_⟩
                exact List.mem_singleton.1 h
            · exact .inr h
theorem oA_lt {P : List Ph} {i : Nat} (h : i < P.length) : oA P i < P.length := by
  have hi : i < (ordA P).length := by rw [ordA_length]; exact h
  have e : oA P i = (ordA P)[i] := by unfold oA; rw [List.getElem?_eq_getElem hi]; rfl
  rw [e]; exact ordA_lt (List.getElem_mem hi)
end Go.Proofs.YtiebljanpnadjaaGreat
