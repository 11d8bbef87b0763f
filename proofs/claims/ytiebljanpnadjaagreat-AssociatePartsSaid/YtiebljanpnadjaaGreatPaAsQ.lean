/- AsQ -/
import Derived.Test.YtiebljanpnadjaaGreatPaAsE
namespace Go.Proofs.YtiebljanpnadjaaGreat
set_option linter.all false
open Go.RowKit Rg
/-- All members, and those left out. -/
def allM (gs : List Grp) (lf : List Int) : List Int := gs.flatMap Grp.ms ++ lf
theorem filt_perm {L M : List Nat} (hnd : L.Nodup) (hs : M.Sublist L) : (M ++ L.filter (fun i => decide (i ∉ M))).Perm L := by
  have h1 : (L.filter (fun i => decide (i ∈ M))).Perm M := by
    refine (List.perm_ext_iff_of_nodup (hnd.filter _) (hs.nodup hnd)).2 fun a => ?_
    simp only [List.mem_filter, decide_eq_true_eq]
    exact ⟨fun h => h.2, fun h => ⟨hs.subset h, h⟩⟩
  have h2 := List.filter_append_perm (fun i => decide (i ∈ M)) L
  refine ((h1.symm.append_right _).trans ?_)
  have e : (L.filter (fun i => decide (i ∉ M))) = L.filter (fun i => !decide (i ∈ M)) := List.filter_congr fun i _ => by simp
  rw [e]; exact h2
theorem memOf_sub {A : Asc} {P : List Ph} {W : List Nat} {X : Loc} : (memOf A P W X).Sublist W := List.filter_sublist
theorem rnd_perm (A : Asc) (P : List Ph) (hl : 2 ≤ A.least) : ∀ (f : Nat) (rest : List Nat) (gs : List Grp) (lf : List Nat), rest.length < f → rest.Nodup → (rnd A P f rest gs lf).1 = 0 →
    (allM (rnd A P f rest gs lf).2.1 ((rnd A P f rest gs lf).2.2.map (fun (i : Nat) => (i : Int)))).Perm (allM gs (lf.map (fun (i : Nat) => (i : Int))) ++ rest.map (fun i => (oA P i : Int)))
  | 0, _, _, _, h, _, _ => by omega
  | f + 1, [], gs, lf, _, _, _ => by simp [rnd]
  | f + 1, r :: rs, gs, lf, h, hn, h0 => by
    have left : rs.length < f → rs.Nodup → (rnd A P f rs gs (lf ++ [oA P r])).1 = 0 → (allM (rnd A P f rs gs (lf ++ [oA P r])).2.1 ((rnd A P f rs gs (lf ++ [oA P r])).2.2.map (fun (i : Nat) => (i : Int)))).Perm (allM gs (lf.map (fun (i : Nat) => (i : Int))) ++ (r :: rs).map (fun i => (oA P i : Int))) := fun a b c => by
      refine (rnd_perm A P hl f rs gs (lf ++ [oA P r]) a b c).trans ?_
      simp [allM]
    have hr1 : rs.length < f := by simp at h; omega
    have hr2 : rs.Nodup := (List.nodup_cons.1 hn).2
    rw [rnd] at h0 ⊢
    split at h0
    · next hc => rw [if_pos hc]; exact left hr1 hr2 h0
    · next hc =>
      rw [if_neg hc]
      split at h0
      · next h1 => exact absurd h0 h1
      · next h1 =>
        rw [if_neg h1]
        split at h0
        · next h2 => exact absurd h0 h2
        · next h2 =>
          rw [if_neg h2]
          split at h0
          · next h3 => rw [if_pos h3]; exact left hr1 hr2 h0
          · next h3 =>
            rw [if_neg h3]
            generalize hM : memOf A P (winOf A.span P (r :: rs)) (locA A P (winOf A.span P (r :: rs))).1 = M at *
            have hsub : M.Sublist (r :: rs) := by rw [← hM]; exact memOf_sub.trans winOf_sub
            have hM0 : 0 < M.length := by omega
            have hlen : ((r :: rs).filter (fun i => decide (i ∉ M))).length < (r :: rs).length :=
              List.length_filter_lt_length_iff_exists.2 ⟨M[0], hsub.subset (List.getElem_mem hM0), by simp⟩
            refine (rnd_perm A P hl f _ _ lf (by omega) (hn.filter _) h0).trans ?_
            have hp := (filt_perm hn hsub).map (fun i => (oA P i : Int))
            rw [List.map_append] at hp
            have hs : (grpOf P M (locA A P (winOf A.span P (r :: rs))).1).ms.Perm (M.map (fun i => (oA P i : Int))) := srt_perm _
            unfold allM
            rw [List.flatMap_append, List.flatMap_singleton]
            refine List.Perm.trans ?_ (hp.append_left _)
            refine List.Perm.trans ((hs.append_left _).append_right _ |>.append_right _) ?_
            simp only [List.append_assoc]
            refine List.Perm.append_left _ ?_
            rw [← List.append_assoc, ← List.append_assoc]
            exact List.perm_append_comm.append_right _
theorem ordA_map (P : List Ph) : (List.range P.length).map (fun i => (oA P i : Int)) = (ordA P).map (fun (i : Nat) => (i : Int)) := by
  refine List.ext_getElem (by simp [ordA_length]) fun i h1 h2 => ?_
  have hi : i < (ordA P).length := by simpa using h2
  simp [oA, hi]
/-- Every phase is in one group, or left out. -/
theorem assoc_perm {A : Asc} {P : List Ph} (hv : avE A P = 0) (hl : 2 ≤ A.least) (h0 : (assocR A P).1 = 0) : (allM (assocR A P).2.1 (assocR A P).2.2).Perm ((List.range P.length).map (fun (i : Nat) => (i : Int))) := by
  rw [assocR_ok hv] at h0 ⊢
  dsimp only at h0 ⊢
  have h := rnd_perm A P hl (P.length + 1) (List.range P.length) [] [] (by simp) List.nodup_range h0
  have e : allM [] (([] : List Nat).map (fun (i : Nat) => (i : Int))) = [] := rfl
  rw [e, List.nil_append, ordA_map] at h
  have hs : (srt ((rnd A P (P.length + 1) (List.range P.length) [] []).2.2.map (fun (i : Nat) => (i : Int)))).Perm ((rnd A P (P.length + 1) (List.range P.length) [] []).2.2.map (fun (i : Nat) => (i : Int))) := srt_perm _
  refine List.Perm.trans ?_ (h.trans ((ordA_perm P).map _))
  unfold allM
  exact hs.append_left _
/-- A group comes from a window and a location. -/
def GoodG (A : Asc) (P : List Ph) (g : Grp) : Prop := ∃ (W : List Nat) (X : Loc), (∀ i ∈ W, i < P.length) ∧ W.Nodup ∧ resEr (A.prob (W.map (phO P))) X = 0 ∧ A.least ≤ ((memOf A P W X).length : Int) ∧ g = grpOf P (memOf A P W X) X
theorem rnd_good (A : Asc) (P : List Ph) : ∀ (f : Nat) (rest : List Nat) (gs : List Grp) (lf : List Nat), rest.Nodup → (∀ i ∈ rest, i < P.length) → ∀ g ∈ (rnd A P f rest gs lf).2.1, g ∈ gs ∨ GoodG A P g
  | 0, _, _, _, _, _, g, hg => .inl hg
  | f + 1, [], gs, lf, _, _, g, hg => .inl hg
  | f + 1, r :: rs, gs, lf, hn, hlt, g, hg => by
    have hr2 : rs.Nodup := (List.nodup_cons.1 hn).2
    have hr3 : ∀ i ∈ rs, i < P.length := fun i hi => hlt i (List.mem_cons_of_mem _ hi)
    rw [rnd] at hg
    split at hg
    · exact rnd_good A P f rs gs _ hr2 hr3 g hg
    · split at hg
      · simp at hg
      · split at hg
        · simp at hg
        · next h2 =>
          split at hg
          · exact rnd_good A P f rs gs _ hr2 hr3 g hg
          · next h3 =>
            rcases rnd_good A P f _ _ lf (hn.filter _) (fun i hi => hlt i (List.mem_filter.1 hi).1) g hg with h | h
            · rcases List.mem_append.1 h with h | h
              · exact .inl h
              · refine .inr ⟨winOf A.span P (r :: rs), (locA A P (winOf A.span P (r :: rs))).1, fun i hi => hlt i (winOf_sub.subset hi), winOf_sub.nodup hn, by omega, by omega, ?_⟩
                exact List.mem_singleton.1 h
            · exact .inr h
theorem resEr_zero {Q : Prob} {X : Loc} (h : resEr Q X = 0) : conP Q.x0 Q.y0 Q.z0 Q.x1 Q.y1 Q.z1 X.px X.py X.pz = true ∧ (∀ a ∈ Q.phs, zoneE Q.step Q.ls Q.hs X.px X.py X.pz X.px X.py X.pz a = 0) ∧ -18014398509481984 ≤ X.t ∧ X.t ≤ 18014398509481984 := by
  unfold resEr at h
  split at h
  · next hz => exact absurd h hz
  · next hz =>
    split at h
    · cases h
    · next ht =>
      have hz : zonesE Q X.px X.py X.pz X.px X.py X.pz = 0 := by omega
      unfold zonesE at hz
      split at hz
      · split at hz
        · next hw =>
          refine ⟨?_, errOf_zero.1 hz, by omega, by omega⟩
          unfold wiP at hw
          simp only [Bool.and_eq_true] at hw
          exact hw.2
        · cases hz
      · next hv => exact absurd hz hv
theorem phA_oA (P : List Ph) (i : Nat) : phA P ((oA P i : Int)).toNat = phO P i := rfl
theorem oA_lt {P : List Ph} {i : Nat} (h : i < P.length) : oA P i < P.length := by
  have hi : i < (ordA P).length := by rw [ordA_length]; exact h
  have e : oA P i = (ordA P)[i] := by unfold oA; rw [List.getElem?_eq_getElem hi]; rfl
  rw [e]; exact ordA_lt (List.getElem_mem hi)
theorem oA_inj {P : List Ph} {i k : Nat} (h : i < P.length) (h2 : k < P.length) (e : oA P i = oA P k) : i = k := by
  have hi : i < (ordA P).length := by rw [ordA_length]; exact h
  have hk : k < (ordA P).length := by rw [ordA_length]; exact h2
  have e1 : oA P i = (ordA P)[i] := by unfold oA; rw [List.getElem?_eq_getElem hi]; rfl
  have e2 : oA P k = (ordA P)[k] := by unfold oA; rw [List.getElem?_eq_getElem hk]; rfl
  have hn : (ordA P).Nodup := (ordA_perm P).nodup_iff.2 List.nodup_range
  rw [e1, e2] at e
  exact (List.getElem_inj hn).1 e
/-- A group explains its phases. -/
theorem good_expl {A : Asc} {P : List Ph} {g : Grp} (hv : avE A P = 0) (h : GoodG A P g) : explB A P g.ms g.x g.y g.z g.t = true := by
  obtain ⟨W, X, hW, hWn, hr, hl, rfl⟩ := h
  obtain ⟨c1, c2, c3, c4⟩ := resEr_zero hr
  generalize hM : memOf A P W X = M at *
  have hsub : M.Sublist W := by rw [← hM]; exact memOf_sub
  have hres : ∀ i ∈ M, resOf A X (phO P i) ≤ A.lim := fun i hi => by
    rw [← hM] at hi
    simpa using (List.mem_filter.1 hi).2
  have hMn : (M.map (fun i => (oA P i : Int))).Nodup := by
    refine List.Pairwise.map _ (R := fun a b => a ∈ W ∧ b ∈ W ∧ a ≠ b) (fun a b hab e => ?_) ?_
    · exact hab.2.2 (oA_inj (hW a hab.1) (hW b hab.2.1) (Int.ofNat.inj e))
    · refine List.Pairwise.imp_of_mem (fun {a b} ha hb hab => ⟨hsub.subset ha, hsub.subset hb, hab⟩) (hsub.nodup hWn)
  obtain ⟨ms, hms⟩ : ∃ ms, srt (M.map (fun i => (oA P i : Int))) = ms := ⟨_, rfl⟩
  have hp : ms.Perm (M.map (fun i => (oA P i : Int))) := hms ▸ srt_perm _
  have hso : ms.Pairwise (fun x y => x ≤ y) := hms ▸ srt_sorted _
  have hnd : ms.Nodup := hp.nodup_iff.2 hMn
  have hlen : ms.length = M.length := by rw [hp.length_eq, List.length_map]
  show explB A P (srt (M.map (fun i => (oA P i : Int)))) X.px X.py X.pz X.t = true
  rw [hms]
  unfold explB
  have e1 : (avE A P == 0) = true := by rw [hv]; rfl
  have e2 : decide ((ms.length : Int) < A.least) = false := decide_eq_false (by omega)
  have e3 : conP A.x0 A.y0 A.z0 A.x1 A.y1 A.z1 X.px X.py X.pz = true := c1
  have e4 : inI X.t (-18014398509481984) 18014398509481984 = true := inI_iff.2 ⟨c3, c4⟩
  rw [e1, e2, e3, e4]
  simp only [Bool.not_false, Bool.and_true, Bool.true_and]
  rw [List.all_eq_true]
  intro k hk
  have hk := List.mem_range.1 hk
  have ek : at0 ms k = ms[k] := by simp [at0, hk]
  have hm : ms[k] ∈ M.map (fun i => (oA P i : Int)) := hp.subset (List.getElem_mem hk)
  obtain ⟨i, hi, ei⟩ := List.mem_map.1 hm
  have hiW := hsub.subset hi
  have hlt := oA_lt (hW i hiW)
  unfold exK
  rw [ek, ← ei, phA_oA]
  have f1 : inI (oA P i : Int) 0 ((P.length : Int) - 1) = true := inI_iff.2 ⟨by omega, by omega⟩
  have f2 : (zoneE A.st A.ls A.hs X.px X.py X.pz X.px X.py X.pz (phO P i) == 0) = true := by
    have := c2 (phO P i) (List.mem_map_of_mem hiW)
    simpa [Asc.prob] using this
  have f3 : decide (A.lim < resid (zoneOf A.st A.ls A.hs X.px X.py X.pz X.px X.py X.pz (phO P i)) X.t) = false := decide_eq_false (by have := hres i hi; unfold resOf at this; omega)
  rw [f1, f2, f3]
  have f4 : (decide (0 < k) && decide ((oA P i : Int) ≤ at0 ms (k - 1))) = false := by
    by_cases hk0 : 0 < k
    · have hk1 : k - 1 < ms.length := by omega
      have e5 : at0 ms (k - 1) = ms[k - 1] := by simp [at0, hk1]
      have h1 : ms[k - 1] ≤ ms[k] := List.pairwise_iff_getElem.1 hso _ _ hk1 hk (by omega)
      have h2 : ms[k - 1] ≠ ms[k] := fun e => by have := (List.getElem_inj hnd).1 e; omega
      rw [e5, ei]
      have : decide (ms[k] ≤ ms[k - 1]) = false := decide_eq_false (by omega)
      rw [this]; simp
    · have : decide (0 < k) = false := decide_eq_false hk0
      rw [this]; rfl
  rw [f4]; rfl
end Go.Proofs.YtiebljanpnadjaaGreat
