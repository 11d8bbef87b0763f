/- AsQ -/
import Derived.Test.YtiebljanpnadjaaGreatPdAsE
namespace Go.Proofs.YtiebljanpnadjaaGreat
set_option linter.all false
open Go.RowKit Rg
theorem memOf_sub {A : Asc} {P : List Ph} {W : List Nat} {X : Loc} : (memOf A P W X).Sublist W := List.filter_sublist
/-- A group comes from a window and a location. -/
def GoodG (A : Asc) (P : List Ph) (g : Grp) : Prop := ∃ (W : List Nat) (X : Loc), (∀ i ∈ W, i < P.length) ∧ W.Nodup ∧ resEr (A.prob (W.map (phO P))) X = 0 ∧ A.least ≤ ((memOf A P W X).length : Int) ∧ g = grpOf P (memOf A P W X) X
theorem rnd_good (A : Asc) (P : List Ph) : ∀ (f : Nat) (rest : List Nat) (gs : List Grp) (lf : List Nat), rest.Nodup → (∀ i ∈ rest, i < P.length) → ∀ g ∈ (rnd A P f rest gs lf).2.1, g ∈ gs ∨ GoodG A P g
  | 0, _, _, _, _, _, g, hg => .inl hg
  | f + 1, [], gs, lf, _, _, g, hg => .inl hg
  | f + 1, r :: rs, gs, lf, hn, hlt, g, hg => by
    have hr2 : rs.Nodup := (List.nodup_cons.1 hn).2
    have hr3 : ∀ i ∈ rs, i < P.length := fun i hi => hlt i (List.mem_cons_of_mem _ hi)
    rw [rnd] at hg
    split at hg
    · exact rnd_good A P f rs gs _ hr2 hr3 g hg
    · split at hg
      · simp at hg
      · split at hg
        · simp at hg
        · next h2 =>
          split at hg
          · exact rnd_good A P f rs gs _ hr2 hr3 g hg
          · next h3 =>
            rcases rnd_good A P f _ _ lf (hn.filter _) (fun i hi => hlt i (List.mem_filter.1 hi).1) g hg with h | h
            · rcases List.mem_append.1 h with h | h
              · exact .inl h
              · refine .inr ⟨winOf A.span P (r :: rs), (locA A P (winOf A.span P (r :: rs))).1, fun i hi => hlt i (winOf_sub.subset hi), winOf_sub.nodup hn, by omega, by omega, ?_⟩
                exact List.mem_singleton.1 h
            · exact .inr h
theorem resEr_zero {Q : Prob} {X : Loc} (h : resEr Q X = 0) : conP Q.x0 Q.y0 Q.z0 Q.x1 Q.y1 Q.z1 X.px X.py X.pz = true ∧ (∀ a ∈ Q.phs, zoneE Q.step Q.ls Q.hs X.px X.py X.pz X.px X.py X.pz a = 0) ∧ -18014398509481984 ≤ X.t ∧ X.t ≤ 18014398509481984 := by
  unfold resEr at h
  split at h
  · next hz => exact absurd h hz
  · next hz =>
    split at h
    · cases h
    · next ht =>
      have hz : zonesE Q X.px X.py X.pz X.px X.py X.pz = 0 := by omega
      unfold zonesE at hz
      split at hz
      · split at hz
        · next hw =>
          refine ⟨?_, errOf_zero.1 hz, by omega, by omega⟩
          unfold wiP at hw
          simp only [Bool.and_eq_true] at hw
          exact hw.2
        · cases hz
      · next hv => exact absurd hz hv
theorem phA_oA (P : List Ph) (i : Nat) : phA P ((oA P i : Int)).toNat = phO P i := rfl
theorem oA_lt {P : List Ph} {i : Nat} (h : i < P.length) : oA P i < P.length := by
  have hi : i < (ordA P).length := by rw [ordA_length]; exact h
  have e : oA P i = (ordA P)[i] := by unfold oA; rw [List.getElem?_eq_getElem hi]; rfl
  rw [e]; exact ordA_lt (List.getElem_mem hi)
theorem oA_inj {P : List Ph} {i k : Nat} (h : i < P.length) (h2 : k < P.length) (e : oA P i = oA P k) : i = k := by
  have hi : i < (ordA P).length := by rw [ordA_length]; exact h
  have hk : k < (ordA P).length := by rw [ordA_length]; exact h2
  have e1 : oA P i = (ordA P)[i] := by unfold oA; rw [List.getElem?_eq_getElem hi]; rfl
  have e2 : oA P k = (ordA P)[k] := by unfold oA; rw [List.getElem?_eq_getElem hk]; rfl
  have hn : (ordA P).Nodup := (ordA_perm P).nodup_iff.2 List.nodup_range
  rw [e1, e2] at e
  exact (List.getElem_inj hn).1 e
/-- A group explains its phases. -/
theorem good_expl {A : Asc} {P : List Ph} {g : Grp} (hv : avE A P = 0) (h : GoodG A P g) : explB A P g.ms g.x g.y g.z g.t = true := by
  obtain ⟨W, X, hW, hWn, hr, hl, rfl⟩ := h
  obtain ⟨c1, c2, c3, c4⟩ := resEr_zero hr
  generalize hM : memOf A P W X = M at *
  have hsub : M.Sublist W := by rw [← hM]; exact memOf_sub
  have hres : ∀ i ∈ M, resOf A X (phO P i) ≤ A.lim := fun i hi => by
    rw [← hM] at hi
    simpa using (List.mem_filter.1 hi).2
  have hMn : (M.map (fun i => (oA P i : Int))).Nodup := by
    refine List.Pairwise.map _ (R := fun a b => a ∈ W ∧ b ∈ W ∧ a ≠ b) (fun a b hab e => ?_) ?_
    · exact hab.2.2 (oA_inj (hW a hab.1) (hW b hab.2.1) (Int.ofNat.inj e))
    · refine List.Pairwise.imp_of_mem (fun {a b} ha hb hab => ⟨hsub.subset ha, hsub.subset hb, hab⟩) (hsub.nodup hWn)
  obtain ⟨ms, hms⟩ : ∃ ms, srt (M.map (fun i => (oA P i : Int))) = ms := ⟨_, rfl⟩
  have hp : ms.Perm (M.map (fun i => (oA P i : Int))) := hms ▸ srt_perm _
  have hso : ms.Pairwise (fun x y => x ≤ y) := hms ▸ srt_sorted _
  have hnd : ms.Nodup := hp.nodup_iff.2 hMn
  have hlen : ms.length = M.length := by rw [hp.length_eq, List.length_map]
  show explB A P (srt (M.map (fun i => (oA P i : Int)))) X.px X.py X.pz X.t = true
  rw [hms]
  unfold explB
  have e1 : (avE A P == 0) = true := by rw [hv]; rfl
  have e2 : decide ((ms.length : Int) < A.least) = false := decide_eq_false (by omega)
  have e3 : conP A.x0 A.y0 A.z0 A.x1 A.y1 A.z1 X.px X.py X.pz = true := c1
  have e4 : inI X.t (-18014398509481984) 18014398509481984 = true := inI_iff.2 ⟨c3, c4⟩
  rw [e1, e2, e3, e4]
  simp only [Bool.not_false, Bool.and_true, Bool.true_and]
  rw [List.all_eq_true]
  intro k hk
  have hk := List.mem_range.1 hk
  have ek : at0 ms k = ms[k] := by simp [at0, hk]
  have hm : ms[k] ∈ M.map (fun i => (oA P i : Int)) := hp.subset (List.getElem_mem hk)
  obtain ⟨i, hi, ei⟩ := List.mem_map.1 hm
  have hiW := hsub.subset hi
  have hlt := oA_lt (hW i hiW)
  unfold exK
  rw [ek, ← ei, phA_oA]
  have f1 : inI (oA P i : Int) 0 ((P.length : Int) - 1) = true := inI_iff.2 ⟨by omega, by omega⟩
  have f2 : (zoneE A.st A.ls A.hs X.px X.py X.pz X.px X.py X.pz (phO P i) == 0) = true := by
    have := c2 (phO P i) (List.mem_map_of_mem hiW)
    simpa [Asc.prob] using this
  have f3 : decide (A.lim < resid (zoneOf A.st A.ls A.hs X.px X.py X.pz X.px X.py X.pz (phO P i)) X.t) = false := decide_eq_false (by have := hres i hi; unfold resOf at this; omega)
  rw [f1, f2, f3]
  have f4 : (decide (0 < k) && decide ((oA P i : Int) ≤ at0 ms (k - 1))) = false := by
    by_cases hk0 : 0 < k
    · have hk1 : k - 1 < ms.length := by omega
      have e5 : at0 ms (k - 1) = ms[k - 1] := by simp [at0, hk1]
      have h1 : ms[k - 1] ≤ ms[k] := List.pairwise_iff_getElem.1 hso _ _ hk1 hk (by omega)
      have h2 : ms[k - 1] ≠ ms[k] := fun e => by have := (List.getElem_inj hnd).1 e; omega
      rw [e5, ei]
      have : decide (ms[k] ≤ ms[k - 1]) = false := decide_eq_false (by omega)
      rw [this]; simp
    · have : decide (0 < k) = false := decide_eq_false hk0
      rw [this]; rfl
  rw [f4]; rfl
end Go.Proofs.YtiebljanpnadjaaGreat
