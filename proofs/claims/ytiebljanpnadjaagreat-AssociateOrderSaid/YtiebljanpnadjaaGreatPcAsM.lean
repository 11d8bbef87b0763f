/- AsM AsU -/
import Derived.Test.YtiebljanpnadjaaGreatPcAsD
namespace Go.Proofs.YtiebljanpnadjaaGreat
set_option linter.all false
open Go.RowKit Rg
abbrev Trc := Int × List (List Nat × Loc) × List Nat
/-- One more is left out. -/
def Trc.left (r : Nat) (t : Trc) : Trc := if t.1 ≠ 0 then (t.1, [], []) else (0, t.2.1, r :: t.2.2)
/-- One more group. -/
def Trc.more (M : List Nat) (X : Loc) (t : Trc) : Trc := if t.1 ≠ 0 then (t.1, [], []) else (0, (M, X) :: t.2.1, t.2.2)
/-- The rounds, in places of the order. -/
noncomputable def trc (A : Asc) (P : List Ph) : Nat → List Nat → Trc
  | 0, _ => (0, [], [])
  | _ + 1, [] => (0, [], [])
  | f + 1, r :: rs =>
    if ((winOf A.span P (r :: rs)).length : Int) < A.least then Trc.left r (trc A P f rs)
    else if (locA A P (winOf A.span P (r :: rs))).2 ≠ 0 then ((locA A P (winOf A.span P (r :: rs))).2, [], [])
    else if resEr (A.prob ((winOf A.span P (r :: rs)).map (phO P))) (locA A P (winOf A.span P (r :: rs))).1 ≠ 0 then (resEr (A.prob ((winOf A.span P (r :: rs)).map (phO P))) (locA A P (winOf A.span P (r :: rs))).1, [], [])
    else if ((memOf A P (winOf A.span P (r :: rs)) (locA A P (winOf A.span P (r :: rs))).1).length : Int) < A.least then Trc.left r (trc A P f rs)
    else Trc.more (memOf A P (winOf A.span P (r :: rs)) (locA A P (winOf A.span P (r :: rs))).1) (locA A P (winOf A.span P (r :: rs))).1 (trc A P f ((r :: rs).filter (fun i => decide (i ∉ memOf A P (winOf A.span P (r :: rs)) (locA A P (winOf A.span P (r :: rs))).1))))
/-- What the rounds return, read off. -/
noncomputable def trR (P : List Ph) (gs : List Grp) (lf : List Nat) (t : Trc) : Int × List Grp × List Nat :=
  if t.1 ≠ 0 then (t.1, [], []) else (0, gs ++ t.2.1.map (fun x => grpOf P x.1 x.2), lf ++ t.2.2.map (oA P))
theorem trR_left (P : List Ph) (gs : List Grp) (lf : List Nat) (r : Nat) (t : Trc) : trR P gs lf (Trc.left r t) = trR P gs (lf ++ [oA P r]) t := by
  unfold trR Trc.left
  by_cases h : t.1 = 0
  · simp [h]
  · simp [h]
theorem trR_more (P : List Ph) (gs : List Grp) (lf : List Nat) (M : List Nat) (X : Loc) (t : Trc) : trR P gs lf (Trc.more M X t) = trR P (gs ++ [grpOf P M X]) lf t := by
  unfold trR Trc.more
  by_cases h : t.1 = 0
  · simp [h]
  · simp [h]
theorem trR_err (P : List Ph) (gs : List Grp) (lf : List Nat) {c : Int} (h : c ≠ 0) : trR P gs lf (c, [], []) = (c, [], []) := by
  unfold trR
  simp [h]
theorem rnd_trc (A : Asc) (P : List Ph) : ∀ (f : Nat) (rest : List Nat) (gs : List Grp) (lf : List Nat), rnd A P f rest gs lf = trR P gs lf (trc A P f rest)
  | 0, _, gs, lf => by simp [rnd, trc, trR]
  | f + 1, [], gs, lf => by simp [rnd, trc, trR]
  | f + 1, r :: rs, gs, lf => by
    rw [rnd, trc]
    split
    · rw [trR_left]; exact rnd_trc A P f rs gs _
    · split
      · next h => rw [trR_err _ _ _ h]
      · split
        · next h => rw [trR_err _ _ _ h]
        · split
          · rw [trR_left]; exact rnd_trc A P f rs gs _
          · rw [trR_more]; exact rnd_trc A P f _ _ lf
theorem filt_less {A : Asc} {P : List Ph} {r : Nat} {rs W : List Nat} {X : Loc} (hl : 2 ≤ A.least) (hW : W.Sublist (r :: rs)) (h : ¬ ((memOf A P W X).length : Int) < A.least) : ((r :: rs).filter (fun i => decide (i ∉ memOf A P W X))).length ≤ rs.length := by
  have hM0 : 0 < (memOf A P W X).length := by omega
  have : ((r :: rs).filter (fun i => decide (i ∉ memOf A P W X))).length < (r :: rs).length := List.length_filter_lt_length_iff_exists.2 ⟨(memOf A P W X)[0], (memOf_sub.trans hW).subset (List.getElem_mem hM0), by simp⟩
  rw [List.length_cons] at this
  omega
/-- Fuel does not matter. -/
theorem trc_fuel (A : Asc) (P : List Ph) (hl : 2 ≤ A.least) : ∀ (f f' : Nat) (rest : List Nat), rest.length ≤ f → rest.length ≤ f' → trc A P f rest = trc A P f' rest
  | 0, 0, _, _, _ => rfl
  | 0, f' + 1, [], _, _ => by simp [trc]
  | f + 1, 0, [], _, _ => by simp [trc]
  | f + 1, f' + 1, [], _, _ => by simp [trc]
  | 0, _ + 1, _ :: _, h, _ => by simp at h
  | _ + 1, 0, _ :: _, _, h => by simp at h
  | f + 1, f' + 1, r :: rs, h, h' => by
    simp only [List.length_cons] at h h'
    rw [trc, trc]
    split
    · rw [trc_fuel A P hl f f' rs (by omega) (by omega)]
    · split
      · rfl
      · split
        · rfl
        · split
          · rw [trc_fuel A P hl f f' rs (by omega) (by omega)]
          · next h3 =>
            have := filt_less hl winOf_sub h3
            rw [trc_fuel A P hl f f' _ (by omega) (by omega)]
/-- An error leaves nothing. -/
theorem trc_err (A : Asc) (P : List Ph) : ∀ (f : Nat) (rest : List Nat), (trc A P f rest).1 ≠ 0 → trc A P f rest = ((trc A P f rest).1, [], [])
  | 0, _, h => absurd rfl h
  | _ + 1, [], h => absurd rfl h
  | f + 1, r :: rs, h => by
    have hlft : ∀ t : Trc, (Trc.left r t).1 ≠ 0 → Trc.left r t = ((Trc.left r t).1, [], []) := fun t ht => by
      unfold Trc.left at ht ⊢
      split
      · rfl
      · next h0 => rw [if_neg h0] at ht; exact absurd rfl ht
    have hmor : ∀ M X (t : Trc), (Trc.more M X t).1 ≠ 0 → Trc.more M X t = ((Trc.more M X t).1, [], []) := fun M X t ht => by
      unfold Trc.more at ht ⊢
      split
      · rfl
      · next h0 => rw [if_neg h0] at ht; exact absurd rfl ht
    rw [trc] at h ⊢
    split at h
    · next hc => rw [if_pos hc]; exact hlft _ h
    · next hc =>
      rw [if_neg hc]
      split at h
      · next h1 => rw [if_pos h1]
      · next h1 =>
        rw [if_neg h1]
        split at h
        · next h2 => rw [if_pos h2]
        · next h2 =>
          rw [if_neg h2]
          split at h
          · next h3 => rw [if_pos h3]; exact hlft _ h
          · next h3 => rw [if_neg h3]; exact hmor _ _ _ h
/-- The places i of P are the places i + d of R; the places of T lie far behind. -/
structure Emb (A : Asc) (P R : List Ph) (d : Nat) (T : List Nat) : Prop where
  ph : ∀ i, i < P.length → phO R (i + d) = phO P i
  far : ∀ t ∈ T, ∀ i, i < P.length → A.span < (phO R t).e - (phO P i).e
  out : ∀ t ∈ T, ∀ i, i < P.length → t ≠ i + d
theorem takeWhile_map {α β : Type} (f : α → β) (p : β → Bool) (l : List α) : (l.map f).takeWhile p = (l.takeWhile (fun x => p (f x))).map f := by
  induction l with
  | nil => rfl
  | cons a l ih =>
    rw [List.map_cons, List.takeWhile_cons, List.takeWhile_cons]
    cases p (f a) <;> simp [ih]
theorem takeWhile_out {α : Type} (p : α → Bool) (l T : List α) (h : ∀ x ∈ T, p x = false) : (l ++ T).takeWhile p = l.takeWhile p := by
  induction l with
  | nil =>
    cases T with
    | nil => rfl
    | cons a T => rw [List.nil_append, List.takeWhile_cons, h a (List.mem_cons_self ..)]; rfl
  | cons a l ih => rw [List.cons_append, List.takeWhile_cons, List.takeWhile_cons, ih]
theorem takeWhile_congr {α : Type} {p q : α → Bool} {l : List α} (h : ∀ x ∈ l, p x = q x) : l.takeWhile p = l.takeWhile q := by
  induction l with
  | nil => rfl
  | cons a l ih => rw [List.takeWhile_cons, List.takeWhile_cons, h a (List.mem_cons_self ..), ih (fun x hx => h x (List.mem_cons_of_mem _ hx))]
section
variable {A : Asc} {P R : List Ph} {d : Nat} {T : List Nat}
theorem elA_phO (P : List Ph) (i : Nat) : elA P i = (phO P i).e := rfl
theorem Emb.win (h : Emb A P R d T) {r : Nat} {rs : List Nat} (hlt : ∀ i ∈ r :: rs, i < P.length) : winOf A.span R ((r :: rs).map (· + d) ++ T) = (winOf A.span P (r :: rs)).map (· + d) := by
  have hr := hlt r (List.mem_cons_self ..)
  show (((r :: rs).map (· + d) ++ T).takeWhile (winC A.span R (r + d))).take 16 = _
  rw [takeWhile_out _ _ _ (fun t ht => ?_), takeWhile_map, ← List.map_take]
  · show _ = (((r :: rs).takeWhile (winC A.span P r)).take 16).map (· + d)
    rw [takeWhile_congr (q := winC A.span P r) (fun i hi => ?_)]
    unfold winC
    rw [elA_phO, elA_phO, elA_phO, elA_phO, h.ph i (hlt i hi), h.ph r hr]
  · unfold winC
    rw [elA_phO, elA_phO, h.ph r hr]
    have := h.far t ht r hr
    exact decide_eq_false (by omega)
theorem Emb.phs (h : Emb A P R d T) {W : List Nat} (hlt : ∀ i ∈ W, i < P.length) : (W.map (· + d)).map (phO R) = W.map (phO P) := by
  rw [List.map_map]
  exact List.map_congr_left fun i hi => h.ph i (hlt i hi)
theorem Emb.mem (h : Emb A P R d T) {W : List Nat} (hlt : ∀ i ∈ W, i < P.length) (X : Loc) : memOf A R (W.map (· + d)) X = (memOf A P W X).map (· + d) := by
  unfold memOf
  rw [List.filter_map]
  congr 1
  refine List.filter_congr fun i hi => ?_
  simp only [Function.comp]
  rw [h.ph i (hlt i hi)]
/-- The same, elsewhere. -/
def Trc.shift (d : Nat) (t u : Trc) : Trc := if t.1 ≠ 0 then (t.1, [], []) else if u.1 ≠ 0 then (u.1, [], []) else (0, t.2.1.map (fun x => (x.1.map (· + d), x.2)) ++ u.2.1, t.2.2.map (· + d) ++ u.2.2)
theorem shift_left (d r : Nat) (t u : Trc) : Trc.shift d (Trc.left r t) u = Trc.left (r + d) (Trc.shift d t u) := by
  unfold Trc.shift Trc.left
  by_cases h : t.1 = 0 <;> by_cases h2 : u.1 = 0 <;> simp [h, h2]
theorem shift_more (d : Nat) (M : List Nat) (X : Loc) (t u : Trc) : Trc.shift d (Trc.more M X t) u = Trc.more (M.map (· + d)) X (Trc.shift d t u) := by
  unfold Trc.shift Trc.more
  by_cases h : t.1 = 0 <;> by_cases h2 : u.1 = 0 <;> simp [h, h2]
theorem shift_err (d : Nat) {c : Int} (h : c ≠ 0) (u : Trc) : Trc.shift d (c, [], []) u = (c, [], []) := by
  unfold Trc.shift; simp [h]
theorem Emb.trc (h : Emb A P R d T) (hl : 2 ≤ A.least) : ∀ (f : Nat) (rest : List Nat), rest.length + T.length ≤ f → (∀ i ∈ rest, i < P.length) →
    trc A R f (rest.map (· + d) ++ T) = Trc.shift d (trc A P f rest) (trc A R f T)
  | 0, rest, hf, hlt => by
    have : rest = [] := List.length_eq_zero_iff.1 (by omega)
    subst this
    have : T = [] := List.length_eq_zero_iff.1 (by omega)
    subst this
    simp [Go.Proofs.YtiebljanpnadjaaGreat.trc, Trc.shift]
  | f + 1, [], hf, hlt => by
    rw [List.map_nil, List.nil_append, show Go.Proofs.YtiebljanpnadjaaGreat.trc A P (f + 1) [] = (0, [], []) from rfl]
    unfold Trc.shift
    by_cases h2 : (Go.Proofs.YtiebljanpnadjaaGreat.trc A R (f + 1) T).1 = 0
    · rw [if_neg (by simp), if_neg (by simpa using h2)]
      simp [← h2]
    · rw [if_neg (by simp), if_pos h2]
      exact trc_err A R _ _ h2
  | f + 1, r :: rs, hf, hlt => by
    simp only [List.length_cons] at hf
    have hrs : ∀ i ∈ rs, i < P.length := fun i hi => hlt i (List.mem_cons_of_mem _ hi)
    have hW := h.win hlt
    have hWlt : ∀ i ∈ winOf A.span P (r :: rs), i < P.length := fun i hi => hlt i (winOf_sub.subset hi)
    have ih1 := h.trc hl f rs (by omega) hrs
    have hfl := trc_fuel A R hl (f + 1) f T (by omega) (by omega)
    have e0 : (r :: rs).map (· + d) ++ T = (r + d) :: (rs.map (· + d) ++ T) := rfl
    rw [e0, Go.Proofs.YtiebljanpnadjaaGreat.trc, ← e0, hW, List.length_map]
    have e1 : locA A R ((winOf A.span P (r :: rs)).map (· + d)) = locA A P (winOf A.span P (r :: rs)) := by unfold locA; rw [h.phs hWlt]
    rw [e1, h.phs hWlt, h.mem hWlt, List.length_map, hfl]
    rw [show Go.Proofs.YtiebljanpnadjaaGreat.trc A P (f + 1) (r :: rs) = _ from by rw [Go.Proofs.YtiebljanpnadjaaGreat.trc]]
    split
    · rw [shift_left, ih1]
    · split
      · next hc => rw [shift_err d hc]
      · split
        · next hc => rw [shift_err d hc]
        · split
          · rw [shift_left, ih1]
          · next h3 =>
            generalize hX : (locA A P (winOf A.span P (r :: rs))).1 = X at *
            have hfl2 := filt_less (P := P) (X := X) hl winOf_sub h3
            have hMlt : ∀ i ∈ memOf A P (winOf A.span P (r :: rs)) X, i < P.length := fun i hi => hWlt i (memOf_sub.subset hi)
            have e2 : ((r :: rs).map (· + d) ++ T).filter (fun i => decide (i ∉ (memOf A P (winOf A.span P (r :: rs)) X).map (· + d))) = ((r :: rs).filter (fun i => decide (i ∉ memOf A P (winOf A.span P (r :: rs)) X))).map (· + d) ++ T := by
              rw [List.filter_append, List.filter_map]
              congr 1
              · congr 1
                refine List.filter_congr fun i _ => ?_
                simp [Function.comp]
              · refine List.filter_eq_self.2 fun t ht => ?_
                simp only [decide_eq_true_eq, List.mem_map, not_exists, not_and]
                exact fun i hi e => h.out t ht i (hMlt i hi) e.symm
            rw [shift_more, e2, h.trc hl f _ (by omega) (fun i hi => hlt i (List.mem_filter.1 hi).1)]
end
end Go.Proofs.YtiebljanpnadjaaGreat
namespace Go.Proofs.YtiebljanpnadjaaGreat
set_option linter.all false
open Go.RowKit Rg
theorem phA_mem {P : List Ph} {i : Nat} (h : i < P.length) : phA P i ∈ P := by
  unfold phA
  rw [List.getElem?_eq_getElem h]
  exact List.getElem_mem h
section
end
theorem trc_mem (A : Asc) (P : List Ph) : ∀ (f : Nat) (rest : List Nat), (∀ x ∈ (trc A P f rest).2.1, ∀ i ∈ x.1, i ∈ rest) ∧ ∀ i ∈ (trc A P f rest).2.2, i ∈ rest
  | 0, rest => by simp [trc]
  | f + 1, [] => by simp [trc]
  | f + 1, r :: rs => by
    have hlft : (∀ x ∈ (Trc.left r (trc A P f rs)).2.1, ∀ i ∈ x.1, i ∈ r :: rs) ∧ ∀ i ∈ (Trc.left r (trc A P f rs)).2.2, i ∈ r :: rs := by
      have ih := trc_mem A P f rs
      unfold Trc.left
      split
      · simp
      · exact ⟨fun x hx i hi => List.mem_cons_of_mem _ (ih.1 x hx i hi), fun i hi => by
          rcases List.mem_cons.1 hi with rfl | hi
          · exact List.mem_cons_self ..
          · exact List.mem_cons_of_mem _ (ih.2 i hi)⟩
    rw [trc]
    split
    · exact hlft
    · split
      · simp
      · split
        · simp
        · split
          · exact hlft
          · have ih := trc_mem A P f ((r :: rs).filter (fun i => decide (i ∉ memOf A P (winOf A.span P (r :: rs)) (locA A P (winOf A.span P (r :: rs))).1)))
            unfold Trc.more
            split
            · simp
            · refine ⟨fun x hx i hi => ?_, fun i hi => (List.mem_filter.1 (ih.2 i hi)).1⟩
              rcases List.mem_cons.1 hx with rfl | hx
              · exact (memOf_sub.trans winOf_sub).subset hi
              · exact (List.mem_filter.1 (ih.1 x hx i hi)).1
/-- A group of places that are d farther. -/
def Grp.add (d : Int) (g : Grp) : Grp := ⟨g.ms.map (· + d), g.x, g.y, g.z, g.t⟩
theorem assoc_trc {A : Asc} {P : List Ph} (hv : avE A P = 0) : assocR A P = ((trR P [] [] (trc A P (P.length + 1) (List.range P.length))).1, (trR P [] [] (trc A P (P.length + 1) (List.range P.length))).2.1, srt ((trR P [] [] (trc A P (P.length + 1) (List.range P.length))).2.2.map (fun (i : Nat) => (i : Int)))) := by
  rw [assocR_ok hv, rnd_trc]
theorem trR_zero {P : List Ph} {gs : List Grp} {lf : List Nat} {t : Trc} (h : t.1 = 0) : trR P gs lf t = (0, gs ++ t.2.1.map (fun x => grpOf P x.1 x.2), lf ++ t.2.2.map (oA P)) := by
  unfold trR; rw [if_neg (by simpa using h)]
end Go.Proofs.YtiebljanpnadjaaGreat
