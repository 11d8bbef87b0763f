/- The reference's certificates are the program's: plain. -/
import Derived.Test.YtdkckhihleffeaaGreatSnd
import Derived.Test.YtdkckhihleffeaaGreatR29c
import Derived.Test.YtdkckhihleffeaaGreatRgX
namespace Go.Proofs.YtdkckhihleffeaaGreat
set_option linter.all false
open Go.RowKit

theorem Sound.zonesC {P : Prob} (h : Sound P) {b : Bx} (hv : b.v = true) (hw : b.wi P.reg) : bdE P b.a b.b b.c b.d b.e b.f = 0 := by
  have hw' : wiP b.a b.b b.c b.d b.e b.f P.x0 P.y0 P.z0 P.x1 P.y1 P.z1 = true := by
    have := wiP_of hv (show P.reg.v = true from h.vb) hw
    dsimp only [Prob.reg] at this
    exact this
  show zonesE P b.a b.b b.c b.d b.e b.f = 0
  unfold zonesE
  rw [if_pos (sound_iff.2 h), if_pos hw']
  exact errOf_zero.2 fun a ha => by
    have hN := ((h.near ha).within hw').1
    obtain ⟨-, -, c⟩ := hN.bnd
    have hp := h.phase ha
    show znE _ _ _ _ _ _ _ _ _ _ _ _ _ _ _ = 0
    unfold znE; rw [if_pos hN.ok, if_pos hN.vb, if_pos hp]; exact c
theorem prV_lf {P : Prob} (hS : Sound P) (x : Loc) (tol : Int) {b : Bx} (hv : b.v = true) (hw : b.wi P.reg) : prV P x tol b = lfV P x tol b := by
  have h0 : bdE P b.a b.b b.c b.d b.e b.f = 0 := hS.zonesC hv hw
  unfold prV prB lfV lfB
  rw [h0]
  simp
theorem rd_congr {V W : Bx → Bool} {R : Bx} (h : ∀ c : Bx, c.v = true → c.wi R → V c = W c) : ∀ (n : Nat) (b : Bx) (l : List Int), b.v = true → b.wi R → rd V n b l = rd W n b l
  | 0, _, _, _, _ => rfl
  | _ + 1, _, [], _, _ => rfl
  | n + 1, b, k :: l, hv, hw => by
    unfold rd
    by_cases ho : b.ok = true
    · obtain ⟨v1, v2, w1, w2, -⟩ := Bx.parts hv ho
      have e1 := fun l' => rd_congr h n b.fst l' v1 (Bx.wi_trans w1 hw)
      have e2 := fun l' => rd_congr h n b.snd l' v2 (Bx.wi_trans w2 hw)
      simp only [h b hv hw, e1, e2]
    · simp only [h b hv hw, ho]
      rfl
theorem chkR_eq (P : Prob) (x : Loc) (tol : Int) (l : List Int) : chkR P x tol l = chkE P x tol l := by
  unfold chkR chkE
  by_cases ha : askE P x tol = 0
  · have hS : Sound P := sound_iff.1 (by
      unfold askE at ha
      by_cases h1 : valE P = 0
      · exact h1
      · rw [if_pos h1] at ha; exact absurd ha h1)
    rw [rd_congr (fun c hv hw => (prV_lf hS x tol hv hw).symm) (l.length + 1) P.reg l hS.vb (Bx.wi_refl _)]
  · rw [if_pos ha, if_pos ha]
theorem wrR_nil (V : Bx → Bool) : ∀ (n : Nat) (b : Bx) (l : List Int), (wrR V n b l).1 ≠ 0 → (wrR V n b l).2 = []
  | 0, b, l, _ => rfl
  | n + 1, b, l, h => by
    unfold wrR at h ⊢
    split
    · rfl
    split
    · rfl
    split
    · rename_i h1 h2 h3; rw [if_neg h1, if_neg h2, if_pos h3] at h; exact absurd rfl h
    split
    · rename_i h1 h2 h3 h4; rw [if_neg h1, if_neg h2, if_neg h3, if_pos h4] at h; exact wrR_nil V n b.snd _ h
    · rfl
theorem wr_wrR {V W : Bx → Bool} {R : Bx} (h : ∀ c : Bx, c.v = true → c.wi R → V c = W c) : ∀ (n : Nat) (b : Bx) (l : List Int), b.v = true → b.wi R → (l.length : Int) + 2 * b.pts ≤ 6001 → b.pts < n →
    (wr V n b l).1 = (wrR W n b l).1 ∧ ((wr V n b l).1 = 0 → (wr V n b l).2 = (wrR W n b l).2 ∧ ((wr V n b l).2.length : Int) + 1 ≤ l.length + 2 * b.pts)
  | 0, b, l, hv, _, _, hn => by have := Bx.pts_pos hv; omega
  | n + 1, b, l, hv, hw, hl, hn => by
    have hp := Bx.pts_pos hv
    have hVW := h b hv hw
    have hl0 : ¬ l.length = 6001 := by omega
    by_cases hb : V b = true
    · have e1 : wr V (n + 1) b l = (0, l ++ [0]) := by rw [wr, if_neg hl0, if_pos hb]
      have e2 : wrR W (n + 1) b l = (0, l ++ [0]) := by rw [wrR, ← hVW, if_neg (by rw [hb]; simp), if_neg hl0, if_pos hb]
      rw [e1, e2]
      exact ⟨rfl, fun _ => ⟨rfl, by simp; omega⟩⟩
    have hb' : V b = false := by simpa using hb
    by_cases ho : b.ok = true
    · obtain ⟨v1, v2, w1, w2, -, hs, -⟩ := Bx.parts hv ho
      have p1 := Bx.pts_pos v1
      have p2 := Bx.pts_pos v2
      have e1 : wr V (n + 1) b l = if (wr V n b.fst (l ++ [1])).1 = 0 then wr V n b.snd (wr V n b.fst (l ++ [1])).2 else wr V n b.fst (l ++ [1]) := by rw [wr, if_neg hl0, if_neg hb, if_pos ho]
      have e2 : wrR W (n + 1) b l = if (wrR W n b.fst (l ++ [1])).1 = 0 then wrR W n b.snd (wrR W n b.fst (l ++ [1])).2 else ((wrR W n b.fst (l ++ [1])).1, []) := by rw [wrR, ← hVW, if_neg (by rw [ho]; simp), if_neg hl0, if_neg hb]
      rw [e1, e2]
      obtain ⟨i1, i2⟩ := wr_wrR h n b.fst (l ++ [1]) v1 (Bx.wi_trans w1 hw) (by simp; omega) (by omega)
      by_cases hc : (wr V n b.fst (l ++ [1])).1 = 0
      · obtain ⟨i3, i4⟩ := i2 hc
        rw [if_pos hc, if_pos (by rw [← i1]; exact hc), ← i3]
        simp only [List.length_append, List.length_singleton] at i4
        obtain ⟨j1, j2⟩ := wr_wrR h n b.snd (wr V n b.fst (l ++ [1])).2 v2 (Bx.wi_trans w2 hw) (by push_cast at i4; omega) (by omega)
        refine ⟨j1, fun k => ?_⟩
        obtain ⟨j3, j4⟩ := j2 k
        exact ⟨j3, by push_cast at i4; omega⟩
      · rw [if_neg hc, if_neg (by rw [← i1]; exact hc)]
        exact ⟨i1, fun k => absurd k hc⟩
    · have e1 : wr V (n + 1) b l = (26, l) := by rw [wr, if_neg hl0, if_neg hb, if_neg ho]
      have e2 : wrR W (n + 1) b l = (26, []) := by rw [wrR, ← hVW, if_pos ⟨hb', by simpa using ho⟩]
      rw [e1, e2]
      exact ⟨rfl, fun k => by simp at k⟩
/-- What ref29.Make answers. -/
def mkR (P : Prob) (x : Loc) (tol : Int) : Int × List Int := if askE P x tol ≠ 0 then (askE P x tol, []) else if x.m < x.l then (26, []) else wrR (lfV P x tol) 6002 P.reg []
theorem mkR_eq (P : Prob) (x : Loc) (tol : Int) (hp : P.reg.pts ≤ 500) : mkR P x tol = mkE P x tol := by
  unfold mkR mkE
  by_cases ha : askE P x tol = 0
  · have hna : ¬ askE P x tol ≠ 0 := by simpa using ha
    rw [if_neg hna, if_neg hna]
    have hS : Sound P := sound_iff.1 (by
      unfold askE at ha
      by_cases h1 : valE P = 0
      · exact h1
      · rw [if_pos h1] at ha; exact absurd ha h1)
    by_cases hm : x.m < x.l
    · rw [if_pos hm, if_pos hm]
    rw [if_neg hm, if_neg hm]
    obtain ⟨h1, h2⟩ := wr_wrR (fun c hv hw => prV_lf hS x tol hv hw) 6002 P.reg [] hS.vb (Bx.wi_refl _) (by simp; omega) (by omega)
    by_cases hc : (wr (prV P x tol) 6002 P.reg []).1 = 0
    · rw [if_pos hc]
      exact Prod.ext h1.symm (h2 hc).1.symm
    · rw [if_neg hc]
      exact Prod.ext h1.symm (wrR_nil _ _ _ _ (by rw [← h1]; exact hc))
  · rw [if_pos ha, if_pos ha]
end Go.Proofs.YtdkckhihleffeaaGreat
