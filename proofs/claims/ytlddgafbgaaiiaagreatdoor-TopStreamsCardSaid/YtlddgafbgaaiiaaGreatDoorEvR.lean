/- Steps, code, calls; regions that draw their order. Of no program. Written by mkevl.py. -/
import Derived.Test.YtlddgafbgaaiiaaGreatDoorEvQ
import Derived.Tactics
import Derived.Orders
set_option linter.all false
namespace Go.Proofs.YtlddgafbgaaiiaaGreatDoor.Evl
open Go

section
variable {P : Program} {T : Tab} {N : Nat} {m m' : Nm} {s s' : St} {w : World} {n : Nat} {A A' : Ac} {a : Act} {v : AV}

theorem Regs.keep (R : Regs m n A a) (hle : m.le m') : Regs m' n A a :=
  ⟨fun t v ht h => by
    obtain ⟨h1, h2⟩ := R.val t v ht h
    obtain ⟨h3, h4⟩ := AV.keep hle h1
    exact ⟨h3, by rw [h4]; exact h2⟩, R.size, R.fits, R.defers⟩
theorem Regs.put (R : Regs m n A a) (hle : m.le m') (hv : v.ok m') {d : Option Tmp} (h : putX n A d v = some A') : Regs m' n A' (a.put d (v.den m')) := by
  unfold putX at h
  cases d with
  | none => simp only [Option.some.injEq] at h; subst h; exact R.keep hle
  | some d =>
    simp only [bifS, Bool.and_eq_true, Nat.blt_eq, Option.some.injEq] at h
    obtain ⟨⟨h1, h2⟩, rfl⟩ := h
    refine ⟨fun t u ht hu => ?_, by simp [Act.put, R.size], Tr.fits_set 5 _ _ _ R.fits, R.defers⟩
    have hg := Tr.get_set 5 A d t (some v) R.fits h2 ht
    rw [show AD = 5 from rfl, hg] at hu
    by_cases e : t = d
    · subst e
      simp only [if_true, Option.some.injEq] at hu
      subst hu
      refine ⟨hv, ?_⟩
      have hs : t < a.tmps.size := by rw [R.size]; exact h1
      simp [Act.put, hs]
    · simp only [e, if_false] at hu
      obtain ⟨h3, h4⟩ := (R.keep hle).val t u ht hu
      exact ⟨h3, by simp [Act.put, Array.getElem?_setIfInBounds_ne (Ne.symm e), h4]⟩

theorem wantX_ok (R : Regs m n A a) {ops : Array Oper} {o : Oper} {b : Bool} (h : wantX ops A o = some b) : Region.wanted o (yielded ops a.tmps) = b := by
  unfold wantX at h
  unfold Region.wanted
  cases hg : o.guard with
  | none => simp only [hg, Option.some.injEq] at h; subst h; rfl
  | some jw =>
    obtain ⟨j, want⟩ := jw
    simp only [hg] at h ⊢
    unfold yielded
    cases ht : (ops[j]?).bind (·.dst) with
    | none => simp [ht] at h
    | some t =>
      simp only [ht] at h ⊢
      split at h
      · rename_i c hx
        simp only [evX, bifS, Nat.blt_eq] at hx
        have := (R.val t _ hx.1 hx.2).2
        simp only [Option.bind_some, this, AV.den, Vl.den, Cl.den, Pv.den]
        simp only [Option.some.injEq] at h
        subst h
        cases c <;> cases want <;> rfl
      · rename_i l hx
        simp only [evX, bifS, Nat.blt_eq] at hx
        have := (R.val t _ hx.1 hx.2).2
        simp only [Option.bind_some, this, AV.den]
        simp only [Option.some.injEq] at h
        subst h
        rfl
      · cases h

theorem put2_ok {s1 : St} {d : Option Tmp} {r : Option (AV × St)} (h : put2 n A s d r = some (A', s1)) : ∃ v, r = some (v, s1) ∧ putX n A d v = some A' ∧ s.next ≤ s1.next := by
  unfold put2 at h
  split at h
  · rename_i v s2
    simp only [bifS, Nat.ble_eq] at h
    obtain ⟨h1, h⟩ := h
    cases hp : putX n A d v with
    | none => simp [hp] at h
    | some A2 =>
      simp only [hp, Option.some.injEq, Prod.mk.injEq] at h
      obtain ⟨rfl, rfl⟩ := h
      exact ⟨v, rfl, hp, h1⟩
  · cases h
theorem step_mono {call : CallT} {ops : Array Oper} {o : Oper} {s1 : St} (h : stepX P T call n ops A s o = some (A', s1)) : s.next ≤ s1.next := by
  unfold stepX stepW at h
  split at h
  · exact (put2_ok h).choose_spec.2.2
  · exact (put2_ok h).choose_spec.2.2
  · cases h
theorem stepsX_cons {call : CallT} {ops : Array Oper} {o : Oper} {l : List Oper} {r : Ac × St} : stepsX P T call n ops (o :: l) A s = some r ↔ ∃ A1 s1, stepX P T call n ops A s o = some (A1, s1) ∧ stepsX P T call n ops l A1 s1 = some r := by
  show (match stepX P T call n ops A s o with | some r => stepsX P T call n ops l r.1 r.2 | none => none) = some r ↔ _
  cases h : stepX P T call n ops A s o with
  | none => simp
  | some x =>
    obtain ⟨A1, s1⟩ := x
    exact ⟨fun h => ⟨A1, s1, rfl, h⟩, fun ⟨_, _, h1, h2⟩ => by cases h1; exact h2⟩
theorem steps_mono {call : CallT} {ops : Array Oper} : ∀ {l : List Oper} {A A' : Ac} {s s1 : St}, stepsX P T call n ops l A s = some (A', s1) → s.next ≤ s1.next
  | [], A, A', s, s1, h => by cases h; exact Nat.le_refl _
  | o :: l, A, A', s, s1, h => by
    obtain ⟨A1, s2, h1, h2⟩ := stepsX_cons.1 h
    exact Nat.le_trans (step_mono h1) (steps_mono h2)

theorem Fresh.left {s1 : St} (h : Fresh m s s') (h1 : s1.next ≤ s'.next) : Fresh m s s1 := fun n a b => h n a (Nat.lt_of_lt_of_le b h1)
theorem Fresh.right {s1 : St} {w' : World} (h : Fresh m s s') (hd : Did N m s s1 w m' w') : Fresh m' s1 s' := fun n a b c => by
  rcases hd.dom n c with h1 | ⟨h1, h2⟩
  · exact h n (Nat.le_trans hd.nx a) b h1
  · omega

/-- One operation of a region. -/
theorem step_ok (G : Good P T) (R : Regs m n A a) (hr : Rep N m s.H w) (hN : N ≤ w.heap.size) {call : CallT} (C : CallOk P N call) {ops : Array Oper} {o : Oper} {s1 : St} (h : stepX P T call n ops A s o = some (A', s1)) (hf : Fresh m s s1) (hl : Low s)
    {K : Act → World → Prop} {Q : Exit → Act → World → Prop} (hK : ∀ m' a' w', Regs m' n A' a' → Did N m s s1 w m' w' → K a' w') :
    if Region.wanted o (yielded ops a.tmps) then o.wp P a w K Q else K (a.put o.dst undef) w := by
  unfold stepX stepW at h
  split at h
  · rename_i hw
    obtain ⟨v, hv, hp, -⟩ := put2_ok h
    rw [if_pos (wantX_ok R hw)]
    exact Upon.wp (op_ok G R hr hN hf hl C hv) fun m' w' hv' hd => hK m' _ w' (R.put hd.le hv' hp) hd
  · rename_i hw
    obtain ⟨v, hv, hp, -⟩ := put2_ok h
    simp only [Option.some.injEq, Prod.mk.injEq] at hv
    obtain ⟨rfl, rfl⟩ := hv
    rw [if_neg (by rw [wantX_ok R hw]; simp)]
    have hput := R.put (Nm.le.refl m) (v := .tup []) (by simp [AV.ok]) hp
    exact hK m _ w hput (Did.refl hr)
  · cases h

theorem steps_ok (G : Good P T) {call : CallT} (C : CallOk P N call) {ops : Array Oper} {Q : Exit → Act → World → Prop} : ∀ {l : List Oper} {A A' : Ac} {s s' : St} {m : Nm} {a : Act} {w : World},
    stepsX P T call n ops l A s = some (A', s') → Regs m n A a → Rep N m s.H w → N ≤ w.heap.size → Fresh m s s' → Low s →
    (∀ m' a' w', Regs m' n A' a' → Did N m s s' w m' w' → Q .normal a' w') → wpList P ops Q l a w
  | [], A, A', s, s', m, a, w, h, R, hr, hN, hf, hl, hQ => by
    cases h
    exact hQ m a w R (Did.refl hr)
  | o :: l, A, A', s, s', m, a, w, h, R, hr, hN, hf, hl, hQ => by
    obtain ⟨A1, s1, h1, h2⟩ := stepsX_cons.1 h
    refine wpList_step fun K hK => ?_
    have hs := steps_mono h2
    refine step_ok G R hr hN C h1 (hf.left hs) hl fun m' a' w' R' hd => hK _ _ ?_
    exact steps_ok G C h2 R' hd.rep (Nat.le_trans hN hd.size) (hf.right hd) (hd.low hl) fun m2 a2 w2 R2 hd2 => hQ m2 a2 w2 R2 (hd.trans hd2)

def Ex.den : Ex → Exit
  | .normal => .normal
  | .exit id => .exit id
  | .ret => .ret

/-- A loop, from its round's start on. -/
def LoopW (P : Program) (c : Code) (Q : Exit → Act → World → Prop) (a : Act) (w : World) : Prop :=
  ∀ (b : Frame) (k : List Item) (cs : List Frame), ∃ e a' w', Q e a' w' ∧ Arrives P (lone (b.at a (.code c :: .inLoop c :: k)) cs w) b k cs e a' w'
theorem LoopW.wp {c : Code} {Q : Exit → Act → World → Prop} (h : LoopW P c Q a w) : (Code.loop c).wp P Q a w := fun b k cs => by
  obtain ⟨e, a', w', hq, harr⟩ := h b k cs
  exact ⟨e, a', w', hq, .of_steps (.one step_loop) harr⟩
theorem LoopW.of {c : Code} {Q : Exit → Act → World → Prop} (h : c.wp P (Exit.then (LoopW P c Q) Q) a w) : LoopW P c Q a w := fun b k cs => by
  obtain ⟨e, a₁, w₁, hq, harr⟩ := h b (.inLoop c :: k) cs
  cases e with
  | normal =>
    obtain ⟨e₂, a₂, w₂, hq₂, harr₂⟩ := hq b k cs
    exact ⟨e₂, a₂, w₂, hq₂, .of_steps (Steps.trans harr (.one step_inLoop)) harr₂⟩
  | exit id => exact ⟨_, a₁, w₁, hq, .pass (x := .inLoop c) rfl (fun _ _ => .inl (by simp)) harr⟩
  | goto l => exact ⟨_, a₁, w₁, hq, .pass (x := .inLoop c) rfl (fun _ _ => .inl (by simp)) harr⟩
  | ret => exact ⟨_, a₁, w₁, hq, .pass (x := .inLoop c) rfl (fun _ _ => .inl (by simp)) harr⟩
  | panic ch => exact ⟨_, a₁, w₁, hq, .pass (x := .inLoop c) rfl (fun _ _ => .inl (by simp)) harr⟩
  | outgrown => exact ⟨_, a₁, w₁, hq, .pass (x := .inLoop c) rfl (fun _ _ => .inl (by simp)) harr⟩
end
end Go.Proofs.YtlddgafbgaaiiaaGreatDoor.Evl

namespace Go.Proofs.YtlddgafbgaaiiaaGreatDoor.Evl
open Go

section
variable {P : Program} {T : Tab} {N : Nat} {m m' : Nm} {s s' : St} {w : World} {n : Nat} {A A' : Ac} {a : Act} {v : AV}

/-- What is wanted of regions that draw their order. -/
def DrawOk (P : Program) (T : Tab) (N : Nat) (n : Nat) (call : CallT) : Prop := ∀ (id : Nat) (ops : Array Oper) (A : Ac) (s : St) (A' : Ac) (s' : St), evDraw P T call n ops A s = some (A', s') → s.next ≤ s'.next ∧
  ∀ m a w Q, Regs m n A a → Rep N m s.H w → N ≤ w.heap.size → Fresh m s s' → Low s → (∀ m' a' w', Regs m' n A' a' → Did N m s s' w m' w' → Q .normal a' w') → (Code.region id ops true).wp P Q a w

theorem evSeq_ok {ih : RunT} {b : Code} {r : Option (Ex × Ac × St)} {x : Ex × Ac × St} (h : evSeq ih b r = some x) : (∃ A1 s1, r = some (.normal, A1, s1) ∧ ih b A1 s1 = some x) ∨ (r = some x ∧ x.1 ≠ .normal) := by
  unfold evSeq at h
  split at h
  · exact .inl ⟨_, _, rfl, h⟩
  · rename_i hne
    subst h
    obtain ⟨e, A1, s1⟩ := x
    exact .inr ⟨rfl, fun he => by cases he; exact hne _ _ rfl⟩
theorem evC_succ {call : CallT} {k : Nat} {c : Code} : evC P T call n (k + 1) c A s = evC1 P T call n (evC P T call n k) c A s := rfl

theorem evC_mono {call : CallT} (D : DrawOk P T N n call) : ∀ {k : Nat} {c : Code} {A A' : Ac} {s s' : St} {ex : Ex}, evC P T call n k c A s = some (ex, A', s') → s.next ≤ s'.next
  | 0, c, A, A', s, s', ex, h => by cases h
  | k + 1, c, A, A', s, s', ex, h => by
    rw [evC_succ] at h
    cases c with
    | skip => cases h; exact Nat.le_refl _
    | label l => cases h; exact Nat.le_refl _
    | exit id => cases h; exact Nat.le_refl _
    | ret => cases h; exact Nat.le_refl _
    | region id ops draw =>
      simp only [evC1] at h
      cases draw with
      | true =>
        simp only [cond_true] at h
        cases hs : evDraw P T call n ops A s with
        | none => simp [hs, evReg] at h
        | some r =>
          obtain ⟨A1, s1⟩ := r
          simp only [hs, evReg, Option.some.injEq, Prod.mk.injEq] at h
          obtain ⟨-, rfl, rfl⟩ := h
          exact (D id ops A s _ _ hs).1
      | false =>
        simp only [cond_false] at h
        cases hs : stepsX P T call n ops ops.toList A s with
        | none => simp [hs, evReg] at h
        | some r =>
          obtain ⟨A1, s1⟩ := r
          simp only [hs, evReg, Option.some.injEq, Prod.mk.injEq] at h
          obtain ⟨-, rfl, rfl⟩ := h
          exact steps_mono hs
    | seq x y =>
      simp only [evC1] at h
      rcases evSeq_ok h with ⟨A1, s1, h1, h2⟩ | ⟨h1, -⟩
      · exact Nat.le_trans (evC_mono D h1) (evC_mono D h2)
      · exact evC_mono D h1
    | cond x y z =>
      simp only [evC1, evCond] at h
      split at h
      · exact evC_mono D h
      · exact evC_mono D h
      · cases h
    | block id b =>
      simp only [evC1, evBlk] at h
      split at h
      · rename_i j A1 s1 hb
        cases hj : Nat.beq j id <;> simp only [hj, cond_true, cond_false, Option.some.injEq, Prod.mk.injEq] at h <;> obtain ⟨-, rfl, rfl⟩ := h <;> exact evC_mono D hb
      · exact evC_mono D h
    | loop b =>
      simp only [evC1] at h
      rcases evSeq_ok h with ⟨A1, s1, h1, h2⟩ | ⟨h1, -⟩
      · exact Nat.le_trans (evC_mono D h1) (evC_mono D h2)
      · exact evC_mono D h1
    | _ => cases h

/-- Code. -/
theorem evC_ok (G : Good P T) {call : CallT} (C : CallOk P N call) (D : DrawOk P T N n call) : ∀ {k : Nat} {c : Code} {A A' : Ac} {s s' : St} {ex : Ex} {m : Nm} {a : Act} {w : World} {Q : Exit → Act → World → Prop},
    evC P T call n k c A s = some (ex, A', s') → Regs m n A a → Rep N m s.H w → N ≤ w.heap.size → Fresh m s s' → Low s →
    (∀ m' a' w', Regs m' n A' a' → Did N m s s' w m' w' → Q ex.den a' w') → c.wp P Q a w ∧ ∀ b, c = .loop b → LoopW P b Q a w
  | 0, c, A, A', s, s', ex, m, a, w, Q, h, _, _, _, _, _, _ => by cases h
  | k + 1, c, A, A', s, s', ex, m, a, w, Q, h, R, hr, hN, hf, hl, hQ => by
    rw [evC_succ] at h
    cases c with
    | skip => cases h; exact ⟨wp_skip (hQ m a w R (Did.refl hr)), fun b e => by cases e⟩
    | label l => cases h; exact ⟨wp_label (hQ m a w R (Did.refl hr)), fun b e => by cases e⟩
    | exit id => cases h; exact ⟨wp_exit (hQ m a w R (Did.refl hr)), fun b e => by cases e⟩
    | ret => cases h; exact ⟨wp_ret (hQ m a w R (Did.refl hr)), fun b e => by cases e⟩
    | region id ops draw =>
      refine ⟨?_, fun b e => by cases e⟩
      simp only [evC1] at h
      cases draw with
      | true =>
        simp only [cond_true] at h
        cases hs : evDraw P T call n ops A s with
        | none => simp [hs, evReg] at h
        | some r =>
          obtain ⟨A1, s1⟩ := r
          simp only [hs, evReg, Option.some.injEq, Prod.mk.injEq] at h
          obtain ⟨rfl, rfl, rfl⟩ := h
          exact (D id ops A s _ _ hs).2 m a w Q R hr hN hf hl hQ
      | false =>
        simp only [cond_false] at h
        cases hs : stepsX P T call n ops ops.toList A s with
        | none => simp [hs, evReg] at h
        | some r =>
          obtain ⟨A1, s1⟩ := r
          simp only [hs, evReg, Option.some.injEq, Prod.mk.injEq] at h
          obtain ⟨rfl, rfl, rfl⟩ := h
          exact wp_region_list (steps_ok G C hs R hr hN hf hl hQ)
    | seq x y =>
      refine ⟨?_, fun b e => by cases e⟩
      simp only [evC1] at h
      rcases evSeq_ok h with ⟨A1, s1, h1, h2⟩ | ⟨h1, hne⟩
      · exact wp_seq (evC_ok G C D h1 R hr hN (hf.left (evC_mono D h2)) hl fun m1 a1 w1 R1 hd => (evC_ok G C D h2 R1 hd.rep (Nat.le_trans hN hd.size) (hf.right hd) (hd.low hl) fun m2 a2 w2 R2 hd2 => hQ m2 a2 w2 R2 (hd.trans hd2)).1).1
      · refine wp_seq (evC_ok G C D h1 R hr hN hf hl fun m1 a1 w1 R1 hd => ?_).1
        have := hQ m1 a1 w1 R1 hd
        cases ex with
        | normal => exact absurd rfl hne
        | exit id => exact this
        | ret => exact this
    | cond x y z =>
      refine ⟨?_, fun b e => by cases e⟩
      simp only [evC1, evCond] at h
      split at h
      · rename_i hx
        exact wp_cond_true (pureX_ok R hx) (evC_ok G C D h R hr hN hf hl hQ).1
      · rename_i hx
        exact wp_cond_false (pureX_ok R hx) (evC_ok G C D h R hr hN hf hl hQ).1
      · cases h
    | block id b =>
      refine ⟨?_, fun b e => by cases e⟩
      simp only [evC1, evBlk] at h
      split at h
      · rename_i j A1 s1 hb
        cases hj : Nat.beq j id with
        | true =>
          simp only [hj, cond_true, Option.some.injEq, Prod.mk.injEq] at h
          obtain ⟨rfl, rfl, rfl⟩ := h
          have hji : j = id := by simpa using hj
          refine wp_block (evC_ok G C D hb R hr hN hf hl fun m1 a1 w1 R1 hd => ?_).1
          simp only [Ex.den, Exit.inBlock, hji, if_true]
          exact hQ m1 a1 w1 R1 hd
        | false =>
          simp only [hj, cond_false, Option.some.injEq, Prod.mk.injEq] at h
          obtain ⟨rfl, rfl, rfl⟩ := h
          have hji : j ≠ id := fun e => by subst e; simp at hj
          refine wp_block (evC_ok G C D hb R hr hN hf hl fun m1 a1 w1 R1 hd => ?_).1
          simp only [Ex.den, Exit.inBlock, hji, if_false]
          exact hQ m1 a1 w1 R1 hd
      · rename_i hne
        refine wp_block (evC_ok G C D h R hr hN hf hl fun m1 a1 w1 R1 hd => ?_).1
        have := hQ m1 a1 w1 R1 hd
        cases ex with
        | normal => exact this
        | exit j => exact absurd h (hne j A' s')
        | ret => exact this
    | loop b =>
      simp only [evC1] at h
      have hl : LoopW P b Q a w := by
        refine LoopW.of ?_
        rcases evSeq_ok h with ⟨A1, s1, h1, h2⟩ | ⟨h1, hne⟩
        · exact (evC_ok G C D h1 R hr hN (hf.left (evC_mono D h2)) hl fun m1 a1 w1 R1 hd => (evC_ok G C D h2 R1 hd.rep (Nat.le_trans hN hd.size) (hf.right hd) (hd.low hl) fun m2 a2 w2 R2 hd2 => hQ m2 a2 w2 R2 (hd.trans hd2)).2 b rfl).1
        · refine (evC_ok G C D h1 R hr hN hf hl fun m1 a1 w1 R1 hd => ?_).1
          have := hQ m1 a1 w1 R1 hd
          cases ex with
          | normal => exact absurd rfl hne
          | exit id => exact this
          | ret => exact this
      exact ⟨hl.wp, fun b' e => by cases e; exact hl⟩
    | _ => cases h

theorem layA_ok : ∀ (l : List AV) (i : Nat) (A : Ac), A.fits 5 → i + l.length ≤ 1024 →
    (layA l i A).fits 5 ∧ ∀ t, t < 1024 → (layA l i A).get t = if i ≤ t ∧ t < i + l.length then l[t - i]? else A.get t
  | [], i, A, hf, _ => ⟨hf, fun t _ => by rw [if_neg (by simp only [List.length_nil]; omega)]; rfl⟩
  | x :: l, i, A, hf, hl => by
    simp only [List.length_cons] at hl
    have hi : i < 4 ^ 5 := by omega
    obtain ⟨h1, h2⟩ := layA_ok l (i + 1) (A.set AD i (some x)) (Tr.fits_set 5 _ _ _ hf) (by omega)
    refine ⟨h1, fun t ht => (h2 t ht).trans ?_⟩
    simp only [List.length_cons]
    have hg := Tr.get_set 5 A i t (some x) hf hi ht
    by_cases e : t = i
    · subst e
      rw [if_neg (by omega), if_pos (by omega), show AD = 5 from rfl, hg]
      simp
    · by_cases h3 : i + 1 ≤ t ∧ t < i + 1 + l.length
      · rw [if_pos h3, if_pos (by omega), show t - i = (t - (i + 1)) + 1 by omega, List.getElem?_cons_succ]
      · rw [if_neg h3, if_neg (by omega), show AD = 5 from rfl, hg, if_neg e]

theorem start_regs {args : List AV} (h1 : args.length ≤ 1024) {nt : Nat} (ha : ∀ x ∈ args, x.ok m) :
    Regs m (args.length + (nt - args.length)) (layA args 0 (.leaf none)) { tmps := (args.map (AV.den m)).toArray ++ Array.replicate (nt - (args.map (AV.den m)).toArray.size) undef, defers := [] } := by
  obtain ⟨h2, h3⟩ := layA_ok args 0 (.leaf none) (Tr.fits_none 5) (by simpa using h1)
  refine ⟨fun t v ht hv => ?_, by simp, h2, rfl⟩
  rw [h3 t ht] at hv
  split at hv
  · rename_i hlt
    simp only [Nat.sub_zero] at hv
    refine ⟨ha v (List.mem_of_getElem? hv), ?_⟩
    have hl : t < args.length := by omega
    rw [Array.getElem?_append_left (by simpa using hl)]
    simp [hv]
  · cases hv

def resOne (a : Act) : ResultVar → Sem Value
  | .tmp t => pure (a.tmps.getD t undef)
  | .cell b t => do loadVar t (← asAddr (a.tmps.getD b undef))

theorem resX_ok (G : Good P T) (R : Regs m n A a) (hr : Rep N m s.H w) : ∀ {l : List ResultVar} {vs : List Vl}, resX T A s l = some vs → (∀ v ∈ vs, v.ok m) ∧
    (l.mapM (resOne a)).run P w = .ok (vs.map (Vl.den m)) w
  | [], vs, h => by cases h; exact ⟨by simp, by simp⟩
  | .tmp t :: l, vs, h => by
    simp only [resX] at h
    split at h
    · rename_i x hx
      obtain ⟨r, hr', rfl⟩ := Option.map_eq_some_iff.1 h
      obtain ⟨h1, h2⟩ := resX_ok G R hr hr'
      obtain ⟨h3, h4⟩ := evX_ok R hx
      refine ⟨fun v hv => (List.mem_cons.1 hv).elim (fun e => e ▸ h3) (h1 v), ?_⟩
      have h5 : (resOne a (.tmp t)).run P w = .ok (x.den m) w := congrArg (fun v => Result.ok v w) h4
      simp only [List.mapM_cons, Sem.run_bind, h5, Result.andThen_ok, h2, Sem.run_pure, List.map_cons]
    · cases h
  | .cell b t :: l, vs, h => by
    simp only [resX] at h
    split at h
    · rename_i k o hx
      obtain ⟨y, hy, h⟩ := Option.bind_eq_some_iff.1 h
      obtain ⟨r, hr', rfl⟩ := Option.map_eq_some_iff.1 h
      obtain ⟨h1, h2⟩ := resX_ok G R hr hr'
      obtain ⟨h3, h4⟩ := evX_ok R hx
      obtain ⟨h5, h6⟩ := ldVar_ok G hr h3 hy
      refine ⟨fun v hv => (List.mem_cons.1 hv).elim (fun e => e ▸ h6) (h1 v), ?_⟩
      have h4' : a.tmps.getD b undef = .pointer (some ⟨m.ρ k, o, none⟩) := h4
      have h7 : (resOne a (.cell b t)).run P w = .ok (y.den m) w := by simp only [resOne, h4', asAddr, Sem.run_bind, Sem.run_pure, Result.andThen_ok, h5]
      simp only [List.mapM_cons, Sem.run_bind, h7, Result.andThen_ok, h2, Sem.run_pure, List.map_cons]
    · cases h

theorem results_eq (fn : Func) (a : Act) : results fn a.tmps = (fn.results.mapM (resOne a) >>= fun vs => pure (if h : vs.size = 1 then vs[0] else .tuple vs)) := by
  unfold results
  congr 2

theorem evEnd_ok (G : Good P T) {fn : Func} {ex : Ex} (hr : Rep N m s.H w) (R : Regs m n A a) (h : evEnd T fn (some (ex, A, s)) = some (v, s')) :
    s' = s ∧ (∀ id, ex ≠ .exit id) ∧ (results fn a.tmps).run P w = .ok (v.den m) w ∧ v.ok m := by
  have hex : ∀ id, ex ≠ .exit id := fun id e => by subst e; cases h
  have h' : (match resX T A s fn.results.toList with
    | some [v] => some (AV.o v, s)
    | some l => some (.tup l, s)
    | none => none) = some (v, s') := by
    cases ex with
    | exit id => exact absurd rfl (hex id)
    | normal => exact h
    | ret => exact h
  cases hx : resX T A s fn.results.toList with
  | none => simp [hx] at h'
  | some vs =>
    obtain ⟨h1, h2⟩ := resX_ok (P := P) (a := a) G R hr hx
    have hres : (results fn a.tmps).run P w = .ok (if h : (vs.map (Vl.den m)).toArray.size = 1 then (vs.map (Vl.den m)).toArray[0] else .tuple (vs.map (Vl.den m)).toArray) w := by
      rw [results_eq]
      simp only [Sem.run_bind, Array.mapM_eq_mapM_toList, Sem.run_map, h2, Result.andThen_ok, Sem.run_pure]
    rw [hx] at h'
    clear h hx
    rcases vs with _ | ⟨y, _ | ⟨z, l⟩⟩
    · simp only [Option.some.injEq, Prod.mk.injEq] at h'
      obtain ⟨rfl, rfl⟩ := h'
      exact ⟨rfl, hex, hres.trans (by simp [AV.den]), h1⟩
    · simp only [Option.some.injEq, Prod.mk.injEq] at h'
      obtain ⟨rfl, rfl⟩ := h'
      exact ⟨rfl, hex, hres.trans (by simp [AV.den]), h1 y (by simp)⟩
    · simp only [Option.some.injEq, Prod.mk.injEq] at h'
      obtain ⟨rfl, rfl⟩ := h'
      exact ⟨rfl, hex, hres.trans (by simp [AV.den]), h1⟩

/-- Functions: what the evaluator says, the machine does. -/
theorem evF1_ok (G : Good P T) (D : ∀ n call, CallOk P N call → DrawOk P T N n call) (fuel : Nat) {ih : CallT} (C : CallOk P N ih) : CallOk P N (evF1 P T fuel ih) :=
  fun f args s v s' h => by
    unfold evF1 at h
    split at h
    case h_2 => cases h
    rename_i fn hfn
    rw [bifS, Nat.blt_eq] at hfn
    obtain ⟨h1, h2⟩ := G.F f fn hfn.1 hfn.2
    split at h
    case h_2 => cases h
    rename_i b hb
    refine ⟨⟨fn, h1, h2, by simp [hb]⟩, fun m w hr hN hf hl ha => ?_⟩
    unfold evBody at h
    simp only [bifS, Bool.and_eq_true, Nat.ble_eq] at h
    obtain ⟨⟨h3, h4⟩, h⟩ := h
    cases hc : evC P T ih (args.length + (fn.ntmps - args.length)) fuel b (layA args 0 (.leaf none)) s with
    | none => rw [hc] at h; cases h
    | some r =>
      obtain ⟨ex, A', s1⟩ := r
      rw [hc] at h
      have hs1 : s' = s1 := by
        cases ex <;> first
          | (cases h; done)
          | (simp only [evEnd] at h; split at h <;> first | (cases h; done) | (simp only [Option.some.injEq, Prod.mk.injEq] at h; exact h.2.symm))
      subst hs1
      refine calls_of_wp h1 hb (evC_ok G C (D _ _ C) hc (start_regs h3 ha) hr hN hf hl fun m' a' w' R' hd => ?_).1
      obtain ⟨-, hex, hres, hv⟩ := evEnd_ok (P := P) G hd.rep R' h
      cases ex with
      | exit id => exact absurd rfl (hex id)
      | normal => exact ⟨R'.defers, _, hres, m', rfl, hv, hd⟩
      | ret => exact ⟨R'.defers, _, hres, m', rfl, hv, hd⟩
theorem evF_ok (G : Good P T) (D : ∀ n call, CallOk P N call → DrawOk P T N n call) (fuel : Nat) : ∀ k, CallOk P N (evF P T fuel k)
  | 0 => fun f args s v s' h => by cases h
  | k + 1 => evF1_ok G D fuel (evF_ok G D fuel k)
theorem evG_ok (G : Good P T) (D : ∀ n call, CallOk P N call → DrawOk P T N n call) {HK : CallT} (H : CallOk P N HK) (fuel : Nat) : ∀ k, CallOk P N (evG P T HK fuel k)
  | 0 => H
  | k + 1 => fun f args s v s' h => by
    change (match HK f args s with
      | some r => some r
      | none => evF1 P T fuel (evG P T HK fuel k) f args s) = some (v, s') at h
    split at h
    · rename_i r hr
      cases h
      exact H f args s v s' hr
    · exact evF1_ok G D fuel (evG_ok G D H fuel k) f args s v s' h
end
end Go.Proofs.YtlddgafbgaaiiaaGreatDoor.Evl

namespace Go.Proofs.YtlddgafbgaaiiaaGreatDoor.Evl
open Go

/-- What the last that touched a place has left there. -/
def ov {α : Type} (base : Nat → Option α) (L : Nat → Bool) (tc : Nat → Nat → Bool) (val : Nat → Nat → Option α) : Nat → Nat → Option α
  | 0, x => base x
  | k + 1, x => if L k = true ∧ tc k x = true then val k x else ov base L tc val k x

section
variable {α : Type} {base : Nat → Option α} {L L' : Nat → Bool} {tc : Nat → Nat → Bool} {val : Nat → Nat → Option α}
theorem ov_congr : ∀ (n x : Nat), (∀ k, k < n → tc k x = true → L k = L' k) → ov base L tc val n x = ov base L' tc val n x
  | 0, x, _ => rfl
  | n + 1, x, h => by
    simp only [ov]
    rw [ov_congr n x fun k hk ht => h k (Nat.lt_succ_of_lt hk) ht]
    cases ht : tc n x with
    | false => simp
    | true => rw [h n (Nat.lt_succ_self n) ht]
theorem ov_base : ∀ (n x : Nat), (∀ k, k < n → L k = true → tc k x = false) → ov base L tc val n x = base x
  | 0, x, _ => rfl
  | n + 1, x, h => by
    simp only [ov]
    rw [if_neg (fun ⟨h1, h2⟩ => by rw [h n (Nat.lt_succ_self n) h1] at h2; cases h2)]
    exact ov_base n x fun k hk => h k (Nat.lt_succ_of_lt hk)
theorem ov_upto {j : Nat} : ∀ (n x : Nat), j ≤ n → (∀ k, j ≤ k → k < n → L k = true → tc k x = false) → ov base L tc val n x = ov base L tc val j x
  | 0, x, h, _ => by rw [Nat.le_zero.1 h]
  | n + 1, x, h, hk => by
    rcases Nat.lt_or_ge j (n + 1) with h1 | h1
    · simp only [ov]
      rw [if_neg (fun ⟨h2, h3⟩ => by rw [hk n (by omega) (Nat.lt_succ_self n) h2] at h3; cases h3)]
      exact ov_upto n x (by omega) fun k a b => hk k a (by omega)
    · have : j = n + 1 := by omega
      rw [this]
theorem ov_hit {i n x : Nat} (hi : i < n) (hL : L i = true) (ht : tc i x = true) (h : ∀ k, i < k → k < n → L k = true → tc k x = false) : ov base L tc val n x = val i x := by
  rw [ov_upto (j := i + 1) n x hi fun k a b => h k a b]
  simp only [ov]
  rw [if_pos ⟨hL, ht⟩]
theorem ov_add {i n x : Nat} (ht : tc i x = false) : ov base (fun k => L k || Nat.beq k i) tc val n x = ov base L tc val n x :=
  ov_congr n x fun k _ hk => by
    cases hb : Nat.beq k i with
    | false => simp
    | true => rw [Nat.beq_eq] at hb; subst hb; rw [ht] at hk; cases hk
theorem ov_some {n x : Nat} {v : α} (h : ov base L tc val n x = some v) : base x = some v ∨ ∃ k, k < n ∧ L k = true ∧ tc k x = true ∧ val k x = some v := by
  induction n with
  | zero => exact .inl h
  | succ n ih =>
    simp only [ov] at h
    by_cases hc : L n = true ∧ tc n x = true
    · rw [if_pos hc] at h
      exact .inr ⟨n, Nat.lt_succ_self n, hc.1, hc.2, h⟩
    · rw [if_neg hc] at h
      rcases ih h with h1 | ⟨k, h1, h2⟩
      · exact .inl h1
      · exact .inr ⟨k, Nat.lt_succ_of_lt h1, h2⟩
end

/-- What a memory that is known by its places says. -/
structure RepF (N : Nat) (m : Nm) (h : Nat → Option Bk) (w : World) : Prop where
  live : ∀ n b, h n = some b → m.dom n ∧ N ≤ m.ρ n ∧ m.ρ n < w.heap.size ∧ b.at m n w.heap[m.ρ n]?
  bound : ∀ n, m.dom n → n < 16384
  inj : ∀ n k b c, h n = some b → h k = some c → m.ρ n = m.ρ k → n = k

/-- A change that writes no old place below lo. -/
structure Dd (N : Nat) (m : Nm) (h : Nat → Option Bk) (lo : Nat) (w : World) (m' : Nm) (h' : Nat → Option Bk) (w' : World) (D : Nat → Prop) : Prop where
  le : m.le m'
  rep : RepF N m' h' w'
  dom : ∀ n, m'.dom n → m.dom n ∨ D n
  size : w.heap.size ≤ w'.heap.size
  live : ∀ n b, h' n = some b → m.dom n → ∃ c, h n = some c
  same : ∀ n, m.dom n → n < lo → h' n = h n
  fresh : ∀ n, m'.dom n → ¬ m.dom n → w.heap.size ≤ m'.ρ n ∨ ∃ k c, lo ≤ k ∧ h k = some c ∧ m'.ρ n = m.ρ k
  frame : ∀ b, b < w.heap.size → (∀ n c, h n = some c → lo ≤ n → m.ρ n ≠ b) → w'.heap[b]? = w.heap[b]?
  os : w'.os = w.os
  tape : w'.tape = w.tape
  output : w'.output = w.output

theorem Dd.trans {N : Nat} {m m1 m2 : Nm} {h h1 h2 : Nat → Option Bk} {lo : Nat} {w w1 w2 : World} {D D' : Nat → Prop} (a : Dd N m h lo w m1 h1 w1 D) (b : Dd N m1 h1 lo w1 m2 h2 w2 D') : Dd N m h lo w m2 h2 w2 (fun n => D n ∨ D' n) where
  le := a.le.trans b.le
  rep := b.rep
  dom n hn := (b.dom n hn).elim (fun x => (a.dom n x).imp id .inl) fun x => .inr (.inr x)
  size := Nat.le_trans a.size b.size
  live n x hb hn := by
    obtain ⟨c, hc⟩ := b.live n x hb (a.le n hn).1
    exact a.live n c hc hn
  same n hn hlt := (b.same n (a.le n hn).1 hlt).trans (a.same n hn hlt)
  fresh n hn hnot := by
    by_cases h1 : m1.dom n
    · rw [(b.le n h1).2.1]
      exact a.fresh n h1 hnot
    · rcases b.fresh n hn h1 with h2 | ⟨k, c, h2, h3, h4⟩
      · exact .inl (Nat.le_trans a.size h2)
      · have hk := (a.rep.live k c h3).1
        by_cases hkm : m.dom k
        · obtain ⟨d, hd⟩ := a.live k c h3 hkm
          exact .inr ⟨k, d, h2, hd, by rw [h4, (a.le k hkm).2.1]⟩
        · rcases a.fresh k hk hkm with h5 | ⟨j, d, h5, h6, h7⟩
          · exact .inl (by rw [h4]; exact h5)
          · exact .inr ⟨j, d, h5, h6, by rw [h4, h7]⟩
  frame x hb hf := by
    have h1 : w1.heap[x]? = w.heap[x]? := a.frame x hb hf
    rw [← h1]
    refine b.frame x (Nat.lt_of_lt_of_le hb a.size) fun n c hc hn => ?_
    have hd := (a.rep.live n c hc).1
    by_cases hm : m.dom n
    · obtain ⟨d, hd'⟩ := a.live n c hc hm
      rw [(a.le n hm).2.1]; exact hf n d hd' hn
    · rcases a.fresh n hd hm with h5 | ⟨j, d, h5, h6, h7⟩
      · omega
      · rw [h7]; exact hf j d h6 h5
  os := b.os.trans a.os
  tape := b.tape.trans a.tape
  output := b.output.trans a.output

/-- A step that saw a part of the memory, seen in the whole of it. -/
theorem Dd.of {N : Nat} {m m' : Nm} {h h' : Nat → Option Bk} {lo : Nat} {w w' : World} {s s' : St} {tc : Nat → Bool} {wr : List Nat} (hr : RepF N m h w) (hd : Did N m s s' w m' w')
    (hsub : ∀ x b, s.H.at x = some b → h x = some b) (hwr : ∀ k c, s.H.at k = some c → s'.wlo ≤ k → k ∈ wr) (hlo : ∀ k, k ∈ wr → lo ≤ k)
    (htc : ∀ x, tc x = true ↔ x ∈ wr ∨ (s.next ≤ x ∧ x < s'.next)) (hf : Fresh m s s') (hh : ∀ x, h' x = if tc x = true then s'.H.at x else h x) :
    Dd N m h lo w m' h' w' (fun x => s.next ≤ x ∧ x < s'.next) := by
  have old : ∀ x b, tc x ≠ true → h x = some b → m'.ρ x = m.ρ x ∧ m'.dom x ∧ N ≤ m.ρ x ∧ m.ρ x < w.heap.size ∧ b.at m' x w'.heap[m.ρ x]? := fun x b ht hx => by
    obtain ⟨h1, h2, h3, h4⟩ := hr.live x b hx
    refine ⟨(hd.le x h1).2.1, (hd.le x h1).1, h2, h3, ?_⟩
    rw [hd.frame _ h3 fun k c hc hk e => ht ((htc x).2 (.inl ?_))]
    · exact Bk.keep hd.le h1 h4
    · have := hr.inj k x c b (hsub k c hc) hx e
      subst this
      exact hwr k c hc hk
  have mixed : ∀ x y b c, tc x = true → s'.H.at x = some b → tc y ≠ true → h y = some c → m'.ρ x ≠ m.ρ y := fun x y b c tx hx ty hy e => by
    have hxd := (hd.rep.live x b hx).1
    by_cases hm : m.dom x
    · obtain ⟨d, hd'⟩ := hd.live x b hx hm
      rw [(hd.le x hm).2.1] at e
      have := hr.inj x y d c (hsub x d hd') hy e
      subst this
      exact ty tx
    · rcases hd.fresh x hxd hm with h1 | ⟨k, d, h1, h2, h3⟩
      · have := (hr.live y c hy).2.2.1
        omega
      · rw [h3] at e
        have := hr.inj k y d c (hsub k d h2) hy e
        subst this
        exact ty ((htc k).2 (.inl (hwr k d h2 h1)))
  refine ⟨hd.le, ⟨fun x b hx => ?_, hd.rep.bound, fun x y b c hx hy e => ?_⟩, hd.dom, hd.size, fun x b hx hm => ?_, fun x hm hlt => ?_, fun x hx hnot => ?_, fun b hb hfr => ?_, hd.os, hd.tape, hd.output⟩
  · rw [hh] at hx
    by_cases ht : tc x = true
    · rw [if_pos ht] at hx
      exact hd.rep.live x b hx
    · rw [if_neg ht] at hx
      obtain ⟨h1, h2, h3, h4, h5⟩ := old x b ht hx
      rw [h1]
      exact ⟨h2, h3, Nat.lt_of_lt_of_le h4 hd.size, h5⟩
  · rw [hh] at hx hy
    by_cases tx : tc x = true <;> by_cases ty : tc y = true
    · rw [if_pos tx] at hx
      rw [if_pos ty] at hy
      exact hd.rep.inj x y b c hx hy e
    · rw [if_pos tx] at hx
      rw [if_neg ty] at hy
      rw [(old y c ty hy).1] at e
      exact absurd e (mixed x y b c tx hx ty hy)
    · rw [if_neg tx] at hx
      rw [if_pos ty] at hy
      rw [(old x b tx hx).1] at e
      exact absurd e.symm (mixed y x c b ty hy tx hx)
    · rw [if_neg tx] at hx
      rw [if_neg ty] at hy
      rw [(old x b tx hx).1, (old y c ty hy).1] at e
      exact hr.inj x y b c hx hy e
  · rw [hh] at hx
    by_cases ht : tc x = true
    · rw [if_pos ht] at hx
      obtain ⟨c, hc⟩ := hd.live x b hx hm
      exact ⟨c, hsub x c hc⟩
    · rw [if_neg ht] at hx
      exact ⟨b, hx⟩
  · rw [hh, if_neg]
    intro ht
    rcases (htc x).1 ht with h1 | h1
    · have := hlo x h1
      omega
    · exact hf x h1.1 h1.2 hm
  · rcases hd.fresh x hx hnot with h1 | ⟨k, c, h1, h2, h3⟩
    · exact .inl h1
    · exact .inr ⟨k, c, hlo k (hwr k c h2 h1), hsub k c h2, h3⟩
  · exact hd.frame b hb fun k c hc hk => hfr k c (hsub k c hc) (hlo k (hwr k c hc hk))

theorem memN_iff {n : Nat} {l : List Nat} : memN n l = true ↔ n ∈ l := by
  unfold memN
  rw [List.any_eq_true]
  constructor
  · rintro ⟨x, h1, h2⟩
    rw [Nat.beq_eq] at h2
    exact h2 ▸ h1
  · exact fun h => ⟨n, h, by simp⟩

theorem copyH_ok (F : Tr Bk) : ∀ (l : List Nat) (B : Tr Bk), B.fits 7 → (∀ n ∈ l, n < 16384) → (copyH F l B).fits 7 ∧ ∀ x, (copyH F l B).at x = if memN x l = true then F.at x else B.at x
  | [], B, hB, _ => ⟨hB, fun x => by simp [copyH, memN]⟩
  | n :: l, B, hB, hl => by
    have hn := hl n (List.mem_cons_self ..)
    have hB' : (Tr.set HD B n (F.get n)).fits 7 := Tr.fits_set 7 _ _ _ hB
    obtain ⟨h1, h2⟩ := copyH_ok F l (Tr.set HD B n (F.get n)) hB' fun k hk => hl k (List.mem_cons_of_mem _ hk)
    refine ⟨h1, fun x => (h2 x).trans ?_⟩
    rw [at_set hB hn]
    by_cases hx : x ∈ l
    · rw [if_pos (memN_iff.2 hx), if_pos (memN_iff.2 (List.mem_cons_of_mem _ hx))]
    · rw [if_neg (fun h => hx (memN_iff.1 h))]
      by_cases e : x = n
      · subst e
        rw [if_pos rfl, if_pos (memN_iff.2 (List.mem_cons_self ..))]
        simp [Tr.at, hn]
      · rw [if_neg e, if_neg (fun h => (List.mem_cons.1 (memN_iff.1 h)).elim e hx)]

theorem onlyA_ok (A : Ac) : ∀ (l : List Nat) (B : Ac), B.fits 5 → (∀ n ∈ l, n < 1024) → (l.foldl (fun B t => B.set AD t (A.get t)) B).fits 5 ∧
    ∀ x, x < 1024 → (l.foldl (fun B t => B.set AD t (A.get t)) B).get x = if memN x l = true then A.get x else B.get x
  | [], B, hB, _ => ⟨hB, fun x _ => by simp [memN]⟩
  | n :: l, B, hB, hl => by
    have hn := hl n (List.mem_cons_self ..)
    have hB' : (Tr.set AD B n (A.get n)).fits 5 := Tr.fits_set 5 _ _ _ hB
    obtain ⟨h1, h2⟩ := onlyA_ok A l (Tr.set AD B n (A.get n)) hB' fun k hk => hl k (List.mem_cons_of_mem _ hk)
    refine ⟨h1, fun x hx5 => (h2 x hx5).trans ?_⟩
    have hg := Tr.get_set 5 B n x (A.get n) hB hn hx5
    rw [show AD = 5 from rfl, hg]
    by_cases hx : x ∈ l
    · rw [if_pos (memN_iff.2 hx), if_pos (memN_iff.2 (List.mem_cons_of_mem _ hx))]
    · rw [if_neg (fun h => hx (memN_iff.1 h))]
      by_cases e : x = n
      · subst e
        rw [if_pos rfl, if_pos (memN_iff.2 (List.mem_cons_self ..))]
      · rw [if_neg e, if_neg (fun h => (List.mem_cons.1 (memN_iff.1 h)).elim e hx)]

/-- The records of the operations so far, the last first. -/
def rsOf (R : Nat → Rc) : Nat → List Rc
  | 0 => []
  | k + 1 => R k :: rsOf R k
theorem pairsX_ok {R : Nat → Rc} {dir : Nat} {y : Rc} : ∀ {k : Nat}, pairsX dir y k (rsOf R k) = true → ∀ i, i < k → dir.testBit i = true ∨ apartX (R i) y = true
  | 0, _, i, hi => absurd hi (Nat.not_lt_zero i)
  | k + 1, h, i, hi => by
    simp only [rsOf, pairsX, Bool.and_eq_true, Bool.or_eq_true, Nat.add_sub_cancel] at h
    rcases Nat.lt_or_ge i k with h1 | h1
    · exact pairsX_ok h.2 i h1
    · have : i = k := by omega
      subst this
      exact h.1
theorem behindX_ok {R : Nat → Rc} {dir : Nat} : ∀ {k : Nat}, behindX dir k (rsOf R k) = true → ∀ i, i < k → dir.testBit i = true ∨ ((R i).ld = false ∧ (R i).lo = (R i).hi)
  | 0, _, i, hi => absurd hi (Nat.not_lt_zero i)
  | k + 1, h, i, hi => by
    simp only [rsOf, behindX, Bool.and_eq_true, Bool.or_eq_true, Nat.add_sub_cancel, Bool.not_eq_true', Nat.beq_eq] at h
    rcases Nat.lt_or_ge i k with h1 | h1
    · exact behindX_ok h.2 i h1
    · have : i = k := by omega
      subst this
      exact h.1
theorem beforeX_ok {R : Nat → Rc} : ∀ {k : Nat}, beforeX (rsOf R k) = true → ∀ i, i < k → (R i).ld = false
  | 0, _, i, hi => absurd hi (Nat.not_lt_zero i)
  | k + 1, h, i, hi => by
    simp only [rsOf, beforeX, Bool.and_eq_true, Bool.not_eq_true'] at h
    rcases Nat.lt_or_ge i k with h1 | h1
    · exact beforeX_ok h.2 i h1
    · have : i = k := by omega
      subst this
      exact h.1
theorem rsOf_get {R : Nat → Rc} : ∀ {k e : Nat}, e < k → (rsOf R k)[k - 1 - e]? = some (R e)
  | 0, e, h => absurd h (Nat.not_lt_zero e)
  | k + 1, e, h => by
    rcases Nat.lt_or_ge e k with h1 | h1
    · rw [show k + 1 - 1 - e = (k - 1 - e) + 1 by omega, rsOf, List.getElem?_cons_succ]
      exact rsOf_get h1
    · have : e = k := by omega
      subst this
      simp [rsOf]
theorem maskX_ok {R : Nat → Rc} {k : Nat} : ∀ (dir : List Nat) (s : Nat), (∀ e ∈ dir, e < k) → ∀ i, (dir.foldl (fun s e => (s ||| 2 ^ e) ||| maskAt (rsOf R k) k e) s).testBit i = true →
    s.testBit i = true ∨ i ∈ dir ∨ ∃ e ∈ dir, (R e).mask.testBit i = true
  | [], s, _, i, h => .inl h
  | e :: dir, s, hd, i, h => by
    rw [List.foldl_cons] at h
    have hmask : maskAt (rsOf R k) k e = (R e).mask := by
      unfold maskAt
      rw [rsOf_get (hd e (List.mem_cons_self ..))]
    rcases maskX_ok dir _ (fun x hx => hd x (List.mem_cons_of_mem _ hx)) i h with h1 | h1 | ⟨x, h1, h2⟩
    · rw [hmask, Nat.testBit_or, Nat.testBit_or, Bool.or_eq_true, Bool.or_eq_true] at h1
      rcases h1 with (h1 | h1) | h1
      · exact .inl h1
      · rw [Nat.testBit_two_pow] at h1
        exact .inr (.inl (by rw [← of_decide_eq_true h1]; exact List.mem_cons_self ..))
      · exact .inr (.inr ⟨e, List.mem_cons_self .., h1⟩)
    · exact .inr (.inl (List.mem_cons_of_mem _ h1))
    · exact .inr (.inr ⟨x, List.mem_cons_of_mem _ h1, h2⟩)

theorem notIn_ok {lo hi : Nat} {l : List Nat} (h : notIn lo hi l = true) {x : Nat} (hx : x ∈ l) : ¬ (lo ≤ x ∧ x < hi) := by
  have := List.all_eq_true.1 h x hx
  simp only [Bool.or_eq_true, Nat.blt_eq, Nat.ble_eq] at this
  omega
theorem awayL_ok {l l' : List Nat} (h : awayL l l' = true) {x : Nat} (hx : x ∈ l) : x ∉ l' := fun h' => by
  have := List.all_eq_true.1 h x hx
  rw [memN_iff.2 h'] at this
  cases this
end Go.Proofs.YtlddgafbgaaiiaaGreatDoor.Evl

namespace Go.Proofs.YtlddgafbgaaiiaaGreatDoor.Evl
open Go

/-- One operation of a region that draws its order, as the evaluator met it. -/
structure Dt where
  o : Oper
  rd : Option (List Nat)
  ld : Bool
  lo : Nat
  mask : Nat
  vis : Tr Bk
  B : Ac
  v : AV
  s' : St
instance : Inhabited Dt := ⟨⟨default, none, false, 0, 0, .leaf none, .leaf none, .tup [], ⟨.leaf none, 0, 0⟩⟩⟩
def Dt.rc (ops : Array Oper) (d : Dt) : Rc := { dst := d.o.dst, lk := d.o.looksAt ops, rd := d.rd, ld := d.ld, lo := d.lo, hi := d.s'.next, mask := d.mask }
def Dt.wr (d : Dt) : List Nat := wroteX d.ld d.lo d.s'.wlo d.rd

structure Met (P : Program) (T : Tab) (call : CallT) (nn : Nat) (ops : Array Oper) (H0 : Tr Bk) (k : Nat) (A : Ac) (s : St) (rs : List Rc) (d : Dt) (A1 : Ac) (s1 : St) (rs1 : List Rc) : Prop where
  lk : ∀ t ∈ d.o.looksAt ops, t < 1024
  dirs : ∀ e ∈ dirX d.o, e < k
  mask : d.mask = maskX (dirX d.o) rs k
  B : d.B = onlyA A (d.o.looksAt ops)
  vis : visX d.mask H0 s.H k rs d.rd = some d.vis
  val : valX P T call ops d.B ⟨d.vis, s.next, 16384⟩ d.o = some (d.v, d.s')
  ld : d.ld = Nat.blt d.s'.wlo s.next
  lo : d.lo = s.next
  nx : s.next ≤ d.s'.next
  top : d.s'.next ≤ 16384
  okRd : okRd s d.ld d.mask k rs d.rd = true
  pairs : pairsX d.mask (d.rc ops) k rs = true
  put : putX nn A d.o.dst d.v = some A1
  st : s1 = { H := copyH d.s'.H (d.wr ++ List.range' s.next (d.s'.next - s.next)) s.H, next := d.s'.next, wlo := d.wr.foldl min s.wlo }
  rs : rs1 = d.rc ops :: rs

section
variable {P : Program} {T : Tab} {call : CallT} {nn : Nat} {ops : Array Oper}

theorem drawX_met {H0 : Tr Bk} {A A1 : Ac} {s s1 : St} {rs rs1 : List Rc} {k : Nat} {o : Oper} (h : drawX P T call nn ops H0 A s rs k o = some (A1, s1, rs1)) :
    ∃ d : Dt, d.o = o ∧ Met P T call nn ops H0 k A s rs d A1 s1 rs1 := by
  unfold drawX at h
  simp only [bifS, Bool.and_eq_true] at h
  obtain ⟨⟨h1, h2⟩, h⟩ := h
  unfold drawVal at h
  split at h
  case h_2 => cases h
  rename_i vis hvis
  split at h
  case h_2 => cases h
  rename_i v s' hval
  unfold drawEnd at h
  simp only [bifS, Bool.and_eq_true, Nat.ble_eq] at h
  obtain ⟨⟨⟨h3, h4⟩, h5, h6⟩, h⟩ := h
  split at h
  case h_2 => cases h
  rename_i A' hp
  simp only [Option.some.injEq, Prod.mk.injEq] at h
  obtain ⟨rfl, rfl, rfl⟩ := h
  refine ⟨⟨o, footX (onlyA A (o.looksAt ops)) o, Nat.blt s'.wlo s.next, s.next, maskX (dirX o) rs k, vis, onlyA A (o.looksAt ops), v, s'⟩, rfl,
    ⟨fun t ht => ?_, fun e he => ?_, rfl, rfl, hvis, hval, rfl, rfl, h3, h4, h5, h6, hp, rfl, rfl⟩⟩
  · have := List.all_eq_true.1 h1 t ht
    simpa using this
  · have := List.all_eq_true.1 h2 e he
    simpa using this

theorem drawsX_cons {H0 : Tr Bk} {A : Ac} {s : St} {rs : List Rc} {j : Nat} {o : Oper} {l : List Oper} {r : Ac × St} (h : drawsX P T call nn ops H0 (o :: l) A s rs j = some r) :
    ∃ A1 s1 rs1, drawX P T call nn ops H0 A s rs j o = some (A1, s1, rs1) ∧ drawsX P T call nn ops H0 l A1 s1 rs1 (j + 1) = some r := by
  change (match drawX P T call nn ops H0 A s rs j o with | some r => drawsX P T call nn ops H0 l r.1 r.2.1 r.2.2 (j + 1) | none => none) = some r at h
  cases hd : drawX P T call nn ops H0 A s rs j o with
  | none => rw [hd] at h; cases h
  | some x =>
    obtain ⟨A1, s1, rs1⟩ := x
    rw [hd] at h
    exact ⟨A1, s1, rs1, rfl, h⟩

theorem drawsX_trace {H0 : Tr Bk} : ∀ (l : List Oper) (A : Ac) (s : St) (rs : List Rc) (j : Nat) (A' : Ac) (s' : St), drawsX P T call nn ops H0 l A s rs j = some (A', s') →
    ∃ (fA : Nat → Ac) (fs : Nat → St) (fr : Nat → List Rc) (D : Nat → Dt), fA 0 = A ∧ fs 0 = s ∧ fr 0 = rs ∧ fA l.length = A' ∧ fs l.length = s' ∧
      ∀ k o, l[k]? = some o → (D k).o = o ∧ Met P T call nn ops H0 (j + k) (fA k) (fs k) (fr k) (D k) (fA (k + 1)) (fs (k + 1)) (fr (k + 1))
  | [], A, s, rs, j, A', s', h => by
    cases h
    exact ⟨fun _ => A, fun _ => s, fun _ => rs, fun _ => default, rfl, rfl, rfl, rfl, rfl, fun k o hk => by simp at hk⟩
  | o :: l, A, s, rs, j, A', s', h => by
    obtain ⟨A1, s1, rs1, h1, h2⟩ := drawsX_cons h
    obtain ⟨fA, fs, fr, D, a1, a2, a3, a4, a5, a6⟩ := drawsX_trace l A1 s1 rs1 (j + 1) A' s' h2
    obtain ⟨d, hd, hm⟩ := drawX_met h1
    refine ⟨fun k => match k with | 0 => A | k + 1 => fA k, fun k => match k with | 0 => s | k + 1 => fs k, fun k => match k with | 0 => rs | k + 1 => fr k, fun k => match k with | 0 => d | k + 1 => D k, rfl, rfl, rfl, a4, a5, fun k o' hk => ?_⟩
    cases k with
    | zero =>
      simp only [List.getElem?_cons_zero, Option.some.injEq] at hk
      subst hk
      refine ⟨hd, ?_⟩
      simp only [a1, a2, a3]
      exact hm
    | succ k =>
      simp only [List.getElem?_cons_succ] at hk
      obtain ⟨h3, h4⟩ := a6 k o' hk
      refine ⟨h3, ?_⟩
      rw [show j + (k + 1) = j + 1 + k by omega]
      exact h4

def tcM (D : Nat → Dt) (k x : Nat) : Bool := memN x (D k).wr || (Nat.ble (D k).lo x && Nat.blt x (D k).s'.next)
noncomputable def valM (D : Nat → Dt) (k x : Nat) : Option Bk := (D k).s'.H.at x
def tcR (D : Nat → Dt) (k t : Nat) : Bool := match (D k).o.dst with
  | some e => Nat.beq e t
  | none => false
def valR (D : Nat → Dt) (k _t : Nat) : Option AV := some (D k).v
theorem tcM_iff {D : Nat → Dt} {k x : Nat} : tcM D k x = true ↔ x ∈ (D k).wr ∨ ((D k).lo ≤ x ∧ x < (D k).s'.next) := by
  simp only [tcM, Bool.or_eq_true, Bool.and_eq_true, Nat.ble_eq, Nat.blt_eq, memN_iff]
theorem tcR_iff {D : Nat → Dt} {k t : Nat} : tcR D k t = true ↔ (D k).o.dst = some t := by
  unfold tcR
  cases (D k).o.dst with
  | none => simp
  | some e => simp

/-- The whole region, as the evaluator met it. -/
structure DRun (P : Program) (T : Tab) (call : CallT) (nn : Nat) (ops : Array Oper) (s0 : St) (fA : Nat → Ac) (fs : Nat → St) (fr : Nat → List Rc) (D : Nat → Dt) : Prop where
  z0 : fs 0 = s0
  zr : fr 0 = []
  fits : s0.H.fits 7
  fitsA : (fA 0).fits 5
  met : ∀ k, k < ops.size → ops[k]? = some (D k).o ∧ Met P T call nn ops s0.H k (fA k) (fs k) (fr k) (D k) (fA (k + 1)) (fs (k + 1)) (fr (k + 1))

variable {s0 : St} {fA : Nat → Ac} {fs : Nat → St} {fr : Nat → List Rc} {D : Nat → Dt}

theorem DRun.fr_eq (R : DRun P T call nn ops s0 fA fs fr D) : ∀ {k : Nat}, k ≤ ops.size → fr k = rsOf (fun k => (D k).rc ops) k
  | 0, _ => R.zr
  | k + 1, h => by
    rw [(R.met k h).2.rs, R.fr_eq (Nat.le_of_succ_le h)]
    rfl
theorem DRun.next (R : DRun P T call nn ops s0 fA fs fr D) {k : Nat} (h : k < ops.size) : (fs k).next = (D k).lo ∧ (fs (k + 1)).next = (D k).s'.next ∧ (D k).lo ≤ (D k).s'.next := by
  have m := (R.met k h).2
  refine ⟨m.lo.symm, by rw [m.st], by rw [m.lo]; exact m.nx⟩
theorem DRun.mono (R : DRun P T call nn ops s0 fA fs fr D) {i : Nat} : ∀ {j : Nat}, i ≤ j → j ≤ ops.size → (fs i).next ≤ (fs j).next
  | 0, h, _ => by rw [Nat.le_zero.1 h]; exact Nat.le_refl _
  | j + 1, h, hj => by
    rcases Nat.lt_or_ge i (j + 1) with h1 | h1
    · obtain ⟨a, b, c⟩ := R.next (k := j) hj
      have := R.mono (i := i) (j := j) (by omega) (by omega)
      omega
    · have : i = j + 1 := by omega
      rw [this]
      exact Nat.le_refl _
theorem DRun.lt (R : DRun P T call nn ops s0 fA fs fr D) {i j : Nat} (hij : i < j) (hj : j < ops.size) : (D i).s'.next ≤ (D j).lo := by
  have := R.mono (i := i + 1) (j := j) hij (by omega)
  rw [(R.next (k := i) (by omega)).2.1, (R.next hj).1] at this
  exact this
theorem DRun.first (R : DRun P T call nn ops s0 fA fs fr D) {k : Nat} (hk : k < ops.size) : s0.next ≤ (D k).lo := by
  have := R.mono (i := 0) (j := k) (Nat.zero_le _) (by omega)
  rw [R.z0, (R.next hk).1] at this
  exact this
theorem DRun.last (R : DRun P T call nn ops s0 fA fs fr D) {k : Nat} (hk : k < ops.size) : (D k).s'.next ≤ (fs ops.size).next := by
  have := R.mono (i := k + 1) (j := ops.size) hk (Nat.le_refl _)
  rw [(R.next hk).2.1] at this
  exact this
theorem DRun.wr_lt (R : DRun P T call nn ops s0 fA fs fr D) {k x : Nat} (hk : k < ops.size) (hx : x ∈ (D k).wr) : x < (D k).lo := by
  have m := (R.met k hk).2
  have ho := m.okRd
  unfold Dt.wr wroteX at hx
  rw [m.lo] at hx ⊢
  cases hr : (D k).rd with
  | some l =>
    rw [hr] at hx ho
    cases hl : (D k).ld with
    | false => simp [hl] at hx
    | true =>
      simp only [hl, cond_true] at hx
      have := List.all_eq_true.1 ho x hx
      simpa using this
  | none =>
    rw [hr] at hx
    cases hl : (D k).ld with
    | false => simp [hl] at hx
    | true =>
      simp only [hl, cond_true, List.mem_range'_1] at hx
      omega
theorem foldl_min : ∀ (l : List Nat) (a : Nat), l.foldl min a ≤ a ∧ ∀ x ∈ l, l.foldl min a ≤ x
  | [], a => ⟨Nat.le_refl _, by simp⟩
  | y :: l, a => by
    obtain ⟨h1, h2⟩ := foldl_min l (min a y)
    refine ⟨Nat.le_trans h1 (Nat.min_le_left _ _), fun x hx => ?_⟩
    rcases List.mem_cons.1 hx with rfl | hx
    · exact Nat.le_trans h1 (Nat.min_le_right _ _)
    · exact h2 x hx
theorem DRun.wlo (R : DRun P T call nn ops s0 fA fs fr D) : ∀ {k : Nat}, k ≤ ops.size → (fs k).wlo ≤ s0.wlo ∧ ∀ i, i < k → ∀ x ∈ (D i).wr, (fs k).wlo ≤ x
  | 0, _ => ⟨by rw [R.z0]; exact Nat.le_refl _, fun i hi => absurd hi (Nat.not_lt_zero i)⟩
  | k + 1, h => by
    obtain ⟨h1, h2⟩ := R.wlo (k := k) (by omega)
    have e : (fs (k + 1)).wlo = (D k).wr.foldl min (fs k).wlo := by rw [(R.met k h).2.st]
    obtain ⟨h3, h4⟩ := foldl_min (D k).wr (fs k).wlo
    refine ⟨by omega, fun i hi x hx => ?_⟩
    rcases Nat.lt_or_ge i k with h5 | h5
    · have := h2 i h5 x hx
      omega
    · have : i = k := by omega
      subst this
      have := h4 x hx
      omega
theorem DRun.H (R : DRun P T call nn ops s0 fA fs fr D) : ∀ {k : Nat}, k ≤ ops.size → (fs k).H.fits 7 ∧ ∀ x, (fs k).H.at x = ov s0.H.at (fun _ => true) (tcM D) (valM D) k x
  | 0, _ => ⟨by rw [R.z0]; exact R.fits, fun x => by rw [R.z0]; rfl⟩
  | k + 1, h => by
    obtain ⟨h1, h2⟩ := R.H (k := k) (by omega)
    have m := (R.met k h).2
    have e : (fs (k + 1)).H = copyH (D k).s'.H ((D k).wr ++ List.range' (fs k).next ((D k).s'.next - (fs k).next)) (fs k).H := by rw [m.st]
    obtain ⟨h3, h4⟩ := copyH_ok (D k).s'.H ((D k).wr ++ List.range' (fs k).next ((D k).s'.next - (fs k).next)) (fs k).H h1 (fun x hx => by
      have ht := m.top
      have hn := m.nx
      rcases List.mem_append.1 hx with hx | hx
      · have := R.wr_lt h hx
        rw [m.lo] at this
        omega
      · rw [List.mem_range'_1] at hx
        omega)
    refine ⟨by rw [e]; exact h3, fun x => ?_⟩
    rw [e, h4, h2]
    simp only [ov, true_and]
    have hn := m.nx
    have key : memN x ((D k).wr ++ List.range' (fs k).next ((D k).s'.next - (fs k).next)) = true ↔ tcM D k x = true := by
      rw [memN_iff, tcM_iff, List.mem_append, List.mem_range'_1, m.lo]
      constructor
      · rintro (h | h)
        · exact .inl h
        · exact .inr (by omega)
      · rintro (h | h)
        · exact .inl h
        · exact .inr (by omega)
    by_cases ht : tcM D k x = true
    · rw [if_pos ht, if_pos (key.2 ht)]
      rfl
    · rw [if_neg ht, if_neg (fun h => ht (key.1 h))]
theorem DRun.A (R : DRun P T call nn ops s0 fA fs fr D) : ∀ {k : Nat}, k ≤ ops.size → (fA k).fits 5 ∧ ∀ t, t < 1024 → (fA k).get t = ov (fA 0).get (fun _ => true) (tcR D) (valR D) k t
  | 0, _ => ⟨R.fitsA, fun t _ => rfl⟩
  | k + 1, h => by
    obtain ⟨h1, h2⟩ := R.A (k := k) (by omega)
    have hp := (R.met k h).2.put
    unfold putX at hp
    cases hd : (D k).o.dst with
    | none =>
      rw [hd] at hp
      simp only [Option.some.injEq] at hp
      rw [← hp]
      refine ⟨h1, fun t ht => ?_⟩
      simp only [ov, true_and]
      rw [if_neg (by rw [tcR_iff, hd]; simp)]
      exact h2 t ht
    | some e =>
      rw [hd] at hp
      simp only [bifS, Bool.and_eq_true, Nat.blt_eq, Option.some.injEq] at hp
      obtain ⟨⟨h3, h4⟩, hp⟩ := hp
      rw [← hp]
      refine ⟨Tr.fits_set 5 _ _ _ h1, fun t ht => ?_⟩
      simp only [ov, true_and]
      rw [show AD = 5 from rfl, Tr.get_set 5 (fA k) e t (some (D k).v) h1 h4 ht]
      by_cases he : t = e
      · subst he
        rw [if_pos rfl, if_pos (tcR_iff.2 hd)]
        rfl
      · rw [if_neg he, if_neg (fun h => he (by have := tcR_iff.1 h; rw [hd] at this; exact (Option.some.inj this).symm))]
        exact h2 t ht

/-- What a bit says: an operation that has come first. -/
theorem DRun.mask (R : DRun P T call nn ops s0 fA fs fr D) {k i : Nat} (hk : k < ops.size) (h : (D k).mask.testBit i = true) : i ∈ dirX (D k).o ∨ ∃ e ∈ dirX (D k).o, (D e).mask.testBit i = true := by
  have m := (R.met k hk).2
  rw [m.mask, R.fr_eq (Nat.le_of_lt hk)] at h
  rcases maskX_ok (dirX (D k).o) 0 m.dirs i h with h1 | h1 | h1
  · simp at h1
  · exact .inl h1
  · exact .inr h1

/-- Two operations of which neither need come first. -/
theorem DRun.pair (R : DRun P T call nn ops s0 fA fs fr D) {i j : Nat} (hij : i < j) (hj : j < ops.size) : (D j).mask.testBit i = true ∨ apartX ((D i).rc ops) ((D j).rc ops) = true := by
  have m := (R.met j hj).2
  have hp := m.pairs
  rw [R.fr_eq (Nat.le_of_lt hj)] at hp
  exact pairsX_ok hp i hij

/-- The registers that two such operations look at and write. -/
theorem apart_regs {i j : Nat} (h : apartX ((D i).rc ops) ((D j).rc ops) = true) :
    (∀ t, tcR D i t = true → t ∉ (D j).o.looksAt ops) ∧ (∀ t, tcR D j t = true → t ∉ (D i).o.looksAt ops) ∧ ∀ t, tcR D i t = true → tcR D j t = false := by
  simp only [apartX, Bool.and_eq_true, Dt.rc] at h
  obtain ⟨h1, h2, -⟩ := h
  refine ⟨fun t ht hm => ?_, fun t ht hm => ?_, fun t ht => ?_⟩
  · rw [tcR_iff] at ht
    rw [ht] at h1
    simp only [Bool.and_eq_true, Bool.not_eq_true'] at h1
    have := h1.1
    rw [memN_iff.2 hm] at this
    cases this
  · rw [tcR_iff] at ht
    rw [ht] at h2
    simp only [Bool.not_eq_true'] at h2
    rw [memN_iff.2 hm] at h2
    cases h2
  · rw [tcR_iff] at ht
    rw [ht] at h1
    unfold tcR
    cases hd : (D j).o.dst with
    | none => rfl
    | some e =>
      rw [hd] at h1
      simp only [Bool.and_eq_true, Bool.not_eq_true'] at h1
      have h3 := h1.2
      cases hb : Nat.beq e t with
      | false => exact hb
      | true =>
        rw [Nat.beq_eq] at hb
        subst hb
        simp at h3
theorem wr_nil {d : Dt} (h : d.ld = false) : d.wr = [] := by
  unfold Dt.wr wroteX
  cases d.rd <;> simp [h]
theorem apart_mem {i j : Nat} (h : apartX ((D i).rc ops) ((D j).rc ops) = true) : match (D i).rd, (D j).rd with
    | some l, some l' => (∀ x ∈ l', ¬ ((D i).lo ≤ x ∧ x < (D i).s'.next)) ∧ ((D i).ld = true ∨ (D j).ld = true → ∀ x ∈ l, x ∉ l')
    | none, some l' => (D i).ld = false ∧ (D j).ld = false ∧ ∀ x ∈ l', ¬ ((D i).lo ≤ x ∧ x < (D i).s'.next)
    | _, none => (D i).ld = false ∧ (D j).ld = false := by
  simp only [apartX, Bool.and_eq_true, Dt.rc] at h
  obtain ⟨-, -, h⟩ := h
  cases hi : (D i).rd with
  | some l =>
    cases hj : (D j).rd with
    | some l' =>
      rw [hi, hj] at h
      simp only [Bool.and_eq_true] at h
      refine ⟨fun x hx => notIn_ok h.1 hx, fun hl x hx => ?_⟩
      have h2 := h.2
      have hb : ((D i).ld || (D j).ld) = true := by
        rcases hl with hl | hl <;> simp [hl]
      rw [hb] at h2
      exact awayL_ok h2 hx
    | none =>
      rw [hi, hj] at h
      simpa using h
  | none =>
    cases hj : (D j).rd with
    | some l' =>
      rw [hi, hj] at h
      simp only [Bool.and_eq_true, Bool.not_eq_true'] at h
      exact ⟨h.1, h.2.1, fun x hx => notIn_ok h.2.2 hx⟩
    | none =>
      rw [hi, hj] at h
      simpa using h
end
end Go.Proofs.YtlddgafbgaaiiaaGreatDoor.Evl
