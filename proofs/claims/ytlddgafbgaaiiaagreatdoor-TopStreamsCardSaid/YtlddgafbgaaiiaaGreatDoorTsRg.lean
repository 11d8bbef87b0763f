/- Rg -/
import Derived.Deep.Quiet
import Derived.BigQuiet
import Derived.Tactics
import Derived.Deep.AppendLies
import Derived.Test.YtlddgafbgaaiiaaGreatDoorTsBase
namespace Go.Proofs.YtlddgafbgaaiiaaGreatDoor.Rg
set_option linter.all false
section
variable {P : Program} {ops : Array Oper} {md : Region.Mode}
/-- What an operation that was carried out has yielded, and left. -/
def upon (P : Program) (Φ : Value → World → Prop) : Result Next → Prop
  | .ok (.value u) w' => Φ u w'
  | .ok .skip w' => Φ undef w'
  | .ok (.enter f args) w' => Calls P f args w' (fun e w'' => ∃ v, e = .returned v ∧ Φ v w'')
  | _ => False
def stepTo (P : Program) (o : Oper) (a : Act) (w : World) (Φ : Value → World → Prop) : Prop := upon P Φ ((execOp a.eval o).run P w)
def valAt (P : Program) (o : Oper) (a : Act) (w : World) (v : Value) : Prop :=
  match (execOp a.eval o).run P w with
  | .ok (.value u) w' => w' = w ∧ u = v
  | .ok .skip w' => w' = w ∧ v = undef
  | _ => False
theorem stepTo_wp {o : Oper} {a : Act} {w : World} {Φ : Value → World → Prop} {K : Act → World → Prop} {Q : Exit → Act → World → Prop} (h : stepTo P o a w Φ) (hk : ∀ v w', Φ v w' → K (a.put o.dst v) w') : o.wp P a w K Q := by
  unfold stepTo at h
  unfold Oper.wp
  generalize (execOp a.eval o).run P w = r at *
  cases r with
  | ok n w' =>
    cases n <;> simp only [upon] at h <;> simp only [Oper.upon]
    case value u => exact hk _ _ h
    case skip => exact hk _ _ h
    case enter f args => exact h.mono fun e w'' ⟨v, he, hv⟩ => by subst he; exact hk _ _ hv
  | halt x w' => simp only [upon] at h
theorem valAt_wp {o : Oper} {a : Act} {w : World} {v : Value} {K : Act → World → Prop} {Q : Exit → Act → World → Prop} (h : valAt P o a w v) (hk : K (a.put o.dst v) w) : o.wp P a w K Q := by
  unfold valAt at h
  unfold Oper.wp
  generalize (execOp a.eval o).run P w = r at *
  cases r with
  | ok n w' =>
    cases n <;> simp only [] at h <;> simp only [Oper.upon]
    case value u => obtain ⟨rfl, rfl⟩ := h; exact hk
    case skip => obtain ⟨rfl, rfl⟩ := h; exact hk
  | halt x w' => simp only [] at h
theorem stepTo_ex {o : Oper} {a : Act} {w : World} {Φ : Value → World → Prop} (h : stepTo P o a w Φ) : ∃ v w', Φ v w' := by
  unfold stepTo at h
  generalize (execOp a.eval o).run P w = r at *
  cases r with
  | ok n w' =>
    cases n <;> simp only [upon] at h
    case value u => exact ⟨_, _, h⟩
    case skip => exact ⟨_, _, h⟩
    case enter f args => obtain ⟨e, w'', fr, ⟨v, -, hv⟩, -⟩ := h []; exact ⟨_, _, hv⟩
  | halt x w' => simp only [upon] at h
theorem valAt_unique {o : Oper} {a : Act} {w : World} {v v' : Value} (h : valAt P o a w v) (h' : valAt P o a w v') : v = v' := by
  unfold valAt at h h'
  generalize (execOp a.eval o).run P w = r at *
  cases r with
  | ok n w' =>
    cases n <;> simp only [] at h h'
    case value u => exact h.2.symm.trans h'.2
    case skip => exact h.2.trans h'.2.symm
  | halt x w' => simp only [] at h
/-- The plan of a region: the class of its worlds; what operation j may do to a world; what is said of the operations that are not fixed in that class; which make a block of their own. -/
structure Plan where
  C : World → Prop
  R : Nat → World → World → Prop
  sp : Nat → Option (List Value → Value → World → Prop)
  al : Nat → Bool
  base : Nat
abbrev Facts := Nat → World → Prop
def upd (f : Facts) (i : Nat) (g : World → Prop) : Facts := fun k => if k = i then g else f k
theorem upd_same (f : Facts) (i : Nat) (g : World → Prop) : upd f i g i = g := if_pos rfl
theorem upd_ne (f : Facts) {i k : Nat} (g : World → Prop) (h : k ≠ i) : upd f i g k = f k := if_neg h
theorem upd_comm (f : Facts) {i j : Nat} (g g' : World → Prop) (h : i ≠ j) : upd (upd f i g) j g' = upd (upd f j g') i g := by
  funext k; unfold upd; split <;> split <;> first | rfl | (subst_vars; exact absurd rfl h)
theorem upd_true {f : Facts} {i : Nat} {g : World → Prop} (h : f i = fun _ => True) (hg : g = fun _ => True) : upd f i g = f := by
  funext k; unfold upd; split
  · rename_i e; rw [e, h, hg]
  · rfl
def vals (a : Act) (o : Oper) : List Value := o.op.operands.toList.map a.eval
variable {pl : Plan}
/-- Operation k waits for j. -/
def waits (md : Region.Mode) (ops : Array Oper) (k j : Nat) : Bool := match ops[k]? with | none => false | some o => o.after.any fun e => Region.binds md e && e.on == j
def Stable (md : Region.Mode) (ops : Array Oper) (pl : Plan) (i : Nat) (g : World → Prop) : Prop := ∀ j w w', j ≠ i → waits md ops i j = false → pl.C w → pl.C w' → pl.R j w w' → g w → g w'
/-- The block that a pointer or a slice points into. -/
def blk : Value → Option Nat
  | .pointer (some a) => some a.block
  | .slice (some a) _ _ => some a.block
  | _ => none
def Own (N : Nat) (w : World) (v : Value) (w' : World) : Prop := ∀ b, blk v = some b → N ≤ b → w.heap.size ≤ b ∧ b < w'.heap.size
def Post (pl : Plan) (i : Nat) (G : Value → World → Prop) (w : World) (v : Value) (w' : World) : Prop := pl.C w' ∧ pl.R i w w' ∧ G v w' ∧ (pl.al i = true → Own pl.base w v w')
/-- Operation i may be carried out in state a, behind the facts f, and leaves G. -/
def Ok (P : Program) (md : Region.Mode) (ops : Array Oper) (pl : Plan) (i : Nat) (o : Oper) (a : Act) (f : Facts) (G : Value → World → Prop) : Prop :=
  (Region.wanted o (yielded ops a.tmps) = false ∧ G = fun v _ => v = undef) ∨
  (Region.wanted o (yielded ops a.tmps) = true ∧ pl.sp i = none ∧ pl.al i = false ∧ ∃ v0, (G = fun v _ => v = v0) ∧ ∀ w, pl.C w → valAt P o a w v0) ∨
  (Region.wanted o (yielded ops a.tmps) = true ∧ ∃ F, pl.sp i = some F ∧ G = F (vals a o) ∧ (∀ v, Stable md ops pl i (F (vals a o) v)) ∧
    ∀ w, pl.C w → (∀ e ∈ o.after, Region.binds md e = true → f e.on w) → stepTo P o a w (Post pl i (F (vals a o)) w))
def rOp (P : Program) (md : Region.Mode) (ops : Array Oper) (pl : Plan) (i : Nat) (K : Act → Facts → Prop) (a : Act) (f : Facts) : Prop :=
  match ops[i]? with
  | none => K a f
  | some o => ∃ G, Ok P md ops pl i o a f G ∧ ∀ v, (∃ w, pl.C w ∧ ∀ k, upd f i (G v) k w) → K (a.put o.dst v) (upd f i (G v))
def Good (md : Region.Mode) (ops : Array Oper) (pl : Plan) (f : Facts) : Prop := ∀ k, Stable md ops pl k (f k)
def Clean (listed : Array Bool) (f : Facts) : Prop := ∀ k, listed.getD k true = false → f k = fun _ => True
theorem Ok.stable {i : Nat} {o : Oper} {a : Act} {f : Facts} {G : Value → World → Prop} (h : Ok P md ops pl i o a f G) (v : Value) : Stable md ops pl i (G v) := by
  rcases h with ⟨_, rfl⟩ | ⟨_, _, _, v0, rfl, _⟩ | ⟨_, F, _, rfl, hs, _⟩
  · exact fun _ _ _ _ _ _ _ _ h => h
  · exact fun _ _ _ _ _ _ _ _ h => h
  · exact hs v
theorem Ok.good {i : Nat} {o : Oper} {a : Act} {f : Facts} {G : Value → World → Prop} (h : Ok P md ops pl i o a f G) (hf : Good md ops pl f) (v : Value) : Good md ops pl (upd f i (G v)) := by
  intro k
  by_cases hk : k = i
  · subst hk; rw [upd_same]; exact h.stable v
  · rw [upd_ne _ _ hk]; exact hf k
theorem Clean.upd {listed : Array Bool} {f : Facts} {i : Nat} {g : World → Prop} (h : Clean listed f) : Clean (listed.setIfInBounds i true) (upd f i g) := by
  intro k hk
  by_cases hki : k = i
  · subst hki
    rcases Nat.lt_or_ge k listed.size with h' | h'
    · simp [h'] at hk
    · simp at hk <;> omega
  · rw [upd_ne _ _ hki]
    exact h k (by rw [getD_set_ne true (Ne.symm hki)] at hk; exact hk)
/-- The same, in a state that differs only in what the operation does not look at. -/
theorem Ok.congr {i : Nat} {o : Oper} {a a' : Act} {f f' : Facts} {G : Value → World → Prop} (hx : execOp a'.eval o = execOp a.eval o)
    (hw : Region.wanted o (yielded ops a'.tmps) = Region.wanted o (yielded ops a.tmps)) (hv : vals a' o = vals a o)
    (hf : ∀ e ∈ o.after, Region.binds md e = true → f' e.on = f e.on) (h : Ok P md ops pl i o a f G) : Ok P md ops pl i o a' f' G := by
  unfold Ok stepTo valAt at *
  rw [hx, hw, hv]
  rcases h with h | h | ⟨h1, F, h2, h3, h4, h5⟩
  · exact .inl h
  · exact .inr (.inl h)
  · exact .inr (.inr ⟨h1, F, h2, h3, h4, fun w hC ha => h5 w hC fun e he hb => by rw [← hf e he hb]; exact ha e he hb⟩)
theorem vals_put {o : Oper} {a : Act} {dst : Option Tmp} {v : Value} (h : ∀ d, dst = some d → d ∉ o.looksAt ops) : vals (a.put dst v) o = vals a o := by
  refine List.map_congr_left fun x hx => Act.eval_put fun d hd hxd => h d hd ?_
  subst hxd
  exact List.mem_append_left _ (List.mem_filterMap.2 ⟨.tmp d, hx, rfl⟩)
theorem Ok.unique {i : Nat} {o : Oper} {a : Act} {f f' : Facts} {G G' : Value → World → Prop} (h : Ok P md ops pl i o a f G) (h' : Ok P md ops pl i o a f' G') {w : World} (hw : pl.C w) : G = G' := by
  rcases h with ⟨h1, rfl⟩ | ⟨h1, h2, -, v0, rfl, h3⟩ | ⟨h1, F, h2, rfl, _⟩ <;> rcases h' with ⟨k1, rfl⟩ | ⟨k1, k2, -, v1, rfl, k3⟩ | ⟨k1, F', k2, rfl, _⟩ <;> simp_all
  · rw [valAt_unique (h3 w hw) (k3 w hw)]
/-- From a world that bears the facts: what it leaves bears them too. -/
theorem Ok.live {i : Nat} {o : Oper} {a : Act} {f : Facts} {G : Value → World → Prop} (h : Ok P md ops pl i o a f G) (hg : Good md ops pl f) (hd : ∀ k, f k = (fun _ => True) ∨ waits md ops k i = false) {w : World} (hC : pl.C w) (hf : ∀ k, f k w) :
    ∃ v w', pl.C w' ∧ ∀ k, upd f i (G v) k w' := by
  rcases h with ⟨h1, rfl⟩ | ⟨h1, h2, -, v0, rfl, h3⟩ | ⟨h1, F, h2, rfl, h4, h5⟩
  · exact ⟨undef, w, hC, fun k => by unfold upd; split; rfl; exact hf k⟩
  · exact ⟨v0, w, hC, fun k => by unfold upd; split; rfl; exact hf k⟩
  · obtain ⟨v, w', k1, k2, k3, -⟩ := stepTo_ex (h5 w hC fun e _ _ => hf e.on)
    refine ⟨v, w', k1, fun k => ?_⟩
    unfold upd; split
    · exact k3
    · rename_i hk
      rcases hd k with e | e
      · rw [e]; trivial
      · exact hg k i w w' (Ne.symm hk) e hC k1 k2 (hf k)
theorem rOp_mono {i : Nat} {K K' : Act → Facts → Prop} {a : Act} {f : Facts} {listed : Array Bool} (hg : Good md ops pl f) (hc : Clean listed f) (hi : i < ops.size)
    (h : ∀ a' f', Good md ops pl f' → Clean (listed.setIfInBounds i true) f' → (∃ w, pl.C w ∧ ∀ k, f' k w) → K a' f' → K' a' f') (hh : rOp P md ops pl i K a f) : rOp P md ops pl i K' a f := by
  unfold rOp at *
  rw [Array.getElem?_eq_getElem hi] at *
  obtain ⟨G, h1, h2⟩ := hh
  exact ⟨G, h1, fun v hv => h _ _ (h1.good hg v) hc.upd hv (h2 v hv)⟩
/-- Two operations that do not wait for each other may change places. -/
theorem rOp_swap {i j : Nat} {oi oj : Oper} {K : Act → Facts → Prop} {a : Act} {f : Facts} (hi : ops[i]? = some oi) (hj : ops[j]? = some oj) (hne : i ≠ j)
    (hap : oi.apart ops oj = true) (hsi : ∀ cs b, oi.op ≠ .select cs b) (hsj : ∀ cs b, oj.op ≠ .select cs b)
    (hij : ∀ e ∈ oj.after, Region.binds md e = true → e.on ≠ i) (hji : ∀ e ∈ oi.after, Region.binds md e = true → e.on ≠ j)
    (hg : Good md ops pl f) (hd : ∀ k, f k = (fun _ => True) ∨ waits md ops k i = false) (hfi : f i = fun _ => True) (hfj : f j = fun _ => True) (hw : ∃ w, pl.C w ∧ ∀ k, f k w)
    (h : rOp P md ops pl i (fun a f => rOp P md ops pl j K a f) a f) : rOp P md ops pl j (fun a f => rOp P md ops pl i K a f) a f := by
  obtain ⟨h1, h2, h3⟩ := Oper.apart_spec hap
  unfold rOp at *
  simp only [hi, hj] at *
  obtain ⟨Gi, ok, hK⟩ := h
  obtain ⟨w, hC, hf⟩ := hw
  obtain ⟨v0, w0, hC0, hf0⟩ := ok.live hg hd hC hf
  obtain ⟨Gj, okj0, -⟩ := hK v0 ⟨w0, hC0, hf0⟩
  have back : ∀ v G, Ok P md ops pl j oj (a.put oi.dst v) (upd f i (Gi v)) G → Ok P md ops pl j oj a f G := fun v G hh =>
    hh.congr (execOp_put oj hsj a oi.dst v h1).symm (wanted_put oj a oi.dst v h1).symm (vals_put h1).symm (fun e he hb => (upd_ne _ _ (hij e he hb)).symm)
  have okj := back v0 Gj okj0
  refine ⟨Gj, okj, fun u hu => ⟨Gi, ok.congr (execOp_put oi hsi a oj.dst u h3) (wanted_put oi a oj.dst u h3) (vals_put h3) (fun e he hb => upd_ne _ _ (hji e he hb)), fun v hv => ?_⟩⟩
  obtain ⟨w1, hC1, hf1⟩ := hv
  have hwi : ∃ w, pl.C w ∧ ∀ k, upd f i (Gi v) k w := by
    refine ⟨w1, hC1, fun k => ?_⟩
    have := hf1 k
    by_cases hki : k = i
    · subst hki; rw [upd_same] at this ⊢; exact this
    · rw [upd_ne _ _ hki] at this ⊢
      by_cases hkj : k = j
      · subst hkj; rw [hfj]; trivial
      · rwa [upd_ne _ _ hkj] at this
  obtain ⟨Gj', okj', hK'⟩ := hK v hwi
  obtain rfl := (back v Gj' okj').unique okj hC
  have := hK' u ⟨w1, hC1, fun k => by rw [upd_comm _ _ _ hne]; exact hf1 k⟩
  rw [← Act.put_comm a v u h2, ← upd_comm _ _ _ hne]
  exact this
def readyM (md : Region.Mode) (ops : Array Oper) (m : Nat) (listed : Array Bool) : List Nat := (Region.ready md ops listed).filter fun i => decide (i < m)
theorem mem_readyM {m j : Nat} {listed : Array Bool} : j ∈ readyM md ops m listed ↔ j ∈ Region.ready md ops listed ∧ j < m := by simp [readyM]
def wpAnyR (P : Program) (md : Region.Mode) (ops : Array Oper) (pl : Plan) (m : Nat) (Q : Array Bool → Act → Facts → Prop) : Nat → Array Bool → Act → Facts → Prop
  | 0, listed, a, f => readyM md ops m listed = [] ∧ Q listed a f
  | fuel + 1, listed, a, f =>
    (readyM md ops m listed = [] → Q listed a f) ∧
    ∀ i ∈ readyM md ops m listed, rOp P md ops pl i (wpAnyR P md ops pl m Q fuel (listed.setIfInBounds i true)) a f
theorem ready_lt {j : Nat} {listed : Array Bool} (h : j ∈ Region.ready md ops listed) : j < ops.size := by
  obtain ⟨_, o, ho, _⟩ := mem_ready.1 h
  exact (Array.getElem?_eq_some_iff.1 ho).1
def Down (md : Region.Mode) (ops : Array Oper) (listed : Array Bool) : Prop := ∀ j o, ops[j]? = some o → listed.getD j false = true → ∀ e ∈ o.after, Region.binds md e = true → listed.getD e.on false = true
theorem Down.step {listed : Array Bool} (hd : Down md ops listed) {i : Nat} (hi : i ∈ Region.ready md ops listed) : Down md ops (listed.setIfInBounds i true) := by
  obtain ⟨_, oi, hoi, hall⟩ := mem_ready.1 hi
  intro j o ho hl e he hb
  by_cases hji : j = i
  · subst hji; rw [hoi] at ho; obtain rfl := Option.some.inj ho; exact getD_set_true (hall e he hb)
  · rw [getD_set_ne false (Ne.symm hji)] at hl; exact getD_set_true (hd j o ho hl e he hb)
theorem waits_free {listed : Array Bool} {f : Facts} (hc : Clean listed f) (hdn : Down md ops listed) (hsz : ops.size ≤ listed.size) {i : Nat} (hi : listed.getD i true = false) : ∀ k, f k = (fun _ => True) ∨ waits md ops k i = false := by
  intro k
  by_cases hk : listed.getD k true = false
  · exact .inl (hc k hk)
  · right
    unfold waits
    cases ho : ops[k]? with
    | none => rfl
    | some o =>
      have hks : k < listed.size := Nat.lt_of_lt_of_le (Array.getElem?_eq_some_iff.1 ho).1 hsz
      have hk' : listed.getD k false = true := by simp [hks] at hk ⊢; exact hk
      simp only [Array.any_eq_false', Bool.and_eq_true, not_and, beq_iff_eq]
      intro e he hb hon
      have h1 := hdn k o ho hk' e he hb
      rw [hon] at h1
      rcases Nat.lt_or_ge i listed.size with h' | h'
      · simp [h'] at h1 hi; rw [h1] at hi; cases hi
      · simp [Array.getElem?_eq_none h'] at h1
theorem wpAnyR_first {m : Nat} {Q : Array Bool → Act → Facts → Prop} {i : Nat} {oi : Oper} (hi : ops[i]? = some oi) (him : i < m) (hsel : ∀ (j : Nat) (o : Oper) cs b, ops[j]? = some o → o.op ≠ .select cs b) :
    ∀ (fuel : Nat) (listed : Array Bool) (a : Act) (f : Facts),
      (∀ j oj, ops[j]? = some oj → j ≠ i → listed.getD j true = false → (∀ e ∈ oj.after, Region.binds md e = true → e.on ≠ i) → oi.apart ops oj = true) →
      i ∈ Region.ready md ops listed → Good md ops pl f → Clean listed f → Down md ops listed → ops.size ≤ listed.size → (∃ w, pl.C w ∧ ∀ k, f k w) →
      rOp P md ops pl i (wpAnyR P md ops pl m Q fuel (listed.setIfInBounds i true)) a f → wpAnyR P md ops pl m Q (fuel + 1) listed a f := by
  intro fuel
  induction fuel with
  | zero =>
    intro listed a f _ hr hg hc hdn hsz hw H
    refine ⟨fun h => absurd (mem_readyM.2 ⟨hr, him⟩) (by rw [h]; simp), fun j hj => ?_⟩
    by_cases hji : j = i
    · subst hji; exact H
    · exfalso
      obtain ⟨hj1, hj2⟩ := mem_readyM.1 hj
      have h0 := mem_readyM.2 ⟨ready_mono hj1 hji, hj2⟩
      unfold rOp at H
      rw [hi] at H
      obtain ⟨G, ok, hK⟩ := H
      obtain ⟨w, hC, hf⟩ := hw
      obtain ⟨v, w', hC', hf'⟩ := ok.live hg (waits_free hc hdn hsz (mem_ready.1 hr).1) hC hf
      have := (hK v ⟨w', hC', hf'⟩).1
      rw [this] at h0; cases h0
  | succ fuel ih =>
    intro listed a f hfree hr hg hc hdn hsz hw H
    refine ⟨fun h => absurd (mem_readyM.2 ⟨hr, him⟩) (by rw [h]; simp), fun j hj => ?_⟩
    by_cases hji : j = i
    · subst hji; exact H
    · obtain ⟨hj1, hj2⟩ := mem_readyM.1 hj
      have h0 := mem_readyM.2 ⟨ready_mono hj1 hji, hj2⟩
      obtain ⟨hjun, oj, hoj, hall⟩ := mem_ready.1 hj1
      obtain ⟨hiun, oi', hoi', halli⟩ := mem_ready.1 hr
      rw [hi] at hoi'; obtain rfl := Option.some.inj hoi'
      have nofalse : ∀ k, listed.getD k false = true → listed.getD k true = false → False := fun k h1 h2 => by
        rcases Nat.lt_or_ge k listed.size with h' | h'
        · simp [h'] at h1 h2; rw [h1] at h2; cases h2
        · simp [Array.getElem?_eq_none h'] at h1
      have hnot : ∀ e ∈ oj.after, Region.binds md e = true → e.on ≠ i := fun e he hb heq => nofalse i (heq ▸ hall e he hb) hiun
      have hnot' : ∀ e ∈ oi.after, Region.binds md e = true → e.on ≠ j := fun e he hb heq => nofalse j (heq ▸ halli e he hb) hjun
      have H1 : rOp P md ops pl i (fun a f => rOp P md ops pl j (wpAnyR P md ops pl m Q fuel ((listed.setIfInBounds j true).setIfInBounds i true)) a f) a f := by
        refine rOp_mono hg hc (ready_lt hr) (fun a' f' _ _ _ hK => ?_) H
        have := hK.2 j h0
        rwa [Array.setIfInBounds_comm _ _ (Ne.symm hji)] at this
      have H2 := rOp_swap hi hoj (Ne.symm hji) (hfree j oj hoj hji hjun hnot) (fun cs b => hsel i oi cs b hi) (fun cs b => hsel j oj cs b hoj) hnot hnot' hg (waits_free hc hdn hsz hiun) (hc i hiun) (hc j hjun) hw H1
      have hfree' : ∀ k ok, ops[k]? = some ok → k ≠ i → (listed.setIfInBounds j true).getD k true = false →
          (∀ e ∈ ok.after, Region.binds md e = true → e.on ≠ i) → oi.apart ops ok = true := fun k ok hk hki hun hno => by
        refine hfree k ok hk hki ?_ hno
        by_cases hjk : j = k
        · subst hjk; exact hjun
        · rw [getD_set_ne true hjk] at hun; exact hun
      exact rOp_mono hg hc (ready_lt hj1) (fun a' f' hg' hc' hw' hK => ih (listed.setIfInBounds j true) a' f' hfree' (ready_mono hr (Ne.symm hji)) hg' hc' (hdn.step hj1) (by simpa using hsz) hw' hK) H2
/-- The walk in the text's order. -/
def rLex (P : Program) (md : Region.Mode) (ops : Array Oper) (pl : Plan) (Q : Act → Facts → Prop) : Nat → Nat → Act → Facts → Prop
  | 0, _, a, f => Q a f
  | n + 1, k, a, f => rOp P md ops pl k (fun a f => rLex P md ops pl Q n (k + 1) a f) a f
def lexFromM (md : Region.Mode) (ops : Array Oper) (m : Nat) : Nat → Nat → Array Bool → Bool
  | 0, _, listed => (readyM md ops m listed).isEmpty
  | fuel + 1, k, listed => (Region.ready md ops listed).contains k && decide (k < m) && Region.free md ops listed k && lexFromM md ops m fuel (k + 1) (listed.setIfInBounds k true)
def marked : Nat → Nat → Array Bool → Array Bool
  | 0, _, listed => listed
  | n + 1, k, listed => marked n (k + 1) (listed.setIfInBounds k true)
theorem wpAnyR_lex {m : Nat} {Q : Array Bool → Act → Facts → Prop} (hs : Region.noSelect ops = true) : ∀ (n k : Nat) (listed : Array Bool) (a : Act) (f : Facts),
    lexFromM md ops m n k listed = true → Good md ops pl f → Clean listed f → Down md ops listed → ops.size ≤ listed.size → (∃ w, pl.C w ∧ ∀ k, f k w) →
    rLex P md ops pl (Q (marked n k listed)) n k a f → wpAnyR P md ops pl m Q n listed a f
  | 0, _, _, _, _, hB, _, _, _, _, _, h => ⟨by simpa [lexFromM] using hB, h⟩
  | n + 1, k, listed, a, f, hB, hg, hc, hdn, hsz, hw, h => by
    simp only [lexFromM, Bool.and_eq_true] at hB
    obtain ⟨⟨⟨hr, hkm⟩, hf⟩, hB'⟩ := hB
    have hr' : k ∈ Region.ready md ops listed := by simpa using hr
    obtain ⟨_, o, h0, _⟩ := mem_ready.1 hr'
    refine wpAnyR_first h0 (by simpa using hkm) (Region.noSelect_spec hs) n listed a f (Region.free_spec h0 hf) hr' hg hc hdn hsz hw ?_
    exact rOp_mono hg hc (ready_lt hr') (fun a' f' hg' hc' hw' hK => wpAnyR_lex hs n (k + 1) _ a' f' hB' hg' hc' (hdn.step hr') (by simpa using hsz) hw' hK) h
theorem wpAny_more {Q' : Exit → Act → World → Prop} : ∀ (fuel : Nat) (listed : Array Bool) (a : Act) (w : World), wpAny P md ops Q' fuel listed a w → wpAny P md ops Q' (fuel + 1) listed a w
  | 0, _, _, _, h => ⟨fun _ => h.2, by rw [h.1]; simp⟩
  | fuel + 1, _, _, _, h => ⟨h.1, fun i hi => wpOp_mono (fun a' w' h' => wpAny_more fuel _ a' w' h') (h.2 i hi)⟩
theorem wpAny_mores {Q' : Exit → Act → World → Prop} (d fuel : Nat) (listed : Array Bool) (a : Act) (w : World) (h : wpAny P md ops Q' fuel listed a w) : wpAny P md ops Q' (fuel + d) listed a w := by
  induction d with
  | zero => exact h
  | succ d ih => exact wpAny_more _ _ _ _ ih
/-- The blocks from 'base' on that the region's own allocs and appends have made are different ones. -/
def Dis (ops : Array Oper) (pl : Plan) (listed : Array Bool) (a : Act) (w : World) : Prop :=
  ∀ i oi di, pl.al i = true → listed.getD i false = true → ops[i]? = some oi → oi.dst = some di → ∀ b, blk (a.tmps.getD di undef) = some b → pl.base ≤ b →
    b < w.heap.size ∧ ∀ j oj dj, pl.al j = true → j ≠ i → listed.getD j false = true → ops[j]? = some oj → oj.dst = some dj → ∀ b', blk (a.tmps.getD dj undef) = some b' → pl.base ≤ b' → b ≠ b'
/-- Each temporary is written by one operation. -/
def onceB (ops : Array Oper) : Bool := (List.range ops.size).all fun i => (List.range ops.size).all fun j => i == j || match ops[i]?, ops[j]? with
  | some a, some b => match a.dst, b.dst with | some x, some y => x != y | _, _ => true
  | _, _ => true
theorem onceB_spec (h : onceB ops = true) {i j : Nat} {oi oj : Oper} {d : Tmp} (hi : ops[i]? = some oi) (hj : ops[j]? = some oj) (di : oi.dst = some d) (dj : oj.dst = some d) : i = j := by
  have h1 := (Array.getElem?_eq_some_iff.1 hi).1
  have h2 := (Array.getElem?_eq_some_iff.1 hj).1
  simp only [onceB, List.all_eq_true, List.mem_range] at h
  have := h i h1 j h2
  simp only [hi, hj, di, dj] at this
  simpa using this
theorem getD_put_ne {a : Act} {dst : Option Tmp} {v : Value} {d : Tmp} (h : dst ≠ some d) : (a.put dst v).tmps.getD d undef = a.tmps.getD d undef := by
  cases dst with
  | none => rfl
  | some e =>
    have hne : e ≠ d := fun he => h (by rw [he])
    simp [Act.put, Array.getElem?_setIfInBounds_ne hne]
theorem getD_put_same {a : Act} {d : Tmp} {v : Value} {b : Nat} (h : blk ((a.put (some d) v).tmps.getD d undef) = some b) : blk v = some b := by
  rcases Nat.lt_or_ge d a.tmps.size with h' | h'
  · simpa [Act.put, h'] using h
  · simp [Act.put, h', undef, blk] at h
theorem Dis.step {listed : Array Bool} {a : Act} {w w' : World} {i : Nat} {oi : Oper} {v : Value} (hone : onceB ops = true) (hi : ops[i]? = some oi)
    (hsz : w.heap.size ≤ w'.heap.size) (hv : pl.al i = true → Own pl.base w v w' ∨ v = undef) (h : Dis ops pl listed a w) : Dis ops pl (listed.setIfInBounds i true) (a.put oi.dst v) w' := by
  intro p op dp hp hlp hop hdp b hb hN
  have old : ∀ q, q ≠ i → (listed.setIfInBounds i true).getD q false = true → listed.getD q false = true := fun q hq hl => by rwa [getD_set_ne false (Ne.symm hq)] at hl
  by_cases hpi : p = i
  · subst hpi
    rw [hi] at hop; obtain rfl := Option.some.inj hop
    rw [hdp] at hb
    have hv' := getD_put_same hb
    rcases hv hp with hown | e
    · obtain ⟨h1, h2⟩ := hown b hv' hN
      refine ⟨h2, fun j oj dj hj hne hlj hoj hdj b' hb' hN' => ?_⟩
      have hnd : oi.dst ≠ some dj := fun e => hne (onceB_spec hone hoj hi hdj e)
      rw [getD_put_ne hnd] at hb'
      have := (h j oj dj hj (old j hne hlj) hoj hdj b' hb' hN').1
      omega
    · subst e; simp [undef, blk] at hv'
  · have hnd : oi.dst ≠ some dp := fun e => hpi (onceB_spec hone hop hi hdp e)
    rw [getD_put_ne hnd] at hb
    obtain ⟨h1, h2⟩ := h p op dp hp (old p hpi hlp) hop hdp b hb hN
    refine ⟨by omega, fun j oj dj hj hne hlj hoj hdj b' hb' hN' => ?_⟩
    by_cases hji : j = i
    · subst hji
      rw [hi] at hoj; obtain rfl := Option.some.inj hoj
      rw [hdj] at hb'
      have hv' := getD_put_same hb'
      rcases hv hj with hown | e
      · have := hown b' hv' hN'; omega
      · subst e; simp [undef, blk] at hv'
    · have hnd' : oi.dst ≠ some dj := fun e => hji (onceB_spec hone hoj hi hdj e)
      rw [getD_put_ne hnd'] at hb'
      exact h2 j oj dj hj hne (old j hji hlj) hoj hdj b' hb' hN'
/-- For each operation the numbers that it waits for, through others too, as the bits of a number. -/
def ancGo (md : Region.Mode) : List Oper → List Nat → List Nat
  | [], acc => acc
  | o :: l, acc => ancGo md l (acc ++ [o.after.toList.foldl (fun s e => if Region.binds md e then s ||| 2 ^ e.on ||| acc.getD e.on 0 else s) 0])
def phasedB (md : Region.Mode) (ops : Array Oper) (m : Nat) : Bool :=
  let A := ancGo md ops.toList []
  (List.range ops.size).all fun j => decide (j < m) || (List.range m).all fun i => (A.getD j 0).testBit i
theorem foldl_bits (md : Region.Mode) (acc : List Nat) (i : Nat) : ∀ (es : List Edge) (s : Nat), (es.foldl (fun s e => if Region.binds md e then s ||| 2 ^ e.on ||| acc.getD e.on 0 else s) s).testBit i = true →
    s.testBit i = true ∨ ∃ e ∈ es, Region.binds md e = true ∧ (i = e.on ∨ (acc.getD e.on 0).testBit i = true)
  | [], _, h => .inl h
  | e :: es, s, h => by
    rcases foldl_bits md acc i es _ h with h' | ⟨e', he', h'⟩
    · simp only [] at h'
      split at h'
      · rename_i hb
        rw [Nat.testBit_or, Nat.testBit_or, Bool.or_eq_true, Bool.or_eq_true] at h'
        rcases h' with (h' | h') | h'
        · exact .inl h'
        · refine .inr ⟨e, by simp, hb, .inl ?_⟩
          rw [Nat.testBit_two_pow] at h'
          exact (of_decide_eq_true h').symm
        · exact .inr ⟨e, by simp, hb, .inr h'⟩
      · exact .inl h'
    · exact .inr ⟨e', by simp [he'], h'⟩
theorem ancGo_spec (listed : Array Bool) (hd : Down md ops listed) : ∀ (l : List Oper) (acc : List Nat), (∀ j, l[j]? = ops[acc.length + j]?) →
    (∀ j o, j < acc.length → ops[j]? = some o → (∀ e ∈ o.after, Region.binds md e = true → listed.getD e.on false = true) → ∀ i, (acc.getD j 0).testBit i = true → listed.getD i false = true) →
    ∀ j o, j < acc.length + l.length → ops[j]? = some o → (∀ e ∈ o.after, Region.binds md e = true → listed.getD e.on false = true) → ∀ i, ((ancGo md l acc).getD j 0).testBit i = true → listed.getD i false = true
  | [], _, _, h => by simpa [ancGo] using h
  | o :: l, acc, hl, h => by
    intro j oj hj hoj hall i hi
    have h0 : ops[acc.length]? = some o := by simpa using (hl 0).symm
    rw [ancGo] at hi
    refine ancGo_spec listed hd l _ (fun j => ?_) (fun j' o' hj' ho' hall' i' hi' => ?_) j oj (by simp at hj ⊢; omega) hoj hall i hi
    · have := hl (j + 1); simp only [List.length_append, List.length_cons, List.length_nil]; simpa [Nat.add_assoc, Nat.add_comm 1 j] using this
    · by_cases hlt : j' < acc.length
      · rw [List.getD_eq_getElem?_getD, List.getElem?_append_left hlt, ← List.getD_eq_getElem?_getD] at hi'
        exact h j' o' hlt ho' hall' i' hi'
      · obtain rfl : j' = acc.length := by simp at hj'; omega
        rw [h0] at ho'; obtain rfl := Option.some.inj ho'
        rw [List.getD_eq_getElem?_getD, List.getElem?_append_right (Nat.le_refl _)] at hi'
        simp only [Nat.sub_self, List.getElem?_cons_zero, Option.getD_some] at hi'
        rcases foldl_bits md acc i' _ _ hi' with h' | ⟨e, he, hb, h'⟩
        · simp at h'
        · have he' : e ∈ o.after := by simpa using he
          have hle := hall' e he' hb
          rcases h' with rfl | h'
          · exact hle
          · by_cases hea : e.on < acc.length
            · cases hoe : ops[e.on]? with
              | none => exact absurd hoe (by rw [Array.getElem?_eq_none_iff]; have := (Array.getElem?_eq_some_iff.1 h0).1; omega)
              | some oe => exact h e.on oe hea hoe (fun e2 he2 hb2 => hd e.on oe hoe hle e2 he2 hb2) i' h'
            · rw [List.getD_eq_getElem?_getD, List.getElem?_eq_none (by omega)] at h'; simp at h'
theorem phased_spec {m : Nat} {listed : Array Bool} (hp : phasedB md ops m = true) (hd : Down md ops listed) {j : Nat} (hj : j ∈ Region.ready md ops listed) (hm : ¬ j < m) {i : Nat} (hi : i < m) : listed.getD i false = true := by
  obtain ⟨_, o, ho, hall⟩ := mem_ready.1 hj
  have hlt := (Array.getElem?_eq_some_iff.1 ho).1
  simp only [phasedB, List.all_eq_true, List.mem_range, Bool.or_eq_true, decide_eq_true_eq] at hp
  have := (hp j hlt).resolve_left hm i hi
  exact ancGo_spec listed hd ops.toList [] (by simp) (by simp) j o (by simpa using hlt) ho hall i this
/-- It is a 'wpAny'. -/
theorem wpAny_of_R {m d : Nat} {Q : Array Bool → Act → Facts → Prop} {Q' : Exit → Act → World → Prop} (hone : onceB ops = true) (hp : phasedB md ops m = true) (hR : ∀ i w w', pl.C w → pl.R i w w' → w.heap.size ≤ w'.heap.size)
    (hQ : ∀ listed a f w, Q listed a f → pl.C w → (∀ k, f k w) → Dis ops pl listed a w → wpAny P md ops Q' d listed a w) :
    ∀ (fuel : Nat) (listed : Array Bool) (a : Act) (f : Facts) (w : World), pl.C w → Good md ops pl f → Clean listed f → ops.size ≤ listed.size → (∀ k, f k w) → Dis ops pl listed a w → Down md ops listed →
      wpAnyR P md ops pl m Q fuel listed a f → wpAny P md ops Q' (d + fuel) listed a w
  | 0, listed, a, f, w, hC, _, _, _, hf, hdis, _, h => hQ _ _ _ _ h.2 hC hf hdis
  | fuel + 1, listed, a, f, w, hC, hg, hcl, hsz, hf, hdis, hdn, h => by
    by_cases hre : readyM md ops m listed = []
    · exact wpAny_mores (fuel + 1) d _ _ _ (hQ _ _ _ _ (h.1 hre) hC hf hdis)
    · obtain ⟨i0, hi0⟩ := List.exists_mem_of_ne_nil _ hre
      obtain ⟨hi1, hi2⟩ := mem_readyM.1 hi0
      refine ⟨fun he => absurd hi1 (by rw [he]; simp), fun i hi => ?_⟩
      by_cases him : i < m
      · have hro := h.2 i (mem_readyM.2 ⟨hi, him⟩)
        unfold rOp at hro
        obtain ⟨hiun, oi, hoi, _⟩ := mem_ready.1 hi
        rw [hoi] at hro
        obtain ⟨G, ok, hK⟩ := hro
        have hok := ok
        unfold wpOp
        rw [hoi]
        have hgood := fun v => ok.good hg v
        rcases ok with ⟨h1, rfl⟩ | ⟨h1, h2, hal, v0, rfl, h3⟩ | ⟨h1, F, h2, rfl, h4, h5⟩
        · simp only [h1, Bool.false_eq_true, if_false]
          have hf' : ∀ k, upd f i (fun _ => (undef : Value) = undef) k w := fun k => by unfold upd; split; rfl; exact hf k
          exact wpAny_of_R hone hp hR hQ fuel _ _ _ w hC (hgood undef) hcl.upd (by simpa using hsz) hf' (hdis.step hone hoi (Nat.le_refl _) (fun _ => .inr rfl)) (hdn.step hi) (hK undef ⟨w, hC, hf'⟩)
        · simp only [h1, if_true]
          refine .inl (valAt_wp (h3 w hC) ?_)
          have hf' : ∀ k, upd f i (fun _ => v0 = v0) k w := fun k => by unfold upd; split; rfl; exact hf k
          exact wpAny_of_R hone hp hR hQ fuel _ _ _ w hC (hgood v0) hcl.upd (by simpa using hsz) hf' (hdis.step hone hoi (Nat.le_refl _) (fun e => by rw [hal] at e; cases e)) (hdn.step hi) (hK v0 ⟨w, hC, hf'⟩)
        · simp only [h1, if_true]
          refine .inl (stepTo_wp (h5 w hC fun e _ _ => hf e.on) fun v w' ⟨k1, k2, k3, k4⟩ => ?_)
          have hf' : ∀ k, upd f i (F (vals a oi) v) k w' := fun k => by
            unfold upd; split
            · exact k3
            · rename_i hk
              rcases waits_free hcl hdn hsz hiun k with e | e
              · rw [e]; trivial
              · exact hg k i w w' (Ne.symm hk) e hC k1 k2 (hf k)
          exact wpAny_of_R hone hp hR hQ fuel _ _ _ w' k1 (hgood v) hcl.upd (by simpa using hsz) hf' (hdis.step hone hoi (hR i w w' hC k2) (fun e => .inl (k4 e))) (hdn.step hi) (hK v ⟨w', k1, hf'⟩)
      · exfalso
        have := phased_spec hp hdn hi him hi2
        have hun := (mem_ready.1 hi1).1
        rcases Nat.lt_or_ge i0 listed.size with h' | h'
        · simp [h'] at this hun; rw [this] at hun; cases hun
        · simp [Array.getElem?_eq_none h'] at this
def forcedB (md : Region.Mode) (ops : Array Oper) : Nat → Nat → Array Bool → Bool
  | 0, _, listed => (Region.ready md ops listed).isEmpty
  | n + 1, k, listed => (Region.ready md ops listed == [k]) && forcedB md ops n (k + 1) (listed.setIfInBounds k true)
theorem wpAny_forced {Q' : Exit → Act → World → Prop} : ∀ (l : List Oper) (k : Nat) (listed : Array Bool) (a : Act) (w : World), (∀ j, l[j]? = ops[k + j]?) → forcedB md ops l.length k listed = true →
    wpList P ops Q' l a w → wpAny P md ops Q' l.length listed a w
  | [], _, _, _, _, _, hB, h => ⟨by simpa [forcedB] using hB, h⟩
  | o :: l, k, listed, a, w, hl, hB, h => by
    have h0 : ops[k]? = some o := by simpa using (hl 0).symm
    simp only [List.length_cons, forcedB, Bool.and_eq_true, beq_iff_eq] at hB
    refine ⟨fun he => by rw [he] at hB; simp at hB, fun i hi => ?_⟩
    rw [hB.1] at hi
    obtain rfl : i = k := by simpa using hi
    have ih := fun a' w' => wpAny_forced (Q' := Q') l (i + 1) (listed.setIfInBounds i true) a' w' (fun j => by have := hl (j + 1); simpa [Nat.add_assoc, Nat.add_comm 1 j] using this) hB.2
    refine wpOp_mono (K := wpList P ops Q' l) (fun a' w' h' => ih a' w' h') ?_
    unfold wpOp
    rw [h0]
    exact h
def rLexL (P : Program) (md : Region.Mode) (ops : Array Oper) (pl : Plan) (Q : List Oper → Act → Facts → Prop) : Nat → List Oper → Nat → Act → Facts → Prop
  | 0, l, _, a, f => Q l a f
  | _ + 1, [], _, a, f => Q [] a f
  | n + 1, o :: l, k, a, f => ∃ G, Ok P md ops pl k o a f G ∧ ∀ v, (∃ w, pl.C w ∧ ∀ j, upd f k (G v) j w) → rLexL P md ops pl Q n l (k + 1) (a.put o.dst v) (upd f k (G v))
theorem rLex_of_L {Q : List Oper → Act → Facts → Prop} : ∀ (n : Nat) (l : List Oper) (k : Nat) (a : Act) (f : Facts), (∀ j, l[j]? = ops[k + j]?) → n ≤ l.length →
    rLexL P md ops pl Q n l k a f → rLex P md ops pl (Q (l.drop n)) n k a f
  | 0, _, _, _, _, _, _, h => h
  | n + 1, [], _, _, _, _, hn, _ => by simp at hn
  | n + 1, o :: l, k, a, f, hl, hn, h => by
    have h0 : ops[k]? = some o := by simpa using (hl 0).symm
    obtain ⟨G, ok, hK⟩ := h
    unfold rLex rOp
    rw [h0]
    exact ⟨G, ok, fun v hv => rLex_of_L n l (k + 1) _ _ (fun j => by have := hl (j + 1); simpa [Nat.add_assoc, Nat.add_comm 1 j] using this) (by simpa using hn) (hK v hv)⟩
/-- THE RULE. -/
theorem wp_region_rg {id : Nat} {Q : Exit → Act → World → Prop} {a : Act} {w : World} {l : List Oper} (pl : Plan) (m : Nat) (hm : P.follows .mixedOrders = true)
    (h1 : Region.noSelect l.toArray = true) (h2 : lexFromM .any l.toArray m m 0 (Array.replicate l.length false) = true) (h3 : onceB l.toArray = true) (h4 : phasedB .any l.toArray m = true)
    (h5 : forcedB .any l.toArray (l.length - m) m (marked m 0 (Array.replicate l.length false)) = true) (hml : decide (m ≤ l.length) = true)
    (hR : ∀ i w w', pl.C w → pl.R i w w' → w.heap.size ≤ w'.heap.size) (hC : pl.C w.drew)
    (h : rLexL P .any l.toArray pl (fun rest a' f => ∀ w', pl.C w' → (∀ k, f k w') → Dis l.toArray pl (marked m 0 (Array.replicate l.length false)) a' w' → wpList P l.toArray Q rest a' w') m l 0 a (fun _ _ => True)) :
    (Code.region id l.toArray true).wp P Q a w := by
  have hml := of_decide_eq_true hml
  have h := rLex_of_L m l 0 a _ (by simp) hml h
  refine wp_region_any hm ?_
  have hfuel : l.toArray.size = (l.length - m) + m := by simp; omega
  rw [hfuel, show ((l.length - m) + m) = l.length by omega]
  have hdn0 : Down .any l.toArray (Array.replicate l.length false) := fun j o _ hli => by
    exfalso
    rcases Nat.lt_or_ge j l.length with h' | h' <;> simp [h'] at hli
  have key := wpAnyR_lex (P := P) (md := .any) (ops := l.toArray) (pl := pl) (m := m)
    (Q := fun listed a' f => listed = marked m 0 (Array.replicate l.length false) ∧ ∀ w', pl.C w' → (∀ k, f k w') → Dis l.toArray pl listed a' w' → wpList P l.toArray Q (l.drop m) a' w')
    h1 m 0 (Array.replicate l.length false) a (fun _ _ => True) h2 (fun _ _ _ _ _ _ _ _ _ _ => trivial) (fun _ _ => rfl) hdn0 (by simp) ⟨w.drew, hC, fun _ => trivial⟩
  have key2 := key (by simpa using h)
  have nothing : ∀ i, (Array.replicate l.length false).getD i false = false := fun i => by
    rcases Nat.lt_or_ge i l.length with h' | h' <;> simp [h']
  rw [show l.length = (l.length - m) + m by omega]
  refine wpAny_of_R (d := l.length - m) h3 h4 hR (fun listed a' f w' hq hC' hf hdis => ?_) m _ a (fun _ _ => True) w.drew hC (fun _ _ _ _ _ _ _ _ _ _ => trivial) (fun _ _ => rfl) (by simp; omega) (fun _ => trivial) ?_ ?_ (by rw [show (l.length - m) + m = l.length by omega]; exact key2)
  · obtain ⟨rfl, hq⟩ := hq
    have hll : (l.drop m).length = l.length - m := by simp
    rw [← hll]
    exact wpAny_forced (l.drop m) m _ a' w' (fun j => by simp) (by rw [hll]; exact h5) (hq w' hC' hf hdis)
  · intro i oi di _ hli; rw [show (l.length - m) + m = l.length by omega, nothing] at hli; cases hli
  · intro j o _ hli; rw [show (l.length - m) + m = l.length by omega, nothing] at hli; cases hli
def plainB : Op → Bool
  | .move _ | .assign _ | .pick .. | .build .. | .load .. | .binOp .. | .unOp .. | .convert .. | .fieldAddr .. | .field .. | .indexAddr .. | .index .. | .slice .. | .extract .. => true
  | _ => false
theorem not_enter {α : Type} {s : Sem α} {g : α → Next} (hg : ∀ x f args, g x ≠ .enter f args) {w w' : World} {f : FuncId} {args : Array Value} (h : (s >>= fun x => pure (g x)).run P w = .ok (.enter f args) w') : False := by
  rw [Sem.run_bind] at h
  cases e : s.run P w with
  | ok x w1 => rw [e] at h; simp at h; exact hg x f args h.1
  | halt x w1 => rw [e] at h; simp at h
theorem plain_spec {o : Oper} (h : plainB o.op = true) {a : Act} {w : World} {v : Value} {C : World → Prop} (hq : o.quietAt P a C w v) : valAt P o a w v := by
  unfold Oper.quietAt at hq
  unfold valAt
  have key : ∀ f args w', (execOp a.eval o).run P w ≠ .ok (.enter f args) w' := by
    intro f args w' he
    unfold execOp at he
    cases ho : o.op <;> rw [ho] at h he <;> simp only [plainB, Bool.false_eq_true] at h <;> simp only [] at he
    all_goals first
      | (simp at he; done)
      | exact not_enter (fun _ _ _ hh => by cases hh) he
  generalize (execOp a.eval o).run P w = r at *
  cases r with
  | ok n w' =>
    cases n <;> simp only [Oper.quietUpon] at hq ⊢
    case value u => exact hq
    case skip => exact hq
    case enter f args => exact key _ _ _ rfl
  | halt x w' => simp only [Oper.quietUpon] at hq
theorem rLexL_quiet {C : World → Prop} {R : Nat → World → World → Prop} {sp : Nat → Option (List Value → Value → World → Prop)} {al : Nat → Bool} {N : Nat}
    {Q : List Oper → Act → Facts → Prop} {n k : Nat} {o : Oper} {l : List Oper} {a : Act} {f : Facts} (hp : plainB o.op = true) (hs : (sp k).isNone = true) (ha : al k = false) (hf : f k = fun _ => True)
    (h : wpQuiet P ops C (fun a' => rLexL P md ops ⟨C, R, sp, al, N⟩ Q n l (k + 1) a' f) [o] a) : rLexL P md ops ⟨C, R, sp, al, N⟩ Q (n + 1) (o :: l) k a f := by
  unfold wpQuiet at h
  split at h
  · rename_i hw
    obtain ⟨v0, h1, h2⟩ := h
    refine ⟨fun v _ => v = v0, .inr (.inl ⟨hw, by simpa using hs, ha, v0, rfl, fun w hC => plain_spec hp (h1 w hC)⟩), fun v hv => ?_⟩
    obtain ⟨w, _, hv⟩ := hv
    have e := hv k; rw [upd_same] at e; subst e
    rw [upd_true hf (by funext; simp)]
    exact h2
  · rename_i hw
    refine ⟨fun v _ => v = undef, .inl ⟨by simpa using hw, rfl⟩, fun v hv => ?_⟩
    obtain ⟨w, _, hv⟩ := hv
    have e := hv k; rw [upd_same] at e; subst e
    rw [upd_true hf (by funext; simp)]
    exact h
/-- An operation whose value is fixed in the class, shown by hand. -/
theorem rLexL_val {C : World → Prop} {R : Nat → World → World → Prop} {sp : Nat → Option (List Value → Value → World → Prop)} {al : Nat → Bool} {N : Nat}
    {Q : List Oper → Act → Facts → Prop} {n k : Nat} {o : Oper} {l : List Oper} {a : Act} {f : Facts} (v0 : Value) (hs : (sp k).isNone = true) (ha : al k = false) (hf : f k = fun _ => True) (hw : Region.wanted o (yielded ops a.tmps) = true)
    (hrun : ∀ w, (execOp a.eval o).run P w = .ok (.value v0) w) (h : rLexL P md ops ⟨C, R, sp, al, N⟩ Q n l (k + 1) (a.put o.dst v0) f) : rLexL P md ops ⟨C, R, sp, al, N⟩ Q (n + 1) (o :: l) k a f := by
  refine ⟨fun v _ => v = v0, .inr (.inl ⟨hw, by simpa using hs, ha, v0, rfl, fun w _ => by unfold valAt; rw [hrun w]; exact ⟨rfl, rfl⟩⟩), fun v hv => ?_⟩
  obtain ⟨w, _, hv⟩ := hv
  have e := hv k; rw [upd_same] at e; subst e
  rw [upd_true hf (by funext; simp)]
  exact h
/-- An operation of which something is said. -/
theorem rLexL_spec {C : World → Prop} {R : Nat → World → World → Prop} {sp : Nat → Option (List Value → Value → World → Prop)} {al : Nat → Bool} {N : Nat}
    {Q : List Oper → Act → Facts → Prop} {n k : Nat} {o : Oper} {l : List Oper} {a : Act} {f : Facts} (F : List Value → Value → World → Prop) (hs : sp k = some F) (hw : Region.wanted o (yielded ops a.tmps) = true)
    (hst : ∀ v j w w', j ≠ k → C w → C w' → R j w w' → F (vals a o) v w → F (vals a o) v w')
    (hstep : ∀ w, C w → (∀ e ∈ o.after, Region.binds md e = true → f e.on w) → stepTo P o a w fun v w' => C w' ∧ R k w w' ∧ F (vals a o) v w' ∧ (al k = true → Own N w v w'))
    (h : ∀ v w, C w → F (vals a o) v w → rLexL P md ops ⟨C, R, sp, al, N⟩ Q n l (k + 1) (a.put o.dst v) (upd f k (F (vals a o) v))) : rLexL P md ops ⟨C, R, sp, al, N⟩ Q (n + 1) (o :: l) k a f :=
  ⟨F (vals a o), .inr (.inr ⟨hw, F, hs, rfl, fun v j w w' hj _ => hst v j w w' hj, hstep⟩), fun v ⟨w, hC, hf⟩ => h v w hC (by have := hf k; rwa [upd_same] at this)⟩
theorem stepTo_call {o : Oper} {a : Act} {w : World} {Φ : Value → World → Prop} {fid : FuncId} {args : Array Value} (hrun : (execOp a.eval o).run P w = .ok (.enter fid args) w) (h : Calls P fid args w fun e w' => ∃ v, e = .returned v ∧ Φ v w') : stepTo P o a w Φ := by
  unfold stepTo; rw [hrun]; exact h
theorem stepTo_run {o : Oper} {a : Act} {w w' : World} {Φ : Value → World → Prop} {v : Value} (hrun : (execOp a.eval o).run P w = .ok (.value v) w') (h : Φ v w') : stepTo P o a w Φ := by
  unfold stepTo; rw [hrun]; exact h
@[go_sem] theorem upon_value (Φ : Value → World → Prop) (u : Value) (w : World) : upon P Φ (.ok (.value u) w) = Φ u w := rfl
@[go_sem] theorem upon_enter (Φ : Value → World → Prop) (f : FuncId) (args : Array Value) (w : World) : upon P Φ (.ok (.enter f args) w) = Calls P f args w (fun e w'' => ∃ v, e = .returned v ∧ Φ v w'') := rfl
attribute [go_sem] stepTo
end
/-- The worlds of a class, as a type: what each of them holds is a rule for the walk. -/
structure Cls (G : World → Prop) where
  u : World
  h : G u
def evr {G : World → Prop} (x : Cls G) : World := x.u
theorem evr_h {G : World → Prop} (x : Cls G) : G (evr x) := x.h
/-- .. as a condition on worlds. -/
def In (G : World → Prop) (w : World) : Prop := ∃ x : Cls G, w = evr x
theorem In.mk {G : World → Prop} {w : World} (h : G w) : In G w := ⟨⟨w, h⟩, rfl⟩
theorem In.out {G : World → Prop} {w : World} (h : In G w) : G w := by obtain ⟨x, rfl⟩ := h; exact x.h
@[go_sem] theorem In_evr {G : World → Prop} (w : World) : In G w ↔ ∃ x : Cls G, w = evr x := Iff.rfl
/-- THE RULE, the plan in parts. -/
theorem region {P : Program} {id : Nat} {Q : Exit → Act → World → Prop} {a : Act} {w : World} {l : List Oper} (G : World → Prop) (R : Nat → World → World → Prop) (sp : Nat → Option (List Value → Value → World → Prop)) (al : Nat → Bool) (N : Nat) (m : Nat) (hm : P.follows .mixedOrders = true)
    (h1 : Region.noSelect l.toArray = true) (h2 : lexFromM .any l.toArray m m 0 (Array.replicate l.length false) = true) (h3 : onceB l.toArray = true) (h4 : phasedB .any l.toArray m = true)
    (h5 : forcedB .any l.toArray (l.length - m) m (marked m 0 (Array.replicate l.length false)) = true) (hml : decide (m ≤ l.length) = true)
    (hR : ∀ i w w', R i w w' → w.heap.size ≤ w'.heap.size) (hC : G w.drew)
    (h : Nonempty (Cls G) → rLexL P .any l.toArray ⟨In G, R, sp, al, N⟩ (fun rest a' f => ∀ w', G w' → (∀ k, f k w') → Dis l.toArray ⟨In G, R, sp, al, N⟩ (marked m 0 (Array.replicate l.length false)) a' w' → wpList P l.toArray Q rest a' w') m l 0 a (fun _ _ => True)) :
    (Code.region id l.toArray true).wp P Q a w := by
  refine wp_region_rg ⟨In G, R, sp, al, N⟩ m hm h1 h2 h3 h4 h5 hml (fun i w w' _ hr => hR i w w' hr) (In.mk hC) ?_
  have e : (fun (rest : List Oper) (a' : Act) (f : Facts) => ∀ w', In G w' → (∀ k, f k w') → Dis l.toArray ⟨In G, R, sp, al, N⟩ (marked m 0 (Array.replicate l.length false)) a' w' → wpList P l.toArray Q rest a' w') =
      (fun rest a' f => ∀ w', G w' → (∀ k, f k w') → Dis l.toArray ⟨In G, R, sp, al, N⟩ (marked m 0 (Array.replicate l.length false)) a' w' → wpList P l.toArray Q rest a' w') := by
    funext rest a' f
    exact propext ⟨fun h w' hw => h w' (In.mk hw), fun h w' hw => h w' hw.out⟩
  show rLexL P .any l.toArray ⟨In G, R, sp, al, N⟩ _ m l 0 a _
  rw [e]
  exact h ⟨⟨w.drew, hC⟩⟩
theorem own_keeps {P : Program} {w w' : World} {base : Nat} {t ty e : TypeId} {i : TypeInfo} {z : Value} {size bytes : Nat} (ht : P.underlying t = some (.slice e)) (hi : P.info? e = some i) (hz : i.zero = some z)
    (hsize : i.size = size) (hby : i.bytes = bytes) {v v' : Value} {n : Nat} {xs : List Value} (hown : w.ownsRow base e size v n xs)
    {a : Addr} {m c : Nat} {news : List Value} (hl : news.length = m * size) (hnews : ∀ j u, news[j]? = some u → w.cell? (a.add j) = some u) (h1 : ∀ u ∈ news, u.oneCell' = true)
    (h63 : n + m ≤ maxLen) (hbytes : (n + m) * bytes ≤ 140737488355328)
    (hr : (Builtin.append_ #[t, t] ty #[v, .slice (some a) m c]).run P w = .ok v' w') : w'.ownsRow base e size v n xs := by
  refine ⟨hown.1, ?_⟩
  subst hsize; subst hby
  rcases hown.2 with hn | ⟨g, cap, cur, rfl, hb, hg, hnc, hcm, hcs, htake⟩
  · exact .inl hn
  · refine .inr ?_
    by_cases hroom : n + m ≤ cap
    · have hfit : n * i.size + news.length ≤ cur.size := by rw [hl, hcs, ← Nat.add_mul]; exact Nat.mul_le_mul_right _ hroom
      rw [run_append_room (P := P) w t ty e i ht hi g n cap cur hg a m c news hl hnews h1 hroom hfit] at hr
      cases hr
      refine ⟨g, cap, _, rfl, hb, setRow_heap w g cur _ e _ hg, hnc, hcm, ?_, ?_⟩
      · simp only [List.size_toArray, List.length_append, List.length_take, List.length_drop, Array.length_toList]; omega
      · have hlx : xs.length = n * i.size := hown.1
        rw [htake, List.append_assoc, ← hlx]
        exact List.take_left
    · have holds : ∀ j u, xs[j]? = some u → w.cell? ((⟨g, 0, none⟩ : Addr).add j) = some u := hown.cells (g := g) rfl
      have hsmall : n + m ≤ 9223372036854775807 := by simp only [maxLen] at h63; omega
      rw [run_append_grow (P := P) w t ty e i z ht hi hz ⟨g, 0, none⟩ n cap xs hown.1 holds a m c news hl hnews (by omega) (by omega) (growslice_fits (by omega) hbytes)] at hr
      cases hr
      exact ⟨g, cap, cur, rfl, hb, (heap_alloc_old w.drew _ (Array.getElem?_eq_some_iff.1 hg).1).trans hg, hnc, hcm, hcs, htake⟩
/-- append(s, x), x one element in a block of its own. -/
theorem stepTo_push {P : Program} {o : Oper} {a : Act} {w : World} {Φ : Value → World → Prop} (s x : Operand) (t : TypeId)
    (ho : o.op = .call { callee := .builtin .append, args := #[s, x], argTypes := #[t, t] })
    (base : Nat) (e : TypeId) (z : Value) (size bytes : Nat) (ht : P.underlying t = some (.slice e)) (hinfo : (P.info? e).map (fun i => (i.zero, i.size, i.bytes)) = some (some z, size, bytes)) (hzs : z.cells.size = size) (hsz : 0 < size)
    (v : Value) (n : Nat) (xs : List Value) (hs : a.eval s = v) (hown : w.ownsRow base e size v n xs)
    (b c : Nat) (news : List Value) (e' : TypeId) (hx : a.eval x = .slice (some ⟨b, 0, none⟩) 1 c) (hblk : w.heap[b]? = some (.cells news.toArray e' (0, 0))) (hl : news.length = size) (h1 : ∀ u ∈ news, u.oneCell' = true)
    (h63 : n + 1 ≤ 1000000) (hbytes : (n + 1) * bytes ≤ 140737488355328) (hbase : base ≤ w.heap.size)
    (h : ∀ v' w', w'.ownsRow base e size v' (n + 1) (xs ++ news) → w'.ownsRow base e size v n xs → w.grownBy w' v.ownBlock → (v'.ownBlock = v.ownBlock ∨ v'.ownBlock = some w.heap.size) → Φ v' w') : stepTo P o a w Φ := by
  obtain ⟨i0, hi, hz0, hz1, hz2⟩ := info_parts hinfo
  have hnews : ∀ j u, news[j]? = some u → w.cell? ((⟨b, 0, none⟩ : Addr).add j) = some u := World.news_of_block (cs := news.toArray) (by simpa using hblk)
  have h63' : n + 1 ≤ maxLen := by unfold maxLen; omega
  obtain ⟨v', w', hr, h2, h3, _, h5⟩ := run_append_own_at (P := P) w base t o.type e i0 z size bytes ht hi hz0 hz1 hz2 hzs hsz v n xs hown ⟨b, 0, none⟩ 1 c news (by omega) hnews h1 h63' hbytes hbase
  have hk := own_keeps (w' := w') ht hi hz0 hz1 hz2 hown (by omega) hnews h1 h63' hbytes hr
  unfold stepTo execOp
  simp only [ho, resolve, invoke, builtin, Sem.run_bind, Sem.run_pure, Result.andThen_ok, List.map_toArray, List.map_cons, List.map_nil, hs, hx, hr]
  exact h v' w' h2 hk h3 h5
end Go.Proofs.YtlddgafbgaaiiaaGreatDoor.Rg
