/- The reckoner is sound; a run in parts. Of no program. Written by mkevl.py. -/
import Derived.Test.YtlddgafbgaaiiaaGreatDoorEvR
import Derived.Laws.AppendOwn
set_option linter.all false
namespace Go.Proofs.YtlddgafbgaaiiaaGreatDoor.Evl
open Go

section
variable {P : Program} {T : Tab} {N : Nat} {m m' : Nm} {s s' : St} {w : World} {nn : Nat} {A : Ac} {a : Act} {v : AV} {call : CallT} {ops : Array Oper}

theorem val_ok (G : Good P T) (R : Regs m nn A a) (hr : Rep N m s.H w) (hN : N ≤ w.heap.size) (C : CallOk P N call) {o : Oper} (h : valX P T call ops A s o = some (v, s')) (hf : Fresh m s s') (hl : Low s)
    {K : Act → World → Prop} {Q : Exit → Act → World → Prop} (hK : ∀ m' w', v.ok m' → Did N m s s' w m' w' → K (a.put o.dst (v.den m')) w') :
    if Region.wanted o (yielded ops a.tmps) then o.wp P a w K Q else K (a.put o.dst undef) w := by
  unfold valX at h
  split at h
  · rename_i hw
    rw [if_pos (wantX_ok R hw)]
    exact Upon.wp (op_ok G R hr hN hf hl C h) hK
  · rename_i hw
    simp only [Option.some.injEq, Prod.mk.injEq] at h
    obtain ⟨rfl, rfl⟩ := h
    rw [if_neg (by rw [wantX_ok R hw]; simp)]
    exact hK m w (by simp [AV.ok]) (Did.refl hr)
  · cases h

theorem ov_seen {α : Type} {base : Nat → Option α} {L : Nat → Bool} {tc : Nat → Nat → Bool} {val : Nat → Nat → Option α} {n j x : Nat} (hj : j ≤ n) (h1 : ∀ k, k < j → tc k x = true → L k = true)
    (h2 : ∀ k, j ≤ k → k < n → L k = true → tc k x = false) : ov base L tc val n x = ov base (fun _ => true) tc val j x :=
  (ov_upto n x hj h2).trans (ov_congr j x fun k hk ht => h1 k hk ht)

theorem Dd.weaken {h h' : Nat → Option Bk} {lo : Nat} {w' : World} {D D' : Nat → Prop} (d : Dd N m h lo w m' h' w' D) (hD : ∀ x, D x → D' x) : Dd N m h lo w m' h' w' D' :=
  ⟨d.le, d.rep, fun n hn => (d.dom n hn).imp id (hD n), d.size, d.live, d.same, d.fresh, d.frame, d.os, d.tape, d.output⟩

theorem getD_set {listed : Array Bool} {j : Nat} (hj : j < listed.size) (k : Nat) : (listed.setIfInBounds j true).getD k false = (listed.getD k false || Nat.beq k j) := by
  by_cases h : k = j
  · subst h
    simp [hj]
  · have hb : Nat.beq k j = false := by
      cases hb : Nat.beq k j with
      | false => rfl
      | true => exact absurd (by simpa using hb) h
    rw [hb, Bool.or_false]
    simp [Array.getElem?_setIfInBounds_ne (Ne.symm h)]

theorem dirX_mem {o : Oper} {e : Nat} (h : e ∈ dirX o) : ∃ d ∈ o.after, Region.binds .any d = true ∧ d.on = e := by
  unfold dirX at h
  obtain ⟨d, hd, he⟩ := List.mem_filterMap.1 h
  rw [bifS] at he
  exact ⟨d, by simpa using hd, he.1, Option.some.inj he.2⟩
theorem mem_dirX {o : Oper} {d : Edge} (h : d ∈ o.after) (hb : Region.binds .any d = true) : d.on ∈ dirX o := by
  unfold dirX
  refine List.mem_filterMap.2 ⟨d, by simpa using h, ?_⟩
  rw [hb]
  rfl

variable {s0 : St} {fA : Nat → Ac} {fs : Nat → St} {fr : Nat → List Rc} {D : Nat → Dt} {m0 : Nm} {w0 : World}

/-- Where a region that draws its order stands. -/
structure DInv (N : Nat) (nn : Nat) (ops : Array Oper) (s0 : St) (A0 : Ac) (lo : Nat) (D : Nat → Dt) (m0 : Nm) (w0 : World) (listed : Array Bool) (m : Nm) (a : Act) (w : World) : Prop where
  size : listed.size = ops.size
  closed : ∀ j, j < ops.size → listed.getD j false = true → ∀ i, (D j).mask.testBit i = true → listed.getD i false = true
  regs : ∀ t v, t < 1024 → ov A0.get (fun k => listed.getD k false) (tcR D) (valR D) ops.size t = some v → v.ok m ∧ a.tmps[t]? = some (v.den m)
  asize : a.tmps.size = nn
  defers : a.defers = []
  dd : Dd N m0 s0.H.at lo w0 m (ov s0.H.at (fun k => listed.getD k false) (tcM D) (valM D) ops.size) w (fun x => ∃ k, k < ops.size ∧ listed.getD k false = true ∧ (D k).lo ≤ x ∧ x < (D k).s'.next)

theorem DRun.lowH (R : DRun P T call nn ops s0 fA fs fr D) (hl : Low s0) {j : Nat} (hj : j < ops.size) {x : Nat} {b : Bk} (h : (fs j).H.at x = some b) : x < (D j).lo := by
  rw [(R.H (Nat.le_of_lt hj)).2] at h
  rcases ov_some h with h1 | ⟨k, h1, -, h2, -⟩
  · have := hl x b h1
    have := R.first hj
    omega
  · have h3 := R.lt h1 hj
    rcases tcM_iff.1 h2 with h4 | h4
    · have := R.wr_lt (Nat.lt_trans h1 hj) h4
      have := (R.next (Nat.lt_trans h1 hj)).2.2
      omega
    · omega

/-- What an operation sees of the memory. -/
theorem DRun.vis (R : DRun P T call nn ops s0 fA fs fr D) (hl : Low s0) {j : Nat} (hj : j < ops.size) : (D j).vis.fits 7 ∧
    match (D j).rd with
    | some l => (∀ x ∈ l, x < (D j).lo) ∧ ∀ x, (D j).vis.at x = if memN x l = true then (fs j).H.at x else none
    | none => ((D j).vis = (fs j).H ∧ ∀ i, i < j → (D j).mask.testBit i = true ∨ ((D i).ld = false ∧ (D i).lo = (D i).s'.next)) ∨ ((D j).vis = s0.H ∧ ∀ i, i < j → (D i).ld = false) := by
  have mt := (R.met j hj).2
  have hv := mt.vis
  have ho := mt.okRd
  have ht := mt.top
  have hn := mt.nx
  cases hr : (D j).rd with
  | some l =>
    rw [hr] at hv ho
    simp only [visX, Option.some.injEq] at hv
    have hlt : ∀ x ∈ l, x < (D j).lo := fun x hx => by
      have := List.all_eq_true.1 ho x hx
      rw [mt.lo]
      simpa using this
    obtain ⟨h1, h2⟩ := copyH_ok (fs j).H l (.leaf none) (Tr.fits_none 7) (fun x hx => by have := hlt x hx; rw [mt.lo] at this; omega)
    rw [← hv]
    refine ⟨h1, hlt, fun x => (h2 x).trans ?_⟩
    split
    · rfl
    · unfold Tr.at
      split <;> rfl
  | none =>
    rw [hr] at hv
    simp only [visX] at hv
    rw [R.fr_eq (Nat.le_of_lt hj)] at hv
    cases hb : behindX (D j).mask j (rsOf (fun k => (D k).rc ops) j) with
    | true =>
      rw [hb] at hv
      simp only [cond_true, Option.some.injEq] at hv
      refine ⟨by rw [← hv]; exact (R.H (Nat.le_of_lt hj)).1, .inl ⟨hv.symm, fun i hi => ?_⟩⟩
      exact behindX_ok hb i hi
    | false =>
      rw [hb] at hv
      simp only [cond_false, bifS, Option.some.injEq] at hv
      refine ⟨by rw [← hv.2]; exact R.fits, .inr ⟨hv.2.symm, fun i hi => ?_⟩⟩
      exact beforeX_ok hv.1 i hi

theorem wr_some {d : Dt} {l : List Nat} (h : d.rd = some l) {x : Nat} (hx : x ∈ d.wr) : x ∈ l ∧ d.ld = true := by
  unfold Dt.wr wroteX at hx
  rw [h] at hx
  cases hl : d.ld with
  | false => simp [hl] at hx
  | true => simp only [hl, cond_true] at hx; exact ⟨hx, rfl⟩
theorem wr_ld {d : Dt} {x : Nat} (hx : x ∈ d.wr) : d.ld = true := by
  cases hl : d.ld with
  | false => rw [wr_nil hl] at hx; cases hx
  | true => rfl

/-- One more operation, whichever is drawn. -/
theorem DInv.step (G : Good P T) (C : CallOk P N call) (R : DRun P T call nn ops s0 fA fs fr D) (hl : Low s0) (hfr : Fresh m0 s0 (fs ops.size)) (hN : N ≤ w0.heap.size) {listed : Array Bool}
    (I : DInv N nn ops s0 (fA 0) (fs ops.size).wlo D m0 w0 listed m a w) {j : Nat} (hj : j ∈ Region.ready .any ops listed) {K : Act → World → Prop} {Q : Exit → Act → World → Prop}
    (hK : ∀ m' a' w', DInv N nn ops s0 (fA 0) (fs ops.size).wlo D m0 w0 (listed.setIfInBounds j true) m' a' w' → K a' w') : wpOp P ops Q j K a w := by
  obtain ⟨hun, o, ho, hall⟩ := mem_ready.1 hj
  have hjn : j < ops.size := (Array.getElem?_eq_some_iff.1 ho).1
  have hjs : j < listed.size := by rw [I.size]; exact hjn
  obtain ⟨hoj, mt⟩ := R.met j hjn
  have hoD : o = (D j).o := Option.some.inj (ho.symm.trans hoj)
  subst hoD
  have hLj : listed.getD j false = false := by
    simp [hjs] at hun ⊢
    exact hun
  have hdir : ∀ e ∈ dirX (D j).o, listed.getD e false = true := fun e he => by
    obtain ⟨d, hd, hb, rfl⟩ := dirX_mem he
    exact hall d hd hb
  have hmask : ∀ i, (D j).mask.testBit i = true → listed.getD i false = true := fun i hi => by
    rcases R.mask hjn hi with h1 | ⟨e, h1, h2⟩
    · exact hdir i h1
    · exact I.closed e (Nat.lt_trans (mt.dirs e h1) hjn) (hdir e h1) i h2
  have later : ∀ k, j < k → k < ops.size → listed.getD k false = true → apartX ((D j).rc ops) ((D k).rc ops) = true := fun k h1 h2 h3 => (R.pair h1 h2).resolve_left fun h => by
    have := I.closed k h2 h3 j h
    rw [hLj] at this
    cases this
  have earlier : ∀ k, k < j → listed.getD k false ≠ true → apartX ((D k).rc ops) ((D j).rc ops) = true := fun k h1 h2 => (R.pair h1 hjn).resolve_left fun h => h2 (hmask k h)
  have hnext := R.next hjn
  -- the registers
  have hB : Regs m nn (D j).B a := by
    obtain ⟨h1, h2⟩ := onlyA_ok (fA j) ((D j).o.looksAt ops) (.leaf none) (Tr.fits_none 5) mt.lk
    have hBe : (D j).B = ((D j).o.looksAt ops).foldl (fun B t => B.set AD t ((fA j).get t)) (.leaf none) := mt.B
    refine ⟨fun t u ht hu => ?_, I.asize, by rw [hBe]; exact h1, I.defers⟩
    rw [hBe, h2 t ht] at hu
    by_cases hm : memN t ((D j).o.looksAt ops) = true
    · rw [if_pos hm, (R.A (Nat.le_of_lt hjn)).2 t ht] at hu
      have hm := memN_iff.1 hm
      refine I.regs t u ht ((ov_seen (Nat.le_of_lt hjn) (fun k hk hc => ?_) (fun k h3 h4 h5 => ?_)).trans hu)
      · refine Decidable.byContradiction fun hL => ?_
        exact (apart_regs (earlier k hk hL)).1 t hc hm
      · cases hc : tcR D k t with
        | false => rfl
        | true =>
          rcases Nat.lt_or_ge j k with h6 | h6
          · exact absurd hm ((apart_regs (later k h6 h4 h5)).2.1 t hc)
          · have : k = j := by omega
            subst this
            rw [hLj] at h5
            cases h5
    · rw [if_neg hm] at hu
      cases hu
  -- the memory
  obtain ⟨hvf, hvis⟩ := R.vis hl hjn
  have lowV : ∀ x b, (D j).vis.at x = some b → x < (D j).lo := fun x b hx => by
    cases hr : (D j).rd with
    | some l =>
      rw [hr] at hvis
      rw [hvis.2 x] at hx
      by_cases hm : memN x l = true
      · exact hvis.1 x (memN_iff.1 hm)
      · rw [if_neg hm] at hx
        cases hx
    | none =>
      rw [hr] at hvis
      rcases hvis with ⟨h1, -⟩ | ⟨h1, -⟩
      · rw [h1] at hx
        exact R.lowH hl hjn hx
      · rw [h1] at hx
        have := hl x b hx
        have := R.first hjn
        omega
  have notLater : ∀ x, x < (D j).lo → ∀ k, j ≤ k → k < ops.size → listed.getD k false = true → (x ∈ (D k).wr → False) → tcM D k x = false := fun x hx k h1 h2 h3 h4 => by
    cases hc : tcM D k x with
    | false => rfl
    | true =>
      rcases tcM_iff.1 hc with h5 | h5
      · exact (h4 h5).elim
      · rcases Nat.lt_or_ge j k with h6 | h6
        · have := R.lt h6 h2
          have := hnext.2.2
          omega
        · have : k = j := by omega
          subst this
          rw [hLj] at h3
          cases h3
  have visL : ∀ x b, (D j).vis.at x = some b → ov s0.H.at (fun k => listed.getD k false) (tcM D) (valM D) ops.size x = some b := fun x b hx => by
    have hxlo := lowV x b hx
    cases hr : (D j).rd with
    | some l =>
      rw [hr] at hvis
      rw [hvis.2 x] at hx
      by_cases hm : memN x l = true
      · rw [if_pos hm, (R.H (Nat.le_of_lt hjn)).2] at hx
        have hm := memN_iff.1 hm
        refine (ov_seen (Nat.le_of_lt hjn) (fun k hk hc => ?_) (fun k h3 h4 h5 => notLater x hxlo k h3 h4 h5 fun hw => ?_)).trans hx
        · refine Decidable.byContradiction fun hL => ?_
          have hap := apart_mem (earlier k hk hL)
          rw [hr] at hap
          cases hk2 : (D k).rd with
          | some l' =>
            rw [hk2] at hap
            rcases tcM_iff.1 hc with h6 | h6
            · obtain ⟨h7, h8⟩ := wr_some hk2 h6
              exact hap.2 (.inl h8) x h7 hm
            · exact hap.1 x hm h6
          | none =>
            rw [hk2] at hap
            rcases tcM_iff.1 hc with h6 | h6
            · rw [wr_nil hap.1] at h6
              cases h6
            · exact hap.2.2 x hm h6
        · rcases Nat.lt_or_ge j k with h6 | h6
          · have hap := apart_mem (later k h6 h4 h5)
            rw [hr] at hap
            cases hk2 : (D k).rd with
            | some l' =>
              rw [hk2] at hap
              obtain ⟨h7, h8⟩ := wr_some hk2 hw
              exact hap.2 (.inr h8) x hm h7
            | none =>
              rw [hk2] at hap
              rw [wr_nil hap.2] at hw
              cases hw
          · have : k = j := by omega
            subst this
            rw [hLj] at h5
            cases h5
      · rw [if_neg hm] at hx
        cases hx
    | none =>
      rw [hr] at hvis
      have quiet : ∀ k, j < k → k < ops.size → listed.getD k false = true → (D k).ld = false := fun k h6 h4 h5 => by
        have hap := apart_mem (later k h6 h4 h5)
        rw [hr] at hap
        cases hk2 : (D k).rd with
        | some l' => rw [hk2] at hap; exact hap.2.1
        | none => rw [hk2] at hap; exact hap.2
      have quiet' : ∀ k, j ≤ k → k < ops.size → listed.getD k false = true → x ∈ (D k).wr → False := fun k h3 h4 h5 hw => by
        rcases Nat.lt_or_ge j k with h6 | h6
        · rw [wr_nil (quiet k h6 h4 h5)] at hw
          cases hw
        · have : k = j := by omega
          subst this
          rw [hLj] at h5
          cases h5
      rcases hvis with ⟨h1, h2⟩ | ⟨h1, h2⟩
      · rw [h1, (R.H (Nat.le_of_lt hjn)).2] at hx
        refine (ov_seen (Nat.le_of_lt hjn) (fun k hk hc => ?_) (fun k h3 h4 h5 => notLater x hxlo k h3 h4 h5 (quiet' k h3 h4 h5))).trans hx
        rcases h2 k hk with h6 | ⟨h6, h7⟩
        · exact hmask k h6
        · rcases tcM_iff.1 hc with h8 | h8
          · rw [wr_nil h6] at h8
            cases h8
          · omega
      · rw [h1] at hx
        refine (ov_base _ _ fun k h3 h4 => ?_).trans hx
        cases hc : tcM D k x with
        | false => rfl
        | true =>
          rcases tcM_iff.1 hc with h8 | h8
          · rcases Nat.lt_or_ge k j with h6 | h6
            · rw [wr_nil (h2 k h6)] at h8
              cases h8
            · exact (quiet' k h6 h3 h4 h8).elim
          · have := hl x b hx
            have := R.first h3
            omega
  have hrep : Rep N m (D j).vis w := ⟨fun x b hx => I.dd.rep.live x b (visL x b hx), hvf, I.dd.rep.bound, fun x y b c hx hy => I.dd.rep.inj x y b c (visL x b hx) (visL y c hy)⟩
  have hNw : N ≤ w.heap.size := Nat.le_trans hN I.dd.size
  have hfresh : Fresh m ⟨(D j).vis, (fs j).next, 16384⟩ (D j).s' := fun x h1 h2 h3 => by
    change (fs j).next ≤ x at h1
    rw [hnext.1] at h1
    rcases I.dd.dom x h3 with h4 | ⟨k, h4, h5, h6, h7⟩
    · have := R.first hjn
      have := R.last hjn
      exact hfr x (by omega) (by omega) h4
    · rcases Nat.lt_trichotomy k j with h8 | h8 | h8
      · have := R.lt h8 hjn
        omega
      · subst h8
        rw [hLj] at h5
        cases h5
      · have := R.lt h8 h4
        omega
  have hlowV : Low ⟨(D j).vis, (fs j).next, 16384⟩ := fun x b hx => by
    change x < (fs j).next
    rw [hnext.1]
    exact lowV x b hx
  unfold wpOp
  simp only [hoj]
  have fin := val_ok (K := K) (Q := Q) G hB hrep hNw C mt.val hfresh hlowV fun m' w' hv' hd => by
    refine hK m' _ w' ?_
    have hL' : (fun k => (listed.setIfInBounds j true).getD k false) = fun k => listed.getD k false || Nat.beq k j := funext fun k => getD_set hjs k
    have hput := mt.put
    have hsame : ∀ x, tcM D j x = true → ∀ k, j < k → k < ops.size → (listed.getD k false || Nat.beq k j) = true → tcM D k x = false := fun x hx k h1 h2 h3 => by
      have h3 : listed.getD k false = true := by
        have hb : Nat.beq k j = false := by
          cases hb : Nat.beq k j with
          | false => rfl
          | true => rw [Nat.beq_eq] at hb; omega
        rw [hb, Bool.or_false] at h3
        exact h3
      have hap := apart_mem (later k h1 h2 h3)
      have hlt := R.lt h1 h2
      cases hc : tcM D k x with
      | false => rfl
      | true =>
        exfalso
        rcases tcM_iff.1 hx with h4 | h4 <;> rcases tcM_iff.1 hc with h5 | h5
        · cases hk2 : (D k).rd with
          | some l' =>
            obtain ⟨h7, h8⟩ := wr_some hk2 h5
            cases hr : (D j).rd with
            | some l =>
              rw [hr, hk2] at hap
              exact hap.2 (.inr h8) x (wr_some hr h4).1 h7
            | none =>
              rw [hr, hk2] at hap
              rw [wr_nil hap.1] at h4
              cases h4
          | none =>
            rw [hk2] at hap
            have : (D k).ld = false := by cases hr : (D j).rd <;> rw [hr] at hap <;> exact hap.2
            rw [wr_nil this] at h5
            cases h5
        · have := R.wr_lt hjn h4
          omega
        · cases hk2 : (D k).rd with
          | some l' =>
            obtain ⟨h7, h8⟩ := wr_some hk2 h5
            cases hr : (D j).rd with
            | some l =>
              rw [hr, hk2] at hap
              exact hap.1 x h7 h4
            | none =>
              rw [hr, hk2] at hap
              exact hap.2.2 x h7 h4
          | none =>
            rw [hk2] at hap
            have : (D k).ld = false := by cases hr : (D j).rd <;> rw [hr] at hap <;> exact hap.2
            rw [wr_nil this] at h5
            cases h5
        · omega
    have hdd : Dd N m (ov s0.H.at (fun k => listed.getD k false) (tcM D) (valM D) ops.size) (fs ops.size).wlo w m' (ov s0.H.at (fun k => listed.getD k false || Nat.beq k j) (tcM D) (valM D) ops.size) w' (fun x => (fs j).next ≤ x ∧ x < (D j).s'.next) := by
      refine Dd.of (s := ⟨(D j).vis, (fs j).next, 16384⟩) (tc := tcM D j) (wr := (D j).wr) I.dd.rep hd visL (fun k c hk hk2 => ?_) (fun k hk => (R.wlo (Nat.le_refl _)).2 j hjn k hk) (fun x => ?_) hfresh (fun x => ?_)
      · have hklo := lowV k c hk
        have hld : (D j).ld = true := by
          rw [mt.ld, Nat.blt_eq, hnext.1]
          omega
        unfold Dt.wr wroteX
        cases hr : (D j).rd with
        | some l =>
          rw [hr] at hvis
          have hk : (D j).vis.at k = some c := hk
          rw [hvis.2 k] at hk
          simp only [hld, cond_true]
          by_cases hm : memN k l = true
          · exact memN_iff.1 hm
          · rw [if_neg hm] at hk
            cases hk
        | none =>
          simp only [hld, cond_true, List.mem_range'_1]
          omega
      · change tcM D j x = true ↔ x ∈ (D j).wr ∨ ((fs j).next ≤ x ∧ x < (D j).s'.next)
        rw [hnext.1]
        exact tcM_iff
      · by_cases hc : tcM D j x = true
        · rw [if_pos hc]
          exact ov_hit hjn (by simp) hc (hsame x hc)
        · rw [if_neg hc]
          exact ov_add (by simpa using hc)
    have hle := hd.le
    refine ⟨by simpa using I.size, fun k hk hLk i hi => ?_, fun t u ht hu => ?_, ?_, by cases (D j).o.dst <;> exact I.defers, ?_⟩
    · rw [getD_set hjs, Bool.or_eq_true] at hLk ⊢
      rcases hLk with h1 | h1
      · exact .inl (I.closed k hk h1 i hi)
      · rw [Nat.beq_eq] at h1
        subst h1
        exact .inl (hmask i hi)
    · rw [hL'] at hu
      by_cases hc : tcR D j t = true
      · have hdst := tcR_iff.1 hc
        rw [ov_hit hjn (by simp) hc (fun k h1 h2 h3 => by
          have h3 : listed.getD k false = true := by
            have hb : Nat.beq k j = false := by
              cases hb : Nat.beq k j with
              | false => rfl
              | true => rw [Nat.beq_eq] at hb; omega
            rw [hb, Bool.or_false] at h3
            exact h3
          exact (apart_regs (later k h1 h2 h3)).2.2 t hc)] at hu
        simp only [valR, Option.some.injEq] at hu
        subst hu
        refine ⟨hv', ?_⟩
        unfold putX at hput
        rw [hdst] at hput
        simp only [bifS, Bool.and_eq_true, Nat.blt_eq] at hput
        have hlt : t < a.tmps.size := by rw [I.asize]; exact hput.1.1
        rw [hdst]
        simp [Act.put, hlt]
      · rw [ov_add (by simpa using hc)] at hu
        obtain ⟨h1, h2⟩ := I.regs t u ht hu
        obtain ⟨h3, h4⟩ := AV.keep hle h1
        refine ⟨h3, ?_⟩
        rw [h4]
        cases hdst : (D j).o.dst with
        | none => exact h2
        | some e =>
          have hne : e ≠ t := fun h => hc (tcR_iff.2 (by rw [hdst, h]))
          simp [Act.put, Array.getElem?_setIfInBounds_ne hne, h2]
    · cases hdst : (D j).o.dst with
      | none => exact I.asize
      | some e => simp [Act.put, I.asize]
    · rw [hL']
      refine (I.dd.trans hdd).weaken fun x hx => ?_
      rcases hx with ⟨k, h1, h2, h3⟩ | h1
      · exact ⟨k, h1, by simp only [getD_set hjs]; rw [h2]; rfl, h3⟩
      · rw [hnext.1] at h1
        exact ⟨j, hjn, by simp only [getD_set hjs]; simp, h1⟩
  split at fin
  · rename_i hw
    rw [if_pos hw]
    exact .inl fin
  · rename_i hw
    rw [if_neg hw]
    exact fin
end
end Go.Proofs.YtlddgafbgaaiiaaGreatDoor.Evl

namespace Go.Proofs.YtlddgafbgaaiiaaGreatDoor.Evl
open Go

section
variable {P : Program} {T : Tab} {N : Nat} {nn : Nat} {call : CallT}

theorem drawsX_mono {ops : Array Oper} {H0 : Tr Bk} : ∀ {l : List Oper} {A A' : Ac} {s s' : St} {rs : List Rc} {j : Nat}, drawsX P T call nn ops H0 l A s rs j = some (A', s') → s.next ≤ s'.next
  | [], A, A', s, s', rs, j, h => by cases h; exact Nat.le_refl _
  | o :: l, A, A', s, s', rs, j, h => by
    obtain ⟨A1, s1, rs1, h1, h2⟩ := drawsX_cons h
    obtain ⟨d, -, hm⟩ := drawX_met h1
    have h3 := drawsX_mono h2
    have h4 : s1.next = d.s'.next := by rw [hm.st]
    have := hm.nx
    omega

theorem filter_lt {p q : Nat → Bool} : ∀ {l : List Nat} {j : Nat}, j ∈ l → (∀ k, q k = true → p k = true) → p j = true → q j = false → (l.filter q).length < (l.filter p).length
  | [], j, hj, _, _, _ => by cases hj
  | x :: l, j, hj, h, hp, hq => by
    have hle : ∀ l : List Nat, (l.filter q).length ≤ (l.filter p).length := fun l => by
      induction l with
      | nil => simp
      | cons y l ih =>
        simp only [List.filter_cons]
        cases hy : q y with
        | true => rw [h y hy]; simpa using ih
        | false => cases p y <;> simp <;> omega
    simp only [List.filter_cons]
    rcases List.mem_cons.1 hj with rfl | hj
    · rw [hp, hq]
      have := hle l
      simp
      omega
    · have := filter_lt hj h hp hq
      cases hy : q x with
      | true => rw [h x hy]; simpa using this
      | false => cases p x <;> simp <;> omega

theorem evDraw_ok (G : Good P T) (hmix : P.follows .mixedOrders = true) (C : CallOk P N call) : DrawOk P T N nn call := by
  intro id ops A s A' s' h
  unfold evDraw at h
  refine ⟨drawsX_mono h, fun m0 a0 w0 Q Rg hr hN hf hl hQ => ?_⟩
  obtain ⟨fA, fs, fr, D, h1, h2, h3, h4, h5, h6⟩ := drawsX_trace ops.toList A s [] 0 A' s' h
  rw [Array.length_toList] at h4 h5
  have R : DRun P T call nn ops s fA fs fr D := by
    refine ⟨h2, h3, hr.fits, by rw [h1]; exact Rg.fits, fun k hk => ?_⟩
    have hk' : ops.toList[k]? = some ops[k] := by simp [hk]
    obtain ⟨h7, h8⟩ := h6 k _ hk'
    rw [Nat.zero_add] at h8
    exact ⟨by rw [h7]; simp [hk], h8⟩
  subst h5
  -- at the end
  have fin : ∀ listed m a w, DInv N nn ops s (fA 0) (fs ops.size).wlo D m0 w0 listed m a w → (∀ k, k < ops.size → listed.getD k false = true) → Q .normal a w := fun listed m a w I hall => by
    have hov : ∀ {α : Type} (base : Nat → Option α) (tc : Nat → Nat → Bool) (val : Nat → Nat → Option α) x, ov base (fun k => listed.getD k false) tc val ops.size x = ov base (fun _ => true) tc val ops.size x := fun base tc val x =>
      ov_congr _ _ fun k hk _ => hall k hk
    obtain ⟨e1, e2⟩ := R.H (Nat.le_refl _)
    obtain ⟨e3, e4⟩ := R.A (Nat.le_refl _)
    have hH : ∀ x, ov s.H.at (fun k => listed.getD k false) (tcM D) (valM D) ops.size x = (fs ops.size).H.at x := fun x => (hov _ _ _ x).trans (e2 x).symm
    have d := I.dd
    refine hQ m a w ⟨fun t v ht hv => ?_, I.asize, by rw [← h4]; exact e3, I.defers⟩ ⟨d.le, ⟨fun x b hx => ?_, e1, d.rep.bound, fun x y b c hx hy => ?_⟩, fun x hx => ?_, d.size, ?_, (R.wlo (Nat.le_refl _)).1, fun x b hx hm => ?_, fun x hm hlt => ?_, d.fresh, d.frame, d.os, d.tape, d.output⟩
    · rw [← h4, e4 t ht, ← hov] at hv
      exact I.regs t v ht hv
    · exact d.rep.live x b ((hH x).trans hx)
    · exact d.rep.inj x y b c ((hH x).trans hx) ((hH y).trans hy)
    · rcases d.dom x hx with h7 | ⟨k, h7, -, h8, h9⟩
      · exact .inl h7
      · have := R.first h7
        have := R.last h7
        exact .inr ⟨by omega, by omega⟩
    · have := R.mono (Nat.zero_le ops.size) (Nat.le_refl _)
      rw [R.z0] at this
      exact this
    · exact d.live x b ((hH x).trans hx) hm
    · exact (hH x).symm.trans (d.same x hm hlt)
  have run : ∀ fuel listed m a w, DInv N nn ops s (fA 0) (fs ops.size).wlo D m0 w0 listed m a w → ((List.range ops.size).filter fun k => !listed.getD k false).length ≤ fuel → wpAny P .any ops Q fuel listed a w := by
    intro fuel
    induction fuel with
    | zero =>
      intro listed m a w I hu
      have hall : ∀ k, k < ops.size → listed.getD k false = true := fun k hk => by
        have h0 := List.eq_nil_of_length_eq_zero (Nat.le_zero.1 hu)
        cases hL : listed.getD k false with
        | true => rfl
        | false =>
          have : k ∈ (List.range ops.size).filter fun k => !listed.getD k false := List.mem_filter.2 ⟨List.mem_range.2 hk, by rw [hL]; rfl⟩
          rw [h0] at this
          cases this
      refine ⟨?_, fin listed m a w I hall⟩
      cases hrd : Region.ready .any ops listed with
      | nil => rfl
      | cons j l =>
        have hj : j ∈ Region.ready .any ops listed := by rw [hrd]; exact List.mem_cons_self ..
        obtain ⟨hun, o, ho, -⟩ := mem_ready.1 hj
        have hjn : j < ops.size := (Array.getElem?_eq_some_iff.1 ho).1
        have h9 := hall j hjn
        have hjs : j < listed.size := by rw [I.size]; exact hjn
        simp [hjs] at hun h9
        rw [hun] at h9
        cases h9
    | succ fuel ih =>
      intro listed m a w I hu
      refine ⟨fun hnil => fin listed m a w I fun k => ?_, fun j hj => DInv.step G C R hl hf hN I hj fun m' a' w' I' => ih _ m' a' w' I' ?_⟩
      · induction k using Nat.strongRecOn with
        | _ k ihk =>
          intro hk
          refine Decidable.byContradiction fun hL => ?_
          have hks : k < listed.size := by rw [I.size]; exact hk
          have hj : k ∈ Region.ready .any ops listed := mem_ready.2 ⟨by simp [hks] at hL ⊢; exact hL, (D k).o, (R.met k hk).1, fun e he hb => by
            have h7 := (R.met k hk).2.dirs e.on (mem_dirX he hb)
            exact ihk e.on h7 (Nat.lt_trans h7 hk)⟩
          rw [hnil] at hj
          cases hj
      · obtain ⟨hun, o, ho, -⟩ := mem_ready.1 hj
        have hjn : j < ops.size := (Array.getElem?_eq_some_iff.1 ho).1
        have hjs : j < listed.size := by rw [I.size]; exact hjn
        have hLj : listed.getD j false = false := by
          simp [hjs] at hun ⊢
          exact hun
        have := filter_lt (p := fun k => !listed.getD k false) (q := fun k => !(listed.setIfInBounds j true).getD k false) (List.mem_range.2 hjn) (fun k hk => by
          rw [getD_set hjs] at hk
          cases hb : listed.getD k false with
          | false => rfl
          | true => rw [hb] at hk; cases hk) (by simp only [hLj]; rfl) (by simp only [getD_set hjs]; simp)
        omega
  refine wp_region_any hmix (run ops.size (Array.replicate ops.size false) m0 a0 w0.drew ⟨by simp, fun j hj h => ?_, fun t v ht hv => ?_, Rg.size, Rg.defers, ?_⟩ ?_)
  · simp [hj] at h
  · rw [ov_base _ _ fun k hk h => by simp [hk] at h, h1] at hv
    exact Rg.val t v ht hv
  · have hov : ov s.H.at (fun k => (Array.replicate ops.size false).getD k false) (tcM D) (valM D) ops.size = s.H.at := funext fun x => ov_base _ _ fun k hk h => by simp [hk] at h
    rw [hov]
    exact ⟨Nm.le.refl _, ⟨hr.live, hr.bound, hr.inj⟩, fun _ h => .inl h, Nat.le_refl _, fun _ b h _ => ⟨b, h⟩, fun _ _ _ => rfl, fun _ h h' => absurd h h', fun _ _ _ => rfl, rfl, rfl, rfl⟩
  · refine Nat.le_trans (List.length_filter_le _ _) ?_
    simp

/-- WHAT THE EVALUATOR SAYS, THE MACHINE DOES. -/
theorem ev_sound (G : Good P T) (hmix : P.follows .mixedOrders = true) (fuel k : Nat) : CallOk P N (evF P T fuel k) :=
  evF_ok G (fun _ _ C => evDraw_ok G hmix C) fuel k
theorem evG_sound (G : Good P T) (hmix : P.follows .mixedOrders = true) {HK : CallT} (H : CallOk P N HK) (fuel k : Nat) : CallOk P N (evG P T HK fuel k) :=
  evG_ok G (fun _ _ C => evDraw_ok G hmix C) H fuel k
end
end Go.Proofs.YtlddgafbgaaiiaaGreatDoor.Evl

namespace Go.Proofs.YtlddgafbgaaiiaaGreatDoor.Evl
open Go

theorem every_get {α : Type} : ∀ (l : List α) (k j : Nat), k ≤ 3 → (every k l)[j]? = l[4 * j + k]?
  | [], k, j, _ => by cases k <;> simp [every]
  | x :: l, 0, 0, _ => by simp [every]
  | x :: l, 0, j + 1, _ => by
    simp only [every, List.getElem?_cons_succ]
    rw [every_get l 3 j (Nat.le_refl _), show 4 * (j + 1) + 0 = (4 * j + 3) + 1 by omega, List.getElem?_cons_succ]
  | x :: l, k + 1, j, h => by
    simp only [every]
    rw [every_get l k j (by omega), show 4 * j + (k + 1) = (4 * j + k) + 1 by omega, List.getElem?_cons_succ]
theorem build_get {α : Type} : ∀ (D : Nat) (l : List α) (n : Nat), n < 4 ^ D → (Tr.build D l).get n = l[n]?
  | 0, l, n, h => by
    have : n = 0 := by simpa using h
    subst this
    show l.head? = l[0]?
    cases l <;> rfl
  | D + 1, l, n, h => by
    have h' : n / 4 < 4 ^ D := by rw [Nat.pow_succ] at h; omega
    show (Tr.node (Tr.build D (every 0 l)) (Tr.build D (every 1 l)) (Tr.build D (every 2 l)) (Tr.build D (every 3 l))).get n = l[n]?
    rw [Tr.get_node]
    rcases mod4 n with e | e | e | e <;> rw [e] <;> simp only [sel_0, sel_1, sel_2, sel_3]
    · rw [build_get D _ _ h', every_get _ _ _ (by omega)]; congr 1; omega
    · rw [build_get D _ _ h', every_get _ _ _ (by omega)]; congr 1; omega
    · rw [build_get D _ _ h', every_get _ _ _ (by omega)]; congr 1; omega
    · rw [build_get D _ _ h', every_get _ _ _ (by omega)]; congr 1; omega

def structsOk (n : Nat) (P : Program) : Bool := P.types.toList.all fun i => match i.desc with
  | .struct fs => fs.toList.all fun f => Nat.blt f.type n
  | _ => true
def namesOk (P : Program) : Bool := P.funcs.toList.all fun fn => !(fn.name == "runtime.NumGoroutine")

theorem good_of {P : Program} {n : Nat} (hn : P.types.size = n) (h1 : namesOk P = true) (h2 : structsOk n P = true) : Good P (Tab.of P) := by
  have hI : ∀ t i, t < 1024 → (Tab.of P).I.get t = some i → P.types[t]? = some i := fun t i ht h => by
    have := build_get 5 P.types.toList t (by simpa using ht)
    rw [Array.getElem?_toList] at this
    rw [← this]
    exact h
  have hlt : ∀ t i, P.types[t]? = some i → P.info? t = some i := fun t i h => by
    have := (Array.getElem?_eq_some_iff.1 h).1
    unfold Tables.info?
    rw [if_pos this]
    exact h
  refine ⟨fun t i ht h => hlt t i (hI t i ht h), fun f fn hf h => ?_, fun t fs h f hf => ?_⟩
  · have := build_get 5 P.funcs.toList f (by simpa using hf)
    rw [Array.getElem?_toList] at this
    have h3 : P.funcs[f]? = some fn := by rw [← this]; exact h
    have h4 := List.all_eq_true.1 h1 fn (by simpa using Array.mem_of_getElem? h3)
    exact ⟨h3, by simpa using h4⟩
  · have key : ∀ u i, info (Tab.of P) u = some i → i.desc = .struct fs → ∃ j, P.info? f.type = some j := fun u i hu hd => by
      unfold info at hu
      rw [bifS, Nat.blt_eq] at hu
      have hm := Array.mem_of_getElem? (hI u i hu.1 hu.2)
      have h3 := List.all_eq_true.1 h2 i (by simpa using hm)
      rw [hd] at h3
      have h4 := List.all_eq_true.1 h3 f hf
      rw [Nat.blt_eq, ← hn] at h4
      exact ⟨_, hlt f.type P.types[f.type] (Array.getElem?_eq_getElem h4)⟩
    unfold under at h
    cases hi : info (Tab.of P) t with
    | none => simp [hi] at h
    | some i =>
      simp only [hi] at h
      cases hd : i.desc with
      | named nm u =>
        rw [hd] at h
        simp only at h
        cases hu : info (Tab.of P) u with
        | none => simp [hu] at h
        | some j =>
          simp only [hu, Option.map_some, Option.some.injEq] at h
          exact key u j hu h
      | struct gs =>
        rw [hd] at h
        simp only [Option.some.injEq, TypeDesc.struct.injEq] at h
        exact key t i hi (by rw [hd, h])
      | _ => rw [hd] at h; simp at h

/-- Registers and memory out of lists. -/
noncomputable def layK (V : List (Nat × AV)) : Ac := V.foldl (fun A p => A.set AD p.1 (some p.2)) (.leaf none)
noncomputable def layB (B : List (Nat × Bk)) : Tr Bk := B.foldl (fun H p => H.set HD p.1 (some p.2)) (.leaf none)
noncomputable def probe (kt kn : List Nat) : Option (Ex × Ac × St) → Option (List (Option AV) × List (Option Bk) × Nat)
  | some (.normal, A, s) => some (kt.map A.get, kn.map s.H.get, s.next)
  | _ => none

theorem layK_ok {f : Nat → AV → Prop} : ∀ (V : List (Nat × AV)) (A : Ac), A.fits 5 → (∀ p ∈ V, p.1 < 1024 ∧ f p.1 p.2) → (∀ t v, t < 1024 → A.get t = some v → f t v) →
    (V.foldl (fun A p => A.set AD p.1 (some p.2)) A).fits 5 ∧ ∀ t v, t < 1024 → (V.foldl (fun A p => A.set AD p.1 (some p.2)) A).get t = some v → f t v
  | [], A, hA, _, h => ⟨hA, h⟩
  | p :: V, A, hA, hV, h => by
    obtain ⟨h1, h2⟩ := hV p (List.mem_cons_self ..)
    refine layK_ok V (A.set AD p.1 (some p.2)) (Tr.fits_set 5 _ _ _ hA) (fun q hq => hV q (List.mem_cons_of_mem _ hq)) fun t v ht hv => ?_
    rw [show AD = 5 from rfl, Tr.get_set 5 A p.1 t (some p.2) hA h1 ht] at hv
    by_cases e : t = p.1
    · rw [if_pos e] at hv
      cases hv
      rw [e]
      exact h2
    · rw [if_neg e] at hv
      exact h t v ht hv
theorem layB_ok {f : Nat → Bk → Prop} : ∀ (V : List (Nat × Bk)) (A : Tr Bk), A.fits 7 → (∀ p ∈ V, p.1 < 16384 ∧ f p.1 p.2) → (∀ t v, A.at t = some v → f t v) →
    (V.foldl (fun A p => A.set HD p.1 (some p.2)) A).fits 7 ∧ ∀ t v, (V.foldl (fun A p => A.set HD p.1 (some p.2)) A).at t = some v → f t v
  | [], A, hA, _, h => ⟨hA, h⟩
  | p :: V, A, hA, hV, h => by
    obtain ⟨h1, h2⟩ := hV p (List.mem_cons_self ..)
    refine layB_ok V (A.set HD p.1 (some p.2)) (Tr.fits_set 7 _ _ _ hA) (fun q hq => hV q (List.mem_cons_of_mem _ hq)) fun t v hv => ?_
    rw [at_set hA h1] at hv
    by_cases e : t = p.1
    · rw [if_pos e] at hv
      cases hv
      rw [e]
      exact h2
    · rw [if_neg e] at hv
      exact h t v hv
theorem leaf_at {t : Nat} {v : Bk} : (Tr.leaf (none : Option Bk)).at t ≠ some v := fun h => by
  unfold Tr.at at h
  split at h <;> cases h

/-- Where a closed run stands that began at w0. -/
structure Stand (w0 : World) (nn : Nat) (A : Ac) (s : St) (a : Act) (w : World) : Prop where
  ex : ∃ m, Regs m nn A a ∧ Rep w0.heap.size m s.H w ∧ ∀ n, m.dom n → n < s.next
  size : w0.heap.size ≤ w.heap.size
  frame : ∀ b, b < w0.heap.size → w.heap[b]? = w0.heap[b]?
  os : w.os = w0.os
  tape : w.tape = w0.tape
  output : w.output = w0.output

def keysOk (V : List (Nat × AV)) (B : List (Nat × Bk)) (nx : Nat) : Bool := V.all (fun p => Nat.blt p.1 1024) && B.all (fun p => Nat.blt p.1 16384 && Nat.blt p.1 nx)

theorem low_lay {V : List (Nat × AV)} {B : List (Nat × Bk)} {nx : Nat} (hk : keysOk V B nx = true) : Low ⟨layB B, nx, 16384⟩ := fun n c hc => by
  simp only [keysOk, Bool.and_eq_true, List.all_eq_true, Nat.blt_eq] at hk
  exact (layB_ok (f := fun n _ => n < nx) B (.leaf none) (Tr.fits_none 7) (fun p hp => hk.2 p hp) (fun t v hv => (leaf_at hv).elim)).2 n c hc

theorem steps_rest {P : Program} {T : Tab} {N nn : Nat} (G : Good P T) {call : CallT} (C : CallOk P N call) {ops : Array Oper} {Q : Exit → Act → World → Prop} (rest : List Oper) : ∀ {l : List Oper} {A A' : Ac} {s s' : St} {m : Nm} {a : Act} {w : World},
    stepsX P T call nn ops l A s = some (A', s') → Regs m nn A a → Rep N m s.H w → N ≤ w.heap.size → Fresh m s s' → Low s →
    (∀ m' a' w', Regs m' nn A' a' → Did N m s s' w m' w' → wpList P ops Q rest a' w') → wpList P ops Q (l ++ rest) a w
  | [], A, A', s, s', m, a, w, h, R, hr, hN, hf, hl, hQ => by
    cases h
    exact hQ m a w R (Did.refl hr)
  | o :: l, A, A', s, s', m, a, w, h, R, hr, hN, hf, hl, hQ => by
    obtain ⟨A1, s1, h1, h2⟩ := stepsX_cons.1 h
    refine wpList_step fun K hK => ?_
    have hs := steps_mono h2
    refine step_ok G R hr hN C h1 (hf.left hs) hl fun m' a' w' R' hd => hK _ _ ?_
    exact steps_rest G C rest h2 R' hd.rep (Nat.le_trans hN hd.size) (hf.right hd) (hd.low hl) fun m2 a2 w2 R2 hd2 => hQ m2 a2 w2 R2 (hd.trans hd2)

noncomputable def probeS (kt kn : List Nat) : Option (Ac × St) → Option (List (Option AV) × List (Option Bk) × Nat)
  | some (A, s) => some (kt.map A.get, kn.map s.H.get, s.next)
  | none => none
def opsOf : Code → Array Oper
  | .region _ ops _ => ops
  | _ => #[]
def nthC : Nat → Code → Code
  | 0, .seq a _ => a
  | 0, c => c
  | k + 1, .seq _ b => nthC k b
  | _ + 1, c => c

theorem Stand.after {V : List (Nat × AV)} {B : List (Nat × Bk)} {nx nn : Nat} {A A' : Ac} {s s' : St} {m m' : Nm} {w0 w w' : World} {a a' : Act} (h1 : V.map (fun p => A'.get p.1) = V.map fun p => some p.2) (h2 : B.map (fun p => s'.H.get p.1) = B.map fun p => some p.2) (h3 : s'.next = nx)
    (hk : keysOk V B nx = true) (S : Stand w0 nn A s a w) (hrep : Rep w0.heap.size m s.H w) (hdom : ∀ n, m.dom n → n < s.next) (R' : Regs m' nn A' a') (hd : Did w0.heap.size m s s' w m' w') : Stand w0 nn (layK V) ⟨layB B, nx, 16384⟩ a' w' := by
  simp only [keysOk, Bool.and_eq_true, List.all_eq_true, Nat.blt_eq] at hk
  have e1 : ∀ p ∈ V, p.1 < 1024 ∧ A'.get p.1 = some p.2 := fun p hp => ⟨hk.1 p hp, List.map_inj_left.1 h1 p hp⟩
  have e2 : ∀ p ∈ B, p.1 < 16384 ∧ s'.H.at p.1 = some p.2 := fun p hp => ⟨(hk.2 p hp).1, by
    have := List.map_inj_left.1 h2 p hp
    simp only [Tr.at, (hk.2 p hp).1, if_true]
    exact this⟩
  obtain ⟨f1, f2⟩ := layK_ok (f := fun t v => A'.get t = some v) V (.leaf none) (Tr.fits_none 5) e1 (fun t v _ hv => by cases hv)
  obtain ⟨f3, f4⟩ := layB_ok (f := fun t v => s'.H.at t = some v) B (.leaf none) (Tr.fits_none 7) e2 (fun t v hv => (leaf_at hv).elim)
  refine ⟨⟨m', ⟨fun t v ht hv => R'.val t v ht (f2 t v ht hv), R'.size, f1, R'.defers⟩, ⟨fun n b hb => hd.rep.live n b (f4 n b hb), f3, hd.rep.bound, fun n k b c hb hc => hd.rep.inj n k b c (f4 n b hb) (f4 k c hc)⟩, fun n hn => ?_⟩,
    Nat.le_trans S.size hd.size, fun b hb => (hd.frame b (Nat.lt_of_lt_of_le hb S.size) fun n c hc _ e => ?_).trans (S.frame b hb), hd.os.trans S.os, hd.tape.trans S.tape, hd.output.trans S.output⟩
  · change n < nx
    rw [← h3]
    rcases hd.dom n hn with h5 | h5
    · have := hdom n h5
      have := hd.nx
      omega
    · exact h5.2
  · have := (hrep.live n c hc).2.1
    omega

/-- A part of a closed run. -/
theorem part_runC {P : Program} {T : Tab} (G : Good P T) (hmix : P.follows .mixedOrders = true) {call : CallT} {fuel2 nn : Nat} {c : Code} {A : Ac} {s : St} {V : List (Nat × AV)} {B : List (Nat × Bk)} {nx : Nat}
    (h : probe (V.map (·.1)) (B.map (·.1)) (evC P T call nn fuel2 c A s) = some (V.map fun p => some p.2, B.map fun p => some p.2, nx)) (hk : keysOk V B nx = true) (hlow : Low s)
    {w0 : World} (C : CallOk P w0.heap.size call) {a : Act} {w : World} (S : Stand w0 nn A s a w) {Q : Exit → Act → World → Prop} (hQ : ∀ a' w', Stand w0 nn (layK V) ⟨layB B, nx, 16384⟩ a' w' → Q .normal a' w') : c.wp P Q a w := by
  unfold probe at h
  split at h
  case h_2 => cases h
  rename_i A' s' hr
  simp only [Option.some.injEq, Prod.mk.injEq, List.map_map] at h
  obtain ⟨h1, h2, h3⟩ := h
  obtain ⟨m, hR, hrep, hdom⟩ := S.ex
  exact (evC_ok G C (evDraw_ok G hmix C) hr hR hrep S.size (fun n h4 _ h6 => by have := hdom n h6; omega) hlow fun m' a' w' R' hd => hQ a' w' (S.after h1 h2 h3 hk hrep hdom R' hd)).1
theorem part_run {P : Program} {T : Tab} (G : Good P T) (hmix : P.follows .mixedOrders = true) {fuel k fuel2 nn : Nat} {c : Code} {A : Ac} {s : St} {V : List (Nat × AV)} {B : List (Nat × Bk)} {nx : Nat}
    (h : probe (V.map (·.1)) (B.map (·.1)) (evC P T (evF P T fuel k) nn fuel2 c A s) = some (V.map fun p => some p.2, B.map fun p => some p.2, nx)) (hk : keysOk V B nx = true) (hlow : Low s)
    {w0 : World} {a : Act} {w : World} (S : Stand w0 nn A s a w) {Q : Exit → Act → World → Prop} (hQ : ∀ a' w', Stand w0 nn (layK V) ⟨layB B, nx, 16384⟩ a' w' → Q .normal a' w') : c.wp P Q a w :=
  part_runC G hmix h hk hlow (ev_sound G hmix fuel k) S hQ

/-- A part of a region of a closed run. -/
theorem list_runC {P : Program} {T : Tab} (G : Good P T) {call : CallT} {nn : Nat} {ops : Array Oper} {l rest : List Oper} {A : Ac} {s : St} {V : List (Nat × AV)} {B : List (Nat × Bk)} {nx : Nat}
    (h : probeS (V.map (·.1)) (B.map (·.1)) (stepsX P T call nn ops l A s) = some (V.map fun p => some p.2, B.map fun p => some p.2, nx)) (hk : keysOk V B nx = true) (hlow : Low s)
    {w0 : World} (C : CallOk P w0.heap.size call) {a : Act} {w : World} (S : Stand w0 nn A s a w) {Q : Exit → Act → World → Prop} (hQ : ∀ a' w', Stand w0 nn (layK V) ⟨layB B, nx, 16384⟩ a' w' → wpList P ops Q rest a' w') : wpList P ops Q (l ++ rest) a w := by
  unfold probeS at h
  split at h
  case h_2 => cases h
  rename_i A' s' hr
  simp only [Option.some.injEq, Prod.mk.injEq, List.map_map] at h
  obtain ⟨h1, h2, h3⟩ := h
  obtain ⟨m, hR, hrep, hdom⟩ := S.ex
  exact steps_rest G C rest hr hR hrep S.size (fun n h4 _ h6 => by have := hdom n h6; omega) hlow fun m' a' w' R' hd => hQ a' w' (S.after h1 h2 h3 hk hrep hdom R' hd)
theorem list_run {P : Program} {T : Tab} (G : Good P T) (hmix : P.follows .mixedOrders = true) {fuel k nn : Nat} {ops : Array Oper} {l rest : List Oper} {A : Ac} {s : St} {V : List (Nat × AV)} {B : List (Nat × Bk)} {nx : Nat}
    (h : probeS (V.map (·.1)) (B.map (·.1)) (stepsX P T (evF P T fuel k) nn ops l A s) = some (V.map fun p => some p.2, B.map fun p => some p.2, nx)) (hk : keysOk V B nx = true) (hlow : Low s)
    {w0 : World} {a : Act} {w : World} (S : Stand w0 nn A s a w) {Q : Exit → Act → World → Prop} (hQ : ∀ a' w', Stand w0 nn (layK V) ⟨layB B, nx, 16384⟩ a' w' → wpList P ops Q rest a' w') : wpList P ops Q (l ++ rest) a w :=
  list_runC G h hk hlow (ev_sound G hmix fuel k) S hQ

theorem stand_start (w0 : World) (nt : Nat) (hn : nt ≤ 1024) : Stand w0 nt (layK []) ⟨layB [], 0, 16384⟩ { tmps := #[] ++ Array.replicate (nt - (#[] : Array Value).size) undef, defers := [] } w0 := by
  refine ⟨⟨⟨fun _ => False, fun _ => 0, fun _ => 0⟩, ⟨fun t v _ hv => (by cases hv), by simp, Tr.fits_none 5, rfl⟩, ⟨fun n b hb => (leaf_at hb).elim, Tr.fits_none 7, fun n h => h.elim, fun n k b c hb => (leaf_at hb).elim⟩, fun n h => h.elim⟩,
    Nat.le_refl _, fun _ _ => rfl, rfl, rfl, rfl⟩

theorem Stand.grown {w0 w : World} {nn : Nat} {A : Ac} {s : St} {a : Act} (S : Stand w0 nn A s a w) : w0.grownBy w none :=
  ⟨S.os, S.tape, S.output, S.size, fun k hk _ => S.frame k hk⟩
theorem Stand.tmp {w0 w : World} {nn : Nat} {A : Ac} {s : St} {a : Act} (S : Stand w0 nn A s a w) {t : Nat} {v : Value} (ht : t < 1024) (h : A.get t = some (.o (.c (.v v)))) : a.tmps.getD t undef = v := by
  obtain ⟨m, hR, -⟩ := S.ex
  have := (hR.val t _ ht h).2
  simp [this, AV.den, Vl.den, Cl.den, Pv.den]
end Go.Proofs.YtlddgafbgaaiiaaGreatDoor.Evl
