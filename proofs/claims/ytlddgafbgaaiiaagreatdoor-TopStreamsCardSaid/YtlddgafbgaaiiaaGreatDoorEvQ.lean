/- The laws of the operations. Of no program. Written by mkevl.py. -/
import Derived.Test.YtlddgafbgaaiiaaGreatDoorEvP
import Derived.MapKept
import Derived.Laws.Tables
import Derived.Laws.Small
import Derived.Laws.Pointers
import Derived.Laws.Slices
import Derived.Laws.AppendOwn
import Derived.Laws.BytesString
set_option linter.all false
namespace Go.Proofs.YtlddgafbgaaiiaaGreatDoor.Evl
open Go

section
variable {P : Program} {T : Tab} {N : Nat} {m : Nm} {s s' : St} {w : World} {n : Nat} {A : Ac} {a : Act} {v : AV}

/-- The names that a step may give are free. -/
def Fresh (m : Nm) (s s' : St) : Prop := ∀ n, s.next ≤ n → n < s'.next → ¬ m.dom n

/-- All names in use are below the next one. -/
def Low (s : St) : Prop := ∀ n c, s.H.at n = some c → n < s.next
theorem Did.low {m' : Nm} {w' : World} (h : Did N m s s' w m' w') (hl : Low s) : Low s' := fun n c hc => by
  rcases h.dom n (h.rep.live n c hc).1 with h1 | h1
  · obtain ⟨d, hd⟩ := h.live n c hc h1
    exact Nat.lt_of_lt_of_le (hl n d hd) h.nx
  · exact h1.2

theorem new_ok {r : Nat} {b : Bk} (h : s.new b = some (r, s')) : r = s.next ∧ s.next < 16384 ∧ s' = { H := s.H.set HD s.next (some b), next := s.next + 1, wlo := s.wlo } := by
  unfold St.new at h
  simp only [bifS, Nat.blt_eq, Option.some.injEq, Prod.mk.injEq] at h
  exact ⟨h.2.1.symm, h.1, h.2.2.symm⟩
theorem newRow_did (hr : Rep N m s.H w) (hN : N ≤ w.heap.size) (hf : Fresh m s s') {r : Nat} {l : List Cl} {e : TypeId} (h : s.new (.row l e none) = some (r, s')) (hl : ∀ c ∈ l, c.ok m) :
    r = s.next ∧ Did N m s s' w (m.add r w.heap.size 0) (w.alloc (.cells (l.map (Cl.den m)).toArray e)) := by
  obtain ⟨rfl, hlt, rfl⟩ := new_ok h
  have hn : ¬ m.dom s.next := hf _ (Nat.le_refl _) (Nat.lt_succ_self _)
  refine ⟨rfl, new_did hr hN hn hlt ?_⟩
  have hle := Nm.le_add (r := w.heap.size) (k := 0) hn
  exact ⟨fun c hc => (Cl.keep hle (hl c hc)).1, by rw [List.map_congr_left fun c hc => (Cl.keep hle (hl c hc)).2]⟩
theorem newPtr_ok (hr : Rep N m s.H w) (hN : N ≤ w.heap.size) (hf : Fresh m s s') {l : List Cl} {e : TypeId} (h : s.newPtr (.row l e none) = some (v, s')) (hl : ∀ c ∈ l, c.ok m) :
    ∃ m', v.den m' = .pointer (some ⟨w.heap.size, 0, none⟩) ∧ v.ok m' ∧ Did N m s s' w m' (w.alloc (.cells (l.map (Cl.den m)).toArray e)) := by
  unfold St.newPtr at h
  replace h := Option.map_eq_some_iff.1 h
  obtain ⟨⟨r, s1⟩, h1, h⟩ := h
  cases h
  obtain ⟨rfl, hd⟩ := newRow_did hr hN hf h1 hl
  exact ⟨m.add s.next w.heap.size 0, by simp [AV.den, Vl.den, Cl.den, Pv.den, Nm.add], Or.inr rfl, hd⟩

theorem pick_ok (R : Regs m n A a) (hr : Rep N m s.H w) {c x y : Operand} (h : ev_pick A s c x y = some (v, s')) :
    Upon P N m s w v s' ((do pure (Next.value (if ← asBool (a.eval c) then a.eval x else a.eval y)) : Sem Next).run P w) := by
  unfold ev_pick at h
  split at h
  · rename_i hc
    obtain ⟨hx, rfl⟩ := ret_ok h
    obtain ⟨h1, h2⟩ := evX_ok R hx
    simp only [pureX_ok R hc, asBool, Sem.run_bind, Sem.run_pure, Result.andThen_ok, if_true]
    exact ⟨m, h2, h1, Did.refl hr⟩
  · rename_i hc
    obtain ⟨hx, rfl⟩ := ret_ok h
    obtain ⟨h1, h2⟩ := evX_ok R hx
    simp only [pureX_ok R hc, asBool, Sem.run_bind, Sem.run_pure, Result.andThen_ok]
    exact ⟨m, h2, h1, Did.refl hr⟩
  · cases h

theorem alloc_ok (G : Good P T) (hr : Rep N m s.H w) (hN : N ≤ w.heap.size) (hf : Fresh m s s') {e : TypeId} (h : ev_alloc T s e = some (v, s')) :
    Upon P N m s w v s' ((do pure (Next.value (← Instr.alloc e true (.tuple #[]))) : Sem Next).run P w) := by
  unfold ev_alloc at h
  replace h := Option.bind_eq_some_iff.1 h
  obtain ⟨l, hl, h⟩ := h
  obtain ⟨i, z, hi, hz, rfl⟩ := zeros_ok G hl
  obtain ⟨m', h1, h2, h3⟩ := newPtr_ok hr hN hf h (zero_den (m := m) _).2
  rw [(zero_den (m := m) _).1] at h3
  refine Upon.val (y := .pointer (some ⟨w.heap.size, 0, none⟩)) ?_ h1.symm h2 h3
  simp [Instr.alloc, zeroValue, run_info hi, hz, newVar, newRow]

theorem box_ok (R : Regs m n A a) (hr : Rep N m s.H w) (hN : N ≤ w.heap.size) (hf : Fresh m s s') {e : TypeId} {x : Operand} (h : ev_box A s e x = some (v, s')) :
    Upon P N m s w v s' ((do pure (Next.value (← Instr.box e (a.eval x))) : Sem Next).run P w) := by
  unfold ev_box at h
  replace h := Option.bind_eq_some_iff.1 h
  obtain ⟨y, hy, h⟩ := h
  replace h := Option.bind_eq_some_iff.1 h
  obtain ⟨l, hl, h⟩ := h
  obtain ⟨h1, h2⟩ := vlX_ok R hy
  obtain ⟨h3, h4⟩ := flat_ok hl h1
  obtain ⟨m', h5, h6, h7⟩ := newPtr_ok hr hN hf h h3
  refine Upon.val (y := .pointer (some ⟨w.heap.size, 0, none⟩)) ?_ h5.symm h6 h7
  simp [Instr.box, newVar, newRow, h2, h4]

theorem fill_list (off : Nat) : ∀ (l : List Value) (k : Nat) (cs : Array Value), off + k + l.length ≤ cs.size →
    (l.zipIdx k).foldl (fun cs p => cs.setIfInBounds (off + p.2) p.1) cs = (cs.toList.take (off + k) ++ l ++ cs.toList.drop (off + k + l.length)).toArray
  | [], k, cs, _ => by simp
  | x :: l, k, cs, h => by
    simp only [List.length_cons] at h
    rw [List.zipIdx_cons, List.foldl_cons, fill_list off l (k + 1) _ (by simp; omega)]
    have e := list_seg_step cs.toList (off + k) x l (by simp; omega)
    simp only [Array.toList_setIfInBounds, List.length_cons]
    rw [show off + (k + 1) = off + k + 1 by omega]
    rw [e]
theorem fill_row (off : Nat) (vs cs : Array Value) (h : off + vs.size ≤ cs.size) :
    vs.zipIdx.foldl (fun cs (p : Value × Nat) => cs.setIfInBounds (off + p.2) p.1) cs = (cs.toList.take off ++ vs.toList ++ cs.toList.drop (off + vs.size)).toArray := by
  have := fill_list off vs.toList 0 cs (by simpa using h)
  rw [← Array.foldl_toList, Array.toList_zipIdx]
  simpa using this

theorem fill_ok {place : Nat → Option (Nat × Nat)} : ∀ {ps : List (Nat × Vl)} {cs r : List Cl}, fillL place cs ps = some r → (∀ p ∈ ps, p.2.ok m) → (∀ c ∈ cs, c.ok m) →
    Instr.fill place (cs.map (Cl.den m)).toArray (ps.map fun p => (p.1, p.2.den m)) = some (r.map (Cl.den m)).toArray ∧ ∀ c ∈ r, c.ok m
  | [], cs, r, h, _, hc => by
    simp only [fillL, Option.some.injEq] at h
    subst h
    exact ⟨rfl, hc⟩
  | (i, x) :: ps, cs, r, h, hp, hc => by
    simp only [fillL] at h
    replace h := Option.bind_eq_some_iff.1 h
    obtain ⟨⟨off, size⟩, hpl, h⟩ := h
    replace h := Option.bind_eq_some_iff.1 h
    obtain ⟨l, hl, h⟩ := h
    simp only [bifS, Bool.and_eq_true, Nat.beq_eq, Nat.ble_eq] at h
    obtain ⟨⟨h1, h2⟩, h⟩ := h
    obtain ⟨h3, h4⟩ := flat_ok hl (hp _ (List.mem_cons_self ..))
    have hc' : ∀ c ∈ cs.take off ++ (l ++ cs.drop (off + size)), c.ok m := fun c hm => by
      rcases List.mem_append.1 hm with hm | hm
      · exact hc c (List.mem_of_mem_take hm)
      · rcases List.mem_append.1 hm with hm | hm
        · exact h3 c hm
        · exact hc c (List.mem_of_mem_drop hm)
    obtain ⟨h5, h6⟩ := fill_ok h (fun p hm => hp p (List.mem_cons_of_mem _ hm)) hc'
    refine ⟨?_, h6⟩
    have hsz : (x.den m).cells.size = size := by rw [h4]; simpa using h1
    have hfit : off + (x.den m).cells.size ≤ ((cs.map (Cl.den m)).toArray).size := by rw [hsz]; simpa using h2
    have hrow := fill_row off (x.den m).cells (cs.map (Cl.den m)).toArray hfit
    simp only [List.map_cons, Instr.fill, hpl]
    rw [if_neg (by simp only [hsz, ne_eq, not_true_eq_false, false_or]; simp; omega)]
    rw [show (cs.map (Cl.den m)).toArray.toList.take off ++ (x.den m).cells.toList ++ (cs.map (Cl.den m)).toArray.toList.drop (off + (x.den m).cells.size) = (cs.take off ++ (l ++ cs.drop (off + size))).map (Cl.den m) by
      rw [hsz, h4]; simp [List.map_append, List.map_take, List.map_drop]] at hrow
    rw [← h5]
    congr 1

theorem mapM_places (G : Good P T) : ∀ (fs : List Field), (∀ f ∈ fs, ∃ i, P.info? f.type = some i) →
    ∃ places, fs.mapM (fun f => (P.info? f.type).map fun i => (f.offset, i.size)) = some places ∧ ∀ (i : Nat) (p : Nat × Nat), (fs[i]?.bind fun f : Field => (sz T f.type).map fun k => (f.offset, k)) = some p → places[i]? = some p
  | [], _ => ⟨[], rfl, by simp⟩
  | f :: fs, h => by
    obtain ⟨i, hi⟩ := h f (List.mem_cons_self ..)
    obtain ⟨ps, h1, h2⟩ := mapM_places G fs fun g hg => h g (List.mem_cons_of_mem _ hg)
    refine ⟨(f.offset, i.size) :: ps, by simp [hi, h1], fun j p hp => ?_⟩
    cases j with
    | zero =>
      simp only [List.getElem?_cons_zero, Option.bind_some] at hp ⊢
      replace hp := Option.map_eq_some_iff.1 hp
      obtain ⟨k, hk, rfl⟩ := hp
      obtain ⟨i', hi', rfl⟩ := sz_ok G hk
      rw [hi] at hi'
      cases hi'
      rfl
    | succ j => simpa using h2 j p (by simpa using hp)

theorem fill_mono {p q : Nat → Option (Nat × Nat)} (h : ∀ i r, p i = some r → q i = some r) : ∀ {ps : List (Nat × Value)} {cs r : Array Value}, Instr.fill p cs ps = some r → Instr.fill q cs ps = some r
  | [], cs, r, hf => hf
  | (i, x) :: ps, cs, r, hf => by
    simp only [Instr.fill] at hf ⊢
    cases hp : p i with
    | none => simp [hp] at hf
    | some y =>
      rw [h i y hp]
      simp only [hp] at hf ⊢
      split at hf
      · cases hf
      · rename_i hc
        rw [if_neg hc]
        exact fill_mono h hf

theorem build_ok (G : Good P T) (R : Regs m n A a) (hr : Rep N m s.H w) {t : TypeId} {parts : Array (Nat × Operand)} (h : ev_build T A s t parts = some (v, s')) :
    Upon P N m s w v s' ((do pure (Next.value (← Instr.build t (parts.map fun (i, x) => (i, a.eval x)))) : Sem Next).run P w) := by
  unfold ev_build at h
  replace h := Option.bind_eq_some_iff.1 h
  obtain ⟨z, hz, h⟩ := h
  replace h := Option.bind_eq_some_iff.1 h
  obtain ⟨ps, hps, h⟩ := h
  obtain ⟨h1, h2⟩ := partsX_ok R hps
  obtain ⟨it, zv, hit, hzv, rfl⟩ := zeros_ok G hz
  have hl : (parts.map fun (i, x) => (i, a.eval x)).toList = ps.map fun p => (p.1, p.2.den m) := by rw [Array.toList_map, ← h2]
  have hz' : zv.cells = ((zv.cells.toList.map Cl.v).map (Cl.den m)).toArray := by rw [(zero_den (m := m) _).1]
  split at h
  · rename_i fs hu
    replace h := ret_ok h
    obtain ⟨h, rfl⟩ := h
    replace h := Option.map_eq_some_iff.1 h
    obtain ⟨r, hfill, rfl⟩ := h
    obtain ⟨h3, h4⟩ := fill_ok (m := m) hfill h1 (zero_den _).2
    obtain ⟨places, hpl, hp2⟩ := mapM_places G fs.toList (G.S t fs hu)
    have hb : P.built t (parts.map fun (i, x) => (i, a.eval x)).toList = some (r.map (Cl.den m)).toArray := by
      unfold Program.built
      simp only [hit, under_ok G hu, hzv, hpl]
      rw [hl, hz']
      exact fill_mono (fun i p hp => by simpa using hp2 i p (by simpa using hp)) h3
    exact Upon.here hr (run_build w t _ _ hb) rfl h4
  · rename_i len e hu
    replace h := Option.bind_eq_some_iff.1 h
    obtain ⟨k, hk, h⟩ := h
    replace h := ret_ok h
    obtain ⟨h, rfl⟩ := h
    replace h := Option.map_eq_some_iff.1 h
    obtain ⟨r, hfill, rfl⟩ := h
    obtain ⟨h3, h4⟩ := fill_ok (m := m) hfill h1 (zero_den _).2
    obtain ⟨ie, hie, rfl⟩ := sz_ok G hk
    have hb : P.built t (parts.map fun (i, x) => (i, a.eval x)).toList = some (r.map (Cl.den m)).toArray := by
      unfold Program.built
      simp only [hit, under_ok G hu, hzv, hie]
      rw [hl, hz']
      exact h3
    exact Upon.here hr (run_build w t _ _ hb) rfl h4
  · cases h

theorem range_mod (z : List Value) (k len : Nat) (hk : z.length = k) : (List.range (len * k)).map (fun i => z.toArray[i % z.toArray.size]!) = (List.replicate len z).flatten := by
  induction len with
  | zero => simp
  | succ len ih =>
    rw [Nat.succ_mul, List.range_add, List.map_append, ih, List.replicate_succ', List.flatten_append, List.map_map]
    congr 1
    simp only [List.flatten_cons, List.flatten_nil, List.append_nil]
    apply List.ext_getElem
    · simp [hk]
    · intro i h1 h2
      have hi : i < k := by simpa using h1
      have hm : (len * k + i) % k = i := by rw [Nat.mul_comm, Nat.mul_add_mod]; exact Nat.mod_eq_of_lt hi
      have hs : z.toArray.size = k := by simpa using hk
      simp only [List.getElem_map, List.getElem_range, Function.comp, hs, hm]
      rw [getElem!_pos z.toArray i (by omega)]
      simp
theorem made_row (z : Array Value) (k len : Nat) (hk : z.size = k) : (Array.range (len * k)).map (z[· % z.size]!) = ((List.replicate len z.toList).flatten).toArray := by
  have h := range_mod z.toList k len (by simpa using hk)
  apply Array.ext'
  rw [Array.toList_map, Array.toList_range]
  simpa using h
theorem flat_den (z : List Value) (len : Nat) : ((List.replicate len (z.map Cl.v)).flatten).map (Cl.den m) = (List.replicate len z).flatten ∧ ∀ c ∈ (List.replicate len (z.map Cl.v)).flatten, c.ok m := by
  refine ⟨?_, fun c hc => ?_⟩
  · rw [List.map_flatten, List.map_replicate, (zero_den (m := m) z).1]
  · obtain ⟨l, hl, hc⟩ := List.mem_flatten.1 hc
    rw [(List.mem_replicate.1 hl).2] at hc
    exact (zero_den (m := m) z).2 c hc

theorem slc_new (hr : Rep N m s.H w) (hN : N ≤ w.heap.size) (hf : Fresh m s s') {l : List Cl} {e : TypeId} {len cap : Nat} {r : Nat × St} (h1 : s.new (.row l e none) = some r)
    (h : (AV.o (.c (.slc r.1 0 len (some cap))), r.2) = (v, s')) (hl : ∀ c ∈ l, c.ok m) :
    ∃ m', v.den m' = .slice (some ⟨w.heap.size, 0, none⟩) len cap ∧ v.ok m' ∧ Did N m s s' w m' (w.alloc (.cells (l.map (Cl.den m)).toArray e)) := by
  obtain ⟨r, s1⟩ := r
  cases h
  obtain ⟨rfl, hd⟩ := newRow_did hr hN hf h1 hl
  exact ⟨m.add s.next w.heap.size 0, by simp [AV.den, Vl.den, Cl.den, Nm.add], ⟨Or.inr rfl, fun e => by cases e⟩, hd⟩

theorem buildSlice_ok (G : Good P T) (R : Regs m n A a) (hr : Rep N m s.H w) (hN : N ≤ w.heap.size) (hf : Fresh m s s') {t : TypeId} {len : Nat} {parts : Array (Nat × Operand)}
    (h : ev_buildSlice T A s t len parts = some (v, s')) :
    Upon P N m s w v s' ((do pure (Next.value (← Instr.buildSlice t len (parts.map fun (i, x) => (i, a.eval x)))) : Sem Next).run P w) := by
  unfold ev_buildSlice at h
  replace h := Option.bind_eq_some_iff.1 h
  obtain ⟨ps, hps, h⟩ := h
  obtain ⟨h1, h2⟩ := partsX_ok R hps
  have hl : (parts.map fun (i, x) => (i, a.eval x)).toList = ps.map fun p => (p.1, p.2.den m) := by rw [Array.toList_map, ← h2]
  split at h
  case h_2 => cases h
  rename_i e hu
  replace h := Option.bind_eq_some_iff.1 h
  obtain ⟨k, hk, h⟩ := h
  obtain ⟨ie, hie, rfl⟩ := sz_ok G hk
  have hun := run_underlying (under_ok G hu) w
  cases hb : (Nat.beq len 0 && ps.isEmpty) with
  | true =>
    rw [hb] at h
    simp only [cond_true] at h
    simp only [Bool.and_eq_true, Nat.beq_eq, List.isEmpty_iff] at hb
    obtain ⟨rfl, rfl⟩ := hb
    replace h := Option.map_eq_some_iff.1 h
    obtain ⟨r, h3, h⟩ := h
    obtain ⟨m', h4, h5, h6⟩ := slc_new hr hN hf h3 h (by simp)
    refine Upon.val (y := .slice (some ⟨w.heap.size, 0, none⟩) 0 0) ?_ h4.symm h5 h6
    have hp0 : parts = #[] := by simpa using h2
    subst hp0
    simp [Instr.buildSlice, hun, run_sz hie, Instr.fill, newRow, Array.range_zero']
  | false =>
    rw [hb] at h
    simp only [cond_false, bifS, Bool.and_eq_true, Nat.ble_eq, Nat.blt_eq] at h
    obtain ⟨⟨hle, hpos⟩, h⟩ := h
    replace h := Option.bind_eq_some_iff.1 h
    obtain ⟨z, hz, h⟩ := h
    replace h := Option.bind_eq_some_iff.1 h
    obtain ⟨l, hfl, h⟩ := h
    simp only [bifS, Nat.beq_eq] at h
    obtain ⟨hzl, h⟩ := h
    replace h := Option.map_eq_some_iff.1 h
    obtain ⟨r, h3, h⟩ := h
    obtain ⟨ie', zv, hie', hzv, rfl⟩ := zeros_ok G hz
    rw [hie] at hie'
    cases hie'
    obtain ⟨h4, h5⟩ := fill_ok (m := m) hfl h1 (flat_den _ _).2
    obtain ⟨m', h6, h7, h8⟩ := slc_new hr hN hf h3 h h5
    refine Upon.val (y := .slice (some ⟨w.heap.size, 0, none⟩) len len) ?_ h6.symm h7 h8
    rw [(flat_den (m := m) _ _).1, ← made_row zv.cells ie.size len (by simpa using hzl)] at h4
    have hn1 : ¬ (16777216 < len * ie.size) := by omega
    rw [← h2] at h4
    have hn3 : ¬ (len * ie.size = 0) := by omega
    simp [Instr.buildSlice, hun, run_sz hie, hn1, hn3, zeroValue, run_info hie, hzv, newRow, h4]

theorem load_ok (G : Good P T) (R : Regs m n A a) (hr : Rep N m s.H w) {t : TypeId} {x : Operand} (h : ev_load T A s t x = some (v, s')) :
    Upon P N m s w v s' ((do pure (Next.value (← Instr.loadAt t (a.eval x))) : Sem Next).run P w) := by
  unfold ev_load at h
  replace h := Option.bind_eq_some_iff.1 h
  obtain ⟨⟨k, o⟩, hp, h⟩ := h
  replace h := ret_ok h
  obtain ⟨h, rfl⟩ := h
  replace h := Option.map_eq_some_iff.1 h
  obtain ⟨y, hy, rfl⟩ := h
  obtain ⟨h1, h2⟩ := ptrX_ok R hp
  obtain ⟨h3, h4⟩ := ldVar_ok G hr h1 hy
  refine Upon.here hr (y := y.den m) ?_ rfl h4
  simp [Instr.loadAt, Instr.sureAddr, h2, h3]

theorem store_ok (G : Good P T) (R : Regs m n A a) (hr : Rep N m s.H w) {t : TypeId} {x y : Operand} (h : ev_store T A s t x y = some (v, s')) :
    Upon P N m s w v s' ((do Instr.storeAt t (a.eval x) (a.eval y); pure Next.skip : Sem Next).run P w) := by
  unfold ev_store at h
  replace h := Option.bind_eq_some_iff.1 h
  obtain ⟨⟨k, o⟩, hp, h⟩ := h
  replace h := Option.bind_eq_some_iff.1 h
  obtain ⟨z, hz, h⟩ := h
  replace h := Option.map_eq_some_iff.1 h
  obtain ⟨s1, hs, h⟩ := h
  cases h
  obtain ⟨h1, h2⟩ := ptrX_ok R hp
  obtain ⟨h3, h4⟩ := vlX_ok R hz
  unfold stVar at hs
  replace hs := Option.bind_eq_some_iff.1 hs
  obtain ⟨size, hsz, hs⟩ := hs
  replace hs := Option.bind_eq_some_iff.1 hs
  obtain ⟨l, hl, hs⟩ := hs
  simp only [bifS, Nat.beq_eq] at hs
  obtain ⟨hlen, hs⟩ := hs
  obtain ⟨i, hi, rfl⟩ := sz_ok G hsz
  obtain ⟨h5, h6⟩ := flat_ok hl h3
  obtain ⟨w', h7, h8⟩ := put_did (P := P) hr h1 h5 hs
  have hrun : (Instr.storeAt t (a.eval x) (a.eval y)).run P w = .ok () w' := by
    simp only [Instr.storeAt, h2, h4, Instr.sureAddr, Sem.run_bind, Sem.run_pure, Result.andThen_ok, storeVar, h6, run_sz hi]
    simp [hlen, h7]
  simp only [Sem.run_bind, hrun, Result.andThen_ok, Sem.run_pure]
  exact ⟨m, rfl, by simp [AV.ok], h8⟩

theorem makeInterface_ok (G : Good P T) (R : Regs m n A a) (hr : Rep N m s.H w) {t : TypeId} {x : Operand} (h : ev_makeInterface T A s t x = some (v, s')) :
    Upon P N m s w v s' ((do pure (Next.value (← Instr.makeInterface t (a.eval x))) : Sem Next).run P w) := by
  unfold ev_makeInterface at h
  replace h := Option.bind_eq_some_iff.1 h
  obtain ⟨y, hy, h⟩ := h
  obtain ⟨h1, h2⟩ := pvX_ok R hy
  cases hu : under T t with
  | none => simp [hu] at h
  | some d =>
    have hun := run_underlying (under_ok G hu) w
    cases d <;> simp only [hu] at h <;> first
      | cases h; done
      | (cases h
         refine Upon.here hr (y := .iface t (y.den m)) ?_ rfl h1
         simp [Instr.makeInterface, hun, h2])

theorem makeFunc_ok (R : Regs m n A a) (hr : Rep N m s.H w) {f : Fn} {x y : Array Operand} (h : ev_makeFunc A s f x y = some (v, s')) :
    Upon P N m s w v s' ((do pure (Next.value (← Instr.makeFunc f (x.map a.eval) (y.map a.eval))) : Sem Next).run P w) := by
  unfold ev_makeFunc at h
  replace h := Option.bind_eq_some_iff.1 h
  obtain ⟨p, hp, h⟩ := h
  replace h := Option.bind_eq_some_iff.1 h
  obtain ⟨q, hq, h⟩ := h
  cases h
  obtain ⟨h1, h2⟩ := pvsX_ok R hp
  obtain ⟨h3, h4⟩ := pvsX_ok R hq
  refine Upon.here hr (y := .func f (x.map a.eval) (y.map a.eval)) (by simp [Instr.makeFunc]) ?_ ⟨h1, h3⟩
  simp only [AV.den, Vl.den, Cl.den, ← h2, ← h4, ← Array.toList_map, Array.toArray_toList]

theorem makeMap_ok (hr : Rep N m s.H w) (hN : N ≤ w.heap.size) (hf : Fresh m s s') {t : TypeId} (h : ((s.new (.mp [])).map fun r => (AV.o (.c (.mp r.1)), r.2)) = some (v, s')) :
    Upon P N m s w v s' ((do pure (Next.value (← Instr.makeMap t none)) : Sem Next).run P w) := by
  replace h := Option.map_eq_some_iff.1 h
  obtain ⟨⟨r, s1⟩, h1, h⟩ := h
  cases h
  obtain ⟨rfl, hlt, rfl⟩ := new_ok h1
  have hn : ¬ m.dom s.next := hf _ (Nat.le_refl _) (Nat.lt_succ_self _)
  refine Upon.val (y := .map (some w.heap.size)) (m' := m.add s.next w.heap.size 0) ?_ ?_ (Or.inr rfl) (new_did hr hN hn hlt (o := .map #[] 0) rfl)
  · simp [Instr.makeMap]
  · simp [AV.den, Vl.den, Cl.den, Nm.add]

theorem mpAt_ok (hr : Rep N m s.H w) {b : Nat} {es : List (Value × Value)} (hd : m.dom b) (h : s.mpAt b = some es) : s.H.at b = some (.mp es) ∧ w.heap[m.ρ b]? = some (.map (mpEnts es) es.length) := by
  unfold St.mpAt at h
  split at h
  · rename_i es' hg
    cases h
    have hat : s.H.at b = some (.mp es) := by simp only [Tr.at, hr.bound b hd, if_true]; exact hg
    exact ⟨hat, (hr.live b _ hat).2.2.2⟩
  · cases h
theorem checkKey_int {kt : TypeId} {kd : IntKind} (hu : P.underlying kt = some (.int kd)) (e : Bool) (k : Value) : (Instr.checkKey e 10000 kt k).run P w = .ok () w := by
  show (Instr.checkKey e (9999 + 1) kt k).run P w = _
  unfold Instr.checkKey
  simp [run_underlying hu]
theorem findKey_now {kt : TypeId} {kd : IntKind} (hu : P.underlying kt = some (.int kd)) {k : Value} {es : List MapEntry} {r : Option (Nat × Value)} (h : Instr.findNow (.int kd) k es 0 = some r) : (Instr.findKey kt k es).run P w = .ok r w := by
  simp [Instr.findKey, run_underlying hu, h]
theorem lookup_ok (G : Good P T) (R : Regs m n A a) (hr : Rep N m s.H w) {t : TypeId} {x y : Operand} {ok : Bool} (h : ev_lookup T A s t x y ok = some (v, s')) :
    Upon P N m s w v s' ((do pure (Next.value (← Instr.lookup t (a.eval x) (a.eval y) ok)) : Sem Next).run P w) := by
  unfold ev_lookup at h
  split at h
  case h_2 => cases h
  rename_i b hx
  obtain ⟨h1, h2⟩ := evX_ok R hx
  replace h := Option.bind_eq_some_iff.1 h
  obtain ⟨k, hk, h⟩ := h
  split at h
  case h_2 => cases h
  rename_i kt e hu
  split at h
  case h_2 => cases h
  rename_i kd hku
  replace h := Option.bind_eq_some_iff.1 h
  obtain ⟨es, hes, h⟩ := h
  obtain ⟨hat, hw⟩ := mpAt_ok hr h1 hes
  have hb := MapKept.run_getObj_map (P := P) hw
  have hck := fun e => checkKey_int (P := P) (w := w) (under_ok G hku) e k
  have pv : ∀ u : Value, ret s (ofAV u) = some (v, s') → (Instr.lookup t (a.eval x) (a.eval y) ok).run P w = .ok u w → Upon P N m s w v s' ((do pure (Next.value (← Instr.lookup t (a.eval x) (a.eval y) ok)) : Sem Next).run P w) := fun u hv hrun => by
    have := pure_here (P := P) (w := w) (N := N) (m := m) (x := (Sem.pure u : Sem Value)) hr hv
    simp only [Sem.run_bind, hrun, Result.andThen_ok, Sem.run_pure] at this ⊢
    exact this
  rw [pureX_ok R hk] at *
  have h2 : a.eval x = .map (some (m.ρ b)) := h2
  split at h
  · rename_i r hf
    have hfk := findKey_now (P := P) (w := w) (under_ok G hku) hf
    refine pv _ h ?_
    rw [h2]
    simp [Instr.lookup, run_underlying (under_ok G hu), hb, hck, hfk, lookV, cond_eq_ite]
  · rename_i hf
    have hfk := findKey_now (P := P) (w := w) (under_ok G hku) hf
    replace h := Option.bind_eq_some_iff.1 h
    obtain ⟨i, hi, h⟩ := h
    replace h := Option.bind_eq_some_iff.1 h
    obtain ⟨z, hz, h⟩ := h
    refine pv _ h ?_
    rw [h2]
    simp [Instr.lookup, run_underlying (under_ok G hu), hb, hck, hfk, lookV, cond_eq_ite, zeroValue, run_info (info_ok G hi), hz]
  · cases h
theorem mpEnts_push (es : List (Value × Value)) (k v : Value) : (mpEnts es).push { key := k, val := v, born := es.length } = mpEnts (es ++ [(k, v)]) := by
  unfold mpEnts
  rw [List.zipIdx_append]
  simp
theorem mapUpdate_ok (G : Good P T) (R : Regs m n A a) (hr : Rep N m s.H w) {t : TypeId} {x k y : Operand} (h : ev_mapUpdate T A s t x k y = some (v, s')) :
    Upon P N m s w v s' ((do Instr.mapUpdate t (a.eval x) (a.eval k) (a.eval y); pure Next.skip : Sem Next).run P w) := by
  unfold ev_mapUpdate at h
  split at h
  case h_2 => cases h
  rename_i b hx
  obtain ⟨h1, h2⟩ := evX_ok R hx
  replace h := Option.bind_eq_some_iff.1 h
  obtain ⟨kv, hk, h⟩ := h
  replace h := Option.bind_eq_some_iff.1 h
  obtain ⟨vv, hv, h⟩ := h
  split at h
  case h_2 => cases h
  rename_i kt e hu
  split at h
  case h_2 => cases h
  rename_i kd hku
  replace h := Option.bind_eq_some_iff.1 h
  obtain ⟨es, hes, h⟩ := h
  obtain ⟨hat, hw⟩ := mpAt_ok hr h1 hes
  split at h
  case h_2 => cases h
  rename_i hf
  cases h
  have hb := MapKept.run_getObj_map (P := P) hw
  have hck := fun e => checkKey_int (P := P) (w := w) (under_ok G hku) e kv
  have hfk := findKey_now (P := P) (w := w) (under_ok G hku) hf
  have h2 : a.eval x = .map (some (m.ρ b)) := h2
  have hlt := (hr.live b _ hat).2.2.1
  have hrun : (Instr.mapUpdate t (a.eval x) (a.eval k) (a.eval y)).run P w = .ok () { w with heap := w.heap.set! (m.ρ b) (.map (mpEnts (es ++ [(kv, vv)])) (es.length + 1)) } := by
    rw [h2, pureX_ok R hk, pureX_ok R hv]
    simp [Instr.mapUpdate, run_underlying (under_ok G hu), hb, hck, hfk, MapKept.run_setObj_map _ hw, mpEnts_push]
  simp only [Sem.run_bind, hrun, Result.andThen_ok, Sem.run_pure]
  refine ⟨m, rfl, by simp [AV.ok], obj_did hr hat ?_ (by simp) (fun c hc => ?_) rfl rfl rfl⟩
  · show _ = _
    simp [hlt]
  · simp [Array.getElem?_setIfInBounds, Ne.symm hc]

theorem makeSlice_ok (G : Good P T) (R : Regs m n A a) (hr : Rep N m s.H w) (hN : N ≤ w.heap.size) (hf : Fresh m s s') {t : TypeId} {x y : Operand} (h : ev_makeSlice T A s t x y = some (v, s')) :
    Upon P N m s w v s' ((do pure (Next.value (← Instr.makeSlice t (a.eval x) (a.eval y))) : Sem Next).run P w) := by
  unfold ev_makeSlice at h
  replace h := Option.bind_eq_some_iff.1 h
  obtain ⟨l, hl, h⟩ := h
  replace h := Option.bind_eq_some_iff.1 h
  obtain ⟨c, hc, h⟩ := h
  split at h
  case h_2 => cases h
  rename_i e hu
  replace h := Option.bind_eq_some_iff.1 h
  obtain ⟨i, hi, h⟩ := h
  simp only [bifS, Bool.and_eq_true, Nat.ble_eq] at h
  obtain ⟨⟨⟨h1, h2⟩, h3⟩, h⟩ := h
  replace h := Option.bind_eq_some_iff.1 h
  obtain ⟨z, hz, h⟩ := h
  simp only [bifS, Nat.beq_eq] at h
  obtain ⟨hzl, h⟩ := h
  replace h := Option.map_eq_some_iff.1 h
  obtain ⟨r, hn, h⟩ := h
  obtain ⟨ie, zv, hie, hzv, rfl⟩ := zeros_ok G hz
  rw [info_ok G hi] at hie
  cases hie
  obtain ⟨kl, hl⟩ := natX_ok R hl
  obtain ⟨kc, hc⟩ := natX_ok R hc
  obtain ⟨m', h6, h7, h8⟩ := slc_new hr hN hf hn h (flat_den (m := m) _ _).2
  refine Upon.val (y := .slice (some ⟨w.heap.size, 0, none⟩) l c) ?_ h6.symm h7 h8
  have hb : (i.bytes : Int) * (c : Int) ≤ 281474976710656 := by
    have : ((i.bytes * c : Nat) : Int) ≤ 281474976710656 := by omega
    rwa [Int.natCast_mul] at this
  have hm := run_make (P := P) w t e i zv (under_ok G hu) (info_ok G hi) hzv kl kc l c (by omega) (by omega) hb (by omega)
  rw [hl, hc, hm, (flat_den (m := m) _ _).1, madeCells, Int.toNat_natCast, Int.toNat_natCast, made_row zv.cells i.size c (by simpa using hzl)]

theorem fieldAddr_ok (G : Good P T) (R : Regs m n A a) (hr : Rep N m s.H w) {t : TypeId} {x : Operand} {f : Nat} (h : ev_fieldAddr T A s t x f = some (v, s')) :
    Upon P N m s w v s' ((do pure (Next.value (← Instr.fieldAt t (a.eval x) f)) : Sem Next).run P w) := by
  unfold ev_fieldAddr at h
  replace h := Option.bind_eq_some_iff.1 h
  obtain ⟨⟨k, o⟩, hp, h⟩ := h
  obtain ⟨h1, h2⟩ := ptrX_ok R hp
  split at h
  case h_2 => cases h
  rename_i fs hu
  replace h := Option.bind_eq_some_iff.1 h
  obtain ⟨g, hg, h⟩ := h
  replace h := Option.bind_eq_some_iff.1 h
  obtain ⟨z, hz, h⟩ := h
  obtain ⟨i, hi, rfl⟩ := sz_ok G hz
  cases hb : Nat.beq i.size 0 with
  | true => simp [hb] at h
  | false =>
    simp only [hb, cond_false, Option.some.injEq, Prod.mk.injEq] at h
    obtain ⟨rfl, rfl⟩ := h
    have hne : i.size ≠ 0 := fun e => by rw [e] at hb; cases hb
    refine Upon.here hr (y := .pointer (some ⟨m.ρ k, o + g.offset, none⟩)) ?_ rfl h1
    simp [Instr.fieldAt, run_underlying (under_ok G hu), hg, h2, Instr.sureAddr, fieldPlace, run_sz hi, hne, Addr.add_lit]

theorem part_ok (G : Good P T) {t : TypeId} {l : List Cl} {off : Nat} {y : Vl} (hl : ∀ c ∈ l, c.ok m) (h : partL T t l off = some y) :
    (part t (l.map (Cl.den m)).toArray off).run P w = .ok (y.den m) w ∧ y.ok m := by
  unfold partL at h
  replace h := Option.bind_eq_some_iff.1 h
  obtain ⟨g, hg, h⟩ := h
  have hag := isAg_ok G hg w
  cases g with
  | true =>
    simp only [cond_true] at h
    replace h := Option.map_eq_some_iff.1 h
    obtain ⟨k, hk, rfl⟩ := h
    obtain ⟨i, hi, rfl⟩ := sz_ok G hk
    refine ⟨?_, fun c hc => hl c (List.mem_of_mem_drop (List.mem_of_mem_take hc))⟩
    simp [part, hag, run_sz hi, Vl.den, List.map_take, List.map_drop, List.extract_eq_drop_take]
  | false =>
    simp only [cond_false] at h
    replace h := Option.map_eq_some_iff.1 h
    obtain ⟨c, hc, rfl⟩ := h
    refine ⟨?_, hl c (List.mem_of_getElem? hc)⟩
    simp [part, hag, hc, Vl.den]

theorem field_ok (G : Good P T) (R : Regs m n A a) (hr : Rep N m s.H w) {t : TypeId} {x : Operand} {f : Nat} (h : ev_field T A s t x f = some (v, s')) :
    Upon P N m s w v s' ((do pure (Next.value (← Instr.field t (a.eval x) f)) : Sem Next).run P w) := by
  unfold ev_field at h
  replace h := Option.bind_eq_some_iff.1 h
  obtain ⟨y, hy, h⟩ := h
  obtain ⟨h1, h2⟩ := vlX_ok R hy
  split at h
  case h_2 => cases h
  rename_i fs l hu
  replace h := Option.bind_eq_some_iff.1 h
  obtain ⟨g, hg, h⟩ := h
  replace h := ret_ok h
  obtain ⟨h, rfl⟩ := h
  replace h := Option.map_eq_some_iff.1 h
  obtain ⟨z, hz, rfl⟩ := h
  obtain ⟨h3, h4⟩ := part_ok (w := w) G h1 hz
  refine Upon.here hr (y := z.den m) ?_ rfl h4
  have h2 : a.eval x = .agg (l.map (Cl.den m)).toArray := h2
  simp [Instr.field, run_underlying (under_ok G hu), hg, h2, asAgg, h3]

theorem indexAddr_ok (G : Good P T) (R : Regs m n A a) (hr : Rep N m s.H w) {t : TypeId} {x y : Operand} (h : ev_indexAddr T A s t x y = some (v, s')) :
    Upon P N m s w v s' ((do pure (Next.value (← Instr.indexAt t (a.eval x) (a.eval y))) : Sem Next).run P w) := by
  unfold ev_indexAddr at h
  replace h := Option.bind_eq_some_iff.1 h
  obtain ⟨j, hj, h⟩ := h
  obtain ⟨kd, hj⟩ := natX_ok R hj
  split at h
  · rename_i e b off len cap hu hx
    replace h := Option.bind_eq_some_iff.1 h
    obtain ⟨k, hk, h⟩ := h
    obtain ⟨i, hi, rfl⟩ := sz_ok G hk
    simp only [bifS, Nat.blt_eq, Option.some.injEq, Prod.mk.injEq] at h
    obtain ⟨hlt, rfl, rfl⟩ := h
    obtain ⟨h1, h2⟩ := evX_ok R hx
    refine Upon.here hr (y := .pointer (some ⟨m.ρ b, off + j * i.size, none⟩)) ?_ rfl h1.1
    have hlt' : (j : Int) < (len : Int) := by omega
    simp [Instr.indexAt, asIntOf, hj, run_underlying (under_ok G hu), h2, AV.den, Vl.den, Cl.den, hlt, run_sz hi, Addr.add_lit]
  · rename_i e b off prev len d hu hx
    replace h := Option.bind_eq_some_iff.1 h
    obtain ⟨k, hk, h⟩ := h
    obtain ⟨i, hi, rfl⟩ := sz_ok G hk
    simp only [bifS, Nat.blt_eq, Option.some.injEq, Prod.mk.injEq] at h
    obtain ⟨hlt, rfl, rfl⟩ := h
    obtain ⟨h1, h2⟩ := evX_ok R hx
    refine Upon.here hr (y := .pointer (some ⟨m.ρ b, off + j * i.size, none⟩)) ?_ rfl h1.1
    have hlt' : (j : Int) < (len : Int) := by omega
    have hne : ¬ m.κ b = d := by have : d + len ≤ m.κ b := h1.2; omega
    simp [Instr.indexAt, asIntOf, hj, run_underlying (under_ok G hu), h2, AV.den, Vl.den, Cl.den, hlt, hne, run_sz hi, Addr.add_lit]
  · rename_i len e b off hu hx
    replace h := Option.bind_eq_some_iff.1 h
    obtain ⟨k, hk, h⟩ := h
    obtain ⟨i, hi, rfl⟩ := sz_ok G hk
    simp only [bifS, Nat.blt_eq, Option.some.injEq, Prod.mk.injEq] at h
    obtain ⟨hlt, rfl, rfl⟩ := h
    obtain ⟨h1, h2⟩ := evX_ok R hx
    refine Upon.here hr (y := .pointer (some ⟨m.ρ b, off + j * i.size, none⟩)) ?_ rfl h1
    simp [Instr.indexAt, asIntOf, hj, run_underlying (under_ok G hu), h2, AV.den, Vl.den, Cl.den, Pv.den, Instr.sureAddr, hlt, run_sz hi, Addr.add_lit]
  · cases h

theorem extract_ok (R : Regs m n A a) (hr : Rep N m s.H w) {x : Operand} {i : Nat} (h : ev_extract A s x i = some (v, s')) :
    Upon P N m s w v s' ((do pure (Next.value (← Instr.extract (a.eval x) i)) : Sem Next).run P w) := by
  unfold ev_extract at h
  split at h
  · rename_i l hx
    replace h := ret_ok h
    obtain ⟨h, rfl⟩ := h
    replace h := Option.map_eq_some_iff.1 h
    obtain ⟨y, hy, rfl⟩ := h
    obtain ⟨h1, h2⟩ := evX_ok R hx
    refine Upon.here hr (y := y.den m) ?_ rfl (h1 y (List.mem_of_getElem? hy))
    simp [Instr.extract, h2, AV.den, hy]
  · cases h

theorem nilCheck_ok (R : Regs m n A a) (hr : Rep N m s.H w) {x : Operand} (h : ev_nilCheck A s x = some (v, s')) (o : Oper) (ho : o.op = .nilCheck x) :
    Upon P N m s w v s' ((execOp a.eval o).run P w) := by
  unfold ev_nilCheck at h
  have key : ∀ y : Value, a.eval x = y → (∀ z, y ≠ .pointer none ∧ y ≠ .nilIface ∧ y ≠ .nilFunc ∧ (∀ f c, y ≠ .func (.method z) f c)) → y = v.den m → v.ok m → s' = s → Upon P N m s w v s' ((execOp a.eval o).run P w) := by
    rintro y hy hne rfl hv rfl
    unfold execOp
    simp only [ho, hy]
    split
    · exact absurd ‹_› (hne "").1
    · exact absurd ‹_› (hne "").2.1
    · exact absurd ‹_› (hne "").2.2.1
    · exact absurd ‹_› ((hne _).2.2.2 _ _)
    · exact ⟨m, rfl, hv, Did.refl hr⟩
  split at h
  · rename_i hx
    obtain ⟨h1, h2⟩ := evX_ok R hx
    cases h
    exact key _ h2 (fun z => by simp [AV.den, Vl.den, Cl.den, Pv.den]) rfl h1 rfl
  · rename_i hx
    obtain ⟨h1, h2⟩ := evX_ok R hx
    cases h
    exact key _ h2 (fun z => by simp [AV.den, Vl.den, Cl.den]) rfl h1 rfl
  · rename_i hx
    obtain ⟨h1, h2⟩ := evX_ok R hx
    cases h
    exact key _ h2 (fun z => by simp [AV.den, Vl.den, Cl.den]) rfl h1 rfl
  · cases h

theorem typeAssert_ok (G : Good P T) (R : Regs m n A a) (hr : Rep N m s.H w) {x : Operand} {xt u : TypeId} {ok : Bool} (h : ev_typeAssert T A s x u ok = some (v, s')) :
    Upon P N m s w v s' ((do pure (Next.value (← Instr.typeAssert (a.eval x) xt u ok)) : Sem Next).run P w) := by
  unfold ev_typeAssert at h
  simp only at h
  split at h
  case h_2 => cases h
  rename_i d y hx
  obtain ⟨h1, h2⟩ := evX_ok R hx
  have key : ∀ z : Vl, z.den m = y.den m → z.ok m → (bif ok then AV.tup [z, .c (.v (.bool true))] else .o z) = v → s' = s → d = u → ∀ ds, P.underlying u = some ds → (∀ l, ds ≠ .interface l) →
      Upon P N m s w v s' ((do pure (Next.value (← Instr.typeAssert (a.eval x) xt u ok)) : Sem Next).run P w) := by
    rintro z hz hzo rfl rfl rfl ds hds hni
    have hun := run_underlying hds w
    have hrun : (Instr.typeAssert (a.eval x) xt d ok).run P w = .ok (if ok then .tuple #[y.den m, .bool true] else y.den m) w := by
      rw [h2]
      cases ds <;> first
        | exact absurd rfl (hni _)
        | simp [Instr.typeAssert, hun, AV.den, Vl.den, Cl.den]
    cases ok with
    | true => exact Upon.here hr hrun (by simp only [cond_true, AV.den, List.map_cons, List.map_nil, hz, if_true]; rfl) (fun c hc => by
        simp only [List.mem_cons, List.not_mem_nil, or_false] at hc
        rcases hc with rfl | rfl
        · exact hzo
        · trivial)
    | false => exact Upon.here hr hrun (by simp [AV.den, hz]) hzo
  cases hu : under T u with
  | none => simp [hu] at h
  | some ds =>
    have h' : (bif Nat.beq d u then (match y with | .v y => ret s ((ofV y).map fun v => bif ok then AV.tup [v, .c (.v (.bool true))] else .o v) | .ptr n o => ret s (some (bif ok then AV.tup [.c (.p (.ptr n o)), .c (.v (.bool true))] else .o (.c (.p (.ptr n o)))))) else none) = some (v, s') ∧ ∀ l, ds ≠ .interface l := by
      cases ds <;> simp only [hu] at h <;> first
        | cases h; done
        | exact ⟨h, fun l e => by cases e⟩
    obtain ⟨h', hni⟩ := h'
    simp only [bifS, Nat.beq_eq] at h'
    obtain ⟨hd, h'⟩ := h'
    cases y with
    | v y =>
      simp only at h'
      obtain ⟨h3, h4⟩ := ret_ok h'
      replace h3 := Option.map_eq_some_iff.1 h3
      obtain ⟨z, hz, h5⟩ := h3
      exact key z (ofV_den hz).1 (ofV_den hz).2 h5 h4 hd ds (under_ok G hu) hni
    | ptr k o =>
      simp only at h'
      obtain ⟨h3, h4⟩ := ret_ok h'
      exact key (.c (.p (.ptr k o))) rfl h1 (Option.some.inj h3) h4 hd ds (under_ok G hu) hni
end
end Go.Proofs.YtlddgafbgaaiiaaGreatDoor.Evl

namespace Go.Proofs.YtlddgafbgaaiiaaGreatDoor.Evl
open Go

section
variable {P : Program} {T : Tab} {N : Nat} {m : Nm} {s s' : St} {w : World} {n : Nat} {A : Ac} {a : Act} {v : AV}

theorem kind_eq {k k' : IntKind} (h : (k.bits == k'.bits && k.signed == k'.signed) = true) : k = k' := by
  cases k <;> cases k' <;> first | rfl | (exact absurd h (by decide))
theorem intOp_ok {op : BinOp} {t : TypeId} {ox oy : Operand} {k : IntKind} {p q : Int} {r : Value} (h : intOp op k p q = some r) :
    (do eqGuard op t ox oy (.int k p) (.int k q); binOp op t (.int k p) (.int k q) : Sem Value).run P w = .ok r w := by
  rw [eqGuard_at_int]
  cases op <;> simp only [intOp, Option.some.injEq] at h <;> first
    | (subst h; simp [binOp, Op.intArith, Op.intCmp]; done)
    | (cases h; done)

theorem nilEq_ok (G : Good P T) {t : TypeId} {ox oy : Operand} {x y : Cl} {r : Bool} (h : nilEq T t x y = some r) :
    (do eqGuard .eql t ox oy (x.den m) (y.den m); binOp .eql t (x.den m) (y.den m) : Sem Value).run P w = .ok (.bool r) w ∧
    (do eqGuard .neq t ox oy (x.den m) (y.den m); binOp .neq t (x.den m) (y.den m) : Sem Value).run P w = .ok (.bool !r) w := by
  have key : ∀ p q : Value, (∀ op, eqGuard op t ox oy p q = pure ()) → (binOp .eql t p q = do pure (.bool (← Op.equal t p q))) → (binOp .neq t p q = do pure (.bool (!(← Op.equal t p q)))) →
      (∀ d, (Op.equalIn (d + 1) t p q).run P w = .ok r w) →
      (do eqGuard .eql t ox oy p q; binOp .eql t p q : Sem Value).run P w = .ok (.bool r) w ∧ (do eqGuard .neq t ox oy p q; binOp .neq t p q : Sem Value).run P w = .ok (.bool !r) w := by
    intro p q hg he hn hrun
    have hq : (Op.equal t p q).run P w = .ok r w := hrun 9999
    rw [hg, hg, he, hn]
    simp [hq]
  unfold nilEq at h
  split at h
  all_goals first | (cases h; done) | skip
  all_goals
    split at h <;> cases h
    rename_i hu
    have hun := run_underlying (under_ok G hu) w
    refine key _ _ (fun op => by simp only [Cl.den, Pv.den, eqGuard_at_pointer, eqGuard_at_slice, eqGuard_at_map, eqGuard_at_func, eqGuard_at_iface]) rfl rfl fun d => ?_
    simp [Op.equalIn, hun, Cl.den, Pv.den]

theorem binOp_ok (G : Good P T) (R : Regs m n A a) (hr : Rep N m s.H w) {op : BinOp} {t : TypeId} {x y : Operand} (h : ev_binOp P T A s op t x y = some (v, s')) :
    Upon P N m s w v s' (((do eqGuard op t x y (a.eval x) (a.eval y); binOp op t (a.eval x) (a.eval y) : Sem Value) >>= fun z => pure (Next.value z)).run P w) := by
  unfold ev_binOp at h
  replace h := Option.bind_eq_some_iff.1 h
  obtain ⟨p, hp, h⟩ := h
  replace h := Option.bind_eq_some_iff.1 h
  obtain ⟨q, hq, h⟩ := h
  obtain ⟨h1, h2⟩ := evX_ok R hp
  obtain ⟨h3, h4⟩ := evX_ok R hq
  unfold evBin at h
  split at h
  · rename_i r hi
    replace h := ret_ok h
    obtain ⟨h, rfl⟩ := h
    cases h
    unfold intsOp at hi
    split at hi
    · rename_i k b k' c
      rw [bifS] at hi
      obtain ⟨hk, hi⟩ := hi
      obtain rfl := kind_eq hk
      refine Upon.here hr (y := r) ?_ rfl trivial
      rw [h2, h4]
      exact intOp_ok hi
    · cases hi
  · unfold evBinG at h
    split at h
    · rename_i c d hc hd
      rw [h2, h4, (AV.pure_den hc).1, (AV.pure_den hd).1]
      exact pure_here hr h
    · replace h := ret_ok h
      obtain ⟨h, rfl⟩ := h
      split at h
      · replace h := Option.map_eq_some_iff.1 h
        obtain ⟨r, hr', rfl⟩ := h
        refine Upon.here hr (y := .bool r) ?_ rfl trivial
        rw [h2, h4]
        exact (nilEq_ok G hr').1
      · replace h := Option.map_eq_some_iff.1 h
        obtain ⟨r, hr', rfl⟩ := h
        refine Upon.here hr (y := .bool !r) ?_ rfl trivial
        rw [h2, h4]
        exact (nilEq_ok G hr').2
      · cases h

/-- A bound of a slice expression. -/
def Bnd : Option Value → Option Nat → Prop
  | none, none => True
  | some v, some k => ∃ kd, v = .int kd k
  | _, _ => False
theorem natO_ok (R : Regs m n A a) {o : Option Operand} {k : Option Nat} (h : natO A o = some k) : Bnd (o.map a.eval) k := by
  cases o with
  | none => simp only [natO, Option.some.injEq] at h; subst h; trivial
  | some x =>
    simp only [natO] at h
    replace h := Option.map_eq_some_iff.1 h
    obtain ⟨j, hj, rfl⟩ := h
    exact natX_ok R hj
theorem bounds_ok {lo hi mx : Option Value} {l h mm : Option Nat} {len cap : Nat} (h1 : Bnd lo l) (h2 : Bnd hi h) (h3 : Bnd mx mm) (hm : (mm.isSome && h.isNone) = false)
    (h4 : l.getD 0 ≤ h.getD len) (h5 : h.getD len ≤ mm.getD cap) (h6 : mm.getD cap ≤ cap) : (Instr.sliceBounds true len cap lo hi mx).run P w = .ok (l.getD 0, h.getD len, mm.getD cap) w := by
  have sb : ∀ (kd : IntKind) (i y : Nat) (code : BoundsCode), i ≤ y → (Instr.sliceBound (.int kd i) y code).run P w = .ok i w := fun kd i y code hi => by
    simpa using run_sliceBound (P := P) w kd i y code (by omega) (by omega)
  match lo, l, h1, hi, h, h2, mx, mm, h3 with
  | none, none, _, none, none, _, none, none, _ => simp [Instr.sliceBounds]
  | some _, some l, ⟨k1, rfl⟩, none, none, _, none, none, _ => simp only [Option.getD_some, Option.getD_none] at *; simp [Instr.sliceBounds, sb _ _ _ _ h4]
  | none, none, _, some _, some h, ⟨k2, rfl⟩, none, none, _ => simp only [Option.getD_some, Option.getD_none] at *; simp [Instr.sliceBounds, sb _ _ _ _ h5]
  | some _, some l, ⟨k1, rfl⟩, some _, some h, ⟨k2, rfl⟩, none, none, _ => simp only [Option.getD_some, Option.getD_none] at *; simp [Instr.sliceBounds, sb _ _ _ _ h5, sb _ _ _ _ h4]
  | none, none, _, some _, some h, ⟨k2, rfl⟩, some _, some mm, ⟨k3, rfl⟩ => simp only [Option.getD_some, Option.getD_none] at *; simp [Instr.sliceBounds, sb _ _ _ _ h5, sb _ _ _ _ h6]
  | some _, some l, ⟨k1, rfl⟩, some _, some h, ⟨k2, rfl⟩, some _, some mm, ⟨k3, rfl⟩ => simp only [Option.getD_some, Option.getD_none] at *; simp [Instr.sliceBounds, sb _ _ _ _ h5, sb _ _ _ _ h6, sb _ _ _ _ h4]
  | none, none, _, none, none, _, some _, some mm, _ => simp at hm
  | some _, some l, _, none, none, _, some _, some mm, _ => simp at hm

theorem evSlice_ok (G : Good P T) {t : TypeId} {x : Cl} {lo hi mx : Option Value} {l h mm : Option Nat} (hx : x.ok m) (h1 : Bnd lo l) (h2 : Bnd hi h) (h3 : Bnd mx mm) (he : evSlice T t x l h mm = some v) :
    (Instr.sliceAt t (x.den m) lo hi mx).run P w = .ok (v.den m) w ∧ v.ok m := by
  unfold evSlice at he
  split at he
  case h_4 => cases he
  case h_1 =>
    rename_i len e b off hu
    simp only [bifS, Bool.and_eq_true, Option.isNone_iff_eq_none] at he
    obtain ⟨⟨⟨rfl, rfl⟩, rfl⟩, he⟩ := he
    replace he := Option.bind_eq_some_iff.1 he
    obtain ⟨k, hk, he⟩ := he
    cases he
    obtain ⟨i, hi', rfl⟩ := sz_ok G hk
    obtain rfl : lo = none := by cases lo with | none => rfl | some _ => exact absurd h1 (by simp [Bnd])
    obtain rfl : hi = none := by cases hi with | none => rfl | some _ => exact absurd h2 (by simp [Bnd])
    obtain rfl : mx = none := by cases mx with | none => rfl | some _ => exact absurd h3 (by simp [Bnd])
    have hun := run_underlying (under_ok G hu) w
    refine ⟨?_, ⟨hx, fun e => by cases e⟩⟩
    simp [Cl.den, Pv.den, Instr.sliceAt, hun, Instr.sureAddr, Instr.sliceBounds, run_sz hi', AV.den, Vl.den, Addr.add_lit]
  case h_3 =>
    rename_i e b off prev len d hu
    cases hm : mm.isSome with
    | true => simp [hm] at he
    | false =>
    simp only [hm, cond_false] at he
    obtain rfl : mm = none := by cases mm; rfl; cases hm
    replace he := Option.bind_eq_some_iff.1 he
    obtain ⟨k, hk, he⟩ := he
    obtain ⟨i, hi', rfl⟩ := sz_ok G hk
    have hun := run_underlying (under_ok G hu) w
    have hcap : d + len ≤ m.κ b := hx.2
    simp only [bifS, Bool.and_eq_true, Nat.ble_eq, Option.some.injEq] at he
    obtain ⟨⟨h4, h5⟩, rfl⟩ := he
    have hb := bounds_ok (P := P) (w := w) (len := len) (cap := m.κ b - d) h1 h2 h3 (by simp) h4 (by simp; omega) (Nat.le_refl _)
    simp only [Option.getD_none] at hb
    refine ⟨?_, ?_⟩
    · simp only [Cl.den, Instr.sliceAt, Instr.slice, Sem.run_bind, hun, Result.andThen_ok, hb, run_sz hi', Sem.run_pure, cond_eq_ite, Nat.beq_eq]
      by_cases hl : l.getD 0 = 0
      · simp [hl, AV.den, Vl.den, Cl.den, Addr.add_lit]
      · have e1 : ¬ m.κ b = d := by omega
        by_cases hc : m.κ b - d = l.getD 0
        · simp [hl, hc, e1, AV.den, Vl.den, Cl.den, show m.κ b = d + l.getD 0 by omega]
        · simp [hl, hc, e1, AV.den, Vl.den, Cl.den, Addr.add_lit, show ¬ m.κ b = d + l.getD 0 by omega]; omega
    · simp only [AV.ok, Vl.ok, cond_eq_ite, Nat.beq_eq]
      split
      · exact ⟨hx.1, by show d + h.getD len ≤ m.κ b; omega⟩
      · exact ⟨hx.1, by show d + l.getD 0 + (h.getD len - l.getD 0) ≤ m.κ b; omega⟩
  rename_i e b off len cap hu
  cases hm : (mm.isSome && h.isNone) with
  | true => simp [hm] at he
  | false =>
  simp only [hm, cond_false] at he
  replace he := Option.bind_eq_some_iff.1 he
  obtain ⟨k, hk, he⟩ := he
  obtain ⟨i, hi', rfl⟩ := sz_ok G hk
  have hun := run_underlying (under_ok G hu) w
  have fin : ∀ (C : Nat), l.getD 0 ≤ h.getD len → h.getD len ≤ mm.getD C → mm.getD C ≤ C →
      (Instr.sliceAt t (.slice (some ⟨m.ρ b, off, none⟩) len C) lo hi mx).run P w = .ok (.slice (some ⟨m.ρ b, if mm.getD C = l.getD 0 then off else off + l.getD 0 * i.size, none⟩) (h.getD len - l.getD 0) (mm.getD C - l.getD 0)) w := fun C h4 h5 h6 => by
    have hb := bounds_ok (P := P) (w := w) h1 h2 h3 hm h4 h5 h6
    simp only [Instr.sliceAt, Instr.slice, Sem.run_bind, hun, Result.andThen_ok, hb, run_sz hi', Sem.run_pure]
    split <;> simp [Addr.add_lit]
  cases cap with
  | some C =>
    cases mm with
    | none =>
      simp only [bifS, Bool.and_eq_true, Nat.ble_eq, Option.some.injEq] at he
      obtain ⟨⟨h4, h5⟩, rfl⟩ := he
      refine ⟨(fin C h4 h5 (Nat.le_refl _)).trans ?_, ⟨hx.1, fun e => by cases e⟩⟩
      simp only [AV.den, Vl.den, Cl.den, Option.getD_none, Option.getD_some, cond_eq_ite, Nat.beq_eq]
    | some M =>
      simp only [bifS, Bool.and_eq_true, Nat.ble_eq, Option.some.injEq] at he
      obtain ⟨⟨⟨h4, h5⟩, h6⟩, rfl⟩ := he
      refine ⟨(fin C h4 h5 h6).trans ?_, ⟨hx.1, fun e => by cases e⟩⟩
      simp only [AV.den, Vl.den, Cl.den, Option.getD_some, cond_eq_ite, Nat.beq_eq]
  | none =>
    have hcap := hx.2 rfl
    cases mm with
    | none =>
      cases hc : (Nat.beq (l.getD 0) 0 && Nat.ble (h.getD len) len && Nat.beq off 0 && Nat.blt 0 len) with
      | false =>
        simp only [hc, cond_false, bifS, Bool.and_eq_true, Nat.ble_eq, Option.some.injEq] at he
        obtain ⟨⟨h4, h5⟩, rfl⟩ := he
        refine ⟨(fin (m.κ b) h4 (by simp; omega) (Nat.le_refl _)).trans ?_, ⟨hx.1, by show l.getD 0 + (h.getD len - l.getD 0) ≤ m.κ b; omega⟩⟩
        simp only [AV.den, Vl.den, Cl.den, Option.getD_none]
      | true =>
      simp only [hc, cond_true, Option.some.injEq] at he
      simp only [Bool.and_eq_true, Nat.ble_eq, Nat.beq_eq, Nat.blt_eq] at hc
      obtain ⟨⟨⟨h4, h5⟩, h6⟩, h7⟩ := hc
      subst he
      subst h6
      refine ⟨(fin (m.κ b) (by omega) (by simp; omega) (Nat.le_refl _)).trans ?_, ⟨hx.1, fun _ => by omega⟩⟩
      simp only [AV.den, Vl.den, Cl.den, Option.getD_none, h4, Nat.zero_mul, Nat.add_zero, ite_self, Nat.sub_zero]
    | some M =>
      simp only [bifS, Bool.and_eq_true, Nat.ble_eq, Nat.beq_eq, Option.some.injEq] at he
      obtain ⟨⟨⟨⟨h4, h5⟩, h6⟩, h7⟩, rfl⟩ := he
      refine ⟨(fin (m.κ b) h4 h5 (by simp; omega)).trans ?_, ⟨hx.1, fun e => by cases e⟩⟩
      simp only [AV.den, Vl.den, Cl.den, Option.getD_some, cond_eq_ite, Nat.beq_eq]

theorem slice_ok (G : Good P T) (R : Regs m n A a) (hr : Rep N m s.H w) {t : TypeId} {x : Operand} {lo hi mx : Option Operand} (h : ev_slice P T A s t x lo hi mx = some (v, s')) :
    Upon P N m s w v s' ((do pure (Next.value (← Instr.sliceAt t (a.eval x) (lo.map a.eval) (hi.map a.eval) (mx.map a.eval))) : Sem Next).run P w) := by
  unfold ev_slice at h
  split at h
  · rename_i y hy
    have hx := pureX_ok R hy
    have key : ∀ {o : Option Operand} {c : Value}, o.map (pureX A) = some (some c) → o.map a.eval = some c := by
      intro o c ho
      cases o with
      | none => cases ho
      | some z =>
        simp only [Option.map_some, Option.some.injEq] at ho ⊢
        exact pureX_ok R ho
    have key0 : ∀ {o : Option Operand}, o.map (pureX A) = none → o.map a.eval = none := by
      intro o ho
      cases o with
      | none => rfl
      | some z => cases ho
    split at h
    · rename_i h1 h2 h3; rw [hx, key0 h1, key0 h2, key0 h3]; exact pure_here hr h
    · rename_i h1 h2 h3; rw [hx, key h1, key0 h2, key0 h3]; exact pure_here hr h
    · rename_i h1 h2 h3; rw [hx, key0 h1, key h2, key0 h3]; exact pure_here hr h
    · rename_i h1 h2 h3; rw [hx, key h1, key h2, key0 h3]; exact pure_here hr h
    · rename_i h1 h2 h3; rw [hx, key0 h1, key h2, key h3]; exact pure_here hr h
    · rename_i h1 h2 h3; rw [hx, key h1, key h2, key h3]; exact pure_here hr h
    · cases h
  · replace h := Option.bind_eq_some_iff.1 h
    obtain ⟨c, hc, h⟩ := h
    replace h := Option.bind_eq_some_iff.1 h
    obtain ⟨l, hl, h⟩ := h
    replace h := Option.bind_eq_some_iff.1 h
    obtain ⟨u, hu, h⟩ := h
    replace h := Option.bind_eq_some_iff.1 h
    obtain ⟨M, hM, h⟩ := h
    replace h := ret_ok h
    obtain ⟨h, rfl⟩ := h
    obtain ⟨h1, h2⟩ := clX_ok R hc
    obtain ⟨h3, h4⟩ := evSlice_ok (P := P) (w := w) G h1 (natO_ok R hl) (natO_ok R hu) (natO_ok R hM) h
    rw [h2]
    exact Upon.here hr h3 rfl h4

/-- The first cells of a row. -/
theorem rowOf_ok (hr : Rep N m s.H w) {size : Nat} {x : Cl} {k : Nat} {l : List Cl} (hx : x.ok m) (h : rowOf size s x = some (k, l)) :
    ∃ base cap, x.den m = .slice base k cap ∧ l.length = k * size ∧ (∀ c ∈ l, c.ok m) ∧
      ∀ j, j ≤ k → (Builtin.firstCells size j (x.den m)).run P w = .ok ((l.take (j * size)).map (Cl.den m)).toArray w := by
  unfold rowOf at h
  split at h
  · rename_i b off len cap
    replace h := Option.bind_eq_some_iff.1 h
    obtain ⟨⟨cs, ty, mo⟩, hrow, h⟩ := h
    simp only [bifS, Nat.beq_eq, Option.some.injEq, Prod.mk.injEq] at h
    obtain ⟨hlen, rfl, rfl⟩ := h
    obtain ⟨rest, hw, hok, -⟩ := hr.row hx.1 hrow
    refine ⟨_, _, rfl, hlen, fun c hc => hok c (List.mem_of_mem_drop (List.mem_of_mem_take hc)), fun j hj => ?_⟩
    have hjs : j * size ≤ len * size := Nat.mul_le_mul_right _ hj
    refine run_firstCells_some w size j _ _ _ _ (by simp only [List.length_map, List.length_take, hlen]; omega) (fun i u hu => ?_)
    rw [Addr.add_lit, cell_of hw]
    rw [List.getElem?_map, List.take_take, Nat.min_eq_left hjs] at hu
    replace hu := Option.map_eq_some_iff.1 hu
    obtain ⟨c, hc, rfl⟩ := hu
    have hi : i < j * size := by
      have := (List.getElem?_eq_some_iff.1 hc).1
      simp at this
      omega
    rw [List.getElem?_take_of_lt hi, List.getElem?_drop] at hc
    have hlt := (List.getElem?_eq_some_iff.1 hc).1
    rw [List.getElem?_append_left (by simpa using hlt), List.getElem?_map, hc]
    rfl
  · rename_i b off prev len d
    replace h := Option.bind_eq_some_iff.1 h
    obtain ⟨⟨cs, ty, mo⟩, hrow, h⟩ := h
    simp only [bifS, Nat.beq_eq, Option.some.injEq, Prod.mk.injEq] at h
    obtain ⟨hlen, rfl, rfl⟩ := h
    obtain ⟨rest, hw, hok, -⟩ := hr.row hx.1 hrow
    refine ⟨_, _, rfl, hlen, fun c hc => hok c (List.mem_of_mem_drop (List.mem_of_mem_take hc)), fun j hj => ?_⟩
    have hjs : j * size ≤ len * size := Nat.mul_le_mul_right _ hj
    refine run_firstCells_some w size j _ _ _ _ (by simp only [List.length_map, List.length_take, hlen]; omega) (fun i u hu => ?_)
    rw [List.getElem?_map, List.take_take, Nat.min_eq_left hjs] at hu
    replace hu := Option.map_eq_some_iff.1 hu
    obtain ⟨c, hc, rfl⟩ := hu
    have hi : i < j * size := by
      have := (List.getElem?_eq_some_iff.1 hc).1
      simp at this
      omega
    rw [List.getElem?_take_of_lt hi, List.getElem?_drop] at hc
    have hlt := (List.getElem?_eq_some_iff.1 hc).1
    have hpos : 0 < len := by rcases Nat.eq_zero_or_pos len with e | e; (rw [e, Nat.zero_mul] at hjs; omega); exact e
    rw [if_neg (by have := hx.2; omega), Addr.add_lit, cell_of hw]
    rw [List.getElem?_append_left (by simpa using hlt), List.getElem?_map, hc]
    rfl
  · rename_i len cap
    simp only [bifS, Nat.beq_eq, Option.some.injEq, Prod.mk.injEq] at h
    obtain ⟨rfl, rfl, rfl⟩ := h
    refine ⟨none, cap, rfl, by simp, by simp, fun j hj => ?_⟩
    simpa [Cl.den, Pv.den] using run_firstCells_none (P := P) w size j 0 cap
  · cases h

theorem append_fit {t0 t1 ty e e1 : TypeId} {i : TypeInfo} {ts : Array TypeId} (h0 : ts[0]? = some t0) (h1 : ts[1]? = some t1) (hu0 : P.underlying t0 = some (.slice e)) (hu1 : P.underlying t1 = some (.slice e1)) (hi : P.info? e = some i)
    {base : Option Addr} {sLen sCap : Nat} {b1 : Option Addr} {k c1 : Nat} {new : Array Value}
    (hf : (Builtin.firstCells i.size k (.slice b1 k c1)).run P w = .ok new w) (hfit : sLen + k ≤ sCap) :
    (Builtin.append_ ts ty #[.slice base sLen sCap, .slice b1 k c1]).run P w =
      ((match base with | some ad => storeCells (ad.add (sLen * i.size)) new.toList | none => pure () : Sem Unit).run P w).andThen fun _ w' => .ok (.slice base (sLen + k) sCap) w' := by
  cases base <;> simp [Builtin.append_, h0, h1, run_underlying hu0, run_underlying hu1, run_sz hi, Builtin.lenOf, hfit, hf]

theorem append_new {t0 t1 ty e e1 : TypeId} {i : TypeInfo} {ts : Array TypeId} (h0 : ts[0]? = some t0) (h1 : ts[1]? = some t1) (hu0 : P.underlying t0 = some (.slice e)) (hu1 : P.underlying t1 = some (.slice e1)) (hi : P.info? e = some i)
    {z : Value} (hz : i.zero = some z) {base : Option Addr} {sLen sCap : Nat} {b1 : Option Addr} {k c1 : Nat} {old new : Array Value}
    (hf : (Builtin.firstCells i.size k (.slice b1 k c1)).run P w.drew = .ok new w.drew) (ho : (Builtin.firstCells i.size sLen (.slice base sLen sCap)).run P w.drew = .ok old w.drew)
    (hg : sCap < sLen + k) (h63 : sLen + k ≤ 1048576) (h48 : Builtin.nextslicecap (sLen + k) sCap * i.bytes ≤ 281474976710656) :
    (Builtin.append_ ts ty #[.slice base sLen sCap, .slice b1 k c1]).run P w =
      .ok (.slice (some ⟨w.heap.size, 0, none⟩) (sLen + k) (grownCap w (sLen + k) sCap e)) (w.drew.alloc (.cells (old ++ new ++ Builtin.zeroCells z.cells (grownCap w (sLen + k) sCap e - (sLen + k))) e)) := by
  have hn : ¬ (sLen + k ≤ sCap) := by omega
  have h63' : ¬ (9223372036854775807 < ((sLen : Int) + (k : Int))) := by omega
  have h48' : ¬ (281474976710656 < Builtin.nextslicecap (sLen + k) sCap * i.bytes) := by omega
  simp [Builtin.append_, h0, h1, run_underlying hu0, run_underlying hu1, run_sz hi, run_info hi, zeroValue, hz, Builtin.lenOf, hn, h63', h48', Question.forced, hf, ho, newRow, grownCap]

/-- A new row with cells that are not known behind those that are. -/
theorem grow_did (hr : Rep N m s.H w) (hN : N ≤ w.heap.size) (hf : Fresh m s s') {i : TypeInfo} {e : TypeId} {need cap : Nat} {l : List Cl} {z : Array Value} (hl : ∀ c ∈ l, c.ok m) (hlen : l.length = need * i.size) (hz : z.size = i.size) {r : Nat}
    (h : s.new (.row l e (some i.size)) = some (r, s')) :
    r = s.next ∧ Did N m s s' w (m.add r w.heap.size (grownCap w need cap e)) (w.drew.alloc (.cells ((l.map (Cl.den m)).toArray ++ Builtin.zeroCells z (grownCap w need cap e - need)) e)) := by
  obtain ⟨rfl, hlt, rfl⟩ := new_ok h
  have hn : ¬ m.dom s.next := hf _ (Nat.le_refl _) (Nat.lt_succ_self _)
  have hle := Nm.le_add (r := w.heap.size) (k := grownCap w need cap e) hn
  refine ⟨rfl, (drew_did hr).trans (new_did (drew_did hr).rep hN hn hlt ?_)⟩
  show Bk.at (m.add s.next w.heap.size (grownCap w need cap e)) s.next (.row l e (some i.size)) _
  refine ⟨fun c hc => (Cl.keep hle (hl c hc)).1, (Builtin.zeroCells z (grownCap w need cap e - need)).toList, ?_, ?_⟩
  · rw [List.map_congr_left fun c hc => (Cl.keep hle (hl c hc)).2]
    congr 2
    apply Array.ext'
    simp
  · have hge := grownCap_ge w need cap e
    simp only [Array.length_toList, size_zeroCells, hlen, hz, ← Nat.add_mul]
    have : need + (grownCap w need cap e - need) = grownCap w need cap e := by omega
    rw [this]
    simp [Nm.add]

theorem growX_ok (G : Good P T) (hr : Rep N m s.H w) (hN : N ≤ w.heap.size) (hf : Fresh m s s') {t0 t1 ty e e1 : TypeId} {i : TypeInfo} {ts : Array TypeId} (h0 : ts[0]? = some t0) (h1 : ts[1]? = some t1)
    (hu0 : P.underlying t0 = some (.slice e)) (hu1 : P.underlying t1 = some (.slice e1)) (hi : P.info? e = some i) {base b1 : Option Addr} {sLen sCap k c1 : Nat} {old new : List Cl}
    (hfn : (Builtin.firstCells i.size k (.slice b1 k c1)).run P w.drew = .ok (new.map (Cl.den m)).toArray w.drew) (hfo : (Builtin.firstCells i.size sLen (.slice base sLen sCap)).run P w.drew = .ok (old.map (Cl.den m)).toArray w.drew)
    (hon : ∀ c ∈ new, c.ok m) (hoo : ∀ c ∈ old, c.ok m) (hln : new.length = k * i.size) (hlo : old.length = sLen * i.size) (h : growX T s i e (sLen + k) sCap (old ++ new) = some (v, s')) :
    Upon P N m s w v s' ((do pure (Next.value (← Builtin.append_ ts ty #[.slice base sLen sCap, .slice b1 k c1])) : Sem Next).run P w) := by
  unfold growX at h
  simp only [bifS, Bool.and_eq_true, Nat.ble_eq, Nat.blt_eq] at h
  obtain ⟨⟨⟨h2, h3⟩, h4⟩, h⟩ := h
  replace h := Option.bind_eq_some_iff.1 h
  obtain ⟨z, hz, h⟩ := h
  simp only [bifS, Nat.beq_eq] at h
  obtain ⟨hzl, h⟩ := h
  replace h := Option.map_eq_some_iff.1 h
  obtain ⟨⟨r, s1⟩, hn, h⟩ := h
  cases h
  obtain ⟨ie, zv, hie, hzv, rfl⟩ := zeros_ok G hz
  rw [hi] at hie
  cases hie
  obtain ⟨rfl, hd⟩ := grow_did (cap := sCap) hr hN hf (i := i) (l := old ++ new) (z := zv.cells) (fun c hc => (List.mem_append.1 hc).elim (hoo c) (hon c)) (by rw [List.length_append, hlo, hln, Nat.add_mul]) (by simpa using hzl) hn
  have hrun := append_new (ty := ty) (w := w) h0 h1 hu0 hu1 hi hzv hfn hfo h4 h3 h2
  have harr : (old.map (Cl.den m)).toArray ++ (new.map (Cl.den m)).toArray = ((old ++ new).map (Cl.den m)).toArray := by simp
  rw [harr] at hrun
  refine Upon.val hrun ?_ ⟨Or.inr rfl, fun _ => by simpa [Nm.add] using grownCap_ge w (sLen + k) sCap e⟩ hd
  simp [AV.den, Vl.den, Cl.den, Nm.add]

/-- A name is taken from a block (which may then be told under a new name). -/
theorem swap_did (hr : Rep N m s.H w) {k : Nat} {B B0 : Bk} (hk : s.H.at k = some B0) (hn : ¬ m.dom s.next) (hlt : s.next < 16384) {g κ : Nat} {w' : World}
    (hB : B.at (m.add s.next g κ) s.next w'.heap[g]?) (hg : g = m.ρ k ∨ w.heap.size ≤ g) (hN : N ≤ g) (hg2 : g < w'.heap.size) (hsz : w.heap.size ≤ w'.heap.size)
    (hfr : ∀ b, b < w.heap.size → b ≠ m.ρ k → w'.heap[b]? = w.heap[b]?) (hos : w'.os = w.os) (htp : w'.tape = w.tape) (hout : w'.output = w.output) :
    Did N m s { H := (s.H.set HD k none).set HD s.next (some B), next := s.next + 1, wlo := min s.wlo k } w (m.add s.next g κ) w' := by
  have hle := Nm.le_add (r := g) (k := κ) hn
  have hkd := (hr.live k B0 hk).1
  have hkb := hr.bound k hkd
  have hkn : k ≠ s.next := fun e => hn (e ▸ hkd)
  have hA : ∀ i, ((s.H.set HD k none).set HD s.next (some B)).at i = if i = s.next then some B else if i = k then none else s.H.at i := fun i => by
    have hf1 : (Tr.set HD s.H k none).fits 7 := Tr.fits_set 7 _ _ _ hr.fits
    rw [at_set hf1 hlt, at_set hr.fits hkb]
  have hold : ∀ i c, i ≠ s.next → ((s.H.set HD k none).set HD s.next (some B)).at i = some c → i ≠ k ∧ s.H.at i = some c := fun i c hi hc => by
    rw [hA] at hc
    simp only [hi, if_false] at hc
    by_cases hik : i = k
    · simp [hik] at hc
    · simp only [hik, if_false] at hc
      exact ⟨hik, hc⟩
  have hρ : ∀ i, i ≠ s.next → (m.add s.next g κ).ρ i = m.ρ i := fun i hi => by simp [Nm.add, hi]
  have hρn : (m.add s.next g κ).ρ s.next = g := by simp [Nm.add]
  refine ⟨hle, ⟨fun i c hc => ?_, Tr.fits_set 7 _ _ _ (Tr.fits_set 7 _ _ _ hr.fits), fun i h => h.elim (hr.bound i) fun e => e ▸ hlt, fun i j c d hc hd e => ?_⟩, fun i h => h.imp id fun e => ⟨by simp [e], by simp [e]⟩, hsz, by simp, Nat.min_le_left _ _, fun i c hc h => ?_, fun i h hlo => ?_, fun i h hnot => ?_, fun b hb hf => ?_, hos, htp, hout⟩
  · by_cases hi : i = s.next
    · subst hi
      rw [hA] at hc
      simp only [if_true, Option.some.injEq] at hc
      subst hc
      rw [hρn]
      exact ⟨Or.inr rfl, hN, hg2, hB⟩
    · obtain ⟨hik, hc⟩ := hold i c hi hc
      obtain ⟨a1, a2, a3, a4⟩ := hr.live i c hc
      rw [hρ i hi]
      refine ⟨.inl a1, a2, by omega, ?_⟩
      rw [hfr _ a3 fun e => hik (hr.inj i k c B0 hc hk e)]
      exact Bk.keep hle a1 a4
  · have hne : ∀ i c, i ≠ s.next → ((s.H.set HD k none).set HD s.next (some B)).at i = some c → m.ρ i ≠ g := fun i c hi hc => by
      obtain ⟨hik, hc⟩ := hold i c hi hc
      rcases hg with rfl | hg
      · exact fun e => hik (hr.inj i k c B0 hc hk e)
      · have := (hr.live i c hc).2.2.1
        omega
    by_cases hi : i = s.next <;> by_cases hj : j = s.next
    · rw [hi, hj]
    · rw [hρ j hj, hi, hρn] at e
      exact absurd e.symm (hne j d hj hd)
    · rw [hρ i hi, hj, hρn] at e
      exact absurd e (hne i c hi hc)
    · rw [hρ i hi, hρ j hj] at e
      exact hr.inj i j c d (hold i c hi hc).2 (hold j d hj hd).2 e
  · have hi : i ≠ s.next := fun e => hn (e ▸ h)
    exact ⟨c, (hold i c hi hc).2⟩
  · have hi : i ≠ s.next := fun e => hn (e ▸ h)
    have hik : i ≠ k := fun e => by subst e; simp at hlo; omega
    rw [hA]; simp [hi, hik]
  · rcases h with h | h
    · exact absurd h hnot
    · subst h
      rw [hρn]
      rcases hg with rfl | hg
      · exact .inr ⟨k, B0, Nat.min_le_right _ _, hk, rfl⟩
      · exact .inl hg
  · exact hfr b hb fun e => hf k B0 hk (Nat.min_le_right _ _) e.symm

theorem joinX_ok (G : Good P T) (hr : Rep N m s.H w) (hN : N ≤ w.heap.size) (hf : Fresh m s s') {t0 t1 ty e e1 : TypeId} {i : TypeInfo} {ts : Array TypeId} (h0 : ts[0]? = some t0) (h1 : ts[1]? = some t1)
    (hu0 : P.underlying t0 = some (.slice e)) (hu1 : P.underlying t1 = some (.slice e1)) (hi : P.info? e = some i) {b1 : Option Addr} {b sLen k c1 : Nat} {old new : List Cl}
    (hx : (Cl.slc b 0 sLen none).ok m) (hrow : rowOf i.size s (.slc b 0 sLen none) = some (sLen, old))
    (hfn : ∀ w1 : World, Rep N m s.H w1 → (Builtin.firstCells i.size k (.slice b1 k c1)).run P w1 = .ok (new.map (Cl.den m)).toArray w1)
    (hon : ∀ c ∈ new, c.ok m) (hln : new.length = k * i.size) (h : joinX T s i e (.slc b 0 sLen none) b (k, new) (sLen, old) (sLen + k) = some (v, s')) :
    Upon P N m s w v s' ((do pure (Next.value (← Builtin.append_ ts ty #[.slice (some ⟨m.ρ b, 0, none⟩) sLen (m.κ b), .slice b1 k c1])) : Sem Next).run P w) := by
  have hcap : sLen ≤ m.κ b := hx.2 rfl
  unfold joinX at h
  cases hb : Nat.beq k 0 with
  | true =>
    simp only [hb, cond_true, Option.some.injEq, Prod.mk.injEq] at h
    obtain ⟨rfl, rfl⟩ := h
    have hk : k = 0 := by simpa using hb
    subst hk
    have hnew : new = [] := List.eq_nil_of_length_eq_zero (by simpa using hln)
    subst hnew
    refine Upon.here hr (y := .slice (some ⟨m.ρ b, 0, none⟩) (sLen + 0) (m.κ b)) ?_ rfl hx
    rw [append_fit (ty := ty) (w := w) h0 h1 hu0 hu1 hi (hfn w hr) (by omega)]
    simp [storeCells]
  | false =>
  simp only [hb, cond_false, bifS, Bool.and_eq_true, Nat.ble_eq, Nat.blt_eq] at h
  obtain ⟨⟨⟨⟨h2, h3⟩, h4⟩, hlt⟩, h⟩ := h
  replace h := Option.bind_eq_some_iff.1 h
  obtain ⟨z, hz, h⟩ := h
  simp only [bifS, Nat.beq_eq] at h
  obtain ⟨hzl, h⟩ := h
  replace h := Option.bind_eq_some_iff.1 h
  obtain ⟨⟨cs, tb, mo⟩, hsrow, h⟩ := h
  cases mo with
  | none => simp at h
  | some sz0 =>
  simp only [bifS, Bool.and_eq_true, Nat.beq_eq, Option.some.injEq, Prod.mk.injEq] at h
  obtain ⟨⟨rfl, rfl⟩, rfl, rfl⟩ := h
  obtain ⟨ie, zv, hie, hzv, rfl⟩ := zeros_ok G hz
  rw [hi] at hie
  cases hie
  have hn : ¬ m.dom s.next := hf _ (Nat.le_refl _) (Nat.lt_succ_self _)
  obtain ⟨rest, hw, hok, hNb, hltb, -, hcap2, hat⟩ := hr.row hx.1 hsrow
  have hcap3 := hcap2 _ rfl
  obtain ⟨_, _, -, hlo, hoo, hfo⟩ := rowOf_ok (P := P) hr hx hrow
  have hoc : old = cs.take (sLen * i.size) := by
    simp only [rowOf, hsrow, Option.bind_some, bifS, List.drop_zero, Option.some.injEq, Prod.mk.injEq] at hrow
    exact hrow.2.2.symm
  have hcs : sLen * i.size ≤ cs.length := by rw [hoc] at hlo; simp at hlo; omega
  by_cases hfit : sLen + k ≤ m.κ b
  · have htot : (sLen + k) * i.size ≤ m.κ b * i.size := Nat.mul_le_mul_right _ hfit
    have hst := run_storeCells_at P (m.ρ b) (sLen * i.size) tb (new.map (Cl.den m)) 0 _ w hw (by simp [hln]; rw [Nat.add_mul] at htot; omega) (fun u hu => by
      obtain ⟨c, hc, rfl⟩ := List.mem_map.1 hu
      exact one_den (List.all_eq_true.1 h4 c hc))
    have hX : ((cs.map (Cl.den m) ++ rest).toArray.toList.take (sLen * i.size + 0) ++ new.map (Cl.den m) ++ (cs.map (Cl.den m) ++ rest).toArray.toList.drop (sLen * i.size + 0 + (new.map (Cl.den m)).length)) =
        (old ++ new).map (Cl.den m) ++ (cs.map (Cl.den m) ++ rest).drop ((sLen + k) * i.size) := by
      simp only [Nat.add_zero, List.length_map, hln, List.map_append, hoc, List.map_take, Nat.add_mul]
      rw [List.take_append_of_le_length (by simpa using hcs)]
    rw [hX] at hst
    have hrun := append_fit (ty := ty) (w := w) (base := some ⟨m.ρ b, 0, none⟩) h0 h1 hu0 hu1 hi (hfn w hr) hfit
    simp only [Addr.add_lit, Nat.zero_add, List.toList_toArray] at hrun
    rw [hst] at hrun
    refine Upon.val hrun (m' := m.add s.next (m.ρ b) (m.κ b)) (by simp [AV.den, Vl.den, Cl.den, Nm.add]) ⟨Or.inr rfl, fun _ => by simpa [Nm.add] using hfit⟩
      (swap_did hr hat hn hlt ?_ (.inl rfl) hNb (by simpa using hltb) (by simp) (fun c _ hc => setRow_other w _ _ _ hc) rfl rfl rfl)
    rw [setRow_heap w _ _ _ _ _ hw]
    have hle := Nm.le_add (r := m.ρ b) (k := m.κ b) hn
    have hokl : ∀ c ∈ old ++ new, c.ok m := fun c hc => (List.mem_append.1 hc).elim (hoo c) (hon c)
    refine ⟨fun c hc => (Cl.keep hle (hokl c hc)).1, _, by rw [List.map_congr_left fun c hc => (Cl.keep hle (hokl c hc)).2], ?_⟩
    simp only [List.length_append, List.length_drop, List.length_map, hlo, hln, Nm.add, if_true]
    rw [Nat.add_mul] at htot ⊢
    omega
  · have hrep := (drew_did hr).rep
    have hfo' := fun (w1 : World) (h1 : Rep N m s.H w1) => (rowOf_ok (P := P) h1 hx hrow).choose_spec.choose_spec.2.2.2 sLen (Nat.le_refl _)
    have hrun := append_new (ty := ty) (w := w) (base := some ⟨m.ρ b, 0, none⟩) (sCap := m.κ b) h0 h1 hu0 hu1 hi hzv (hfn w.drew hrep) (hfo' w.drew hrep) (by omega) h2 (growslice_fits (by omega) (by
      have := Nat.mul_le_mul h2 h3
      omega))
    have hto : old.take (sLen * i.size) = old := List.take_of_length_le (by omega)
    have harr : ((old.take (sLen * i.size)).map (Cl.den m)).toArray ++ (new.map (Cl.den m)).toArray = ((old ++ new).map (Cl.den m)).toArray := by rw [hto]; simp
    rw [harr] at hrun
    refine Upon.val hrun (m' := m.add s.next w.heap.size (grownCap w (sLen + k) (m.κ b) tb)) (by simp [AV.den, Vl.den, Cl.den, Nm.add]) ⟨Or.inr rfl, fun _ => by simpa [Nm.add] using grownCap_ge w (sLen + k) (m.κ b) tb⟩
      (swap_did hr hat hn hlt ?_ (.inr (Nat.le_refl _)) hN (by simp) (by simp) (fun c hc _ => by rw [alloc_heap, show w.drew.heap = w.heap from rfl]; simp [Array.getElem?_push, Nat.ne_of_lt hc]) rfl rfl rfl)
    have hle := Nm.le_add (r := w.heap.size) (k := grownCap w (sLen + k) (m.κ b) tb) hn
    have hokl : ∀ c ∈ old ++ new, c.ok m := fun c hc => (List.mem_append.1 hc).elim (hoo c) (hon c)
    refine ⟨fun c hc => (Cl.keep hle (hokl c hc)).1, (Builtin.zeroCells zv.cells (grownCap w (sLen + k) (m.κ b) tb - (sLen + k))).toList, ?_, ?_⟩
    · rw [List.map_congr_left fun c hc => (Cl.keep hle (hokl c hc)).2]
      rw [alloc_heap, show w.drew.heap = w.heap from rfl]
      simp only [Array.getElem?_push, if_true, Option.some.injEq, Obj.cells.injEq, and_true]
      apply Array.ext'
      simp
    · have hge := grownCap_ge w (sLen + k) (m.κ b) tb
      have hzs : zv.cells.size = i.size := by simpa using hzl
      simp only [Array.length_toList, size_zeroCells, hzs, List.length_append, hlo, hln, ← Nat.add_mul, Nm.add, if_true]
      congr 1
      omega

theorem append_zeros {t0 t1 ty e : TypeId} {kd kd' : IntKind} {i : TypeInfo} {ts : Array TypeId} (h0 : ts[0]? = some t0) (h1 : ts[1]? = some t1) (hu0 : P.underlying t0 = some (.slice e)) (hu1 : P.underlying t1 = some (.int kd)) (hi : P.info? e = some i)
    {z : Value} (hz : i.zero = some z) {k : Nat} (hk : 0 < k) (hs : i.size ≠ 0) (h63 : k ≤ 1048576) (hb : k * i.bytes ≤ 281474976710656) (h48 : Builtin.nextslicecap k 0 * i.bytes ≤ 281474976710656) :
    (Builtin.append_ ts ty #[.slice none 0 0, .int kd' (k : Int)]).run P w =
      .ok (.slice (some ⟨w.heap.size, 0, none⟩) k (grownCap w k 0 e)) (w.drew.alloc (.cells (Builtin.zeroCells z.cells k ++ Builtin.zeroCells z.cells (grownCap w k 0 e - k)) e)) := by
  have hn : ¬ (k ≤ 0) := by omega
  have h63' : ¬ (9223372036854775807 < (k : Int)) := by omega
  have h48' : ¬ (281474976710656 < Builtin.nextslicecap k 0 * i.bytes) := by omega
  have hw : IntKind.i64.wrap (k : Int) = k := by rw [IntKind.wrap_i64]; omega
  have hb' : ¬ (281474976710656 < (k : Int) * (i.bytes : Int)) := by
    have : ((k * i.bytes : Nat) : Int) ≤ 281474976710656 := by omega
    rw [Int.natCast_mul] at this; omega
  have hl : ¬ ((k : Int) < 0) := by omega
  have hf0 := run_firstCells_none (P := P) w.drew i.size 0 0 0
  have hks : ¬ (k * i.size = 0) := by rw [Nat.mul_eq_zero]; omega
  simp [Builtin.append_, h0, h1, run_underlying hu0, run_underlying hu1, run_sz hi, run_info hi, zeroValue, hz, asInt, asIntOf, hw, hl, hb', hn, h63', h48', Question.forced, newRow, grownCap, hks, hf0, Nat.ne_of_gt hk]

theorem append_ok (G : Good P T) (hr : Rep N m s.H w) (hN : N ≤ w.heap.size) (hf : Fresh m s s') {ts : Array TypeId} {ty : TypeId} {x y : Cl} (hx : x.ok m) (hy : y.ok m) (h : evAppend T ts s x y = some (v, s')) :
    Upon P N m s w v s' ((do pure (Next.value (← Builtin.append_ ts ty #[x.den m, y.den m])) : Sem Next).run P w) := by
  unfold evAppend at h
  replace h := Option.bind_eq_some_iff.1 h
  obtain ⟨t0, h0, h⟩ := h
  replace h := Option.bind_eq_some_iff.1 h
  obtain ⟨t1, h1, h⟩ := h
  split at h
  case h_3 => cases h
  case h_1 =>
    rename_i e kd hu0 hu1
    split at h
    case h_2 => cases h
    rename_i kd' k
    replace h := Option.bind_eq_some_iff.1 h
    obtain ⟨i, hi, h⟩ := h
    have hi := info_ok G hi
    replace h := Option.bind_eq_some_iff.1 h
    obtain ⟨z, hz, h⟩ := h
    simp only [bifS, Bool.and_eq_true, Nat.ble_eq, Nat.blt_eq, Bool.not_eq_true'] at h
    obtain ⟨⟨⟨⟨g1, g2⟩, g3⟩, g4⟩, h⟩ := h
    have g1 : i.size ≠ 0 := fun e => by rw [e] at g1; cases g1
    obtain ⟨ie, zv, hie, hzv, rfl⟩ := zeros_ok G hz
    rw [hi] at hie
    cases hie
    unfold growX at h
    simp only [bifS, Bool.and_eq_true, Nat.ble_eq, Nat.blt_eq] at h
    obtain ⟨⟨⟨h2, h3⟩, h4⟩, h⟩ := h
    replace h := Option.bind_eq_some_iff.1 h
    obtain ⟨z', hz', h⟩ := h
    rw [hz] at hz'
    cases hz'
    simp only [bifS, Nat.beq_eq] at h
    obtain ⟨hzl, h⟩ := h
    replace h := Option.map_eq_some_iff.1 h
    obtain ⟨⟨r, s1⟩, hn, h⟩ := h
    cases h
    have hzl' : zv.cells.size = i.size := by simpa using hzl
    obtain ⟨f1, f2⟩ := flat_den (m := m) zv.cells.toList k
    have hlen : ((List.replicate k (zv.cells.toList.map Cl.v)).flatten).length = k * i.size := by simp [hzl']
    obtain ⟨rfl, hd⟩ := grow_did (cap := 0) hr hN hf (i := i) (z := zv.cells) f2 hlen hzl' hn
    have hrun := append_zeros (ty := ty) (w := w) (kd' := kd') h0 h1 (under_ok G hu0) (under_ok G hu1) hi hzv g2 g1 g3 g4 h2
    have harr : Builtin.zeroCells zv.cells k = (((List.replicate k (zv.cells.toList.map Cl.v)).flatten).map (Cl.den m)).toArray := by
      rw [f1]
      have := made_row zv.cells i.size k hzl'
      unfold Builtin.zeroCells
      rw [hzl']
      rw [hzl'] at this
      exact this
    rw [harr] at hrun
    refine Upon.val hrun ?_ ⟨Or.inr rfl, fun _ => by simpa [Nm.add] using grownCap_ge w k 0 e⟩ hd
    simp [AV.den, Vl.den, Cl.den, Nm.add]
  rename_i e e1 hu0 hu1
  replace h := Option.bind_eq_some_iff.1 h
  obtain ⟨i, hi, h⟩ := h
  have hi := info_ok G hi
  have hu0 := under_ok G hu0
  have hu1 := under_ok G hu1
  cases hb : Nat.beq i.size 0 with
  | true => simp [hb] at h
  | false =>
  simp only [hb, cond_false] at h
  replace h := Option.bind_eq_some_iff.1 h
  obtain ⟨⟨k, new⟩, hny, h⟩ := h
  replace h := Option.bind_eq_some_iff.1 h
  obtain ⟨⟨sLen, old⟩, hox, h⟩ := h
  obtain ⟨b1, c1, hyd, hln, hon, -⟩ := rowOf_ok (P := P) hr hy hny
  have hfn : ∀ w1 : World, Rep N m s.H w1 → (Builtin.firstCells i.size k (.slice b1 k c1)).run P w1 = .ok (new.map (Cl.den m)).toArray w1 := fun w1 hr1 => by
    have := (rowOf_ok (P := P) hr1 hy hny).choose_spec.choose_spec.2.2.2 k (Nat.le_refl _)
    rwa [hyd, List.take_of_length_le (by omega)] at this
  have hfo : ∀ w1 : World, Rep N m s.H w1 → (Builtin.firstCells i.size sLen (x.den m)).run P w1 = .ok (old.map (Cl.den m)).toArray w1 := fun w1 hr1 => by
    obtain ⟨_, _, _, hlo, _, hj⟩ := rowOf_ok (P := P) hr1 hx hox
    have := hj sLen (Nat.le_refl _)
    rwa [List.take_of_length_le (by omega)] at this
  obtain ⟨bx, cx, hxd, hlo, hoo, -⟩ := rowOf_ok (P := P) hr hx hox
  rw [hyd]
  unfold appX at h
  split at h
  · rename_i len0 cap
    simp only [Cl.den, Pv.den, Value.slice.injEq] at hxd
    obtain ⟨rfl, rfl, rfl⟩ := hxd
    have hold : old = [] := by
      simp only [rowOf, bifS, Option.some.injEq, Prod.mk.injEq] at hox
      exact hox.2.2.symm
    cases hfit : Nat.ble (len0 + k) cap with
    | true =>
      simp only [hfit, cond_true, bifS, Nat.beq_eq, Option.some.injEq, Prod.mk.injEq] at h
      obtain ⟨hz, rfl, rfl⟩ := h
      obtain ⟨rfl, rfl⟩ : len0 = 0 ∧ k = 0 := by omega
      refine Upon.here hr (y := .slice none 0 cap) ?_ rfl trivial
      simp only [Cl.den, Pv.den]
      rw [append_fit (ty := ty) (w := w) h0 h1 hu0 hu1 hi (hfn w hr) (by omega)]
      simp
    | false =>
      simp only [hfit, cond_false] at h
      have hrep := (drew_did hr).rep
      refine growX_ok G hr hN hf h0 h1 hu0 hu1 hi (old := []) (new := new) (hfn _ hrep) ?_ hon (by simp) hln (by rw [hold] at hlo; simpa using hlo) (by simpa using h)
      have := hfo _ hrep
      rw [hold] at this
      exact this
  · rename_i b off len0 cap
    simp only [Cl.den, Value.slice.injEq] at hxd
    obtain ⟨rfl, rfl, rfl⟩ := hxd
    simp only [Option.getD_some] at *
    cases hfit : Nat.ble (len0 + k) cap with
    | true =>
      simp only [hfit, cond_true] at h
      replace h := Option.map_eq_some_iff.1 h
      obtain ⟨s1, hs1, h⟩ := h
      cases h
      obtain ⟨w', h7, h8⟩ := put_did (P := P) hr hx.1 hon hs1
      have hfit' : len0 + k ≤ cap := by simpa using hfit
      refine Upon.val (y := .slice (some ⟨m.ρ b, off, none⟩) (len0 + k) cap) (m' := m) ?_ rfl ⟨hx.1, fun e => by cases e⟩ h8
      simp only [Cl.den, Option.getD_some]
      rw [append_fit (ty := ty) (w := w) h0 h1 hu0 hu1 hi (hfn w hr) hfit']
      simp [Addr.add_lit, h7]
    | false =>
      simp only [hfit, cond_false] at h
      have hrep := (drew_did hr).rep
      exact growX_ok G hr hN hf h0 h1 hu0 hu1 hi (hfn _ hrep) (hfo _ hrep) hon hoo hln hlo h
  · rename_i b off len0
    simp only [Cl.den, Value.slice.injEq] at hxd
    obtain ⟨rfl, rfl, rfl⟩ := hxd
    simp only [bifS, Nat.beq_eq] at h
    obtain ⟨rfl, h⟩ := h
    exact joinX_ok G hr hN hf h0 h1 hu0 hu1 hi hx hox hfn hon hln h
  · cases h
end
end Go.Proofs.YtlddgafbgaaiiaaGreatDoor.Evl

namespace Go.Proofs.YtlddgafbgaaiiaaGreatDoor.Evl
open Go

section
variable {P : Program} {T : Tab} {N : Nat} {m : Nm} {s s' : St} {w : World} {n : Nat} {A : Ac} {a : Act} {v : AV}

/-- What a table of calls is worth. -/
def CallOk (P : Program) (N : Nat) (call : CallT) : Prop := ∀ f args s v s', call f args s = some (v, s') →
  (∃ fn, P.funcs[f]? = some fn ∧ (fn.name == "runtime.NumGoroutine") = false ∧ fn.body.isNone = false) ∧
  ∀ m w, Rep N m s.H w → N ≤ w.heap.size → Fresh m s s' → Low s → (∀ x ∈ args, x.ok m) →
    Calls P f (args.map (AV.den m)).toArray w fun e w' => ∃ m', e = .returned (v.den m') ∧ v.ok m' ∧ Did N m s s' w m' w'

theorem callFunc_ok {call : CallT} (C : CallOk P N call) (hr : Rep N m s.H w) (hN : N ≤ w.heap.size) (hf : Fresh m s s') (hl : Low s) {f : FuncId} {args : List AV} (ha : ∀ x ∈ args, x.ok m) (h : call f args s = some (v, s')) {vs : Array Value} (hvs : vs = (args.map (AV.den m)).toArray) :
    Upon P N m s w v s' ((callFunc f vs).run P w) := by
  obtain ⟨⟨fn, h1, h2, h3⟩, h4⟩ := C f args s v s' h
  subst hvs
  have hrun : (callFunc f (args.map (AV.den m)).toArray).run P w = .ok (.enter f (args.map (AV.den m)).toArray) w := by
    unfold callFunc
    simp only [Sem.run_bind, run_program, Result.andThen_ok, h1, h2, h3, Bool.false_eq_true, if_false, Sem.run_pure]
  rw [hrun]
  exact h4 m w hr hN hf hl ha

theorem len_ok (G : Good P T) {ts : Array TypeId} {ty : TypeId} {x : Cl} {d : TypeDesc} {k : Nat} (hd : (ts[0]?).bind (under T) = some d) (h : lenX d x = some k) :
    (Builtin.len_ ts ty #[x.den m]).run P w = .ok (.int .i64 k) w := by
  replace hd := Option.bind_eq_some_iff.1 hd
  obtain ⟨t, ht, hu⟩ := hd
  have hun := run_underlying (under_ok G hu) w
  unfold lenX at h
  split at h
  · cases h; simp [Builtin.len_, ht, hun, Cl.den, goInt]
  · cases h; simp [Builtin.len_, ht, hun, Cl.den, goInt]
  · cases h; simp [Builtin.len_, ht, hun, Cl.den, Pv.den, goInt]
  · cases h; simp [Builtin.len_, ht, hun, Cl.den, Pv.den, goInt]
  · cases h

theorem copy_ok (G : Good P T) (hr : Rep N m s.H w) {ts : Array TypeId} {ty : TypeId} {x y : Cl} (hx : x.ok m) (hy : y.ok m)
    (h : ((ts[0]?).bind fun t0 => match under T t0 with
      | some (.slice e) => (sz T e).bind fun size => (rowOf size s y).bind fun src => (match x with
        | .slc n off len _ => (fun k : Nat => (s.put n off (src.2.take (k * size))).map fun s' => (AV.o (.c (.v (.int .i64 k))), s')) (min src.1 len)
        | _ => none)
      | _ => none) = some (v, s')) :
    Upon P N m s w v s' ((do pure (Next.value (← Builtin.copy_ ts ty #[x.den m, y.den m])) : Sem Next).run P w) := by
  replace h := Option.bind_eq_some_iff.1 h
  obtain ⟨t0, h0, h⟩ := h
  split at h
  case h_2 => cases h
  rename_i e hu
  replace h := Option.bind_eq_some_iff.1 h
  obtain ⟨k, hk, h⟩ := h
  obtain ⟨i, hi, rfl⟩ := sz_ok G hk
  replace h := Option.bind_eq_some_iff.1 h
  obtain ⟨⟨sk, src⟩, hsrc, h⟩ := h
  obtain ⟨b1, c1, hyd, hl, hok, hfc⟩ := rowOf_ok (P := P) hr hy hsrc
  split at h
  case h_2 => cases h
  rename_i b off len cap
  simp only at h
  replace h := Option.map_eq_some_iff.1 h
  obtain ⟨s1, hs1, h⟩ := h
  cases h
  obtain ⟨w', h7, h8⟩ := put_did (P := P) hr hx.1 (fun c hc => hok c (List.mem_of_mem_take hc)) hs1
  refine Upon.val (y := .int .i64 (min sk len : Nat)) (m' := m) ?_ rfl trivial h8
  have hf := hfc (min sk len) (Nat.min_le_left _ _)
  have hun := run_underlying (under_ok G hu) w
  have hxd : (Cl.slc b off len cap).den m = .slice (some ⟨m.ρ b, off, none⟩) len (cap.getD (m.κ b)) := rfl
  rw [hyd] at hf
  have hm : Nat.min sk len = min sk len := rfl
  rw [hxd, hyd]
  rw [List.map_take] at h7 hf
  simp [Builtin.copy_, h0, hun, run_sz hi, Builtin.lenOf, hm, hf, h7, goInt]

theorem clear_ok (G : Good P T) (hr : Rep N m s.H w) {ts : Array TypeId} {ty : TypeId} {b off len : Nat} {cap : Option Nat} (hx : (Cl.slc b off len cap).ok m)
    (h : ((ts[0]?).bind fun t0 => match under T t0 with
      | some (.slice e) => bif Nat.beq len 0 then some (AV.tup [], s) else (zeros T e).bind fun z => (s.put b off ((List.replicate len z).flatten)).map fun s' => (AV.tup [], s')
      | _ => none) = some (v, s')) :
    Upon P N m s w v s' ((do pure (Next.value (← Builtin.clear_ ts ty #[(Cl.slc b off len cap).den m])) : Sem Next).run P w) := by
  replace h := Option.bind_eq_some_iff.1 h
  obtain ⟨t0, h0, h⟩ := h
  split at h
  case h_2 => cases h
  rename_i e hu
  have hun := run_underlying (under_ok G hu) w
  cases hb : Nat.beq len 0 with
  | true =>
    simp only [hb, cond_true, Option.some.injEq, Prod.mk.injEq] at h
    obtain ⟨rfl, rfl⟩ := h
    have hl : len = 0 := by simpa using hb
    subst hl
    exact Upon.here hr (y := .tuple #[]) (by simp [Builtin.clear_, h0, hun, Cl.den]) rfl (by simp [AV.ok])
  | false =>
  simp only [hb, cond_false] at h
  have hl : len ≠ 0 := fun e => by rw [e] at hb; cases hb
  replace h := Option.bind_eq_some_iff.1 h
  obtain ⟨z, hz, h⟩ := h
  replace h := Option.map_eq_some_iff.1 h
  obtain ⟨s1, hs1, h⟩ := h
  cases h
  obtain ⟨ie, zv, hie, hzv, rfl⟩ := zeros_ok G hz
  obtain ⟨f1, f2⟩ := flat_den (m := m) zv.cells.toList len
  obtain ⟨w', h7, h8⟩ := put_did (P := P) hr hx.1 f2 hs1
  refine Upon.val (y := .tuple #[]) (m' := m) ?_ rfl (by simp [AV.ok]) h8
  have hz2 : (Builtin.zeroCells zv.cells len).toList = (List.replicate len zv.cells.toList).flatten := by
    have := made_row zv.cells zv.cells.size len rfl
    unfold Builtin.zeroCells
    rw [this]
  rw [f1] at h7
  simp [Builtin.clear_, h0, hun, Cl.den, hl, zeroValue, run_info hie, hzv, hz2, h7]

theorem mapM_pure : ∀ {xs : List AV} {vs : List Value}, xs.mapM AV.pure? = some vs → xs.map (AV.den m) = vs
  | [], vs, h => by simp at h; subst h; rfl
  | x :: xs, vs, h => by
    simp only [List.mapM_cons, Option.bind_eq_bind, Option.pure_def] at h
    replace h := Option.bind_eq_some_iff.1 h
    obtain ⟨z, hz, h⟩ := h
    replace h := Option.bind_eq_some_iff.1 h
    obtain ⟨zs, hzs, h⟩ := h
    cases h
    simp [mapM_pure hzs, (AV.pure_den (m := m) hz).1]

theorem builtin_ok (G : Good P T) (hr : Rep N m s.H w) (hN : N ≤ w.heap.size) (hf : Fresh m s s') {b : Builtin} {ts : Array TypeId} {ty : TypeId} {xs : List AV} (hx : ∀ x ∈ xs, x.ok m) {cs : Array Bool}
    (h : evBuiltin P T b ts ty s xs = some (v, s')) : Upon P N m s w v s' ((builtin b ts ty cs (xs.map (AV.den m)).toArray).run P w) := by
  have pureB : ∀ (e : Sem Next), builtin b ts ty cs (xs.map (AV.den m)).toArray = builtin b ts ty #[] (xs.map (AV.den m)).toArray → ((xs.mapM AV.pure?).bind fun vs => (pureOf P (builtin b ts ty #[] vs.toArray)).bind fun n => match n with
      | .value v => ret s (ofAV v)
      | _ => none) = some (v, s') → Upon P N m s w v s' ((builtin b ts ty cs (xs.map (AV.den m)).toArray).run P w) := by
    intro _ he h
    replace h := Option.bind_eq_some_iff.1 h
    obtain ⟨vs, hvs, h⟩ := h
    replace h := Option.bind_eq_some_iff.1 h
    obtain ⟨nx, hnx, h⟩ := h
    have hxs : xs.map (AV.den m) = vs := mapM_pure hvs
    rw [he, hxs, pureOf_run _ _ w hnx]
    split at h
    · rename_i u
      exact pure_here (P := P) (x := (Sem.pure u : Sem Value)) hr h
    · cases h
  unfold evBuiltin at h
  split at h
  · rename_i x y
    have := append_ok (ty := ty) G hr hN hf (hx _ (List.mem_cons_self ..)) (hx _ (List.mem_cons_of_mem _ (List.mem_cons_self ..))) h
    exact this
  · rename_i x
    replace h := Option.bind_eq_some_iff.1 h
    obtain ⟨d, hd, h⟩ := h
    replace h := Option.map_eq_some_iff.1 h
    obtain ⟨k, hk, h⟩ := h
    cases h
    exact Upon.here hr (len_ok (ty := ty) G hd hk) rfl trivial
  · rename_i b1 o1 l1 c1
    split at h
    · rename_i e hd
      cases h
      replace hd := Option.bind_eq_some_iff.1 hd
      obtain ⟨t, ht, hu⟩ := hd
      have hun := run_underlying (under_ok G hu) w
      exact Upon.here (x := Builtin.cap_ ts ty #[.slice (some ⟨m.ρ b1, o1, none⟩) l1 c1]) hr (by simp [Builtin.cap_, ht, hun, goInt]; rfl) rfl trivial
    · cases h
  · rename_i l1 c1
    split at h
    · rename_i e hd
      cases h
      replace hd := Option.bind_eq_some_iff.1 hd
      obtain ⟨t, ht, hu⟩ := hd
      have hun := run_underlying (under_ok G hu) w
      exact Upon.here (x := Builtin.cap_ ts ty #[.slice none l1 c1]) hr (by simp [Builtin.cap_, ht, hun, goInt]; rfl) rfl trivial
    · cases h
  · rename_i x y
    exact copy_ok (ty := ty) G hr (hx _ (List.mem_cons_self ..)) (hx _ (List.mem_cons_of_mem _ (List.mem_cons_self ..))) h
  · rename_i l1 c1
    replace h := Option.bind_eq_some_iff.1 h
    obtain ⟨t, ht, h⟩ := h
    replace h := Option.bind_eq_some_iff.1 h
    obtain ⟨d, hu, h⟩ := h
    cases h
    have hun := run_underlying (under_ok G hu) w
    exact Upon.here (x := Builtin.clear_ ts ty #[.slice none l1 c1]) hr (y := .tuple #[]) (by simp [Builtin.clear_, ht, hun]) rfl (by simp [AV.ok])
  · rename_i b1 o1 l1 c1
    exact clear_ok (ty := ty) G hr (hx _ (List.mem_cons_self ..)) h
  · exact pureB (pure .skip) rfl h
  · exact pureB (pure .skip) rfl h
  · cases h

theorem wrapped {ts : Array TypeId} {t : TypeId} {ad : Addr} {x y : ByteArray} : Builtin.ssaWrapNilChk_ ts t #[.pointer (some ad), .string x, .string y] = pure (.pointer (some ad)) := rfl
theorem method_ok (G : Good P T) (hr : Rep N m s.H w) {t : TypeId} {x : Pv} {name : String} {f : FuncId} {r : AV} (hx : x.ok m) (h : evMethod T s t x name = some (f, r)) (F : Nat) :
    (method (F + 1) t (x.den m) name).run P w = .ok (f, r.den m) w ∧ r.ok m := by
  unfold evMethod at h
  replace h := Option.bind_eq_some_iff.1 h
  obtain ⟨i, hi, h⟩ := h
  replace h := Option.bind_eq_some_iff.1 h
  obtain ⟨mt, hm, h⟩ := h
  rw [bifS] at h
  obtain ⟨hp, h⟩ := h
  have hpe : mt.path.toList = [] := by
    have : mt.path = #[] := by simpa using hp
    rw [this]
  split at h
  · rename_i f' k o hfn
    split at h
    · rename_i e hu
      cases h
      refine ⟨?_, hx⟩
      simp [method, run_info (info_ok G hi), hm, hpe, follow, hfn, receiverAt, run_underlying (under_ok G hu), Place.get, Pv.den, AV.den, Vl.den, Cl.den]
    · cases h
  · rename_i f' k o hfn
    split at h
    · rename_i e hu
      replace h := Option.map_eq_some_iff.1 h
      obtain ⟨y, hy, h⟩ := h
      cases h
      obtain ⟨h1, h2⟩ := ldVar_ok G hr hx hy
      refine ⟨?_, h2⟩
      simp [method, run_info (info_ok G hi), hm, hpe, follow, hfn, receiverAt, run_underlying (under_ok G hu), Place.get, Pv.den, AV.den, wrapped, strVal, asAddr]
      split <;> simp [h1]
    · cases h
  · cases h

theorem call_ok (G : Good P T) (R : Regs m n A a) (hr : Rep N m s.H w) (hN : N ≤ w.heap.size) (hf : Fresh m s s') (hl : Low s) {call : CallT} (C : CallOk P N call) {c : Call} {ty : TypeId} (h : evCall P T call A s c ty = some (v, s')) :
    Upon P N m s w v s' ((do let d ← resolve a.eval c ty; invoke d.target d.args : Sem Next).run P w) := by
  unfold evCall at h
  have harr : ∀ {xs : List AV}, argsX A c.args.toList = some xs → (∀ x ∈ xs, x.ok m) ∧ c.args.map a.eval = (xs.map (AV.den m)).toArray := fun hxs => by
    obtain ⟨h1, h2⟩ := argsX_ok R hxs
    exact ⟨h1, by rw [← h2, ← Array.toList_map, Array.toArray_toList]⟩
  split at h
  · rename_i b hb
    replace h := Option.bind_eq_some_iff.1 h
    obtain ⟨xs, hxs, h⟩ := h
    obtain ⟨h1, h2⟩ := harr hxs
    simp only [resolve, hb, Sem.run_bind, Sem.run_pure, Result.andThen_ok, invoke, h2]
    exact builtin_ok G hr hN hf h1 h
  · rename_i f hcal
    split at h
    · rename_i g first caps hg
      replace h := Option.bind_eq_some_iff.1 h
      obtain ⟨xs, hxs, h⟩ := h
      obtain ⟨h1, h2⟩ := harr hxs
      obtain ⟨h3, h4⟩ := evX_ok R hg
      simp only [resolve, hcal, h4, AV.den, Vl.den, Cl.den, Deferred.ofValue, Sem.run_bind, Sem.run_pure, Result.andThen_ok, invoke, h2]
      refine callFunc_ok C hr hN hf hl ?_ h ?_
      · intro x hx
        rcases List.mem_append.1 hx with hx | hx
        · rcases List.mem_append.1 hx with hx | hx
          · obtain ⟨y, hy, rfl⟩ := List.mem_map.1 hx
            exact h3.1 y hy
          · exact h1 x hx
        · obtain ⟨y, hy, rfl⟩ := List.mem_map.1 hx
          exact h3.2 y hy
      · simp only [List.map_append, List.map_map, List.append_toArray]
        rfl
    · cases h
  · rename_i r name hcal
    split at h
    · rename_i t y hy
      replace h := Option.bind_eq_some_iff.1 h
      obtain ⟨xs, hxs, h⟩ := h
      replace h := Option.bind_eq_some_iff.1 h
      obtain ⟨⟨f, rc⟩, hm, h⟩ := h
      obtain ⟨h1, h2⟩ := harr hxs
      obtain ⟨h3, h4⟩ := evX_ok R hy
      obtain ⟨h5, h6⟩ := method_ok (P := P) G hr h3 hm (P.types.size + 99)
      have hex : (#[Value.iface t (y.den m)] ++ (xs.map (AV.den m)).toArray).extract 1 (#[Value.iface t (y.den m)] ++ (xs.map (AV.den m)).toArray).size = (xs.map (AV.den m)).toArray := by
        apply Array.ext'
        simp [List.take_of_length_le]
      have h0 : (#[Value.iface t (y.den m)] ++ (xs.map (AV.den m)).toArray)[0]? = some (Value.iface t (y.den m)) := by simp
      simp only [resolve, hcal, h4, AV.den, Vl.den, Cl.den, Sem.run_bind, Sem.run_pure, Result.andThen_ok, invoke, h2, h0, hex, callMethod, run_program]
      have h5' : (method (P.types.size + Made.depth) t (y.den m) name).run P w = .ok (f, rc.den m) w := h5
      rw [h5']
      simp only [Result.andThen_ok]
      refine callFunc_ok C hr hN hf hl ?_ h ?_
      · intro x hx
        rcases List.mem_cons.1 hx with rfl | hx
        · exact h6
        · exact h1 x hx
      · simp
    · cases h

theorem byteL_ok : ∀ {l : List Cl} {ns : List Int}, byteL l = some ns → l.map (Cl.den m) = ns.map (Value.int .u8)
  | [], ns, h => by cases h; rfl
  | c :: l, ns, h => by
    unfold byteL at h
    split at h
    · rename_i e; cases e
    · rename_i k l' e
      cases e
      replace h := Option.map_eq_some_iff.1 h
      obtain ⟨ns', h1, h2⟩ := h
      subst h2
      simp only [List.map_cons, byteL_ok h1]
      rfl
    · cases h
theorem convert_ok (G : Good P T) (R : Regs m n A a) (hr : Rep N m s.H w) {t u : TypeId} {x : Operand} (h : ev_convert P T A s t u x = some (v, s')) :
    Upon P N m s w v s' ((do pure (Next.value (← convert t u (a.eval x))) : Sem Next).run P w) := by
  unfold ev_convert at h
  split at h
  · rename_i r hb
    cases h
    unfold evBytes at hb
    replace hb := Option.bind_eq_some_iff.1 hb
    obtain ⟨c, hc, hb⟩ := hb
    split at hb
    case h_2 => cases hb
    rename_i e hu1 hu2
    split at hb
    case h_2 => cases hb
    rename_i hu3
    replace hb := Option.bind_eq_some_iff.1 hb
    obtain ⟨⟨k, l⟩, hrow, hb⟩ := hb
    replace hb := Option.map_eq_some_iff.1 hb
    obtain ⟨ns, hns, hb⟩ := hb
    cases hb
    obtain ⟨h1, h2⟩ := clX_ok R hc
    obtain ⟨base, cap, hden, hlen, -, hf⟩ := rowOf_ok (P := P) hr h1 hrow
    have hf := hf k (Nat.le_refl _)
    rw [List.take_of_length_le (by omega), byteL_ok hns] at hf
    have e1 := run_underlying (under_ok G hu1) w
    have e2 := run_underlying (under_ok G hu2) w
    have e3 := run_underlying (under_ok G hu3) w
    refine Upon.here hr (y := .string (strL ns)) ?_ rfl trivial
    rw [h2, hden]
    rw [hden] at hf
    cases base with
    | none =>
      have hns0 : ns = [] := by
        have : ([] : List Value) = ns.map (Value.int .u8) := by simpa [Builtin.firstCells] using hf
        cases ns with
        | nil => rfl
        | cons _ _ => cases this
      subst hns0
      simp [convert, e1, e2, e3, Conv.bytesToString, strL]
    | some ad =>
      have hld : (loadCells ad k).run P w = .ok (ns.map (Value.int .u8)).toArray w := by simpa [Builtin.firstCells] using hf
      have := run_bytesToString (P := P) w ad k cap ns hld
      simp [convert, e1, e2, e3, this, strL]
  · replace h := Option.bind_eq_some_iff.1 h
    obtain ⟨y, hy, h⟩ := h
    rw [pureX_ok R hy]
    exact pure_here hr h

/-- Each operation. -/
theorem op_ok (G : Good P T) (R : Regs m n A a) (hr : Rep N m s.H w) (hN : N ≤ w.heap.size) (hf : Fresh m s s') (hl : Low s) {call : CallT} (C : CallOk P N call) {o : Oper} (h : evOp P T call A s o = some (v, s')) :
    Upon P N m s w v s' ((execOp a.eval o).run P w) := by
  have moved : ∀ x : Operand, ret s (evX A x) = some (v, s') → Upon P N m s w v s' ((pure (Next.value (a.eval x)) : Sem Next).run P w) := fun x hm => by
    obtain ⟨hx, hs⟩ := ret_ok hm
    obtain ⟨h1, h2⟩ := evX_ok R hx
    exact ⟨m, h2, h1, by rw [hs]; exact Did.refl hr⟩
  unfold evOp at h
  split at h
  all_goals (rename_i ho)
  case h_1 => simp only [execOp, ho]; exact moved _ h
  case h_2 => simp only [execOp, ho]; exact moved _ h
  case h_3 => simp only [execOp, ho]; exact pick_ok R hr h
  case h_4 => simp only [execOp, ho]; exact alloc_ok G hr hN hf h
  case h_5 => simp only [execOp, ho]; exact box_ok R hr hN hf h
  case h_6 => simp only [execOp, ho]; exact build_ok G R hr h
  case h_7 => simp only [execOp, ho]; exact buildSlice_ok G R hr hN hf h
  case h_8 => simp only [execOp, ho]; exact load_ok G R hr h
  case h_9 => simp only [execOp, ho]; exact store_ok G R hr h
  case h_10 => exact nilCheck_ok R hr h o ho
  case h_11 => simp only [execOp, ho]; exact binOp_ok G R hr h
  case h_12 =>
    simp only [execOp, ho]
    replace h := Option.bind_eq_some_iff.1 h
    obtain ⟨y, hy, h⟩ := h
    rw [pureX_ok R hy]
    exact pure_here hr h
  case h_13 => simp only [execOp, ho]; exact convert_ok G R hr h
  case h_14 => simp only [execOp, ho]; exact makeInterface_ok G R hr h
  case h_15 => simp only [execOp, ho]; exact makeFunc_ok R hr h
  case h_16 => simp only [execOp, ho]; exact makeMap_ok hr hN hf h
  case h_17 => simp only [execOp, ho]; exact makeSlice_ok G R hr hN hf h
  case h_18 => simp only [execOp, ho]; exact slice_ok G R hr h
  case h_19 => simp only [execOp, ho]; exact fieldAddr_ok G R hr h
  case h_20 => simp only [execOp, ho]; exact field_ok G R hr h
  case h_21 => simp only [execOp, ho]; exact indexAddr_ok G R hr h
  case h_22 =>
    simp only [execOp, ho]
    replace h := Option.bind_eq_some_iff.1 h
    obtain ⟨y, hy, h⟩ := h
    replace h := Option.bind_eq_some_iff.1 h
    obtain ⟨z, hz, h⟩ := h
    rw [pureX_ok R hy, pureX_ok R hz]
    exact pure_here hr h
  case h_23 => simp only [execOp, ho]; exact typeAssert_ok G R hr h
  case h_24 => simp only [execOp, ho]; exact extract_ok R hr h
  case h_25 => simp only [execOp, ho]; exact call_ok G R hr hN hf hl C h
  case h_26 => simp only [execOp, ho]; exact lookup_ok G R hr h
  case h_27 => simp only [execOp, ho]; exact mapUpdate_ok G R hr h
  case h_28 => cases h
end
end Go.Proofs.YtlddgafbgaaiiaaGreatDoor.Evl
