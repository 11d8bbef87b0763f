/- A drawn region that appends numbers to a copy of a row. -/
import Derived.Test.YtdkckhihleffeaaGreatRgApp
import Derived.Deep.AppendLies
import Derived.Maps.AppendAt
namespace Go.Proofs.YtdkckhihleffeaaGreat
set_option linter.all false
open Go.RowKit Rg

/-- What an append to a row of n numbers may do. -/
def Ap (B n : Nat) (xs : List Value) (w w' : World) : Prop :=
  (∃ g, B ≤ g ∧ w.grownBy w' (some g) ∧ ∀ cs T fr, w.heap[g]? = some (.cells cs T fr) → 4 ≤ cs.size) ∧ ∀ v, w.ownsRow B 3 1 v n xs → w'.ownsRow B 3 1 v n xs
def MakesA (B n : Nat) (xs : List Value) (k0 : Nat) : Nat → World → World → Prop := fun k w w' => if k = k0 then Ap B n xs w w' else w.grownBy w' none
theorem MakesA.size {B n : Nat} {xs : List Value} {k0 : Nat} (i : Nat) (w w' : World) (h : MakesA B n xs k0 i w w') : w.heap.size ≤ w'.heap.size := by
  unfold MakesA at h; split at h
  · obtain ⟨⟨g, -, hg, -⟩, -⟩ := h; exact hg.size
  · exact World.grownBy.size h
theorem MakesA.none {B n : Nat} {xs : List Value} {k0 k : Nat} (h : k ≠ k0) {u u' : World} (hg : u.grownBy u' none) : MakesA B n xs k0 k u u' := by unfold MakesA; rw [if_neg h]; exact hg
theorem MakesA.lit {B n : Nat} {xs : List Value} {k0 k : Nat} {u u' : World} (h : MakesA B n xs k0 k u u') {b : Nat} {cs : Array Value} {T : TypeId} (hc : u.heap[b]? = some (.cells cs T (0, 0))) (hs : cs.size ≤ 3) : u'.heap[b]? = some (.cells cs T (0, 0)) := by
  unfold MakesA at h; split at h
  · obtain ⟨⟨g, -, hg, h4⟩, -⟩ := h
    exact block_keptp hg hc (fun e => by subst e; have := h4 _ _ _ hc; omega)
  · exact block_kept h hc rfl
theorem MakesA.own {B n : Nat} {xs : List Value} {k0 k : Nat} {u u' : World} (h : MakesA B n xs k0 k u u') {v : Value} (hc : u.ownsRow B 3 1 v n xs) : u'.ownsRow B 3 1 v n xs := by
  unfold MakesA at h; split at h
  · exact h.2 v hc
  · exact owns_keep hc h
abbrev isLitA (w : World) (cs : Array Value) (m : Nat) : List Value → Value → World → Prop := fun _ v u => ∃ b, v = .slice (some ⟨b, 0, none⟩) m m ∧ w.heap.size ≤ b ∧ u.heap[b]? = some (.cells cs 3 (0, 0))
abbrev isCopyA (w : World) (n : Nat) (xs : List Value) : List Value → Value → World → Prop := fun _ v u => ∃ g gc, v = .slice (some ⟨g, 0, none⟩) n gc ∧ (n = 0 → gc = 0) ∧ w.heap.size ≤ g ∧ u.ownsRow w.heap.size 3 1 v n xs
abbrev isPushA (w : World) (n : Nat) (xs : List Value) : List Value → Value → World → Prop := fun _ v u => ∃ g gc, v = .slice (some ⟨g, 0, none⟩) n gc ∧ w.heap.size ≤ g ∧ u.ownsRow w.heap.size 3 1 v n xs
theorem owns_uniq {w : World} {B g n c c' : Nat} {T : TypeId} {xs : List Value} (h : w.ownsRow B T 1 (.slice (some ⟨g, 0, none⟩) n c) n xs) (k : w.ownsRow B T 1 (.slice (some ⟨g, 0, none⟩) n c') n xs) : c = c' := by
  rcases h.2 with ⟨e, -⟩ | ⟨g1, c1, cur, e, -, hg, -, -, hs, -⟩
  · simp at e
  rcases k.2 with ⟨e', -⟩ | ⟨g2, c2, cur2, e', -, hg', -, -, hs', -⟩
  · simp at e'
  simp only [Value.slice.injEq, Option.some.injEq, Addr.mk.injEq, and_true, true_and] at e e'
  obtain ⟨rfl, rfl⟩ := e
  obtain ⟨rfl, rfl⟩ := e'
  rw [hg] at hg'
  simp at hg'
  subst hg'
  omega
theorem setRow_same {w : World} {c : Nat} {cs xs : Array Value} {T : TypeId} (h : w.heap[c]? = some (.cells cs T (0, 0))) (e : xs = cs) : w.setRow c xs = w := by
  subst e
  obtain ⟨h1, h2⟩ := Array.getElem?_eq_some_iff.1 h
  unfold World.setRow
  have key : ∀ f : Obj → Obj, f (.cells xs T (0, 0)) = .cells xs T (0, 0) → w.heap.modify c f = w.heap := by
    intro f hf
    apply Array.ext_getElem?
    intro i
    rw [Array.getElem?_modify]
    split
    · rename_i e; subst e; simp [h1, h2, hf]
    · rfl
  rw [key _ rfl]
/-- append(s, x...), s a row of its own. -/
theorem wpList_joinAt {P : Program} {w : World} {ops : Array Oper} {rest : List Oper} {o : Oper} {a : Act} {Q : Exit → Act → World → Prop} (hgd : o.guard = none) (s x : Operand) (t : TypeId)
    (ho : o.op = .call { callee := .builtin .append, args := #[s, x], argTypes := #[t, t] })
    (base : Nat) (e : TypeId) (z : Value) (size bytes : Nat) (ht : P.underlying t = some (.slice e)) (hinfo : (P.info? e).map (fun i => (i.zero, i.size, i.bytes)) = some (some z, size, bytes)) (hzs : z.cells.size = size) (hsz : 0 < size)
    (v : Value) (n : Nat) (xs : List Value) (hs : a.eval s = v) (hown : w.ownsRow base e size v n xs)
    (ad : Addr) (m c : Nat) (news : List Value) (hx : a.eval x = .slice (some ad) m c) (hnews : ∀ j u, news[j]? = some u → w.cell? (ad.add j) = some u) (hl : news.length = m * size) (h1 : ∀ u ∈ news, u.oneCell' = true)
    (h0 : 0 < n + m ∨ v ≠ .slice none 0 0) (h63 : n + m ≤ 1000000) (hbytes : (n + m) * bytes ≤ 140737488355328) (hbase : base ≤ w.heap.size)
    (h : ∀ g gc w', w'.ownsRow base e size (.slice (some ⟨g, 0, none⟩) (n + m) gc) (n + m) (xs ++ news) → w.grownBy w' v.ownBlock → wpList P ops Q rest (a.put o.dst (.slice (some ⟨g, 0, none⟩) (n + m) gc)) w') : wpList P ops Q (o :: rest) a w := by
  obtain ⟨i0, hi, hz0, hz1, hz2⟩ := info_parts hinfo
  refine wpList_append_own_at w hgd s x t ho base e i0 z size bytes ht hi hz0 hz1 hz2 hzs hsz v n xs hs hown ad m c news hx hl hnews h1 (by unfold maxLen; omega) hbytes hbase (fun v' w' h2 h3 h4 h5 => ?_)
  rcases h2.2 with ⟨e1, e2⟩ | ⟨g, cap, cur, rfl, -⟩
  · exfalso
    rcases h0 with h0 | h0
    · omega
    · exact h0 (h4.1 e1).1
  · exact h g cap w' h2 h3
section
variable {ops : Array Oper} {md : Region.Mode} {w0 : World} {n0 k0 : Nat} {x0 : List Value} {sp : Nat → Option (List Value → Value → World → Prop)} {N : Nat} {Q : List Oper → Act → Facts → Prop} {n k : Nat} {o : Oper} {l : List Oper} {a : Act} {f : Facts}
/-- A literal of at most three numbers. -/
theorem rgA_lit (cs : Array Value) (m : Nat) (hk : k ≠ k0) (hs3 : cs.size ≤ 3) (hs : sp k = some (isLitA w0 cs m)) (hw : Region.wanted o (yielded ops a.tmps) = true)
    (hrun : ∀ w, (execOp a.eval o).run Tryz.prog w = .ok (.value (.slice (some ⟨w.heap.size, 0, none⟩) m m)) (w.alloc (.cells cs 3)))
    (h : ∀ b, w0.heap.size ≤ b → rLexL Tryz.prog md ops ⟨In (Made w0), MakesA w0.heap.size n0 x0 k0, sp, fun _ => false, N⟩ Q n l (k + 1) (a.put o.dst (.slice (some ⟨b, 0, none⟩) m m)) (upd f k (isLitA w0 cs m [] (.slice (some ⟨b, 0, none⟩) m m)))) :
    rLexL Tryz.prog md ops ⟨In (Made w0), MakesA w0.heap.size n0 x0 k0, sp, fun _ => false, N⟩ Q (n + 1) (o :: l) k a f := by
  refine rLexL_spec (isLitA w0 cs m) hs hw ?_ (fun w hC hd => stepTo_run (hrun w) ?_) ?_
  · rintro v j w w' _ _ _ hR ⟨b, e, hb, hh⟩
    exact ⟨b, e, hb, hR.lit hh hs3⟩
  · have hsz := hC.out.size
    exact ⟨In.mk (gb_alloc hC.out _), MakesA.none hk (gb_alloc (gb_refl w _) _), ⟨_, rfl, hsz, heap_alloc_new w _⟩, fun e => by cases e⟩
  · rintro v w hC ⟨b, rfl, hb, -⟩
    exact h b hb
/-- append([]int{}, x...) -/
theorem rgA_copy (s x : Operand) (t : TypeId) (ht : Tryz.prog.underlying t = some (.slice 3)) (hinfo : (Tryz.prog.info? 3).map (fun i => (i.zero, i.size, i.bytes)) = some (some (.int .i64 0), 1, 8)) (hk : k ≠ k0) (kb c : Nat) (ad : Addr) (m cc : Nat) (news : List Value)
    (hs : sp k = some (isCopyA w0 n0 x0)) (hw : Region.wanted o (yielded ops a.tmps) = true) (hm : m = n0) (hx0 : news = x0)
    (ho : o.op = .call { callee := .builtin .append, args := #[s, x], argTypes := #[t, t] })
    (hsv : a.eval s = .slice (some ⟨c, 0, none⟩) 0 0) (hxv : a.eval x = .slice (some ad) m cc) (hafter : ∃ e ∈ o.after, Region.binds md e = true ∧ e.on = kb) (hf : f kb = isLitA w0 #[] 0 [] (.slice (some ⟨c, 0, none⟩) 0 0))
    (hl : news.length = m) (hnews : ∀ u, w0.grownBy u none → ∀ j y, news[j]? = some y → u.cell? (ad.add j) = some y) (h1 : ∀ u ∈ news, u.oneCell' = true) (h63 : m ≤ 1000000)
    (h : ∀ g gc, w0.heap.size ≤ g → (m = 0 → gc = 0) → rLexL Tryz.prog md ops ⟨In (Made w0), MakesA w0.heap.size n0 x0 k0, sp, fun _ => false, N⟩ Q n l (k + 1) (a.put o.dst (.slice (some ⟨g, 0, none⟩) m gc)) (upd f k (isCopyA w0 n0 x0 [] (.slice (some ⟨g, 0, none⟩) m gc)))) :
    rLexL Tryz.prog md ops ⟨In (Made w0), MakesA w0.heap.size n0 x0 k0, sp, fun _ => false, N⟩ Q (n + 1) (o :: l) k a f := by
  subst hm; subst hx0
  refine rLexL_spec (isCopyA w0 m news) hs hw ?_ (fun w hC hd => ?_) ?_
  · rintro v j w w' _ _ _ hR ⟨g, gc, e, h0, hg, hh⟩
    exact ⟨g, gc, e, h0, hg, hR.own hh⟩
  · obtain ⟨ed, he, hbd, rfl⟩ := hafter
    have hdep := hd ed he hbd
    rw [hf] at hdep
    obtain ⟨b, eb, hb, hblk⟩ := hdep
    simp only [Value.slice.injEq, Option.some.injEq, Addr.mk.injEq, and_true] at eb
    subst eb
    obtain ⟨i0, hi, hz0, hz1, hz2⟩ := info_parts hinfo
    have hsz := hC.out.size
    unfold stepTo execOp
    by_cases h0 : m = 0
    · subst h0
      obtain rfl : news = [] := List.length_eq_zero_iff.1 hl
      have hr := run_append_room (P := Tryz.prog) w t o.type 3 i0 ht hi c 0 0 #[] hblk ad 0 cc [] (by simp) (fun j u hj => by simp at hj) (by simp) (by omega) (by simp)
      simp only [ho, resolve, invoke, builtin, Sem.run_bind, Sem.run_pure, Result.andThen_ok, List.map_toArray, List.map_cons, List.map_nil, hsv, hxv, hr]
      have hsame : w.setRow c ((#[] : Array Value).toList.take (0 * i0.size) ++ [] ++ (#[] : Array Value).toList.drop (0 * i0.size + ([] : List Value).length)).toArray = w := setRow_same hblk (by simp)
      rw [hsame]
      exact ⟨In.mk hC.out, MakesA.none hk (gb_refl _ _), ⟨c, 0, rfl, fun _ => rfl, hb, rfl, .inr ⟨c, 0, #[], rfl, hb, hblk, Nat.le_refl _, by simp [maxLen], rfl, rfl⟩⟩, fun e => by cases e⟩
    · obtain ⟨v', w', hr, h2, h3⟩ := run_append_arg_grows (P := Tryz.prog) w t o.type 3 i0 (.int .i64 0) 1 8 ht hi hz0 hz1 hz2 rfl (by decide) ⟨c, 0, none⟩ 0 0 [] (by simp) (fun j u hj => by simp at hj) ad m cc news (by omega) (hnews w hC.out) (by omega) (by unfold maxLen; omega) (by omega)
      rw [Nat.zero_add, List.nil_append] at h2
      simp only [ho, resolve, invoke, builtin, Sem.run_bind, Sem.run_pure, Result.andThen_ok, List.map_toArray, List.map_cons, List.map_nil, hsv, hxv, hr]
      have h2' : w'.ownsRow w0.heap.size 3 1 v' m news := ⟨h2.1, h2.2.imp id (fun ⟨g, cap, cur, e1, e2, e3⟩ => ⟨g, cap, cur, e1, by omega, e3⟩)⟩
      obtain ⟨g, gc, rfl, hb', -⟩ := h2'.form (by omega)
      exact ⟨In.mk (gb_trans hC.out h3), MakesA.none hk h3, ⟨g, gc, rfl, fun e => absurd e h0, hb', h2'⟩, fun e => by cases e⟩
  · rintro v w hC ⟨g, gc, rfl, h0, hg, -⟩
    exact h g gc hg h0
/-- append(s, 1, 0, 0), s a row of its own. -/
theorem rgA_push (s x : Operand) (t : TypeId) (ht : Tryz.prog.underlying t = some (.slice 3)) (hinfo : (Tryz.prog.info? 3).map (fun i => (i.zero, i.size, i.bytes)) = some (some (.int .i64 0), 1, 8)) (hk : k = k0) (ka kb b g gc : Nat) (news : Array Value) (hn3 : news.size = 3)
    (hs : sp k = some (isPushA w0 (n0 + 3) (x0 ++ news.toList))) (hw : Region.wanted o (yielded ops a.tmps) = true)
    (ho : o.op = .call { callee := .builtin .append, args := #[s, x], argTypes := #[t, t] })
    (hsv : a.eval s = .slice (some ⟨g, 0, none⟩) n0 gc) (hxv : a.eval x = .slice (some ⟨b, 0, none⟩) 3 3) (h0 : n0 = 0 → gc = 0)
    (ha : ∃ e ∈ o.after, Region.binds md e = true ∧ e.on = ka) (hfa : f ka = isCopyA w0 n0 x0 [] (.slice (some ⟨g, 0, none⟩) n0 gc))
    (hb : ∃ e ∈ o.after, Region.binds md e = true ∧ e.on = kb) (hfb : f kb = isLitA w0 news 3 [] (.slice (some ⟨b, 0, none⟩) 3 3)) (h1 : ∀ u ∈ news.toList, u.oneCell' = true) (h63 : n0 ≤ 1000000)
    (h : ∀ g gc, w0.heap.size ≤ g → rLexL Tryz.prog md ops ⟨In (Made w0), MakesA w0.heap.size n0 x0 k0, sp, fun _ => false, N⟩ Q n l (k + 1) (a.put o.dst (.slice (some ⟨g, 0, none⟩) (n0 + 3) gc)) (upd f k (isPushA w0 (n0 + 3) (x0 ++ news.toList) [] (.slice (some ⟨g, 0, none⟩) (n0 + 3) gc)))) :
    rLexL Tryz.prog md ops ⟨In (Made w0), MakesA w0.heap.size n0 x0 k0, sp, fun _ => false, N⟩ Q (n + 1) (o :: l) k a f := by
  subst hk
  refine rLexL_spec (isPushA w0 (n0 + 3) (x0 ++ news.toList)) hs hw ?_ (fun w hC hd => ?_) ?_
  · rintro v j w w' hj _ _ hR ⟨g, gc, e, hg, hh⟩
    unfold MakesA at hR; rw [if_neg hj] at hR
    exact ⟨g, gc, e, hg, owns_keep hh hR⟩
  · obtain ⟨ed, he, hbd, rfl⟩ := ha
    have hda := hd ed he hbd
    rw [hfa] at hda
    obtain ⟨eb, heb, hbb, rfl⟩ := hb
    have hdb := hd eb heb hbb
    rw [hfb] at hdb
    obtain ⟨g', gc', e1, -, hg', hown⟩ := hda
    simp only [Value.slice.injEq, Option.some.injEq, Addr.mk.injEq, and_true, true_and] at e1
    obtain ⟨rfl, rfl⟩ := e1
    obtain ⟨b', e2, -, hblk⟩ := hdb
    simp only [Value.slice.injEq, Option.some.injEq, Addr.mk.injEq, and_true] at e2
    subst e2
    obtain ⟨i0, hi, hz0, hz1, hz2⟩ := info_parts hinfo
    have hsz := hC.out.size
    have hl : news.toList.length = 3 := by simpa using hn3
    have hnews : ∀ j u, news.toList[j]? = some u → w.cell? ((⟨b, 0, none⟩ : Addr).add j) = some u := World.news_of_block (cs := news) hblk
    have hfin : ∀ v' w', w'.ownsRow w0.heap.size 3 1 v' (n0 + 3) (x0 ++ news.toList) → In (Made w0) w' → Ap w0.heap.size n0 x0 w w' → In (Made w0) w' ∧ MakesA w0.heap.size n0 x0 k k w w' ∧ isPushA w0 (n0 + 3) (x0 ++ news.toList) (vals a o) v' w' ∧ (false = true → Own N w v' w') := by
      intro v' w' ho' hC' hA
      obtain ⟨g2, gc2, rfl, hb2, -⟩ := ho'.form (by omega)
      exact ⟨hC', by unfold MakesA; rw [if_pos rfl]; exact hA, ⟨g2, gc2, rfl, hb2, ho'⟩, fun e => by cases e⟩
    unfold stepTo execOp
    by_cases hroom : n0 + 3 ≤ gc
    · obtain ⟨v', w', hr, h2, h3, _, -⟩ := run_append_own_at (P := Tryz.prog) w w0.heap.size t o.type 3 i0 (.int .i64 0) 1 8 ht hi hz0 hz1 hz2 rfl (by decide) (.slice (some ⟨g, 0, none⟩) n0 gc) n0 x0 hown ⟨b, 0, none⟩ 3 3 news.toList (by omega) hnews h1 (by unfold maxLen; omega) (by omega) hsz
      have hkp := own_keeps (w' := w') ht hi hz0 hz1 hz2 hown (by omega) hnews h1 (by unfold maxLen; omega) (by omega) hr
      simp only [ho, resolve, invoke, builtin, Sem.run_bind, Sem.run_pure, Result.andThen_ok, List.map_toArray, List.map_cons, List.map_nil, hsv, hxv, hr]
      have h3' : w.grownBy w' (some g) := h3
      refine hfin v' w' h2 (In.mk (gb_new hC.out h3' (fun q hq => by simp at hq; omega))) ⟨⟨g, hg', h3', fun cs T fr hcs => ?_⟩, fun v hv => ?_⟩
      · rcases hown.2 with ⟨e, -⟩ | ⟨g1, c1, cur, e, -, hg1, -, -, hs1, -⟩
        · simp at e
        · simp only [Value.slice.injEq, Option.some.injEq, Addr.mk.injEq, and_true, true_and] at e
          obtain ⟨rfl, rfl⟩ := e
          rw [hg1] at hcs
          simp at hcs
          obtain ⟨rfl, -⟩ := hcs
          by_cases hn0 : n0 = 0
          · have := h0 hn0; omega
          · omega
      · by_cases hvb : v.ownBlock = some g
        · rcases hv.2 with ⟨rfl, -⟩ | ⟨g1, c1, cur, rfl, -, -⟩
          · simp [Value.ownBlock] at hvb
          · simp [Value.ownBlock] at hvb
            subst hvb
            have := owns_uniq hv hown
            subst this
            exact hkp
        · exact hv.kept h3' (.inr (fun e => hvb (by first | exact e | exact e.symm)))
    · obtain ⟨v', w', hr, h2, h3⟩ := run_append_arg_grows (P := Tryz.prog) w t o.type 3 i0 (.int .i64 0) 1 8 ht hi hz0 hz1 hz2 rfl (by decide) ⟨g, 0, none⟩ n0 gc x0 (by have := hown.1; omega) (hown.cells (g := g) rfl) ⟨b, 0, none⟩ 3 3 news.toList (by omega) hnews (by omega) (by unfold maxLen; omega) (by omega)
      simp only [ho, resolve, invoke, builtin, Sem.run_bind, Sem.run_pure, Result.andThen_ok, List.map_toArray, List.map_cons, List.map_nil, hsv, hxv, hr]
      have h2' : w'.ownsRow w0.heap.size 3 1 v' (n0 + 3) (x0 ++ news.toList) := ⟨h2.1, h2.2.imp id (fun ⟨g, cap, cur, e1, e2, e3⟩ => ⟨g, cap, cur, e1, by omega, e3⟩)⟩
      exact hfin v' w' h2' (In.mk (gb_trans hC.out h3)) ⟨⟨w.heap.size, hsz, gb_none h3, fun cs T fr hcs => by simp at hcs⟩, fun v hv => owns_keep hv h3⟩
  · rintro v w hC ⟨g, gc, rfl, hg, -⟩
    exact h g gc hg
end
end Go.Proofs.YtdkckhihleffeaaGreat
