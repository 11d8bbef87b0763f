/- Drawn regions that only make memory: literals of structs, an append that must make a new row. -/
import Derived.Test.YtmgfdfbhfhmekaaGreatRgMade
import Derived.Test.YtmgfdfbhfhmekaaGreatRgPos
import Derived.ArgAppend
namespace Go.Proofs.YtmgfdfbhfhmekaaGreat
set_option linter.all false
open Go.RowKit Rg

/-- A value that owns a row of its own. -/
abbrev isOwn (B : Nat) (e : TypeId) (size n : Nat) (xs : List Value) : List Value → Value → World → Prop := fun _ v u => u.ownsRow B e size v n xs
section
variable {P : Program} {ops : Array Oper} {md : Region.Mode} {w0 : World} {sp : Nat → Option (List Value → Value → World → Prop)} {al : Nat → Bool} {N : Nat} {Q : List Oper → Act → Facts → Prop} {n k : Nat} {o : Oper} {l : List Oper} {a : Act} {f : Facts}
/-- A literal slice of structs. -/
theorem rg_litN (m : Nat) (cs : Array Value) (T : TypeId) (hs : sp k = some (isBlk w0 m T)) (hw : Region.wanted o (yielded ops a.tmps) = true) (hal : al k = false) (hcs : ((vals a o).flatMap (fun v => v.cells.toList)).toArray = cs)
    (hrun : ∀ w, (execOp a.eval o).run P w = .ok (.value (.slice (some ⟨w.heap.size, 0, none⟩) m m)) (w.alloc (.cells cs T)))
    (h : ∀ b, w0.heap.size ≤ b → rLexL P md ops ⟨In (Made w0), Makes, sp, al, N⟩ Q n l (k + 1) (a.put o.dst (.slice (some ⟨b, 0, none⟩) m m)) (upd f k fun u => u.heap[b]? = some (.cells cs T (0, 0)))) :
    rLexL P md ops ⟨In (Made w0), Makes, sp, al, N⟩ Q (n + 1) (o :: l) k a f := by
  refine rLexL_spec (isBlk w0 m T) hs hw ?_ (fun w hC hd => stepTo_run (hrun w) ?_) ?_
  · rintro v j w w' _ _ _ hR ⟨b, e, hb, hh⟩
    exact ⟨b, e, hb, (World.grownBy.block hR b (Array.getElem?_eq_some_iff.1 hh).1 (by simp)).trans hh⟩
  · have hsz := hC.out.size
    exact ⟨In.mk (gb_alloc hC.out _), gb_alloc (gb_refl w _) _, ⟨_, rfl, hsz, by rw [hcs]; exact heap_alloc_new w _⟩, fun e => by rw [hal] at e; cases e⟩
  · rintro v w hC ⟨b, rfl, hb, -⟩
    have e : (isBlk w0 m T (vals a o) (.slice (some ⟨b, 0, none⟩) m m)) = fun u => u.heap[b]? = some (.cells cs T (0, 0)) := by
      funext u
      refine propext ⟨?_, fun h => ⟨b, rfl, hb, by rw [hcs]; exact h⟩⟩
      rintro ⟨b', e, -, h⟩
      simp at e; subst e; rw [hcs] at h; exact h
    rw [e]
    exact h b hb
/-- append(s, x): s is full, x one element that a literal has laid. -/
theorem rg_appN (s x : Operand) (t e : TypeId) (z : Value) (size bytes : Nat) (ht : P.underlying t = some (.slice e)) (hinfo : (P.info? e).map (fun i => (i.zero, i.size, i.bytes)) = some (some z, size, bytes)) (hzs : z.cells.size = size) (hsz : 0 < size)
    (b : Addr) (m : Nat) (olds : List Value) (c cc : Nat) (news : List Value) (T : TypeId) (kb : Nat)
    (hs : sp k = some (isOwn w0.heap.size e size (m + 1) (olds ++ news))) (hw : Region.wanted o (yielded ops a.tmps) = true) (hal : al k = false)
    (ho : o.op = .call { callee := .builtin .append, args := #[s, x], argTypes := #[t, t] })
    (hsv : a.eval s = .slice (some b) m m) (hxv : a.eval x = .slice (some ⟨c, 0, none⟩) 1 cc)
    (hlo : olds.length = m * size) (holds : ∀ u, w0.grownBy u none → ∀ j y, olds[j]? = some y → u.cell? (b.add j) = some y)
    (hl : news.length = size) (hafter : ∃ e ∈ o.after, Region.binds md e = true ∧ e.on = kb) (hf : f kb = fun u => u.heap[c]? = some (.cells news.toArray T (0, 0)))
    (h63 : m + 1 ≤ 1000000) (hbytes : (m + 1) * bytes ≤ 140737488355328)
    (h : ∀ v, rLexL P md ops ⟨In (Made w0), Makes, sp, al, N⟩ Q n l (k + 1) (a.put o.dst v) (upd f k (isOwn w0.heap.size e size (m + 1) (olds ++ news) [] v))) :
    rLexL P md ops ⟨In (Made w0), Makes, sp, al, N⟩ Q (n + 1) (o :: l) k a f := by
  refine rLexL_spec (isOwn w0.heap.size e size (m + 1) (olds ++ news)) hs hw (fun v j w w' _ _ _ hR h => owns_keep h hR) (fun w hC hd => ?_) (fun v w _ _ => h v)
  obtain ⟨ed, he, hbd, rfl⟩ := hafter
  have hdep := hd ed he hbd
  rw [hf] at hdep
  obtain ⟨i0, hi, hz0, hz1, hz2⟩ := info_parts hinfo
  have hnews : ∀ j u, news[j]? = some u → w.cell? ((⟨c, 0, none⟩ : Addr).add j) = some u := World.news_of_block (cs := news.toArray) (by simpa using hdep)
  obtain ⟨v', w', hr, h2, h3⟩ := run_append_arg_grows (P := P) w t o.type e i0 z size bytes ht hi hz0 hz1 hz2 hzs hsz b m m olds hlo (holds w hC.out) ⟨c, 0, none⟩ 1 cc news (by omega) hnews (by omega) (by unfold maxLen; omega) hbytes
  unfold stepTo execOp
  simp only [ho, resolve, invoke, builtin, Sem.run_bind, Sem.run_pure, Result.andThen_ok, List.map_toArray, List.map_cons, List.map_nil, hsv, hxv, hr]
  refine ⟨In.mk (gb_trans hC.out h3), h3, ?_, fun e => by rw [hal] at e; cases e⟩
  have hsz := hC.out.size
  refine ⟨h2.1, h2.2.imp id ?_⟩
  rintro ⟨g, cap, cur, e1, e2, e3⟩
  exact ⟨g, cap, cur, e1, by omega, e3⟩
end
end Go.Proofs.YtmgfdfbhfhmekaaGreat
