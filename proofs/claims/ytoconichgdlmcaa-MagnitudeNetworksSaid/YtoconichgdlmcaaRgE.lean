/- A drawn region with an append to a full slice of estimates; arguments that are slices of estimates. -/
import Derived.Test.YtoconichgdlmcaaRNet
import Derived.Test.YtoconichgdlmcaaArgs
import Derived.ArgAppend
import Derived.Deep.AppendLies
namespace Go.Proofs.Ytoconichgdlmcaa
set_option linter.all false
open Go.RowKit Rg

abbrev isGrowE (w : World) (n : Nat) (ys : List Value) : List Value → Value → World → Prop := fun _ v u => ∃ g gc, v = .slice (some ⟨g, 0, none⟩) n gc ∧ w.heap.size ≤ g ∧ u.ownsRow w.heap.size 28 2 v n ys
section
variable {ops : Array Oper} {md : Region.Mode} {w0 : World} {B p : Nat} {sp : Nat → Option (List Value → Value → World → Prop)} {N : Nat} {Q : List Oper → Act → Facts → Prop} {n k : Nat} {o : Oper} {l : List Oper} {a : Act} {f : Facts}
theorem rg_growE (hp : p < w0.heap.size) (s x : Operand) (t : TypeId) (ht : Try.prog.underlying t = some (.slice 28)) (kb b : Nat) (c : Est) (oa : Option Addr) (n0 : Nat) (xs : List Est) (hlen : xs.length = n0)
    (hsrc : (oa = none ∧ n0 = 0) ∨ ∃ g, oa = some ⟨g, 0, none⟩ ∧ ∀ u, Pulled w0 B p u → ∀ j y, (flatE xs)[j]? = some y → u.cell? ((⟨g, 0, none⟩ : Addr).add j) = some y)
    (hs : sp k = some (isGrowE w0 (n0 + 1) (flatE xs ++ c.cells))) (hw : Region.wanted o (yielded ops a.tmps) = true)
    (ho : o.op = .call { callee := .builtin .append, args := #[s, x], argTypes := #[t, t] })
    (hsv : a.eval s = .slice oa n0 n0) (hxv : a.eval x = .slice (some ⟨b, 0, none⟩) 1 1)
    (hb : ∃ e ∈ o.after, Region.binds md e = true ∧ e.on = kb) (hfb : f kb = fun u => u.heap[b]? = some (.cells c.cells.toArray 28 (0, 0))) (h63 : n0 ≤ 900000)
    (h : ∀ g gc, w0.heap.size ≤ g → rLexL Try.prog md ops ⟨In (Pulled w0 B p), Pull p, sp, fun _ => false, N⟩ Q n l (k + 1) (a.put o.dst (.slice (some ⟨g, 0, none⟩) (n0 + 1) gc)) (upd f k (isGrowE w0 (n0 + 1) (flatE xs ++ c.cells) [] (.slice (some ⟨g, 0, none⟩) (n0 + 1) gc)))) :
    rLexL Try.prog md ops ⟨In (Pulled w0 B p), Pull p, sp, fun _ => false, N⟩ Q (n + 1) (o :: l) k a f := by
  refine rLexL_spec (isGrowE w0 (n0 + 1) (flatE xs ++ c.cells)) hs hw ?_ (fun w hC hd => ?_) ?_
  · rintro v j w w' _ _ _ hR ⟨g, gc, e, hg, hh⟩
    exact ⟨g, gc, e, hg, owns_keepp hh hR hp⟩
  · obtain ⟨eb, heb, hbb, rfl⟩ := hb
    have hblk := hd eb heb hbb
    rw [hfb] at hblk
    have hblk : w.heap[b]? = some (.cells c.cells.toArray 28 (0, 0)) := hblk
    obtain ⟨i0, hi, hz0, hz1, hz2⟩ := info_parts Try.infoEst
    have hsz := hC.out.1.size
    have hnews : ∀ j u, c.cells[j]? = some u → w.cell? ((⟨b, 0, none⟩ : Addr).add j) = some u := World.news_of_block (cs := c.cells.toArray) hblk
    have h1 : ∀ u ∈ c.cells, u.oneCell' = true := fun u hu => by
      simp only [Est.cells, List.mem_cons, List.not_mem_nil, or_false] at hu
      rcases hu with rfl | rfl <;> rfl
    have hfin : ∀ v' w', w'.ownsRow w0.heap.size 28 2 v' (n0 + 1) (flatE xs ++ c.cells) → w.grownBy w' none → In (Pulled w0 B p) w' ∧ Pull p k w w' ∧ isGrowE w0 (n0 + 1) (flatE xs ++ c.cells) (vals a o) v' w' ∧ (false = true → Own N w v' w') := by
      intro v' w' ho' hg'
      obtain ⟨g2, gc2, rfl, hb2, -⟩ := ho'.form (by omega)
      exact ⟨In.mk ⟨gb_trans hC.out.1 (gb_none hg'), hC.out.2.later (row := none) hg' (by simp)⟩, gb_none hg', ⟨g2, gc2, rfl, hb2, ho'⟩, fun e => by cases e⟩
    unfold stepTo execOp
    rcases hsrc with ⟨rfl, rfl⟩ | ⟨g, rfl, hcs⟩
    · obtain rfl : xs = [] := List.length_eq_zero_iff.1 hlen
      obtain ⟨v', w', hr, h2, h3, _, -⟩ := run_append_own_at (P := Try.prog) w w0.heap.size t o.type 28 i0 _ 2 16 ht hi hz0 hz1 hz2 rfl (by decide) (.slice none 0 0) 0 [] (World.ownsRow_nil _ _ _ _) ⟨b, 0, none⟩ 1 1 c.cells rfl hnews h1 (by unfold maxLen; omega) (by omega) hsz
      simp only [ho, resolve, invoke, builtin, Sem.run_bind, Sem.run_pure, Result.andThen_ok, List.map_toArray, List.map_cons, List.map_nil, hsv, hxv, hr]
      exact hfin v' w' h2 h3
    · obtain ⟨v', w', hr, h2, h3⟩ := run_append_arg_grows (P := Try.prog) w t o.type 28 i0 _ 2 16 ht hi hz0 hz1 hz2 rfl (by decide) ⟨g, 0, none⟩ n0 n0 (flatE xs) (by rw [flatE_length, hlen]) (hcs w hC.out) ⟨b, 0, none⟩ 1 1 c.cells rfl hnews (by omega) (by unfold maxLen; omega) (by omega)
      simp only [ho, resolve, invoke, builtin, Sem.run_bind, Sem.run_pure, Result.andThen_ok, List.map_toArray, List.map_cons, List.map_nil, hsv, hxv, hr]
      have h2' : w'.ownsRow w0.heap.size 28 2 v' (n0 + 1) (flatE xs ++ c.cells) := ⟨h2.1, h2.2.imp id (fun ⟨g, cap, cur, e1, e2, e3⟩ => ⟨g, cap, cur, e1, by omega, e3⟩)⟩
      exact hfin v' w' h2' h3
  · rintro v w hC ⟨g, gc, rfl, hg, -⟩
    exact h g gc hg
end
section
open Go.ChangeShapes Go.WideShapes Go.ChangeAt Go.Deep
variable {H : Type} {enc : TypeId × Value → H} {P : Program} {w : World} {base : Nat} {held : Bool}
/-- A slice of estimates, as one cell that is read. -/
theorem sle_of_trod {fuel : Nat} {t e : TypeId} {c : Value} {x : DataW H × List MemPlace} (k : Nat) (ht : P.underlying t = some (.slice e)) (hk : flatB P k e = true) (hc : P.cellsOf e = 2)
    (hf : DataW.trod enc P w base (fun _ => true) held fuel t [c] = some x) : ∃ l : List Est, SlC 2 w c l.length (flatE l) := by
  rcases open_slice ht hf with ⟨h0, -⟩ | ⟨a, len, cap, m, n, D, Pl, h0, hb, hl, hm, hmm, -, hx⟩
  · simp at h0; subst h0
    exact ⟨[], ⟨rfl, .inl ⟨rfl, none, 0, rfl⟩⟩⟩
  · simp at h0; subst h0
    simp only [if_true] at hmm
    rw [hc] at hx
    obtain ⟨V, hV⟩ := choose_lt (α := Est) (p := fun i q => (∀ j, j < 2 → w.cell? ((a.add (i * 2)).add j) = q.cells[j]?)) (n := m) (fun i hi => by
      obtain ⟨cs', h1, h2⟩ := hx i hi
      obtain ⟨_, hlen, hcell⟩ := World.cells?_some h1
      obtain ⟨-, hcs⟩ := flat_cells k e n _ _ hk h2
      obtain ⟨ns, rfl, hns⟩ := ints_of _ hcs
      match ns, (by simpa using hlen : ns.length = 2), hns, hcell with
      | [x, y], _, hns, hcell =>
        refine ⟨⟨x, y⟩, fun j hj => ?_⟩
        have := hcell j hj
        simpa [Est.cells] using this)
    refine ⟨(List.range len).map V, ⟨by rw [flatE_length], ?_⟩⟩
    simp only [List.length_map, List.length_range]
    by_cases h0 : 0 < len
    · right
      obtain ⟨b, off, spot⟩ := a
      have h00 := (hV 0 (by omega)) 0 (by omega)
      have hspot : spot = none := by
        have e0 : ((⟨b, off, spot⟩ : Addr).add (0 * 2)).add 0 = ⟨b, off, spot⟩ := by simp [Addr.add]
        rw [e0] at h00
        exact by simpa [Addr.add] using World.cell?_spot h00
      subst hspot
      have hcell : ∀ i, i < len → ∀ j, j < 2 → w.cell? ⟨b, off + (i * 2 + j), none⟩ = (V i).cells[j]? := fun i hi j hj => by
        have := (hV i (by omega)) j hj
        rwa [add_add, Go.WideShapes.add_plain] at this
      refine ⟨b, off, cap, rfl, ?_, hl, by unfold maxLen at hm; omega, fun j u hj => ?_⟩
      · have := hcell 0 h0 0 (by omega)
        exact World.block_lt_of_cell? w _ (this.trans rfl)
      · have hjl : j < len * 2 := by
          have := (List.getElem?_eq_some_iff.1 hj).1
          rw [flatE_length] at this; simpa using this
        have hq : j = (j / 2) * 2 + j % 2 := by omega
        have e := flatE_at ((List.range len).map V) (j / 2) (by simp; omega) (j % 2) (by omega)
        rw [← hq, hj] at e
        have := hcell (j / 2) (by omega) (j % 2) (by omega)
        rw [← hq] at this
        rw [this, e]; simp
    · exact .inl ⟨by omega, _, _, by rw [show len = 0 by omega]⟩
/-- An argument that is a slice of estimates. -/
theorem open_ests {W : World} {r : Reach} {b0 : Nat} {t e : TypeId} {v : Value} {d : DataW H} {ps : List MemPlace} (k : Nat) (ht : P.underlying t = some (.slice e)) (hk : flatB P k e = true) (hc : P.cellsOf e = 2)
    (hval : Value.okWide P W r b0 t v) (hd : DataW.Trod enc P W base (fun _ => true) held t v d ps) : ∃ l : List Est, SlC 2 W v l.length (flatE l) := by
  obtain ⟨a0, len, cap, rfl⟩ := okWide_slice ht hval
  obtain ⟨fuel, hf⟩ := hd
  exact sle_of_trod k ht hk hc hf
end
end Go.Proofs.Ytoconichgdlmcaa
