/- keep.Src.BentTable. Written by gen_bentt.py. -/
import Derived.Test.YtcealhikmbchoaaBent
import Derived.Test.YtcealhikmbchoaaRgApp
import Derived.BigRegion
import Derived.Deep.AppendLies
import Derived.Laws.OwnMore
namespace Go.Proofs.Ytcealhikmbchoaa
set_option linter.all false
open Go.RowKit Rg

section
variable {P : Program} {ops : Array Oper} {md : Region.Mode} {w0 : World} {sp : Nat → Option (List Value → Value → World → Prop)} {al : Nat → Bool} {N : Nat} {Q : List Oper → Act → Facts → Prop} {n k : Nat} {o : Oper} {l : List Oper} {a : Act} {f : Facts}
/-- append([]T{}, x...): a copy in memory of its own. -/
theorem rg_copyN (s x : Operand) (t e : TypeId) (z : Value) (size bytes : Nat) (ht : P.underlying t = some (.slice e)) (hinfo : (P.info? e).map (fun i => (i.zero, i.size, i.bytes)) = some (some z, size, bytes)) (hzs : z.cells.size = size) (hsz : 0 < size)
    (c cc : Nat) (b : Addr) (m mc : Nat) (news : List Value)
    (hs : sp k = some (isOwn w0.heap.size e size m news)) (hw : Region.wanted o (yielded ops a.tmps) = true)
    (ho : o.op = .call { callee := .builtin .append, args := #[s, x], argTypes := #[t, t] })
    (hsv : a.eval s = .slice (some ⟨c, 0, none⟩) 0 0) (hxv : a.eval x = .slice (some b) m mc) (hm : 0 < m)
    (hl : news.length = m * size) (hnews : ∀ u, w0.grownBy u none → ∀ j y, news[j]? = some y → u.cell? (b.add j) = some y)
    (h63 : m ≤ 1000000) (hbytes : m * bytes ≤ 140737488355328)
    (h : ∀ g gc, w0.heap.size ≤ g → rLexL P md ops ⟨In (Made w0), Makes, sp, al, N⟩ Q n l (k + 1) (a.put o.dst (.slice (some ⟨g, 0, none⟩) m gc)) (upd f k (isOwn w0.heap.size e size m news [] (.slice (some ⟨g, 0, none⟩) m gc)))) :
    rLexL P md ops ⟨In (Made w0), Makes, sp, al, N⟩ Q (n + 1) (o :: l) k a f := by
  refine rLexL_spec (isOwn w0.heap.size e size m news) hs hw (fun v j w w' _ _ _ hR h => owns_keep h hR) (fun w hC hd => ?_) (fun v w _ hF => by
    have hF' : w.ownsRow w0.heap.size e size v m news := hF
    obtain ⟨g, gc, rfl, hb, -⟩ := hF'.form hm
    exact h g gc hb)
  obtain ⟨i0, hi, hz0, hz1, hz2⟩ := info_parts hinfo
  obtain ⟨v', w', hr, h2, h3⟩ := run_append_arg_grows (P := P) w t o.type e i0 z size bytes ht hi hz0 hz1 hz2 hzs hsz ⟨c, 0, none⟩ 0 0 [] (by simp) (fun j u hj => by simp at hj) b m mc news hl (hnews w hC.out) (by omega) (by unfold maxLen; omega) (by rwa [Nat.zero_add])
  rw [Nat.zero_add, List.nil_append] at h2
  unfold stepTo execOp
  simp only [ho, resolve, invoke, builtin, Sem.run_bind, Sem.run_pure, Result.andThen_ok, List.map_toArray, List.map_cons, List.map_nil, hsv, hxv, hr]
  have hsz := hC.out.size
  refine ⟨In.mk (gb_trans hC.out h3), h3, ⟨h2.1, h2.2.imp id ?_⟩, fun _ bb hbb _ => ?_⟩
  · rintro ⟨g, cap, cur, e1, e2, e3⟩
    exact ⟨g, cap, cur, e1, by omega, e3⟩
  · rcases h2.2 with ⟨rfl, -⟩ | ⟨g, cap, cur, rfl, e2, e3, -⟩
    · simp [blk] at hbb
    · simp [blk] at hbb; subst hbb
      exact ⟨e2, block_lt' e3⟩
end
theorem Sl.drop1 {w : World} {b off n cap : Nat} {xs : List Int} (h : Sl w (.slice (some ⟨b, off, none⟩) (n + 1) cap) xs) : Sl w (.slice (some ⟨b, off + 1, none⟩) n (cap - 1)) (xs.drop 1) := by
  rcases h with ⟨rfl, a, c, e⟩ | ⟨b', off', cap', e, hb, h1, h2, h3⟩
  · simp at e
  · simp only [Value.slice.injEq, Option.some.injEq, Addr.mk.injEq, and_true] at e
    obtain ⟨⟨rfl, rfl⟩, hn, rfl⟩ := e
    refine .inr ⟨b, off + 1, cap - 1, by rw [List.length_drop]; congr 1; omega, hb, by rw [List.length_drop]; omega, by omega, fun k hk => ?_⟩
    rw [List.length_drop] at hk
    rw [Nat.add_assoc, h3 (1 + k) (by omega), List.getElem?_drop]
theorem owns_ints' {w : World} {base : Nat} {E : TypeId} {g n cap : Nat} {xs : List Int} (h : w.ownsRow base E 1 (.slice (some ⟨g, 0, none⟩) n cap) n (xs.map (Value.int .i64))) (j : Nat) (hj : j < xs.length) : w.cell? ⟨g, j, none⟩ = some (.int .i64 (xs[j]?.getD 0)) := by
  have := h.cells (g := g) rfl j (.int .i64 (xs[j]?.getD 0)) (by simp [List.getElem?_map, List.getElem?_eq_getElem hj])
  rw [← this]; congr 1
  unfold Addr.add; split <;> simp_all
theorem owns_cap {w : World} {B e s g n c : Nat} {ys : List Value} (h : w.ownsRow B e s (.slice (some ⟨g, 0, none⟩) n c) n ys) : n ≤ c := by
  rcases h.2 with ⟨e, -⟩ | ⟨g', cap, cur, e, -, -, hle, -⟩
  · simp at e
  · simp at e; omega
/-- What BentTable returns. -/
def BentT (B p : Nat) (w : World) (e : Ending) (w' : World) : Prop :=
  ∃ (step : Int) (vl vh : Value) (ls hs : List Int), e = .returned (.agg #[.int .i64 step, vl, vh]) ∧ Sl w' vl ls ∧ Sl w' vh hs ∧ (∀ v, v = vl ∨ v = vh → ∀ b off len cap, v = .slice (some ⟨b, off, none⟩) len cap → w.heap.size ≤ b) ∧ Src B w' p ∧ w.grownBy w' (some p)
theorem bt_end {w u : World} {B p : Nat} {st : Int} {v1 v2 : Value} {ls' hs' : List Int} {cs : Array Value} {T : TypeId} (hp0 : B ≤ p) (hp : p < w.heap.size) (hR : u.heap[w.heap.size + 1]? = some (.cells cs T (0, 0))) (h1 : Sl u v1 ls') (h2 : Sl u v2 hs')
    (hb1 : ∀ b off len cap, v1 = .slice (some ⟨b, off, none⟩) len cap → w.heap.size + 1 < b) (hb2 : ∀ b off len cap, v2 = .slice (some ⟨b, off, none⟩) len cap → w.heap.size + 1 < b) (hS : Src B u p) (hG : w.grownBy u (some p)) :
    BentT B p w (.returned (.agg #[.int .i64 st, v1, v2])) (u.setRow (w.heap.size + 1) #[.int .i64 st, v1, v2]) := by
  have hg : u.grownBy (u.setRow (w.heap.size + 1) #[.int .i64 st, v1, v2]) (some (w.heap.size + 1)) := gb_setRow (gb_refl _ _) (.inr rfl)
  refine ⟨st, v1, v2, ls', hs', rfl, h1.later hg (fun b off len cap e _ => by have := hb1 b off len cap e; simp; omega), h2.later hg (fun b off len cap e _ => by have := hb2 b off len cap e; simp; omega), ?_, hS.later hg (fun q hq => by simp at hq; omega), gb_setRow hG (.inl (by omega))⟩
  rintro v (rfl | rfl) b off len cap e
  · have := hb1 b off len cap e; omega
  · have := hb2 b off len cap e; omega

end Go.Proofs.Ytcealhikmbchoaa
