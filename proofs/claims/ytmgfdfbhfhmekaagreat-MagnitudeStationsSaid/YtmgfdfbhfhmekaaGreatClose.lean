/- The end of every law: arguments opened, the law's post shut. Of no program. -/
import Derived.Test.YtmgfdfbhfhmekaaGreatBase
import Derived.ProofKit
import Derived.OpenShut
import Derived.Deep.Slices
namespace Go.Proofs.YtmgfdfbhfhmekaaGreat
set_option linter.all false
open Go.ChangeShapes Go.WideShapes Go.ChangeAt Go.RowKit

section
variable {H : Type} {enc : TypeId × Value → H} {P : Program}

/-- An argument of int type. -/
theorem open_i64 {W : World} {base : Nat} {spare : Nat → Bool} {held : Bool} {r : Reach} {b0 : Nat} {t : TypeId} {v : Value} {d : DataW H} {ps : List MemPlace} (ht : P.underlying t = some (.int .i64)) (hval : Value.okWide P W r b0 t v) (hd : DataW.Trod enc P W base spare held t v d ps) :
    ∃ n, v = .int .i64 n ∧ -9223372036854775808 ≤ n ∧ n ≤ 9223372036854775807 := by
  obtain ⟨n, rfl, _, _, hw⟩ := open_int ht hval hd
  have := bounds_i64 hw
  exact ⟨n, rfl, by omega, by omega⟩

/-- An argument that is a slice of ints. -/
theorem open_sl {W : World} {base : Nat} {held : Bool} {r : Reach} {b0 : Nat} {t e : TypeId} {v : Value} {d : DataW H} {ps : List MemPlace} (ht : P.underlying t = some (.slice e)) (he : P.underlying e = some (.int .i64)) (hc : P.cellsOf e = 1)
    (hval : Value.okWide P W r b0 t v) (hd : DataW.Trod enc P W base (fun _ => true) held t v d ps) :
    ∃ xs, Sl W v xs ∧ (∀ x ∈ xs, -9223372036854775808 ≤ x ∧ x ≤ 9223372036854775807) := by
  obtain ⟨a0, len, cap, rfl⟩ := okWide_slice ht hval
  obtain ⟨fuel, hf⟩ := hd
  rcases open_ints ht he hc hf with ⟨hcs, _⟩ | ⟨a, len', cap', zs, hcs, _, hl, hm, hz, _, hcell, hw⟩
  · simp [Value.cells] at hcs
    obtain ⟨rfl, rfl, rfl⟩ := hcs
    exact ⟨[], .inl ⟨rfl, none, 0, rfl⟩, by simp⟩
  · simp [Value.cells] at hcs
    obtain ⟨rfl, rfl, rfl⟩ := hcs
    simp only [if_true] at hz
    refine ⟨zs.take len, ?_, fun x hx => bounds_i64 (hw x (List.mem_of_mem_take hx))⟩
    by_cases h0 : 0 < len
    · obtain ⟨b, off, rfl, hcc⟩ := ints_at hcell (by omega)
      have hlen : (zs.take len).length = len := by simp; omega
      refine .inr ⟨b, off, cap, by rw [hlen], World.block_lt_of_cell? W _ (hcc 0 (by omega)), by omega, by unfold maxLen at hm; omega, fun k hk => ?_⟩
      rw [hlen] at hk
      rw [hcc k (by omega), List.getElem?_take_of_lt hk]; rfl
    · obtain rfl : len = 0 := by omega
      exact .inl ⟨by simp, _, _, rfl⟩

/-- The law's post: true is returned, and below the heap's old size nothing has turned. -/
theorem law_post {f : Func} {s : ChangeSpec} {W W' : World} {args : Array Value} {ds : List (DataW H)} {before : List MemPlace} {tb : TypeId}
    (hW : DataW.Whole enc P f.params.toList s.vars false W args.toList ds [] before) (hvars : s.vars = [])
    (hr : f.resultTypes = #[tb]) (htb : P.underlying tb = some .bool)
    (hfn : s.fn H (ds ++ []) = { results := [.lit (.bool true)], args := ds })
    (hl : laidOutB P = true) (hread : ∀ t ∈ f.params.toList, P.readableRec t = true ∧ t < P.types.size)
    (hb : Below W.heap.size W W') :
    ∃ v, Ending.returned (.bool true) = .returned v ∧ s.post enc P f false true false false W args v W' := by
  have hW' := hW
  obtain ⟨p, q, hA, hV, rfl, hfz, hnd⟩ := hW
  have hlt : ∀ x ∈ p, x.block < W.heap.size := fun x hx => hW'.lt x (List.mem_append_left _ hx)
  have hV0 : q = [] := by rw [hvars] at hV; exact (trodVars_none hV).2
  subst hV0
  refine ⟨_, rfl, ds, [], p ++ [], [], p, [], hW', ?_, ?_, ?_, hb.frame _, fun h => by cases h⟩
  · rw [hfn, hr]
    exact trodAll_mk1 (shut_bool htb _)
  · rw [hfn]
    have key : ∀ (ts : List TypeId) (vs : List Value) (ds : List (DataW H)) (p : List MemPlace), (∀ t ∈ ts, P.readableRec t = true ∧ t < P.types.size) → (∀ x ∈ p, x.block < W.heap.size) →
        DataW.TrodAll enc P W 0 (fun _ => true) true ts vs ds p → DataW.TrodAll enc P W' 0 (fun b => decide (b < W.heap.size)) true ts vs ds p := by
      intro ts
      induction ts with
      | nil => intro vs ds p _ _ h; obtain ⟨rfl, rfl, rfl⟩ := trodAll_nil h; exact trodAll_mk0
      | cons t ts ih =>
        intro vs ds p hts hp h
        obtain ⟨v, vs', d, ds', p1, q1, rfl, rfl, rfl, hd, hrest⟩ := trodAll_cons h
        have ht := hts t (by simp)
        exact trodAll_cons_mk (Below.trod hl ht.1 ht.2 hd hb (fun x hx => hp x (by simp [hx]))) (ih vs' ds' q1 (fun t ht => hts t (by simp [ht])) (fun x hx => hp x (by simp [hx])) hrest)
    exact key _ _ _ _ hread hlt hA
  · rw [hfn, hvars]
    rfl
end
end Go.Proofs.YtmgfdfbhfhmekaaGreat
