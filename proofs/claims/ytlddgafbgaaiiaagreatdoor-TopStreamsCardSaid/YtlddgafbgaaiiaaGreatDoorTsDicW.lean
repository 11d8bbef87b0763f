/- DicW -/
import Derived.Test.YtlddgafbgaaiiaaGreatDoorTsDicF
namespace Go.Proofs.YtlddgafbgaaiiaaGreatDoor
set_option linter.all false
open Go.RowKit Rg
structure WavAt (B p : Nat) (w : World) (xs : List Int) (v : Value) (u : World) : Prop where
  own : u.ownsRow w.heap.size 3 1 v xs.length (xs.map (Value.int .i64))
  sm : ∀ x ∈ xs, -100 ≤ x ∧ x ≤ 100
  dc : Dc B u p
  g : w.grownBy u (some p)
theorem WavAt.draw {B p : Nat} {w u u' : World} {xs : List Int} {v : Value} (h : WavAt B p w xs v u) (hd : Dc B u' p) (hg : u.grownBy u' (some p)) (hp : p < w.heap.size) : WavAt B p w xs v u' :=
  ⟨owns_keepp h.own hg hp, h.sm, hd, gb_trans h.g hg⟩
theorem WavAt.push {B p : Nat} {w u u' : World} {xs : List Int} {v v' : Value} {y : Int} {o : Obj} (h : WavAt B p w xs v u) (h1 : u'.ownsRow w.heap.size 3 1 v' (xs.length + 1) (xs.map (Value.int .i64) ++ [.int .i64 y])) (hg : (u.alloc o).grownBy u' v.ownBlock) (hp : p < w.heap.size) (hy : -100 ≤ y ∧ y ≤ 100) : WavAt B p w (xs ++ [y]) v' u' :=
  ⟨by rw [List.length_append, List.map_append]; exact h1, fun x hx => by rcases List.mem_append.1 hx with hx | hx; (exact h.sm x hx); (simp at hx; omega),
    (h.dc.later (gb_alloc (gb_refl _ none) _) (by simp)).later hg (fun q e => by have := h.own.lt q e; have := h.dc.lt; omega),
    gbNew (gb_trans h.g (gb_none (gb_alloc (gb_refl _ none) _))) hg (fun k hk => (h.own.lt k hk).1)⟩
set_option maxRecDepth 100000 in
set_option maxHeartbeats 4000000 in
theorem dwave_any (B : Nat) (w : World) (p : Nat) (h : Dc B w p) :
    Calls Tryz.prog 9 #[.pointer (some ⟨p, 0, none⟩), .int .i64 80] w fun e w' => ∃ (v : Value) (xs : List Int), e = .returned v ∧ w'.ownsRow w.heap.size 3 1 v xs.length (xs.map (Value.int .i64)) ∧ 1 ≤ xs.length ∧ xs.length ≤ 80 ∧ (∀ x ∈ xs, -100 ≤ x ∧ x ≤ 100) ∧ Dc B w' p ∧ w.grownBy w' (some p) := by
  have hp := h.lt
  have D1 := Lib.hid h
  clear h
  go_enter Tryz.func9, Tryz.ntmps9
  go_wp2_with fail
  (with_reducible refine (dnext_any B w p 80 D1.out (by omega) (by omega)).mono ?_)
  rintro r w1 ⟨n, rfl, hn, hd, hg⟩
  have A1 : Hid (WavAt B p w [] (.slice none 0 0) w1) := Lib.hid ⟨World.ownsRow_nil _ _ _ _, by simp, hd, hg⟩
  clear hd hg D1
  obtain ⟨N, rfl⟩ : ∃ N : Nat, n = (N : Int) := ⟨n.toNat, by omega⟩
  have hN : N < 80 := by omega
  clear hn
  go_wp2_with fail
  go_loopw [5, 6, 7, 8] (fun ov lv iv _ wr => ∃ (l : Int) (i : Nat) (xs : List Int), lv = .int .i64 l ∧ iv = .int .i64 i ∧ xs.length + i = N + 1 ∧ (0 ≤ l ∧ l ≤ 6) ∧ WavAt B p w xs ov wr) (fun _ _ iv _ _ => (intOf iv).toNat)
  case atStart => exact ⟨0, N + 1, [], rfl, by go_num, by simp, by omega, A1.out⟩
  case round =>
    obtain ⟨l, i, xs, rfl, rfl, hlen, hl0, ha⟩ := hrel
    have HLN := Lib.hid hlen
    have AR := Lib.hid ha
    have hi5 : i ≤ 80 := by omega
    have ht5 : xs.length ≤ 80 := by omega
    obtain ⟨oa, oc, rfl⟩ := owns_slice ha.own
    clear ha hlen A1
    by_cases hi : 0 < i
    · by_cases hl : l = 0
      · subst hl
        go_wp2_with fail
        (with_reducible refine (dnext_any B _ p 7 AR.out.dc (by omega) (by omega)).mono ?_)
        rintro r w2 ⟨z, rfl, hz, hd, hg⟩
        have A2 := Lib.hid (AR.out.draw hd hg hp.2)
        clear hd hg AR
        by_cases hz : z = 0
        · subst hz
          go_wp2_with fail
          (with_reducible refine (dnext_any B _ p 6 A2.out.dc (by omega) (by omega)).mono ?_)
          rintro r w3 ⟨q, rfl, hq, hd, hg⟩
          have A3 := Lib.hid (A2.out.draw hd hg hp.2)
          clear hd hg A2
          go_wp2_with fail
          (with_reducible refine (dnext_any B _ p 5 A3.out.dc (by omega) (by omega)).mono ?_)
          rintro r w4 ⟨x, rfl, hx, hd, hg⟩
          have A4 := Lib.hid (A3.out.draw hd hg hp.2)
          clear hd hg A3
          go_wp2_with fail
          (with_reducible refine (dnext_any B _ p 60 A4.out.dc (by omega) (by omega)).mono ?_)
          rintro r w5 ⟨c, rfl, hc, hd, hg⟩
          have A5 := Lib.hid (A4.out.draw hd hg hp.2)
          clear hd hg A4
          go_wp2_with fail
          (with_reducible refine (dnext_any B _ p 2 A5.out.dc (by omega) (by omega)).mono ?_)
          rintro r w6 ⟨s, rfl, hs, hd, hg⟩
          have A6 := Lib.hid (A5.out.draw hd hg hp.2)
          clear hd hg A5
          obtain ⟨y, hy⟩ : ∃ y, (c + 20) * (1 - 2 * s) = y := ⟨_, rfl⟩
          have hyb : -80 ≤ y ∧ y ≤ 80 := by
            have hs' : s = 0 ∨ s = 1 := by omega
            rcases hs' with rfl | rfl <;> omega
          have wy_ : wrap64 ((c + 20) * (1 - 2 * s)) = y := by rw [IntWalk.wrap64_in _ (by omega)]; exact hy
          have hy_ : -100 ≤ y ∧ y ≤ 100 := by omega
          have hz_ := blkLe A6.out.g
          go_wp2_with (at_builtin; (refine pushAt rfl _ _ 22 rfl w.heap.size 3 (.int .i64 0) 1 8 Tryz.underlying22 Tryz.infoIntD rfl (by decide) (by decide) _ _ _ rfl (A6.out.own.alloc _) w6.heap.size 1 [.int .i64 (y)] 3 rfl (heap_alloc_new w6 _) rfl (by simp [Value.oneCell']) (by omega) (by simp; omega) ?_); refine Hid.out ?_)
          refine Lib.hid ?_
          intro v' wf h1 hg hb
          obtain ⟨oa', oc', rfl⟩ := owns_slice h1
          have AF := Lib.hid (A6.out.push h1 hg hp.2 hy_)
          clear h1 hg hb A6
          go_wp2_with fail
          exact ⟨⟨_, i - 1, xs ++ [y], rfl, by go_num, by have := HLN.out; simp; omega, by omega, AF.out⟩, by simp [intOf]; omega⟩
        · have hz' : ¬ z = 0 := hz
          go_wp2_with fail
          (with_reducible refine (dnext_any B _ p 5 A2.out.dc (by omega) (by omega)).mono ?_)
          rintro r w3 ⟨x, rfl, hx, hd, hg⟩
          have A3 := Lib.hid (A2.out.draw hd hg hp.2)
          clear hd hg A2
          have hy_ : -100 ≤ x - 2 ∧ x - 2 ≤ 100 := by omega
          have hz_ := blkLe A3.out.g
          go_wp2_with (at_builtin; (refine pushAt rfl _ _ 22 rfl w.heap.size 3 (.int .i64 0) 1 8 Tryz.underlying22 Tryz.infoIntD rfl (by decide) (by decide) _ _ _ rfl (A3.out.own.alloc _) w3.heap.size 1 [.int .i64 (x - 2)] 3 rfl (heap_alloc_new w3 _) rfl (by simp [Value.oneCell']) (by omega) (by simp; omega) ?_); refine Hid.out ?_)
          refine Lib.hid ?_
          intro v' wf h1 hg hb
          obtain ⟨oa', oc', rfl⟩ := owns_slice h1
          have AF := Lib.hid (A3.out.push h1 hg hp.2 hy_)
          clear h1 hg hb A3
          go_wp2_with fail
          exact ⟨⟨_, i - 1, xs ++ [x - 2], rfl, by go_num, by have := HLN.out; simp; omega, by omega, AF.out⟩, by simp [intOf]; omega⟩
      · have hl' : 0 < l := by omega
        go_wp2_with fail
        (with_reducible refine (dnext_any B _ p 5 AR.out.dc (by omega) (by omega)).mono ?_)
        rintro r w2 ⟨x, rfl, hx, hd, hg⟩
        have A2 := Lib.hid (AR.out.draw hd hg hp.2)
        clear hd hg AR
        go_wp2_with fail
        (with_reducible refine (dnext_any B _ p 60 A2.out.dc (by omega) (by omega)).mono ?_)
        rintro r w3 ⟨c, rfl, hc, hd, hg⟩
        have A3 := Lib.hid (A2.out.draw hd hg hp.2)
        clear hd hg A2
        go_wp2_with fail
        (with_reducible refine (dnext_any B _ p 2 A3.out.dc (by omega) (by omega)).mono ?_)
        rintro r w4 ⟨s, rfl, hs, hd, hg⟩
        have A4 := Lib.hid (A3.out.draw hd hg hp.2)
        clear hd hg A3
        obtain ⟨y, hy⟩ : ∃ y, (c + 20) * (1 - 2 * s) = y := ⟨_, rfl⟩
        have hyb : -80 ≤ y ∧ y ≤ 80 := by
          have hs' : s = 0 ∨ s = 1 := by omega
          rcases hs' with rfl | rfl <;> omega
        have wy_ : wrap64 ((c + 20) * (1 - 2 * s)) = y := by rw [IntWalk.wrap64_in _ (by omega)]; exact hy
        have hy_ : -100 ≤ y ∧ y ≤ 100 := by omega
        have hz_ := blkLe A4.out.g
        go_wp2_with (at_builtin; (refine pushAt rfl _ _ 22 rfl w.heap.size 3 (.int .i64 0) 1 8 Tryz.underlying22 Tryz.infoIntD rfl (by decide) (by decide) _ _ _ rfl (A4.out.own.alloc _) w4.heap.size 1 [.int .i64 (y)] 3 rfl (heap_alloc_new w4 _) rfl (by simp [Value.oneCell']) (by omega) (by simp; omega) ?_); refine Hid.out ?_)
        refine Lib.hid ?_
        intro v' wf h1 hg hb
        obtain ⟨oa', oc', rfl⟩ := owns_slice h1
        have AF := Lib.hid (A4.out.push h1 hg hp.2 hy_)
        clear h1 hg hb A4
        go_wp2_with fail
        exact ⟨⟨_, i - 1, xs ++ [y], rfl, by go_num, by have := HLN.out; simp; omega, by omega, AF.out⟩, by simp [intOf]; omega⟩
    · go_wp2_with fail
      go_ret
      have := HLN.out
      exact ⟨_, xs, rfl, AR.out.own, by omega, by omega, AR.out.sm, AR.out.dc, AR.out.g⟩
end Go.Proofs.YtlddgafbgaaiiaaGreatDoor
