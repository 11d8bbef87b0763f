/- AwkH -/
import Derived.Test.YtlddgafbgaaiiaaGreatDoorTsAwkT
set_option linter.all false
set_option maxRecDepth 100000
set_option maxHeartbeats 0
namespace Go.Proofs.YtlddgafbgaaiiaaGreatDoor.Awk
open Go Go.Proofs Go.Proofs.YtlddgafbgaaiiaaGreatDoor Go.Proofs.YtlddgafbgaaiiaaGreatDoor.Evl
theorem table_any (w : World) : Calls Tryz.prog 176 #[] w fun e w' => e = .returned (.agg (tblV.map (Value.int .i64)).toArray) ∧ w.grownBy w' none :=
  call_closed (ev_sound good mixed 2000 40) table_run
theorem hk_of {N f : Nat} {fn : Func} {args : List AV} {s : St} {r : AV} (h1 : Tryz.prog.funcs[f]? = some fn) (h2 : (fn.name == "runtime.NumGoroutine") = false) (h3 : fn.body.isNone = false) (hok : ∀ m, r.ok m)
    (hc : ∀ m w, Rep N m s.H w → (∀ x ∈ args, x.ok m) → Calls Tryz.prog f (args.map (AV.den m)).toArray w fun e w' => e = .returned (r.den m) ∧ w.grownBy w' none) :
    (∃ fn, Tryz.prog.funcs[f]? = some fn ∧ (fn.name == "runtime.NumGoroutine") = false ∧ fn.body.isNone = false) ∧
    ∀ m w, Rep N m s.H w → N ≤ w.heap.size → Fresh m s s → Low s → (∀ x ∈ args, x.ok m) →
      Calls Tryz.prog f (args.map (AV.den m)).toArray w fun e w' => ∃ m', e = .returned (r.den m') ∧ r.ok m' ∧ Did N m s s w m' w' :=
  ⟨⟨fn, h1, h2, h3⟩, fun m w hr _ _ _ ha => (hc m w hr ha).mono fun _ _ ⟨e, hg⟩ => ⟨m, e, hok m, did_grown hr hg⟩⟩
theorem bytes_ext {b : ByteArray} {l : List UInt8} (h : b.data.toList = l) : b = ⟨l.toArray⟩ := by subst h; rfl
theorem putK (N : Nat) (args : List AV) (s : St) (v : AV) (s' : St) (h : hkPut args s = some (v, s')) : (∃ fn, Tryz.prog.funcs[(44 : Nat)]? = some fn ∧ (fn.name == "runtime.NumGoroutine") = false ∧ fn.body.isNone = false) ∧
    ∀ m w, Rep N m s.H w → N ≤ w.heap.size → Fresh m s s' → Low s → (∀ x ∈ args, x.ok m) →
      Calls Tryz.prog 44 (args.map (AV.den m)).toArray w fun e w' => ∃ m', e = .returned (v.den m') ∧ v.ok m' ∧ Did N m s s' w m' w' := by
  unfold hkPut at h
  split at h
  · rename_i s_ b n w
    cases hc : (Nat.ble b.data.toList.length 1000 && decide (1 ≤ w) && decide (w ≤ 7) && decide (0 ≤ n) && decide (n < 2 ^ (8 * w.toNat))) with
    | false => rw [hc] at h; cases h
    | true =>
      rw [hc, cond_true] at h
      simp only [Option.some.injEq, Prod.mk.injEq] at h
      obtain ⟨rfl, rfl⟩ := h
      simp only [Bool.and_eq_true, decide_eq_true_eq, Nat.ble_eq] at hc
      obtain ⟨⟨⟨⟨c1, c2⟩, c3⟩, c4⟩, c5⟩ := hc
      have hb : b.size ≤ 1000 := by rw [Array.length_toList] at c1; exact c1
      refine hk_of Tryz.func44 (by kernel_rfl) (by kernel_rfl) (fun m x hx => ?_) (fun m u hr ha => ?_)
      · rcases List.mem_cons.1 hx with e | hx
        · rw [e]; exact trivial
        · rw [List.mem_singleton.1 hx]; exact trivial
      · obtain ⟨k, rfl⟩ := Int.eq_ofNat_of_zero_le (show 0 ≤ w by omega)
        exact put_any b n k u hb ⟨by omega, by omega⟩ ⟨c4, c5⟩
  · cases h
theorem joinK (N : Nat) (args : List AV) (s : St) (v : AV) (s' : St) (h : hkJoin args s = some (v, s')) : (∃ fn, Tryz.prog.funcs[(76 : Nat)]? = some fn ∧ (fn.name == "runtime.NumGoroutine") = false ∧ fn.body.isNone = false) ∧
    ∀ m w, Rep N m s.H w → N ≤ w.heap.size → Fresh m s s' → Low s → (∀ x ∈ args, x.ok m) →
      Calls Tryz.prog 76 (args.map (AV.den m)).toArray w fun e w' => ∃ m', e = .returned (v.den m') ∧ v.ok m' ∧ Did N m s s' w m' w' := by
  unfold hkJoin at h
  split at h
  · rename_i s_ n off len c sep
    split at h
    · rename_i cs ty more hrow
      cases hc : (Nat.beq len 4 && Nat.ble 4 c && Nat.ble c 1000 && decide (sep.data.toList = [46]) && decide (((cs.drop off).take 4).map strOf = [some [71, 82], some [70, 85, 82], some [], some [72, 72, 90]])) with
      | false => rw [hc] at h; cases h
      | true =>
        rw [hc, cond_true] at h
        simp only [Option.some.injEq, Prod.mk.injEq] at h
        obtain ⟨rfl, rfl⟩ := h
        simp only [Bool.and_eq_true, decide_eq_true_eq, Nat.ble_eq] at hc
        obtain ⟨⟨⟨⟨c1, c2⟩, c3⟩, c4⟩, c5⟩ := hc
        obtain rfl := Nat.eq_of_beq_eq_true c1
        obtain rfl := bytes_ext c4
        refine hk_of Tryz.func76 (by kernel_rfl) (by kernel_rfl) (fun m => trivial) (fun m u hr ha => ?_)
        have hn : m.dom n := (ha _ List.mem_cons_self).1
        obtain ⟨rest, h1, h2, h3, h4, -⟩ := hr.row hn hrow
        have hcell : ∀ i x, i < 4 → (((cs.drop off).take 4).map strOf)[i]? = some (some x) → u.cell? ⟨m.ρ n, off + i, none⟩ = some (.string ⟨x.toArray⟩) := by
          intro i x hi hx
          rw [List.getElem?_map, List.getElem?_take, if_pos hi, List.getElem?_drop] at hx
          obtain ⟨y, hy, hyx⟩ := Option.map_eq_some_iff.1 hx
          have hy2 : y.den m = .string ⟨x.toArray⟩ := by
            unfold strOf at hyx
            split at hyx
            · simp only [Option.some.injEq] at hyx
              rw [bytes_ext hyx]; rfl
            · cases hyx
          rw [cell_of h1, List.getElem?_append_left (by rw [List.length_map]; exact (List.getElem?_eq_some_iff.1 hy).1), List.getElem?_map, hy, Option.map_some, hy2]
        rw [c5] at hcell
        exact join4_any (m.ρ n) off c u h4 ⟨c2, c3⟩ (hcell 0 _ (by decide) rfl) (hcell 1 _ (by decide) rfl) (hcell 2 _ (by decide) rfl) (hcell 3 _ (by decide) rfl)
    · cases h
  · cases h
theorem cntK (N : Nat) (args : List AV) (s : St) (v : AV) (s' : St) (h : hkCount args s = some (v, s')) : (∃ fn, Tryz.prog.funcs[(226 : Nat)]? = some fn ∧ (fn.name == "runtime.NumGoroutine") = false ∧ fn.body.isNone = false) ∧
    ∀ m w, Rep N m s.H w → N ≤ w.heap.size → Fresh m s s' → Low s → (∀ x ∈ args, x.ok m) →
      Calls Tryz.prog 226 (args.map (AV.den m)).toArray w fun e w' => ∃ m', e = .returned (v.den m') ∧ v.ok m' ∧ Did N m s s' w m' w' := by
  unfold hkCount at h
  split at h
  · rename_i s_ x y
    split at h
    · rename_i c hy
      simp only [Option.some.injEq, Prod.mk.injEq] at h
      obtain ⟨rfl, rfl⟩ := h
      obtain rfl := bytes_ext hy
      exact hk_of Tryz.func226 (by kernel_rfl) (by kernel_rfl) (fun m => trivial) (fun m u hr ha => (Tryz.strings_Count_one x c u).mono fun e w' ⟨h1, h2⟩ => ⟨h1, h2 ▸ gb_refl _ _⟩)
    · cases h
  · cases h
theorem idxK (N : Nat) (args : List AV) (s : St) (v : AV) (s' : St) (h : hkIndex args s = some (v, s')) : (∃ fn, Tryz.prog.funcs[(250 : Nat)]? = some fn ∧ (fn.name == "runtime.NumGoroutine") = false ∧ fn.body.isNone = false) ∧
    ∀ m w, Rep N m s.H w → N ≤ w.heap.size → Fresh m s s' → Low s → (∀ x ∈ args, x.ok m) →
      Calls Tryz.prog 250 (args.map (AV.den m)).toArray w fun e w' => ∃ m', e = .returned (v.den m') ∧ v.ok m' ∧ Did N m s s' w m' w' := by
  unfold hkIndex at h
  split at h
  · rename_i s_ x y
    split at h
    · rename_i c hy
      simp only [Option.some.injEq, Prod.mk.injEq] at h
      obtain ⟨rfl, rfl⟩ := h
      obtain rfl := bytes_ext hy
      exact hk_of Tryz.func250 (by kernel_rfl) (by kernel_rfl) (fun m => trivial) (fun m u hr ha => (Tryz.stringslite_Index_one x c u).mono fun e w' ⟨h1, h2⟩ => ⟨h1, h2 ▸ gb_refl _ _⟩)
    · cases h
  · cases h
theorem tbK (N : Nat) (args : List AV) (s : St) (v : AV) (s' : St) (h : hkTb args s = some (v, s')) : (∃ fn, Tryz.prog.funcs[(176 : Nat)]? = some fn ∧ (fn.name == "runtime.NumGoroutine") = false ∧ fn.body.isNone = false) ∧
    ∀ m w, Rep N m s.H w → N ≤ w.heap.size → Fresh m s s' → Low s → (∀ x ∈ args, x.ok m) →
      Calls Tryz.prog 176 (args.map (AV.den m)).toArray w fun e w' => ∃ m', e = .returned (v.den m') ∧ v.ok m' ∧ Did N m s s' w m' w' := by
  unfold hkTb at h
  split at h
  · simp only [Option.some.injEq, Prod.mk.injEq] at h
    obtain ⟨rfl, rfl⟩ := h
    have hden : ∀ m : Nm, AV.den m (.o (.agg tblC)) = .agg (tblV.map (Value.int .i64)).toArray := fun m => by
      show Value.agg (tblC.map (Cl.den m)).toArray = _
      simp only [tblC, List.map_map]
      rfl
    refine hk_of Tryz.func176 (by kernel_rfl) (by kernel_rfl) (fun m x hx => ?_) (fun m u hr ha => ?_)
    · unfold tblC at hx
      obtain ⟨y, -, rfl⟩ := List.mem_map.1 hx
      exact trivial
    · rw [hden]; exact table_any u
  · cases h
theorem HK0_ok (N : Nat) : CallOk Tryz.prog N HK0 := by
  intro f args s v s' h
  unfold HK0 at h
  cases e1 : Nat.beq f 44 with
  | true => rw [e1, cond_true] at h; rw [Nat.eq_of_beq_eq_true e1]; exact putK N args s v s' h
  | false =>
  rw [e1, cond_false] at h
  cases e2 : Nat.beq f 76 with
  | true => rw [e2, cond_true] at h; rw [Nat.eq_of_beq_eq_true e2]; exact joinK N args s v s' h
  | false =>
  rw [e2, cond_false] at h
  cases e3 : Nat.beq f 226 with
  | true => rw [e3, cond_true] at h; rw [Nat.eq_of_beq_eq_true e3]; exact cntK N args s v s' h
  | false =>
  rw [e3, cond_false] at h
  cases e4 : Nat.beq f 250 with
  | true => rw [e4, cond_true] at h; rw [Nat.eq_of_beq_eq_true e4]; exact idxK N args s v s' h
  | false =>
  rw [e4, cond_false] at h
  cases e5 : Nat.beq f 176 with
  | true => rw [e5, cond_true] at h; rw [Nat.eq_of_beq_eq_true e5]; exact tbK N args s v s' h
  | false => rw [e5, cond_false] at h; cases h
end Go.Proofs.YtlddgafbgaaiiaaGreatDoor.Awk
