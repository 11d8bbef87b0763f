/- FilC -/
import Derived.Laws.AppendOwnNone
import Derived.Lib.AppendZerosOnto
import Derived.Lib.SliceRun
import Derived.Test.YtlddgafbgaaiiaaGreatDoorTsFilV
namespace Go.Proofs.YtlddgafbgaaiiaaGreatDoor
set_option linter.all false
open Go.RowKit Rg
/-- A slice without an address has no room. -/
def NilOk (v : Value) : Prop := ∀ n c, v = .slice none n c → n = 0 ∧ c = 0
theorem pushS {P : Program} {w : World} {ops : Array Oper} {rest : List Oper} {o : Oper} {a : Act} {Q : Exit → Act → World → Prop} (hgd : o.guard = none) (s x : Operand) (t : TypeId)
    (ho : o.op = .call { callee := .builtin .append, args := #[s, x], argTypes := #[t, t] })
    (base : Nat) (e : TypeId) (ht : P.underlying t = some (.slice e)) (hinfo : (P.info? e).map (fun i => (i.zero, i.size, i.bytes)) = some (some (.int .i64 0), 1, 8))
    (v : Value) (n : Nat) (xs : List Value) (hs : a.eval s = v) (hown : w.ownsRow base e 1 v n xs)
    (vx : Value) (ys : List Int) (hx : a.eval x = vx) (hS : Sl w vx ys) (hnn : NilOk vx) (hn : n ≤ 100000) (hl : ys.length ≤ 100000) (hbase : base ≤ w.heap.size)
    (h : ∀ v' w', w'.ownsRow base e 1 v' (n + ys.length) (xs ++ ys.map (Value.int .i64)) → w.grownBy w' v.ownBlock → (v'.ownBlock = v.ownBlock ∨ v'.ownBlock = some w.heap.size) → wpList P ops Q rest (a.put o.dst v') w') : wpList P ops Q (o :: rest) a w := by
  obtain ⟨i0, hi, hz0, hz1, hz2⟩ := info_parts hinfo
  have hmax : ∀ k : Nat, k ≤ 200000 → k ≤ maxLen := fun k hk => by unfold maxLen; omega
  rcases hS with ⟨rfl, ad, c, rfl⟩ | ⟨b, off, c, rfl, hb, hc, hc2, hcell⟩
  · cases ad with
    | none =>
      obtain ⟨-, rfl⟩ := hnn _ _ rfl
      refine wpList_append_own_none hgd s x t ho base e i0 1 ht hi v n xs hs hown hx ?_
      exact h v w (by simpa using hown) (gb_refl _ _) (.inl rfl)
    | some ad =>
      refine wpList_append_own_at w hgd s x t ho base e i0 (.int .i64 0) 1 8 ht hi hz0 hz1 hz2 rfl (by decide) v n xs hs hown ad 0 c [] hx (by simp) (by simp) (by simp) (hmax _ (by omega)) (by omega) hbase (fun v' w' h2 h3 _ h4 => h v' w' (by simpa using h2) h3 h4)
  · refine wpList_append_own_at w hgd s x t ho base e i0 (.int .i64 0) 1 8 ht hi hz0 hz1 hz2 rfl (by decide) v n xs hs hown ⟨b, off, none⟩ ys.length c (ys.map (Value.int .i64)) hx (by simp) (fun j u hj => ?_) (fun u hu => ?_) (hmax _ (by omega)) (by omega) hbase (fun v' w' h2 h3 _ h4 => h v' w' h2 h3 h4)
    · have hadd : (⟨b, off, none⟩ : Addr).add j = ⟨b, off + j, none⟩ := by unfold Addr.add; split <;> simp_all
      rw [List.getElem?_map] at hj
      cases e : ys[j]? with
      | none => rw [e] at hj; simp at hj
      | some y =>
        rw [e] at hj; simp at hj; subst hj
        rw [hadd, hcell j (List.getElem?_eq_some_iff.1 e).1, e]; rfl
    · simp at hu; obtain ⟨y, -, rfl⟩ := hu; rfl
theorem wpList_appendRun {P : Program} {w : World} {ops : Array Oper} {rest : List Oper} {o : Oper} {a : Act} {Q : Exit → Act → World → Prop} (hgd : o.guard = none) (s x : Operand) (t tn : TypeId)
    (ho : o.op = .call { callee := .builtin .append, args := #[s, x], argTypes := #[t, tn] }) (vs vx : Value) (hs : a.eval s = vs) (hx : a.eval x = vx) (v : Value) (w' : World) (hr : ∀ ty, (Builtin.append_ #[t, tn] ty #[vs, vx]).run P w = .ok v w')
    (h : wpList P ops Q rest (a.put o.dst v) w') : wpList P ops Q (o :: rest) a w := by
  refine wpList_plain hgd fun K hK => ?_
  unfold Oper.wp execOp
  simp only [ho, resolve, invoke, builtin, Sem.run_bind, Sem.run_pure, Result.andThen_ok, List.map_toArray, List.map_cons, List.map_nil, hs, hx, hr]
  exact hK _ _ h
set_option maxRecDepth 100000 in
set_option maxHeartbeats 1000000 in
theorem clone_any (xs : List Int) (v : Value) (w : World) (hs : Sl w v xs) (hnn : NilOk v) (hl : xs.length ≤ 1000) :
    Calls Tryz.prog 30 #[v] w fun e w' => ∃ v', e = .returned v' ∧ w'.ownsRow w.heap.size 3 1 v' xs.length (xs.map (Value.int .i64)) ∧ w.grownBy w' none := by
  have ho : ∃ a c, v = .slice a xs.length c := by rcases hs with ⟨rfl, a, c, e⟩ | ⟨b', off', cap', e, -⟩ <;> exact ⟨_, _, e⟩
  obtain ⟨a, c, rfl⟩ := ho
  have hx0 : a = none → xs = [] := fun e => by subst e; exact List.length_eq_zero_iff.1 (hnn _ _ rfl).1
  have HS := Lib.hid hs; have HN := Lib.hid hnn
  have R0 := Lib.hid (World.ownsRow_made (base := w.heap.size) (e := 3) (size := 1) w #[] 0 (Nat.le_refl _) (Nat.zero_le _) rfl)
  have G0 := Lib.hid (gb_alloc (gb_refl w none) (.cells #[] 3))
  have q22 : ∀ (w : World) (a : Option Addr) (n c n' c' : Nat), (binOp .eql 22 (.slice a n c) (.slice none n' c')).run Tryz.prog w = .ok (.bool a.isNone) w := fun w a n c n' c' => Lib.run_eql_slice_nil w _ _ a n c n' c' Tryz.underlying22
  clear hs hnn
  cases a with
  | none =>
    obtain rfl := hx0 rfl
    go_enter Tryz.func30, Tryz.ntmps30
    go_wp2
    go_ret
    exact ⟨_, rfl, World.ownsRow_nil _ _ _ _, gb_refl _ _⟩
  | some a =>
    go_enter Tryz.func30, Tryz.ntmps30
    go_wp2_with (at_builtin; go_loud (refine pushS rfl _ _ 22 rfl w.heap.size 3 Tryz.underlying22 Tryz.infoIntD _ 0 [] rfl R0.out _ xs rfl (HS.out.later G0.out (by simp)) HN.out (by omega) (by omega) (by simp) ?_); refine Hid.out ?_)
    refine Lib.hid ?_
    intro v' w' h1 hg hb
    have G1 := Lib.hid (gbNew G0.out hg (fun k hk => by have := (R0.out.lt k hk).1; omega))
    obtain ⟨oa, oc, hv⟩ := owns_slice h1
    subst hv
    have R1 := Lib.hid h1
    clear h1 hg hb
    go_wp2_with fail
    go_ret
    exact ⟨_, rfl, by simpa using R1.out, G1.out⟩
set_option maxRecDepth 100000 in
set_option maxHeartbeats 1000000 in
theorem grow_any (n : Nat) (w : World) (hn : n ≤ 100000) :
    Calls Tryz.prog 64 #[.slice none 0 0, .int .i64 n] w fun e w' => ∃ v', e = .returned v' ∧ w'.ownsRow w.heap.size 3 1 v' 0 [] ∧ w.grownBy w' none := by
  by_cases h0 : n = 0
  · subst h0
    go_enter Tryz.func64, Tryz.ntmps64
    go_wp2
    go_ret
    exact ⟨_, rfl, World.ownsRow_nil _ _ _ _, gb_refl _ _⟩
  obtain ⟨i0, hi, hz0, hz1, hz2⟩ := info_parts Tryz.infoIntD
  have hrz : ∀ ty, (Builtin.append_ #[22, 3] ty #[.slice none 0 0, .int .i64 (n : Int)]).run Tryz.prog w =
      .ok (.slice (some ⟨w.heap.size, 0, none⟩) n (grownCap w n 0 3)) (w.drew.alloc (.cells (Builtin.zeroCells (Value.int .i64 0).cells n ++ Builtin.zeroCells (Value.int .i64 0).cells (grownCap w n 0 3 - n)) 3)) := fun ty => by
    have h := Lib.run_append_grow_zeros (P := Tryz.prog) w 22 3 ty 3 i0 (.int .i64 0) .i64 .i64 Tryz.underlying22 (by first | exact Tryz.underlying3 | kernel_rfl) hi hz0 none 0 0 [] (run_firstCells_none w.drew i0.size 0 0 0) n (by omega) (by omega) (by omega) (by omega) (by rw [hz2]; omega) (by rw [hz2, Nat.zero_add]; exact growslice_fits (by omega) (by omega))
    simpa using h
  have hG : n ≤ grownCap w n 0 3 := grownCap_ge w _ _ _
  have hGm : grownCap w n 0 3 ≤ maxLen := grownCap_le_maxLen w n 0 3 (by unfold maxLen; omega)
  have hwn : wrap64 ((n : Int) - ((0 : Nat) : Int)) = n := IntWalk.wrap64_in _ (by omega)
  generalize grownCap w n 0 3 = G at *
  have hG63 : G ≤ 9223372036854775807 := by unfold maxLen at hGm; exact hGm
  have hzc : (Builtin.zeroCells (Value.int .i64 0).cells n ++ Builtin.zeroCells (Value.int .i64 0).cells (G - n)).size = G * 1 := by simp [Builtin.zeroCells, show (Value.int .i64 0).cells.size = 1 from rfl]; omega
  generalize hcs : Builtin.zeroCells (Value.int .i64 0).cells n ++ Builtin.zeroCells (Value.int .i64 0).cells (G - n) = cs at *
  have R0 := Lib.hid (World.ownsRow_made (base := w.heap.size) (e := 3) (size := 1) w.drew cs G (Nat.le_refl _) hGm hzc)
  have G0 : Hid (w.grownBy (w.drew.alloc (.cells cs 3)) none) := Lib.hid (gb_alloc (gb_drew (gb_refl w none)) _)
  have hn0 : (n : Int) > 0 := by omega
  clear hcs hzc hi hz0 hz1 hz2
  go_enter Tryz.func64, Tryz.ntmps64
  go_wp2_with (at_builtin; go_loud (refine wpList_appendRun rfl _ _ 22 3 rfl _ _ rfl rfl _ _ hrz ?_); refine Hid.out ?_)
  refine Lib.hid ?_
  clear hrz
  go_wp2_with fail
  go_ret
  exact ⟨_, rfl, R0.out, G0.out⟩
theorem Sl.shape' {w : World} {v : Value} {xs : List Int} (h : Sl w v xs) : ∃ a c, v = .slice a xs.length c := by rcases h with ⟨rfl, a, c, e⟩ | ⟨b', off', cap', e, -⟩ <;> exact ⟨_, _, e⟩
/-- What is joined so far. -/
def catL (xs ys : List Int) : Nat → List Int
  | 0 => []
  | 1 => xs
  | _ => xs ++ ys
set_option maxRecDepth 100000 in
set_option maxHeartbeats 2000000 in
theorem concat2_any (b : Nat) (v1 v2 : Value) (xs ys : List Int) (w : World) (hb : w.heap[b]? = some (.cells #[v1, v2] 22 (0, 0))) (h1 : Sl w v1 xs) (h2 : Sl w v2 ys) (n1 : NilOk v1) (n2 : NilOk v2) (l1 : xs.length ≤ 1000) (l2 : ys.length ≤ 1000) :
    Calls Tryz.prog 34 #[.slice (some ⟨b, 0, none⟩) 2 2] w fun e w' => ∃ v', e = .returned v' ∧ w'.ownsRow w.heap.size 3 1 v' (xs ++ ys).length ((xs ++ ys).map (Value.int .i64)) ∧ w.grownBy w' none := by
  obtain ⟨a1, c1, rfl⟩ := h1.shape'
  obtain ⟨a2, c2, rfl⟩ := h2.shape'
  have H1 := Lib.hid h1; have H2 := Lib.hid h2; have N1 := Lib.hid n1; have N2 := Lib.hid n2
  have HB := Lib.hid hb
  have x0_ := cellD hb 0 _ rfl
  have x1_ := cellD hb 1 _ rfl
  have GR := Lib.hid (grow_any (xs.length + ys.length) w (by omega))
  clear h1 h2 n1 n2 hb
  go_enter Tryz.func34, Tryz.ntmps34
  go_wp2
  go_loop [3, 5, 11] (fun s _ k => ∃ m : Nat, m ≤ 2 ∧ k = .int .i64 m ∧ s = .int .i64 (if m = 0 then 0 else if m = 1 then xs.length else (xs.length : Int) + ys.length)) (fun _ _ k => 2 - (intOf k).toNat)
  case atStart => exact ⟨0, by omega, rfl, rfl⟩
  case round =>
    obtain ⟨m, hm, rfl, rfl⟩ := hrel
    match m, hm with
    | 0, _ =>
      simp only [if_true] at *
      go_wp2
      go_round
      case rel => exact ⟨1, by omega, by go_num, by go_num⟩
      case measure => simp [intOf]
    | 1, _ =>
      go_wp2
      go_round
      case rel => exact ⟨2, by omega, by go_num, by go_num⟩
      case measure => simp [intOf]
    | 2, _ =>
      go_wp2_with (go_at_call 64; (refine GR.out.mono ?_); rintro e w1 ⟨v0, rfl, ho, hg⟩; obtain ⟨oa, oc, rfl⟩ := owns_slice ho; have O1 := Lib.hid ho; have G1 := Lib.hid hg; clear ho hg)
      clear GR
      go_loopw [6, 8, 27] (fun nv _ k wr => ∃ m : Nat, m ≤ 2 ∧ k = .int .i64 m ∧ wr.ownsRow w.heap.size 3 1 nv (catL xs ys m).length ((catL xs ys m).map (Value.int .i64)) ∧ w.grownBy wr none) (fun _ _ k _ => 2 - (intOf k).toNat)
      case atStart => exact ⟨0, by omega, rfl, O1.out, G1.out⟩
      case round =>
        obtain ⟨m, hm, rfl, hao, hag⟩ := hrel
        have AO := Lib.hid hao; have AG := Lib.hid hag
        obtain ⟨oa', oc', hv⟩ := owns_slice hao
        subst hv
        clear hao hag O1 G1
        match m, hm with
        | 0, _ =>
          have c_ := (gb_cell AG.out (blkLt HB.out) (o := 0) (by simp)).trans x0_
          have hln : (catL xs ys 0).length ≤ 2000 := by simp only [catL, List.length_nil, List.length_append]; omega
          go_wp2_with (at_builtin; go_loud (refine pushS rfl _ _ 22 rfl w.heap.size 3 Tryz.underlying22 Tryz.infoIntD _ _ _ rfl AO.out _ xs rfl (H1.out.later AG.out (by simp)) N1.out (Nat.le_trans hln (by decide)) (by omega) (blkLe AG.out) ?_); refine Hid.out ?_)
          refine Lib.hid ?_
          intro v' w' h1 hg hb
          have G1 := Lib.hid (gbNew AG.out hg (fun k hk => (AO.out.lt k hk).1))
          obtain ⟨oa', oc', hv⟩ := owns_slice h1
          subst hv
          have R1 := Lib.hid h1
          clear h1 hg hb c_ AO AG
          go_wp2_with fail
          exact ⟨⟨1, by omega, by go_num, by have h := R1.out; rw [← List.map_append, show catL xs ys 0 ++ xs = catL xs ys 1 by simp [catL]] at h; rw [show (catL xs ys 1).length = (catL xs ys 0).length + xs.length by simp [catL]]; exact h, G1.out⟩, by simp [intOf]⟩
        | 1, _ =>
          have c_ := (gb_cell AG.out (blkLt HB.out) (o := 1) (by simp)).trans x1_
          have hln : (catL xs ys 1).length ≤ 2000 := by simp only [catL, List.length_nil, List.length_append]; omega
          go_wp2_with (at_builtin; go_loud (refine pushS rfl _ _ 22 rfl w.heap.size 3 Tryz.underlying22 Tryz.infoIntD _ _ _ rfl AO.out _ ys rfl (H2.out.later AG.out (by simp)) N2.out (Nat.le_trans hln (by decide)) (by omega) (blkLe AG.out) ?_); refine Hid.out ?_)
          refine Lib.hid ?_
          intro v' w' h1 hg hb
          have G1 := Lib.hid (gbNew AG.out hg (fun k hk => (AO.out.lt k hk).1))
          obtain ⟨oa', oc', hv⟩ := owns_slice h1
          subst hv
          have R1 := Lib.hid h1
          clear h1 hg hb c_ AO AG
          go_wp2_with fail
          exact ⟨⟨2, by omega, by go_num, by have h := R1.out; rw [← List.map_append, show catL xs ys 1 ++ ys = catL xs ys 2 by simp [catL]] at h; rw [show (catL xs ys 2).length = (catL xs ys 1).length + ys.length by simp [catL]]; exact h, G1.out⟩, by simp [intOf]⟩
        | 2, _ =>
          go_wp2_with fail
          go_ret
          exact ⟨_, rfl, by simpa [catL] using AO.out, AG.out⟩
end Go.Proofs.YtlddgafbgaaiiaaGreatDoor
