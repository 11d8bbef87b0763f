/- Put -/
import Derived.Lib.ConvBytes
import Derived.Laws.BytesArg
import Derived.ArgAppend
import Derived.Test.YtlddgafbgaaiiaaGreatDoorTsDic
namespace Go.Proofs.YtlddgafbgaaiiaaGreatDoor
set_option linter.all false
open Go.RowKit Rg
def putL (n : Nat) : Nat → List UInt8
  | 0 => []
  | k + 1 => UInt8.ofNat (n / 2 ^ (8 * k) % 256) :: putL n k
def putB (b : ByteArray) (n wd : Nat) : ByteArray := ⟨(b.data.toList ++ putL n wd).toArray⟩
theorem putL_length (n : Nat) : ∀ k, (putL n k).length = k
  | 0 => rfl
  | k + 1 => by simp [putL, putL_length n k]
theorem putL_get (n : Nat) : ∀ (wd j : Nat), j < wd → (putL n wd)[j]? = some (UInt8.ofNat (n / 2 ^ (8 * (wd - 1 - j)) % 256))
  | wd + 1, 0, _ => by simp [putL]
  | wd + 1, j + 1, h => by
    rw [putL, List.getElem?_cons_succ, putL_get n wd j (by omega), show wd + 1 - 1 - (j + 1) = wd - 1 - j by omega]
theorem putL_take (n : Nat) {wd j : Nat} (h : j < wd) : (putL n wd).take (j + 1) = (putL n wd).take j ++ [UInt8.ofNat (n / 2 ^ (8 * (wd - 1 - j)) % 256)] := by
  have hl : j < (putL n wd).length := by rw [putL_length]; exact h
  rw [List.take_succ_eq_append_getElem hl]
  have := putL_get n wd j h
  rw [List.getElem?_eq_getElem hl] at this
  rw [Option.some.inj this]
/-- Bytes as cells. -/
def byC (l : List UInt8) : List Value := l.map fun b => .int .u8 b.toNat
/-- A row of bytes of one's own; behind its end it may bear the mark of a conversion. -/
def OwM (w : World) (B : Nat) (v : Value) (l : List UInt8) : Prop :=
  ∃ g cap cur fz, v = .slice (some ⟨g, 0, none⟩) l.length cap ∧ B ≤ g ∧ w.heap[g]? = some (.cells cur 5 fz) ∧ (fz = (0, 0) ∨ fz.1 = cap) ∧ l.length ≤ cap ∧ cap ≤ 9223372036854775807 ∧ cur.size = cap ∧ ∀ j, j < l.length → cur[j]? = (byC l)[j]?
theorem bin_any (n lo hi : Int) (w : World) (h1 : lo ≤ n) (h2 : n ≤ hi) :
    Calls Tryz.prog 81 #[.int .i64 n, .int .i64 lo, .int .i64 hi] w fun e w' => e = .returned (.bool true) ∧ w = w' := by
  go_enter Tryz.func81, Tryz.ntmps81
  go_wp2
  all_goals go_ret
  all_goals exact ⟨ret_bool (by first | rfl | (apply decide_eq_true; omega) | (simp; omega)), rfl⟩
theorem Tryz.infoByte : (Tryz.prog.info? 5).map (fun i => (i.zero, i.size, i.bytes)) = some (some (.int .u8 0), 1, 1) := by kernel_rfl
theorem gbBytes (w : World) (e : TypeId) (s : ByteArray) : w.grownBy (Lib.bytesWorld w e s) none :=
  ⟨rfl, rfl, rfl, by rw [Lib.bytesWorld_size]; omega, fun k hk _ => Lib.bytesWorld_at_old w e s k hk⟩
theorem OwM.start (w : World) (s : ByteArray) (hs : s.size ≤ 1000) : OwM (Lib.bytesWorld w 5 s) w.heap.size (.slice (some ⟨w.heap.size, 0, none⟩) s.size (grownCap w s.size 0 5)) s.data.toList := by
  have h1 : s.size ≤ grownCap w s.size 0 5 := grownCap_ge w _ _ _
  have h2 : grownCap w s.size 0 5 ≤ maxLen := grownCap_le_maxLen w _ 0 _ (by unfold maxLen; omega)
  have hl : s.data.toList.length = s.size := by simp
  have hz : (Lib.bytesCells w 5 s).size = grownCap w s.size 0 5 := by simp [Lib.bytesCells]; omega
  refine ⟨_, _, _, _, by rw [hl], Nat.le_refl _, Lib.bytesWorld_at_new w _ s, .inr hz, by omega, by unfold maxLen at h2; exact h2, hz, fun j hj => ?_⟩
  rw [hl] at hj
  simp [Lib.bytesCells, byC, Array.getElem?_append, hj]
theorem OwM.keep {w w' : World} {B : Nat} {v : Value} {l : List UInt8} (h : OwM w B v l) (hg : w.grownBy w' none) : OwM w' B v l := by
  obtain ⟨g, cap, cur, fz, e, hb, hh, rest⟩ := h
  exact ⟨g, cap, cur, fz, e, hb, kept0 hg hh, rest⟩
theorem OwM.of {w : World} {B n : Nat} {v : Value} {l : List UInt8} (h : w.ownsRow B 5 1 v n (byC l)) (hn : n = l.length) (h0 : 0 < l.length) : OwM w B v l := by
  subst hn
  rcases h.2 with ⟨-, e⟩ | ⟨g, cap, cur, rfl, hb, hg, hle, hcap, hsz, htk⟩
  · omega
  · refine ⟨g, cap, cur, _, rfl, hb, hg, .inl rfl, hle, by unfold maxLen at hcap; exact hcap, by omega, fun j hj => ?_⟩
    have := congrArg (fun l : List Value => l[j]?) htk
    simp only [Nat.mul_one] at this
    rw [List.getElem?_take_of_lt hj] at this
    simpa using this
theorem OwM.place {w : World} {B g cap : Nat} {cur : Array Value} {fz : Nat × Nat} {l : List UInt8} {x : UInt8} {o : Obj} (hb : B ≤ g) (hh : w.heap[g]? = some (.cells cur 5 fz)) (hf : fz = (0, 0) ∨ fz.1 = cap) (hn : l.length + 1 ≤ cap) (hm : cap ≤ 9223372036854775807) (hc : cur.size = cap) (hj : ∀ j, j < l.length → cur[j]? = (byC l)[j]?) :
    OwM ((w.setCell ⟨g, l.length, none⟩ (.int .u8 x.toNat)).alloc o) B (.slice (some ⟨g, 0, none⟩) (l.length + 1) cap) (l ++ [x]) := by
  refine OwM.keep ?_ (gb_alloc (gb_refl _ none) o)
  refine ⟨g, cap, cur.set! l.length (.int .u8 x.toNat), fz, by simp, hb, set_block hh _ _, hf, by simp; omega, hm, by simp [hc], fun j hjl => ?_⟩
  simp at hjl
  rw [Array.set!_eq_setIfInBounds, Array.getElem?_setIfInBounds]
  by_cases e : j = l.length
  · subst e
    rw [if_pos rfl, if_pos (by omega)]
    simp [byC]
  · rw [if_neg (by omega), hj j (by omega)]
    rw [show byC (l ++ [x]) = byC l ++ byC [x] by simp [byC], List.getElem?_append_left (by simp [byC]; omega)]
theorem OwM.mono {w : World} {B B' : Nat} {v : Value} {l : List UInt8} (h : OwM w B v l) (hb : B' ≤ B) : OwM w B' v l := by
  obtain ⟨g, cap, cur, fz, e, h1, rest⟩ := h
  exact ⟨g, cap, cur, fz, e, Nat.le_trans hb h1, rest⟩
theorem wpList_appendRunT {P : Program} {w : World} {ops : Array Oper} {rest : List Oper} {o : Oper} {a : Act} {Q : Exit → Act → World → Prop} (hgd : o.guard = none) (s x : Operand) (t tn : TypeId)
    (ho : o.op = .call { callee := .builtin .append, args := #[s, x], argTypes := #[t, tn] }) (vs vx : Value) (hs : a.eval s = vs) (hx : a.eval x = vx) (v : Value) (w' : World) (hr : (Builtin.append_ #[t, tn] o.type #[vs, vx]).run P w = .ok v w')
    (h : wpList P ops Q rest (a.put o.dst v) w') : wpList P ops Q (o :: rest) a w := by
  refine wpList_plain hgd fun K hK => ?_
  unfold Oper.wp execOp
  simp only [ho, resolve, invoke, builtin, Sem.run_bind, Sem.run_pure, Result.andThen_ok, List.map_toArray, List.map_cons, List.map_nil, hs, hx, hr]
  exact hK _ _ h
set_option maxRecDepth 100000 in
set_option maxHeartbeats 4000000 in
theorem put_any (b : ByteArray) (n : Int) (wd : Nat) (w : World) (hb : b.size ≤ 1000) (h1 : 1 ≤ wd ∧ wd ≤ 7) (hn : 0 ≤ n ∧ n < 2 ^ (8 * wd)) :
    Calls Tryz.prog 44 #[.string b, .int .i64 n, .int .i64 wd] w fun e w' => e = .returned (.tuple #[.string (putB b n.toNat wd), .int .i64 0]) ∧ w.grownBy w' none := by
  have hp : (2 : Int) ^ (8 * wd) ≤ 72057594037927936 ∧ 1 ≤ (2 : Int) ^ (8 * wd) := by
    obtain ⟨h1, h2⟩ := h1
    match wd, h1, h2 with
    | 1, _, _ | 2, _, _ | 3, _, _ | 4, _, _ | 5, _, _ | 6, _, _ | 7, _, _ => decide
  have hc := fun (u : World) => Lib.run_convert_string_bytes (P := Tryz.prog) u 9 171 5 b Tryz.underlying9 Tryz.underlying171 Tryz.underlying5
  have hw8 : ((8 * (wd : Int))).toNat = 8 * wd := by omega
  obtain ⟨Q, hQ⟩ : ∃ Q : Int, (2 : Int) ^ (8 * wd) = Q := ⟨_, rfl⟩
  rw [hQ] at hn hp
  have HQ := Lib.hid hQ
  have hwq : wrap64 Q = Q := IntWalk.wrap64_in _ (by omega)
  go_enter Tryz.func44, Tryz.ntmps44
  go_wp2_with (first | (go_at_call 81; refine (bin_any _ _ _ _ (by omega) (by first | omega | (simp only [hw8, hQ, hwq] at *; omega))).mono ?_; rintro e w' ⟨rfl, rfl⟩))
  have O0 := Lib.hid (OwM.start w b hb)
  have G0 := Lib.hid (gbBytes w 5 b)
  clear hc
  generalize Lib.bytesWorld w 5 b = w1 at *
  generalize grownCap w b.size 0 5 = c0 at *
  go_loopw [8, 9] (fun ov iv wr => ∃ k : Nat, k ≤ wd ∧ iv = .int .i64 ((k : Int) - 1) ∧ OwM wr w.heap.size ov (b.data.toList ++ (putL n.toNat wd).take (wd - k)) ∧ w.grownBy wr none) (fun _ iv _ => (intOf iv + 1).toNat)
  case atStart => exact ⟨wd, Nat.le_refl _, by go_num, by rw [Nat.sub_self, List.take_zero, List.append_nil]; exact O0.out, G0.out⟩
  case round =>
    obtain ⟨k, hk, rfl, ho, hg⟩ := hrel
    have G1 := Lib.hid hg
    clear O0 G0
    cases k with
    | zero =>
      obtain ⟨g, cap, cur, fz, rfl, hB, hh, hf, hn1, hm1, hc1, hj⟩ := ho
      obtain ⟨L, hL⟩ : ∃ L, b.data.toList ++ (putL n.toNat wd).take (wd - 0) = L := ⟨_, rfl⟩
      rw [hL] at hn1 hj ⊢
      have hst : strOfNums (L.map fun x => (x.toNat : Int)) = putB b n.toNat wd := by
        rw [← hL, Nat.sub_zero, List.take_of_length_le (by rw [putL_length]; exact Nat.le_refl _)]
        simp only [strOfNums, putB, List.map_map]
        congr 2
        conv => rhs; rw [← List.map_id (b.data.toList ++ putL n.toNat wd)]
        apply List.map_congr_left
        intro x _
        simp
      have hcv := run_convert_bytes_arg (P := Tryz.prog) wr 171 5 Tryz.underlying171 Tryz.underlying5 g 0 L.length cap (L.map fun x => (x.toNat : Int)) (by simp) (fun i hi => by
        rw [Nat.zero_add]
        refine cellD hh i _ ?_
        rw [hj i hi, byC, List.getElem?_map, List.getElem?_eq_getElem hi, List.getD_eq_getElem?_getD, List.getElem?_map, List.getElem?_eq_getElem hi]
        rfl) 9 Tryz.underlying9
      rw [hst] at hcv
      have hz : ((0 : Nat) : Int) - 1 = -1 := by omega
      clear hh hj hst hL
      rw [hz]
      go_wp2_with fail
      go_ret2
      exact ⟨rfl, G1.out⟩
    | succ j =>
      have hj8 : (8 * (j : Int)).toNat = 8 * j := by omega
      have hjw : ((j + 1 : Nat) : Int) - 1 = (j : Int) := by omega
      obtain ⟨x, hx⟩ : ∃ x : UInt8, UInt8.ofNat (n.toNat / 2 ^ (8 * j) % 256) = x := ⟨_, rfl⟩
      have hTK := Lib.hid (putL_take n.toNat (wd := wd) (j := wd - (j + 1)) (by omega))
      rw [show wd - 1 - (wd - (j + 1)) = j by omega, hx, show wd - (j + 1) + 1 = wd - j by omega] at hTK
      obtain ⟨l, hl⟩ : ∃ l, b.data.toList ++ (putL n.toNat wd).take (wd - (j + 1)) = l := ⟨_, rfl⟩
      have HL := Lib.hid hl
      rw [hl] at ho
      have hll : l.length ≤ 2000 := by rw [← hl]; simp [putL_length]; omega
      have hxv : IntKind.u8.wrap (n / 2 ^ (8 * j)) = (x.toNat : Int) := by
        rw [← hx]
        obtain ⟨N, rfl⟩ := Int.eq_ofNat_of_zero_le hn.1
        have e1 : ((N : Int) / 2 ^ (8 * j)) = ((N / 2 ^ (8 * j) : Nat) : Int) := by norm_cast
        have e2 : (2 : Nat) ^ (8 * j) > 0 := Nat.pow_pos (by omega)
        rw [e1, Int.toNat_natCast]
        generalize N / 2 ^ (8 * j) = M
        rw [IntKind.wrap_u8]
        simp
      clear hl hx
      obtain ⟨g, cap, cur, fz, rfl, hB, hh, hf, hn1, hm1, hc1, hj⟩ := ho
      have hgw := blkLt hh
      by_cases hroom : l.length + 1 ≤ cap
      · have OP := Lib.hid (OwM.place (o := .cells #[.int .u8 x.toNat] 5) (x := x) hB hh hf hroom hm1 hc1 hj)
        obtain ⟨cv, hcv⟩ : ∃ cv, cur[l.length]? = some cv := ⟨_, Array.getElem?_eq_getElem (by omega)⟩
        have q_ : wr.cell? ⟨g, l.length, none⟩ = some cv := cellD hh _ _ hcv
        have qz_ : wr.frozen? ⟨g, l.length, none⟩ = false := by
          simp only [World.frozen?, hh]
          rcases hf with rfl | hf
          · simp
          · simp; omega
        have GP := Lib.hid (gb_alloc (gbNew G1.out (gb_setCell (a := ⟨g, l.length, none⟩) (gb_refl wr (some g)) (.inr rfl) (.int .u8 x.toNat)) (fun k hk => by simp at hk; omega)) (.cells #[.int .u8 x.toNat] 5))
        clear hh hj hcv
        go_wp2_with fail
        exact ⟨⟨j, by omega, by go_num, by have e : b.data.toList ++ (putL n.toNat wd).take (wd - j) = l ++ [x] := by { rw [hTK.out, ← List.append_assoc, HL.out] }; rw [e]; exact OP.out, GP.out⟩, by simp [intOf]⟩
      · have hcl : l.length = cap := by omega
        obtain ⟨i0, hi, hz0, hz1, hz2⟩ := info_parts Tryz.infoByte
        have hal := heapOld (o := .cells #[.int .u8 x.toNat] 5) hh
        obtain ⟨v', w', hr, hown, hgr⟩ := run_append_arg_grows (P := Tryz.prog) (w := wr.alloc (.cells #[.int .u8 x.toNat] 5)) 171 171 5 i0 (.int .u8 0) 1 1 Tryz.underlying171 hi hz0 hz1 hz2 rfl (by decide) ⟨g, 0, none⟩ l.length cap (byC l) (by simp [byC]) (fun i u hu => by
          have hadd : (⟨g, 0, none⟩ : Addr).add i = ⟨g, 0 + i, none⟩ := by unfold Addr.add; split <;> simp_all
          have hil : i < l.length := by have := (List.getElem?_eq_some_iff.1 hu).1; simpa [byC] using this
          rw [hadd, Nat.zero_add]
          exact cellD hal i _ ((hj i hil).trans hu)) ⟨wr.heap.size, 0, none⟩ 1 1 [.int .u8 x.toNat] rfl (fun i u hu => by
          have hadd : (⟨wr.heap.size, 0, none⟩ : Addr).add i = ⟨wr.heap.size, 0 + i, none⟩ := by unfold Addr.add; split <;> simp_all
          rw [hadd, Nat.zero_add]
          exact cellD (heap_alloc_new wr _) i _ (by simpa using hu)) (by omega) (by unfold maxLen; omega) (by omega)
        have hown' : w'.ownsRow (wr.alloc (.cells #[.int .u8 x.toNat] 5)).heap.size 5 1 v' (l.length + 1) (byC (l ++ [x])) := by
          rw [show byC (l ++ [x]) = byC l ++ [.int .u8 x.toNat] by simp [byC]]; exact hown
        have OP := Lib.hid ((OwM.of hown' (by simp) (by simp)).mono (show w.heap.size ≤ (wr.alloc (.cells #[.int .u8 x.toNat] 5)).heap.size by have := blkLe G1.out; simp; omega))
        have GP := Lib.hid (gb_trans (gb_trans G1.out (gb_alloc (gb_refl wr none) _)) hgr)
        obtain ⟨oa, oc, hv⟩ := owns_slice hown
        subst hv
        clear hh hj hal hown hown' hgr
        go_wp2_with (at_builtin; (refine wpList_appendRunT rfl _ _ 171 171 rfl _ _ rfl rfl _ _ hr ?_); refine Hid.out ?_)
        refine Lib.hid ?_
        clear hr
        go_wp2_with fail
        exact ⟨⟨j, by omega, by go_num, by have e : b.data.toList ++ (putL n.toNat wd).take (wd - j) = l ++ [x] := by { rw [hTK.out, ← List.append_assoc, HL.out] }; rw [e]; have h := OP.out; rw [hcl] at h; exact h, GP.out⟩, by simp [intOf]⟩
end Go.Proofs.YtlddgafbgaaiiaaGreatDoor
