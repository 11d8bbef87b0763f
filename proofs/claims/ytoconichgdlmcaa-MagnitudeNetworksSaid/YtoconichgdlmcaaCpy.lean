/- copy within a row of one's own; the reference's sorted, Median. -/
import Derived.Test.YtoconichgdlmcaaRgMade
import Derived.Test.YtoconichgdlmcaaMed
import Derived.Test.YtoconichgdlmcaaTrv
import Derived.Laws.CopyOwn
import Derived.Laws.OwnMore
namespace Go.Proofs.Ytoconichgdlmcaa
set_option linter.all false
open Go.RowKit Rg

theorem app3 {α : Type} (a b c : List α) (j : Nat) : (a ++ (b ++ c))[j]? = if j < a.length then a[j]? else if j - a.length < b.length then b[j - a.length]? else c[j - a.length - b.length]? := by
  rw [List.getElem?_append, List.getElem?_append]
theorem owns_splice {w : World} {B e g n cap off : Nat} {ys cs : List Value} {cur : Array Value} (hg : w.heap[g]? = some (.cells cur e (0, 0))) (h : w.ownsRow B e 1 (.slice (some ⟨g, 0, none⟩) n cap) n ys) (hf : off + cs.length ≤ n) :
    (w.setRow g (cur.toList.take off ++ (cs ++ cur.toList.drop (off + cs.length))).toArray).ownsRow B e 1 (.slice (some ⟨g, 0, none⟩) n cap) n (ys.take off ++ (cs ++ ys.drop (off + cs.length))) := by
  have hyl := h.1
  rcases h.2 with ⟨e0, -⟩ | ⟨g', cap', cur', e0, hb, hg', hnc, hcm, hcs, ht⟩
  · cases e0
  simp only [Value.slice.injEq, Option.some.injEq, Addr.mk.injEq, true_and, and_true] at e0
  obtain ⟨rfl, rfl⟩ := e0
  rw [hg] at hg'
  simp only [Option.some.injEq, Obj.cells.injEq, and_true, true_and] at hg'
  subst hg'
  refine ⟨by simp; omega, .inr ⟨g, cap, _, rfl, hb, setRow_heap w g cur _ e _ hg, hnc, hcm, by simp; omega, ?_⟩⟩
  rw [← ht]
  apply List.ext_getElem?
  intro j
  show ((cur.toList.take off ++ (cs ++ cur.toList.drop (off + cs.length))).take (n * 1))[j]? = ((cur.toList.take (n * 1)).take off ++ (cs ++ (cur.toList.take (n * 1)).drop (off + cs.length)))[j]?
  simp only [Nat.mul_one]
  have hl : (cur.toList.take off).length = off := by simp; omega
  have hl2 : ((cur.toList.take n).take off).length = off := by simp; omega
  by_cases hj : j < n
  · rw [List.getElem?_take_of_lt hj]
    rw [app3, app3, hl, hl2]
    by_cases h1 : j < off
    · rw [if_pos h1, if_pos h1, List.getElem?_take_of_lt h1, List.getElem?_take_of_lt h1, List.getElem?_take_of_lt hj]
    · rw [if_neg h1, if_neg h1]
      by_cases h2 : j - off < cs.length
      · rw [if_pos h2, if_pos h2]
      · rw [if_neg h2, if_neg h2, List.getElem?_drop, List.getElem?_drop, List.getElem?_take_of_lt (by omega)]
  · rw [List.getElem?_take_eq_none (by omega), List.getElem?_eq_none (by simp; omega)]
/-- copy(s[off:], s[so:]). -/
theorem wpList_copyIn {P : Program} {w : World} {ops : Array Oper} {rest : List Oper} {o : Oper} {a : Act} {Q : Exit → Act → World → Prop} (hgd : o.guard = none) (d s : Operand) (dT sT : TypeId)
    (ho : o.op = .call { callee := .builtin .copy, args := #[d, s], argTypes := #[dT, sT] }) (e : TypeId) (hu : P.underlying dT = some (.slice e)) (hsz : (P.info? e).map (·.size) = some 1)
    (B g n cap off so : Nat) (ys : List Value) (hown : w.ownsRow B e 1 (.slice (some ⟨g, 0, none⟩) n cap) n ys) (h1 : ∀ v ∈ ys, v.oneCell' = true)
    (dLen sLen : Nat) (hdl : dLen = n - off) (hsl : sLen = n - so) (dp sp : Option Addr) (dCap sCap : Nat) (hd : a.eval d = .slice dp dLen dCap) (hs : a.eval s = .slice sp sLen sCap) (hdp : off < n → dp = some ⟨g, off, none⟩) (hsp : so < n → sp = some ⟨g, so, none⟩) (hof : so ≤ off) (hon : off ≤ n)
    (h : ∀ w', w'.ownsRow B e 1 (.slice (some ⟨g, 0, none⟩) n cap) n (ys.take off ++ (ys.drop so).take (n - off)) → w.grownBy w' (some g) → wpList P ops Q rest (a.put o.dst (goInt ((n - off : Nat) : Int))) w') : wpList P ops Q (o :: rest) a w := by
  subst hdl; subst hsl
  have hyl : ys.length = n := by have := hown.1; omega
  by_cases h0 : n - off = 0
  · refine wpList_copy_nothing hgd d s dT sT ho e hu hsz dp sp (n - off) dCap (n - so) sCap hd hs (by rw [h0]; exact Nat.min_zero _) ?_
    have := h w (by rw [h0, List.take_zero, List.append_nil, List.take_of_length_le (by omega)]; exact hown) (gb_refl _ _)
    rw [h0] at this
    exact this
  · obtain rfl := hdp (by omega)
    obtain rfl := hsp (by omega)
    have hcl : ((ys.drop so).take (n - off)).length = n - off := by simp; omega
    rcases hown.2 with ⟨e0, -⟩ | ⟨g', cap', cur, e0, hb, hg, hnc, hcm, hcs, ht⟩
    · cases e0
    simp only [Value.slice.injEq, Option.some.injEq, Addr.mk.injEq, true_and, and_true] at e0
    obtain ⟨rfl, rfl⟩ := e0
    refine wpList_copy_own hgd d s dT sT ho e hu hsz g off (n - off) dCap ⟨g, so, none⟩ (n - so) sCap hd hs cur e hg ((ys.drop so).take (n - off)) (by rw [hcl]; exact (Nat.min_eq_right (by omega)).symm) (fun j v hj => ?_) (by omega) (fun v hv => h1 v (List.mem_of_mem_drop (List.mem_of_mem_take hv))) ?_
    · have hj2 : j < n - off := by have := (List.getElem?_eq_some_iff.1 hj).1; omega
      rw [List.getElem?_take_of_lt hj2, List.getElem?_drop] at hj
      have := hown.cells (g := g) rfl (so + j) v hj
      have e1 : (⟨g, so, none⟩ : Addr).add j = (⟨g, 0, none⟩ : Addr).add (so + j) := by rw [Addr.add_lit, Addr.add_lit, Nat.zero_add]
      rw [e1]; exact this
    · have := owns_splice (cs := (ys.drop so).take (n - off)) (off := off) hg hown (by omega)
      rw [hcl, show off + (n - off) = n by omega, List.drop_of_length_le (by omega : ys.length ≤ n), List.append_nil] at this
      rw [hcl, show off + (n - off) = n by omega]
      refine h _ ?_ ⟨rfl, rfl, rfl, by simp [World.setRow], fun i hi hr => setRow_other w g i _ (fun e => hr (by rw [e]))⟩
      simpa using this
/-- What an insertion leaves. -/
theorem ins_row (R : List Int) (x : Int) (k : Nat) (hk : k ≤ R.length) : (((R ++ [0]).take (k + 1)) ++ ((R ++ [0]).drop k).take (R.length - k)).set k x = R.take k ++ x :: R.drop k := by
  have h1 : (R ++ [0]).drop k = R.drop k ++ [0] := List.drop_append_of_le_length hk
  have h2 : (R.drop k ++ [0]).take (R.length - k) = R.drop k := List.take_left' (by simp)
  have hlt : k < (R ++ [0]).length := by simp; omega
  have h3 : (R ++ [0]).take (k + 1) = R.take k ++ [(R ++ [0])[k]] := by
    rw [List.take_succ_eq_append_getElem hlt, List.take_append_of_le_length hk]
  rw [h1, h2, h3, List.append_assoc, List.set_append_right _ _ (by simp; omega)]
  have h4 : (R.take k).length = k := by simp; omega
  rw [h4, Nat.sub_self]
  rfl
theorem ins_cells (R : List Int) (x : Int) (k : Nat) (hk : k ≤ R.length) :
    ((((R ++ [0]).map (Value.int .i64)).take (k + 1) ++ (((R ++ [0]).map (Value.int .i64)).drop k).take (R.length + 1 - (k + 1))).set k (Value.int .i64 x)) = ((R.take k ++ x :: R.drop k).map (Value.int .i64)) := by
  have h := ins_row R x k hk
  generalize R ++ [0] = S at *
  rw [← h, show R.length + 1 - (k + 1) = R.length - k by omega, ← List.map_take, ← List.map_drop, ← List.map_take, ← List.map_append, ← List.map_set]
theorem takeWhile_at {p : Int → Bool} : ∀ {l : List Int} {k : Nat}, k ≤ (l.takeWhile p).length → ∀ (hk : k < l.length), (k < (l.takeWhile p).length ↔ p l[k] = true)
  | a :: l, 0, _, _ => by
    by_cases h : p a <;> simp [List.takeWhile_cons, h]
  | a :: l, k + 1, hle, hk => by
    by_cases h : p a
    · rw [List.takeWhile_cons_of_pos h] at hle ⊢
      simp only [List.length_cons, List.getElem_cons_succ] at hle ⊢
      rw [← takeWhile_at (l := l) (by omega) (by simpa using hk)]
      omega
    · rw [List.takeWhile_cons_of_neg h] at hle; simp at hle
theorem insAt_split (l : List Int) (x : Int) (k : Nat) (hk : k = (l.takeWhile (fun y => decide (y < x))).length) : insAt l x = l.take k ++ x :: l.drop k := by
  subst hk
  unfold insAt
  have e : l.take (l.takeWhile (fun y => decide (y < x))).length = l.takeWhile (fun y => decide (y < x)) ∧ l.drop (l.takeWhile (fun y => decide (y < x))).length = l.dropWhile (fun y => decide (y < x)) := by
    have h := List.takeWhile_append_dropWhile (p := fun y => decide (y < x)) (l := l)
    constructor
    · conv => lhs; rw [← h]
      rw [List.takeWhile_append_dropWhile, ]
      conv => lhs; arg 2; rw [← h]
      rw [List.take_left]
    · conv => lhs; arg 2; rw [← h]
      rw [List.drop_left]
  rw [e.1, e.2]

def Sorted32 (xs : List Int) (w : World) (e : Ending) (w' : World) : Prop := ∃ v, e = .returned v ∧ w'.ownsRow w.heap.size 3 1 v xs.length ((srt xs).map (Value.int .i64)) ∧ w.grownBy w' none
theorem Try.infoIntC : (Try.prog.info? 3).map (fun i => (i.zero, i.size, i.bytes)) = some (some (.int .i64 0), 1, 8) := by kernel_rfl
theorem Try.infoIntS : (Try.prog.info? 3).map (·.size) = some 1 := by kernel_rfl
set_option maxRecDepth 100000 in
set_option maxHeartbeats 4000000 in
theorem sorted_any (xs : List Int) (v : Value) (w : World) (hs : Sl w v xs) (hl : xs.length ≤ 100000) :
    Calls Try.prog 27 #[v] w (Sorted32 xs w) := by
  obtain ⟨va, vc, rfl⟩ := hs.shape
  have HS := Lib.hid hs; clear hs
  generalize hn : xs.length = n at *
  have HNL := Lib.hid hn; clear hn
  have HL := Lib.hid hl
  go_enter Try.func27, Try.ntmps27
  go_wp2_with fail
  go_loopw [3, 4, 5] (fun o i _ wr => ∃ (k : Nat) (R : List Int), k ≤ n ∧ i = .int .i64 k ∧ R = srt (xs.take k) ∧ wr.ownsRow w.heap.size 3 1 o R.length (R.map (Value.int .i64)) ∧ w.grownBy wr none) (fun _ i _ _ => n - (intOf i).toNat)
  case atStart => exact ⟨0, [], by omega, rfl, by rw [List.take_zero]; exact (List.length_eq_zero_iff.1 (srt_len [])).symm, World.ownsRow_nil _ _ _ _, gb_refl _ _⟩
  case round =>
    obtain ⟨k, R, hk, rfl, hR, hown, hgr⟩ := hrel
    obtain ⟨wo, hwo⟩ : ∃ wo : World, wo = wr := ⟨_, rfl⟩
    subst hwo
    by_cases hlt : k < n
    · have hkx : k < xs.length := by have := HNL.out; omega
      have hRl : R.length = k := by rw [hR, srt_len, List.length_take]; omega
      obtain ⟨b, off, cap, e1, hb, -, -, hc⟩ := (HS.out.after hgr).block (by omega)
      rw [HNL.out] at e1
      simp only [Value.slice.injEq, true_and] at e1
      obtain ⟨rfl, rfl⟩ := e1
      have hx_ := hc k hkx
      unfold at0 at hx_
      rw [List.getElem?_eq_getElem hkx] at hx_
      have hx_ : wo.cell? ⟨b, off + k, none⟩ = some (.int .i64 xs[k]) := hx_
      have HINS : Hid (insAt R xs[k] = srt (xs.take (k + 1))) := Lib.hid (by rw [List.take_succ_eq_append_getElem hkx, srt_snoc, hR])
      clear hc hR
      generalize xs[k] = x at *
      have hbw : b < w.heap.size := by
        obtain ⟨b', off', cap', e, hb', -⟩ := HS.out.block (by omega)
        simp only [Value.slice.injEq, Option.some.injEq, Addr.mk.injEq] at e
        omega
      have HBW := Lib.hid hbw
      obtain ⟨T, hT⟩ : ∃ T, (R.takeWhile (fun y => decide (y < x))).length = T := ⟨_, rfl⟩
      have hTR : T ≤ k := by rw [← hT, ← hRl]; exact (List.takeWhile_sublist _).length_le
      have HTT := Lib.hid (fun (m : Nat) (h1 : m ≤ T) (h2 : m < R.length) => by have := takeWhile_at (p := fun y => decide (y < x)) (l := R) (k := m) (by omega) h2; rw [hT] at this; exact this)
      have HSP := Lib.hid (insAt_split R x T hT.symm)
      have HG := Lib.hid hgr
      have HRL := Lib.hid hRl
      obtain ⟨oa, oc, e1⟩ := owns_slice hown
      subst e1
      have HOW := Lib.hid hown
      rw [hRl] at hown HOW ⊢
      clear hT hRl hgr
      go_upto_block 2 with fail
      go_cut [5] from 12 to 28 (fun f wc => f = .int .i64 T ∧ wo.grownBy wc none)
      case first =>
        by_cases hk0 : k = 0
        · have HT0 := Lib.hid (show T = 0 by omega)
          have HK0 := Lib.hid hk0
          clear hk0 hown
          go_wp2_with fail
          go_loopw [5] (fun j wr => ∃ m : Nat, m = T ∧ j = .int .i64 m ∧ wr = wo) (fun j _ => k + 1 - (intOf j).toNat)
          case atStart => exact ⟨0, HT0.out.symm, rfl, rfl⟩
          case round =>
            obtain ⟨m, hm, rfl, rfl⟩ := hrel
            have HMT := Lib.hid hm
            have hmk : ¬ m < k := by have := HK0.out; omega
            have hd0 : decide ((m : Int) < (k : Int)) = false := decide_eq_false (by have := HK0.out; omega)
            clear hm
            go_wp2_with fail
            go_quiet (fail)
            go_wp2_with fail
            go_meet
            case rel => exact ⟨by rw [HMT.out], gb_drewN (gb_refl _ _) _⟩
        · obtain ⟨g, gc, e1, hgB, hgl, hgc, -⟩ := owns_at hown (by omega)
          simp only [Value.slice.injEq, true_and] at e1
          obtain ⟨rfl, rfl⟩ := e1
          clear hown hgB hgc
          go_wp2_with fail
          go_loopw [5] (fun j wr => ∃ m : Nat, m ≤ T ∧ j = .int .i64 m ∧ wo.grownBy wr none) (fun j _ => k + 1 - (intOf j).toNat)
          case atStart => exact ⟨0, by omega, rfl, gb_refl _ _⟩
          case round =>
            obtain ⟨m, hm, rfl, hgq⟩ := hrel
            have HGQ := Lib.hid hgq
            have hxq : wr.cell? ⟨b, off + k, none⟩ = some (.int .i64 x) := (gb_cell hgq hb (by simp)).trans hx_
            have hbq : b < wr.heap.size := Nat.lt_of_lt_of_le hb hgq.size
            have hgq2 : g < wr.heap.size := Nat.lt_of_lt_of_le hgl hgq.size
            by_cases hmk : m < k
            · have hmR : m < R.length := by have := HRL.out; omega
              have hcell : wr.cell? ⟨g, m, none⟩ = some (.int .i64 R[m]) := by
                rw [gb_cell hgq hgl (by simp), HOW.out.cellAt m (by omega), List.getElem?_map, List.getElem?_eq_getElem hmR]; rfl
              have HTM := HTT.out m hm hmR
              have hd1 : decide ((m : Int) < (k : Int)) = true := decide_eq_true (by omega)
              clear hgq
              by_cases hyx : R[m] < x
              · have hmT : m < T := HTM.2 (decide_eq_true hyx)
                have hd2 : decide (R[m] < x) = true := decide_eq_true hyx
                clear HTM hyx
                generalize R[m] = y at *
                go_wp2_with fail
                go_quiet (fail)
                go_wp2_with fail
                go_roundw
                case rel => exact ⟨m + 1, by omega, by go_num, gb_drewN HGQ.out _⟩
                case measure => simp [intOf]; omega
              · have hmT : m = T := by
                  have h1 : ¬ m < T := fun h => hyx (of_decide_eq_true (HTM.1 h))
                  omega
                have hd2 : decide (R[m] < x) = false := decide_eq_false hyx
                have HMT := Lib.hid hmT
                clear HTM hyx hmT
                generalize R[m] = y at *
                go_wp2_with fail
                go_quiet (fail)
                go_wp2_with fail
                go_meet
                case rel => exact ⟨by rw [HMT.out], gb_drewN HGQ.out _⟩
            · have hd1 : decide ((m : Int) < (k : Int)) = false := decide_eq_false (by omega)
              have HMT := Lib.hid (show m = T by omega)
              clear hgq
              go_wp2_with fail
              go_quiet (fail)
              go_wp2_with fail
              go_meet
              case rel => exact ⟨by rw [HMT.out], gb_drewN HGQ.out _⟩
      case rest =>
        obtain ⟨rfl, hgq⟩ := hcut
        have HGQ := Lib.hid hgq
        have hxq : wc.cell? ⟨b, off + k, none⟩ = some (.int .i64 x) := (gb_cell hgq hb (by simp)).trans hx_
        have hbq : b < wc.heap.size := Nat.lt_of_lt_of_le hb hgq.size
        obtain ⟨m, hmT⟩ : ∃ m : Nat, m = T := ⟨_, rfl⟩
        subst hmT
        clear hgq hown
        have OWN5 := Lib.hid (owns_keep HOW.out HGQ.out)
        go_wp2_with (at_builtin; refine wpList_push rfl _ _ 22 rfl w.heap.size 3 (.int .i64 0) 1 8 Try.underlying22 Try.infoIntC rfl (by decide) (by decide) _ _ _ rfl ((owns_keep HOW.out HGQ.out).alloc _) _ 1 [.int .i64 0] 3 rfl (heap_alloc_new _ _) rfl (by simp [Value.oneCell']) (by have := HL.out; omega) (by have := HG.out.size; have := HGQ.out.size; simp; omega) ?_; refine Hid.out ?_)
        refine Lib.hid ?_
        intro v' w6 hown' hg'
        rw [show R.map (Value.int .i64) ++ [Value.int .i64 0] = (R ++ [0]).map (Value.int .i64) by simp] at hown'
        obtain ⟨g2, c2, e2, hg2B, hg2l, hc2, -⟩ := owns_at hown' (by omega)
        subst e2
        have hx6 : w6.cell? ⟨b, off + k, none⟩ = some (.int .i64 x) := (gb_cell hg' (by have := hbq; simp; omega) (fun e => by have := (OWN5.out.lt b e.symm).1; have := HBW.out; omega)).trans ((cell_old _ _ _ (by exact hbq)).trans hxq)
        have hb6 : b < w6.heap.size := Nat.lt_of_lt_of_le (by simp; omega) hg'.size
        have G6 := Lib.hid (push_grown (gb_trans HG.out HGQ.out) OWN5.out (Nat.le_refl _) hg')
        have OW6 := Lib.hid hown'
        have H2 := Lib.hid (show w.heap.size ≤ g2 from hg2B)
        have HC2 := Lib.hid hc2
        clear hown' hg' hxq hbq hg2B hg2l HGQ OWN5
        go_wp2_with fail
        refine Rg.region (Made w6) Makes (fun _ => none) (fun _ => false) 0 7 (by kernel_rfl) (by kernel_rfl) (by kernel_rfl) (by kernel_rfl) (by kernel_rfl) (by kernel_rfl) (by kernel_rfl) Makes.size (Made.start w6) (fun hne => ?_)
        (repeat (refine rLexL_quiet (by rfl) (by rfl) (by rfl) (by rfl) ?_; go_big_quiet_step (fail); refine wpQuiet_nil ?_))
        rintro w7 hq7 - -
        have OW7 := Lib.hid (owns_keep OW6.out hq7); have G7 := Lib.hid (gb_trans G6.out hq7)
        have hx7 : w7.cell? ⟨b, off + k, none⟩ = some (.int .i64 x) := (gb_cell hq7 hb6 (by simp)).trans hx6
        have hb7 : b < w7.heap.size := Nat.lt_of_lt_of_le hb6 hq7.size
        clear hq7 hne hx6 hb6 OW6 G6
        have hys : ∀ z ∈ (R ++ [0]).map (Value.int .i64), z.oneCell' = true := fun z hz => by obtain ⟨z', -, rfl⟩ := List.mem_map.1 hz; rfl
        have hmk' : m ≤ k := by omega
        refine wpList_copyIn rfl _ _ 22 22 rfl 3 Try.underlying22 Try.infoIntS w.heap.size g2 (k + 1) c2 (m + 1) m _ OW7.out hys (k - m) (k + 1 - m) (by omega) rfl _ (some ⟨g2, m, none⟩) (c2 - (m + 1)) (c2 - m) rfl rfl (fun h => if_neg (by have := HC2.out; omega)) (fun _ => rfl) (by omega) (by omega) ?_
        intro w8 ho8 hg8
        have hx8 : w8.cell? ⟨b, off + k, none⟩ = some (.int .i64 x) := (gb_cell hg8 hb7 (fun e => by have := H2.out; have := HBW.out; simp at e; omega)).trans hx7
        have hb8 : b < w8.heap.size := Nat.lt_of_lt_of_le hb7 hg8.size
        have hf8 := ho8.frozenAt m
        have hl8 := (ho8.lt g2 rfl).2
        obtain ⟨z8, hz8⟩ : ∃ z, w8.cell? ⟨g2, m, none⟩ = some z := by
          rw [ho8.cellAt m (by omega)]
          exact ⟨_, List.getElem?_eq_getElem (by have := ho8.1; omega)⟩
        obtain ⟨q1, q2⟩ := ho8.stored m (.int .i64 x)
        have hkk : k + 1 = R.length + 1 := by have := HRL.out; omega
        rw [hkk, ins_cells R x m (by have := HRL.out; omega)] at q1
        have e9 : R.take m ++ x :: R.drop m = insAt R x := by rw [HSP.out]
        have e10 : (insAt R x).length = k + 1 := by have := (insAt_perm R x).length_eq; have := HRL.out; simp at *; omega
        rw [e9, ← hkk] at q1
        have OW9 : Hid ((w8.setCell ⟨g2, m, none⟩ (.int .i64 x)).ownsRow w.heap.size 3 1 (.slice (some ⟨g2, 0, none⟩) (k + 1) c2) (insAt R x).length ((insAt R x).map (Value.int .i64))) := Lib.hid (by rw [e10]; exact q1)
        have G9 := Lib.hid (gb_setCell (gb_new G7.out hg8 (fun q hq => by have := H2.out; simp at hq; omega)) (a := ⟨g2, m, none⟩) (.inl H2.out) (.int .i64 x))
        clear ho8 hg8 hx7 hb7 hys q1 q2 hkk e9 e10 OW7 G7
        refine wpList_nil ?_
        simp only [Act.put, List.setIfInBounds_toArray, List.set_cons_zero, List.set_cons_succ]
        go_wp2_with fail
        go_roundw
        case rel => exact ⟨k + 1, _, by omega, by go_num, HINS.out, OW9.out, G9.out⟩
        case measure => simp [intOf]; omega
    · have hd_ : decide ((k : Int) < (n : Int)) = false := decide_eq_false (by omega)
      have HR : Hid (R = srt xs) := Lib.hid (by rw [hR, List.take_of_length_le (by have := HNL.out; omega)])
      have hRn : R.length = n := by rw [hR, srt_len, List.length_take]; have := HNL.out; omega
      rw [hRn] at hown
      obtain ⟨ga, gc, rfl⟩ := owns_slice hown
      have HOW := Lib.hid hown; have HG := Lib.hid hgr
      clear hown hgr hR hRn
      go_wp2_with fail
      go_ret
      exact ⟨_, rfl, by rw [HNL.out, ← HR.out]; exact HOW.out, HG.out⟩

/-- append([]T{}, x...), x no empty row. -/
theorem wpList_copyAt32 {P : Program} {w : World} {ops : Array Oper} {rest : List Oper} {o : Oper} {a : Act} {Q : Exit → Act → World → Prop} (hgd : o.guard = none) (s x : Operand) (t : TypeId)
    (ho : o.op = .call { callee := .builtin .append, args := #[s, x], argTypes := #[t, t] })
    (e : TypeId) (z : Value) (size bytes : Nat) (ht : P.underlying t = some (.slice e)) (hinfo : (P.info? e).map (fun i => (i.zero, i.size, i.bytes)) = some (some z, size, bytes)) (hzs : z.cells.size = size) (hsz : 0 < size)
    (c : Nat) (hs : a.eval s = .slice (some ⟨c, 0, none⟩) 0 0)
    (b off n cap : Nat) (news : List Value) (hx : a.eval x = .slice (some ⟨b, off, none⟩) n cap) (hn0 : 0 < n) (hl : news.length = n * size) (hc : ∀ j u, news[j]? = some u → w.cell? ⟨b, off + j, none⟩ = some u) (h1 : ∀ u ∈ news, u.oneCell' = true)
    (hn1 : n ≤ 1000000) (hbytes : n * bytes ≤ 140737488355328)
    (h : ∀ g gc w', w'.ownsRow w.heap.size e size (.slice (some ⟨g, 0, none⟩) n gc) n news → w.grownBy w' none → wpList P ops Q rest (a.put o.dst (.slice (some ⟨g, 0, none⟩) n gc)) w') : wpList P ops Q (o :: rest) a w := by
  obtain ⟨i0, hi, hz0, hz1, hz2⟩ := info_parts hinfo
  refine wpList_append_grows w hgd s x t ho e i0 z size bytes ht hi hz0 hz1 hz2 hzs hsz (some ⟨c, 0, none⟩) 0 0 [] hs (fun h => by cases h) (by simp) (fun b _ j u hj => by simp at hj) ⟨b, off, none⟩ n cap news hx hl (fun j u hj => by rw [Addr.add_lit]; exact hc j u hj) h1 (by omega) (by unfold maxLen; omega) (by rwa [Nat.zero_add]) (fun v' w' h2 h3 => ?_)
  rw [Nat.zero_add, List.nil_append] at h2
  obtain ⟨g, gc, rfl, -, -⟩ := h2.form hn0
  exact h g gc w' h2 h3


set_option maxHeartbeats 1000000 in
theorem rmedian_any (xs : List Int) (v : Value) (w : World) (hs : Sl w v xs) (h0 : 0 < xs.length) (hl : xs.length ≤ 100000) :
    Calls Try.prog 12 #[v] w fun e w' => e = .returned (.int .i64 (med xs)) ∧ w.grownBy w' none := by
  obtain ⟨va, vc, rfl⟩ := hs.shape
  have SA := Lib.hid (sorted_any xs _ w hs hl)
  obtain ⟨m, hm⟩ : ∃ m : Nat, xs.length = m + 1 := ⟨xs.length - 1, by omega⟩
  have hlen5 : (srt xs).length = m + 1 := by rw [srt_len]; exact hm
  obtain ⟨z, hz⟩ : ∃ z, (srt xs)[m / 2]? = some z := ⟨_, List.getElem?_eq_getElem (by omega)⟩
  have HM : Hid (z = med xs) := Lib.hid (by
    unfold med
    rw [hm, Nat.add_sub_cancel, hz]; rfl)
  have HZ := Lib.hid hz
  unfold Sorted32 at SA
  rw [hm] at SA ⊢
  have hw_ : IntKind.i64.wrap (((m + 1 : Nat) : Int) - 1) = (m : Int) := by rw [IntKind.wrap_i64]; omega
  have hw2_ : IntKind.i64.wrap ((m : Int) + 1 - 1) = (m : Int) := by rw [IntKind.wrap_i64]; omega
  have hml : m ≤ 100000 := by omega
  clear hs hm hlen5 hz hl h0
  go_enter Try.func12, Try.ntmps12
  go_wp2_with fail
  (with_reducible refine SA.out.mono ?_)
  rintro e w1 ⟨v1, rfl, ho, hg⟩
  obtain ⟨g, gc, e1, -, hgl, hgc, -⟩ := owns_at ho (by omega)
  subst e1
  have hcell := ho.cellAt (m / 2) (by omega)
  rw [List.getElem?_map, HZ.out] at hcell
  have hcell : w1.cell? ⟨g, m / 2, none⟩ = some (.int .i64 z) := hcell
  have HG := Lib.hid hg
  have hmn : m / 2 < m + 1 := by omega
  clear ho hg SA HZ
  go_wp2_with fail
  go_ret
  exact ⟨by rw [HM.out]; rfl, HG.out⟩
end Go.Proofs.Ytoconichgdlmcaa
