import Derived.Test.YtiebljanpnadjaaGreatPgR30A
namespace Go.Proofs.YtiebljanpnadjaaGreat
set_option linter.all false
open Go.RowKit Rg
set_option maxRecDepth 100000 in
set_option maxHeartbeats 4000000 in
theorem rsorted30_any (xs : List Int) (v : Value) (w : World) (hs : Sl w v xs) (hl : xs.length ≤ 100000) :
  Calls Tryz.prog 51 #[v] w (Sorted32 xs w) := by
 obtain ⟨va, vc, rfl⟩ := hs.shape
 have HS := zH hs; clear hs
 generalize hn : xs.length = n at *
 have HNL := zH hn; clear hn
 have HL := zH hl
 go_enter Tryz.func51, Tryz.ntmps51
 go_wp2_with fail
 go_loopw [3, 4, 5] (fun o i _ wr => ∃ (k : Nat) (R : List Int), k ≤ n ∧ i = .int .i64 k ∧ R = srt (xs.take k) ∧ wr.ownsRow w.heap.size 3 1 o R.length (R.map (Value.int .i64)) ∧ w.grownBy wr none) (fun _ i _ _ => n - (intOf i).toNat)
 case atStart => exact ⟨0, [], by omega, rfl, by rw [List.take_zero]; exact (List.length_eq_zero_iff.1 (srt_len [])).symm, World.ownsRow_nil _ _ _ _, gb_refl _ _⟩
 case round =>
  obtain ⟨k, R, hk, rfl, hR, hown, hgr⟩ := hrel
  obtain ⟨wo, hwo⟩ : ∃ wo : World, wo = wr := ⟨_, rfl⟩
  subst hwo
  by_cases hlt : k < n
  ·have hkx : k < xs.length := by have := HNL.out; omega
   have hRl : R.length = k := by rw [hR, srt_len, List.length_take]; omega
   obtain ⟨b, off, cap, e1, hb, -, -, hc⟩ := (HS.out.after hgr).block (by omega)
   rw [HNL.out] at e1
   simp only [Value.slice.injEq, true_and] at e1
   obtain ⟨rfl, rfl⟩ := e1
   have hx_ := hc k hkx
   unfold at0 at hx_
   rw [List.getElem?_eq_getElem hkx] at hx_
   have hx_ : wo.cell? ⟨b, off + k, none⟩ = some (.int .i64 xs[k]) := hx_
   have HINS : Hid (insAt R xs[k] = srt (xs.take (k + 1))) := zH (by rw [List.take_succ_eq_append_getElem hkx, srt_snoc, hR])
   clear hc hR
   generalize xs[k] = x at *
   have hbw : b < w.heap.size := by
    obtain ⟨b', off', cap', e, hb', -⟩ := HS.out.block (by omega)
    simp only [Value.slice.injEq, Option.some.injEq, Addr.mk.injEq] at e
    omega
   have HBW := zH hbw
   obtain ⟨T, hT⟩ : ∃ T, (R.takeWhile (fun y => decide (y < x))).length = T := ⟨_, rfl⟩
   have hTR : T ≤ k := by rw [← hT, ← hRl]; exact (List.takeWhile_sublist _).length_le
   have HTT := zH (fun (m : Nat) (h1 : m ≤ T) (h2 : m < R.length) => by have := takeWhile_at (p := fun y => decide (y < x)) (l := R) (k := m) (by omega) h2; rw [hT] at this; exact this)
   have HSP := zH (insAt_split R x T hT.symm)
   have HG := zH hgr
   have HRL := zH hRl
   obtain ⟨oa, oc, e1⟩ := owns_slice hown
   subst e1
   have HOW := zH hown
   rw [hRl] at hown HOW ⊢
   clear hT hRl hgr
   go_upto_block 2 with fail
   go_cut [5] from 12 to 28 (fun f wc => f = .int .i64 T ∧ wo.grownBy wc none)
   case first =>
    by_cases hk0 : k = 0
    ·have HT0 := zH (show T = 0 by omega)
     have HK0 := zH hk0
     clear hk0 hown
     go_wp2_with fail
     go_loopw [5] (fun j wr => ∃ m : Nat, m = T ∧ j = .int .i64 m ∧ wr = wo) (fun j _ => k + 1 - (intOf j).toNat)
     case atStart => exact ⟨0, HT0.out.symm, rfl, rfl⟩
     case round =>
      obtain ⟨m, hm, rfl, rfl⟩ := hrel
      have HMT := zH hm
      have hmk : ¬ m < k := by have := HK0.out; omega
      have hd0 : decide ((m : Int) < (k : Int)) = false := decide_eq_false (by have := HK0.out; omega)
      clear hm
      go_wp2_with fail
      go_quiet (fail)
      go_wp2_with fail
      go_meet
      case rel => exact ⟨by rw [HMT.out], gb_drewN (gb_refl _ _) _⟩
    ·obtain ⟨g, gc, e1, hgB, hgl, hgc, -⟩ := owns_at hown (by omega)
     simp only [Value.slice.injEq, true_and] at e1
     obtain ⟨rfl, rfl⟩ := e1
     clear hown hgB hgc
     go_wp2_with fail
     go_loopw [5] (fun j wr => ∃ m : Nat, m ≤ T ∧ j = .int .i64 m ∧ wo.grownBy wr none) (fun j _ => k + 1 - (intOf j).toNat)
     case atStart => exact ⟨0, by omega, rfl, gb_refl _ _⟩
     case round =>
      obtain ⟨m, hm, rfl, hgq⟩ := hrel
      have HGQ := zH hgq
      have hxq : wr.cell? ⟨b, off + k, none⟩ = some (.int .i64 x) := (gb_cell hgq hb (by simp)).trans hx_
      have hbq : b < wr.heap.size := Nat.lt_of_lt_of_le hb hgq.size
      have hgq2 : g < wr.heap.size := Nat.lt_of_lt_of_le hgl hgq.size
      by_cases hmk : m < k
      ·have hmR : m < R.length := by have := HRL.out; omega
       have hcell : wr.cell? ⟨g, m, none⟩ = some (.int .i64 R[m]) := by
        rw [gb_cell hgq hgl (by simp), HOW.out.cellAt m (by omega), List.getElem?_map, List.getElem?_eq_getElem hmR]; rfl
       have HTM := HTT.out m hm hmR
       have hd1 : decide ((m : Int) < (k : Int)) = true := decide_eq_true (by omega)
       clear hgq
       by_cases hyx : R[m] < x
       ·have hmT : m < T := HTM.2 (decide_eq_true hyx)
        have hd2 : decide (R[m] < x) = true := decide_eq_true hyx
        clear HTM hyx
        generalize R[m] = y at *
        go_wp2_with fail
        go_quiet (fail)
        go_wp2_with fail
        go_roundw
        case rel => exact ⟨m + 1, by omega, by go_num, gb_drewN HGQ.out _⟩
        case measure => simp [intOf]; omega
       ·have hmT : m = T := by
         have h1 : ¬ m < T := fun h => hyx (of_decide_eq_true (HTM.1 h))
         omega
        have hd2 : decide (R[m] < x) = false := decide_eq_false hyx
        have HMT := zH hmT
        clear HTM hyx hmT
        generalize R[m] = y at *
        go_wp2_with fail
        go_quiet (fail)
        go_wp2_with fail
        go_meet
        case rel => exact ⟨by rw [HMT.out], gb_drewN HGQ.out _⟩
      ·have hd1 : decide ((m : Int) < (k : Int)) = false := decide_eq_false (by omega)
       have HMT := zH (show m = T by omega)
       clear hgq
       go_wp2_with fail
       go_quiet (fail)
       go_wp2_with fail
       go_meet
       case rel => exact ⟨by rw [HMT.out], gb_drewN HGQ.out _⟩
   case rest =>
    obtain ⟨rfl, hgq⟩ := hcut
    have HGQ := zH hgq
    have hxq : wc.cell? ⟨b, off + k, none⟩ = some (.int .i64 x) := (gb_cell hgq hb (by simp)).trans hx_
    have hbq : b < wc.heap.size := Nat.lt_of_lt_of_le hb hgq.size
    obtain ⟨m, hmT⟩ : ∃ m : Nat, m = T := ⟨_, rfl⟩
    subst hmT
    clear hgq hown
    have OWN5 := zH (owns_keep HOW.out HGQ.out)
    go_wp2_with (at_builtin; refine wpList_push rfl _ _ 26 rfl w.heap.size 3 (.int .i64 0) 1 8 Tryz.underlying26 Tryz.infoIntC rfl (by decide) (by decide) _ _ _ rfl ((owns_keep HOW.out HGQ.out).alloc _) _ 1 [.int .i64 0] 3 rfl (heap_alloc_new _ _) rfl (by simp [Value.oneCell']) (by have := HL.out; omega) (by have := HG.out.size; have := HGQ.out.size; simp; omega) ?_; refine Hid.out ?_)
    refine zH ?_
    intro v' w6 hown' hg'
    rw [show R.map (Value.int .i64) ++ [Value.int .i64 0] = (R ++ [0]).map (Value.int .i64) by simp] at hown'
    obtain ⟨g2, c2, e2, hg2B, hg2l, hc2, -⟩ := owns_at hown' (by omega)
    subst e2
    have hx6 : w6.cell? ⟨b, off + k, none⟩ = some (.int .i64 x) := (gb_cell hg' (by have := hbq; simp; omega) (fun e => by have := (OWN5.out.lt b e.symm).1; have := HBW.out; omega)).trans ((cell_old _ _ _ (by exact hbq)).trans hxq)
    have hb6 : b < w6.heap.size := Nat.lt_of_lt_of_le (by simp; omega) hg'.size
    have G6 := zH (push_grown (gb_trans HG.out HGQ.out) OWN5.out (Nat.le_refl _) hg')
    have OW6 := zH hown'
    have H2 := zH (show w.heap.size ≤ g2 from hg2B)
    have HC2 := zH hc2
    clear hown' hg' hxq hbq hg2B hg2l HGQ OWN5
    go_wp2_with fail
    refine Rg.rR (Made w6) Makes (fun _ => none) (fun _ => false) 0 7 Makes.size (Made.start w6) (fun hne => ?_)
    (repeat (refine rQ ?_; go_big_quiet_step (fail); refine wpQuiet_nil ?_))
    rintro w7 hq7 - -
    have OW7 := zH (owns_keep OW6.out hq7); have G7 := zH (gb_trans G6.out hq7)
    have hx7 : w7.cell? ⟨b, off + k, none⟩ = some (.int .i64 x) := (gb_cell hq7 hb6 (by simp)).trans hx6
    have hb7 : b < w7.heap.size := Nat.lt_of_lt_of_le hb6 hq7.size
    clear hq7 hne hx6 hb6 OW6 G6
    have hys : ∀ z ∈ (R ++ [0]).map (Value.int .i64), z.oneCell' = true := fun z hz => by obtain ⟨z', -, rfl⟩ := List.mem_map.1 hz; rfl
    have hmk' : m ≤ k := by omega
    refine wpList_copyIn rfl _ _ 26 26 rfl 3 Tryz.underlying26 Tryz.infoIntS w.heap.size g2 (k + 1) c2 (m + 1) m _ OW7.out hys (k - m) (k + 1 - m) (by omega) rfl _ (some ⟨g2, m, none⟩) (c2 - (m + 1)) (c2 - m) rfl rfl (fun h => if_neg (by have := HC2.out; omega)) (fun _ => rfl) (by omega) (by omega) ?_
    intro w8 ho8 hg8
    have hx8 : w8.cell? ⟨b, off + k, none⟩ = some (.int .i64 x) := (gb_cell hg8 hb7 (fun e => by have := H2.out; have := HBW.out; simp at e; omega)).trans hx7
    have hb8 : b < w8.heap.size := Nat.lt_of_lt_of_le hb7 hg8.size
    have hf8 := ho8.frozenAt m
    have hl8 := (ho8.lt g2 rfl).2
    obtain ⟨z8, hz8⟩ : ∃ z, w8.cell? ⟨g2, m, none⟩ = some z := by
     rw [ho8.cellAt m (by omega)]
     exact ⟨_, List.getElem?_eq_getElem (by have := ho8.1; omega)⟩
    obtain ⟨q1, q2⟩ := ho8.stored m (.int .i64 x)
    have hkk : k + 1 = R.length + 1 := by have := HRL.out; omega
    rw [hkk, ins_cells R x m (by have := HRL.out; omega)] at q1
    have e9 : R.take m ++ x :: R.drop m = insAt R x := by rw [HSP.out]
    have e10 : (insAt R x).length = k + 1 := by have := (insAt_perm R x).length_eq; have := HRL.out; simp at *; omega
    rw [e9, ← hkk] at q1
    have OW9 : Hid ((w8.setCell ⟨g2, m, none⟩ (.int .i64 x)).ownsRow w.heap.size 3 1 (.slice (some ⟨g2, 0, none⟩) (k + 1) c2) (insAt R x).length ((insAt R x).map (Value.int .i64))) := zH (by rw [e10]; exact q1)
    have G9 := zH (gb_setCell (gb_new G7.out hg8 (fun q hq => by have := H2.out; simp at hq; omega)) (a := ⟨g2, m, none⟩) (.inl H2.out) (.int .i64 x))
    clear ho8 hg8 hx7 hb7 hys q1 q2 hkk e9 e10 OW7 G7
    refine wpList_nil ?_
    simp only [zA, zB, zC, zD, zX]
    go_wp2_with fail
    go_roundw
    case rel => exact ⟨k + 1, _, by omega, by go_num, HINS.out, OW9.out, G9.out⟩
    case measure => simp [intOf]; omega
  ·have hd_ : decide ((k : Int) < (n : Int)) = false := decide_eq_false (by omega)
   have HR : Hid (R = srt xs) := zH (by rw [hR, List.take_of_length_le (by have := HNL.out; omega)])
   have hRn : R.length = n := by rw [hR, srt_len, List.length_take]; have := HNL.out; omega
   rw [hRn] at hown
   obtain ⟨ga, gc, rfl⟩ := owns_slice hown
   have HOW := zH hown; have HG := zH hgr
   clear hown hgr hR hRn
   go_wp2_with fail
   go_ret
   exact ⟨_, rfl, by rw [HNL.out, ← HR.out]; exact HOW.out, HG.out⟩
theorem takeWhile_at2 {α : Type} {p : α → Bool} : ∀ {l : List α} {k : Nat}, k ≤ (l.takeWhile p).length → ∀ (hk : k < l.length), (k < (l.takeWhile p).length ↔ p l[k] = true)
 | a :: l, 0, _, _ => by
  rw [List.takeWhile_cons]
  cases h : p a <;> simp [h]
 | a :: l, k + 1, h, hk => by
  rw [List.takeWhile_cons] at h ⊢
  cases hp : p a
  ·rw [hp] at h; simp at h
  ·rw [hp] at h
   simp only [if_true, List.length_cons, Nat.add_lt_add_iff_right, List.getElem_cons_succ] at h ⊢
   exact takeWhile_at2 (by omega) (by simpa using hk)
 | [], _, _, hk => by simp at hk
theorem insO_split (P : List Ph) (i : Nat) : ∀ (l : List Nat), insO P i l = l.take (l.takeWhile (fun y => lessB (phA P y) (phA P i) y i)).length ++ i :: l.drop (l.takeWhile (fun y => lessB (phA P y) (phA P i) y i)).length
 | [] => rfl
 | a :: l => by
  unfold insO
  by_cases h : lessA P a i
  ·have hb : lessB (phA P a) (phA P i) a i = true := lessB_iff.2 h
   rw [if_pos h, List.takeWhile_cons, hb]
   simp only [if_true, List.length_cons, List.take_succ_cons, List.drop_succ_cons, List.cons_append]
   rw [insO_split P i l]
  ·have hb : lessB (phA P a) (phA P i) a i = false := by
    cases hc : lessB (phA P a) (phA P i) a i
    ·rfl
    ·exact absurd (lessB_iff.1 hc) h
   rw [if_neg h, List.takeWhile_cons, hb]
   rfl
theorem insO_length (P : List Ph) (i : Nat) (l : List Nat) : (insO P i l).length = l.length + 1 := by rw [(insO_perm P i l).length_eq]; rfl
theorem ordN_length (P : List Ph) (n : Nat) : (ordN P n).length = n := by rw [(ordN_perm P n).length_eq, List.length_range]
def Ordered30 (P : List Ph) (w : World) (e : Ending) (w' : World) : Prop := ∃ v, e = .returned v ∧ w'.ownsRow w.heap.size 3 1 v P.length (((ordA P).map (fun (i : Nat) => (i : Int))).map (Value.int .i64)) ∧ w.grownBy w' none
set_option maxRecDepth 100000 in
set_option maxHeartbeats 8000000 in
theorem rorder30_any (P : List Ph) (v : Value) (w : World) (hp : SlC 6 w v P.length (flatP P)) (hl : P.length ≤ 100000) :
  Calls Tryz.prog 21 #[v] w (Ordered30 P w) := by
 obtain ⟨va, vc, rfl⟩ := hp.slice
 have HP := zH hp
 have LS := zH (fun (i k : Nat) (hi : i < P.length) (hk : k < P.length) (u : World) (hu : w.grownBy u none) => rless_any P _ u i k (HP.out.after hu) hi hk)
 clear hp
 generalize hn : P.length = n at *
 have HNL := zH hn; clear hn
 have HL := zH hl
 go_enter Tryz.func21, Tryz.ntmps21
 go_wp2_with fail
 go_loopw [3, 4, 5] (fun o i _ wr => ∃ (k : Nat) (R : List Nat), k ≤ n ∧ i = .int .i64 k ∧ R = ordN P k ∧ wr.ownsRow w.heap.size 3 1 o R.length ((R.map (fun (i : Nat) => (i : Int))).map (Value.int .i64)) ∧ w.grownBy wr none) (fun _ i _ _ => n - (intOf i).toNat)
 case atStart => exact ⟨0, [], by omega, rfl, rfl, World.ownsRow_nil _ _ _ _, gb_refl _ _⟩
 case round =>
  obtain ⟨k, R, hk, rfl, hR, hown, hgr⟩ := hrel
  obtain ⟨wo, hwo⟩ : ∃ wo : World, wo = wr := ⟨_, rfl⟩
  subst hwo
  have hRl : R.length = k := by rw [hR, ordN_length]
  by_cases hlt : k < n
  ·have hkd : decide ((k : Int) < (n : Int)) = true := decide_eq_true (by omega)
   have HINS : Hid (insO P k R = ordN P (k + 1)) := zH (by rw [hR]; rfl)
   have HRB : Hid (∀ y ∈ R, y < n) := zH (fun y hy => by
    rw [hR] at hy
    have := List.mem_range.1 ((ordN_perm P k).mem_iff.1 hy); omega)
   clear hR
   obtain ⟨T, hT⟩ : ∃ T, (R.takeWhile (fun y => lessB (phA P y) (phA P k) y k)).length = T := ⟨_, rfl⟩
   have hTR : T ≤ k := by rw [← hT, ← hRl]; exact (List.takeWhile_sublist _).length_le
   have HTT := zH (fun (m : Nat) (h1 : m ≤ T) (h2 : m < R.length) => by have := takeWhile_at2 (p := fun y => lessB (phA P y) (phA P k) y k) (l := R) (k := m) (by omega) h2; rw [hT] at this; exact this)
   have HSP : Hid (insO P k R = R.take T ++ k :: R.drop T) := zH (by have h := insO_split P k R; rw [hT] at h; exact h)
   have HG := zH hgr
   have HRL := zH hRl
   obtain ⟨oa, oc, e1⟩ := owns_slice hown
   subst e1
   have HOW := zH hown
   rw [hRl] at hown HOW ⊢
   clear hT hRl hgr
   go_upto_block 2 with fail
   go_cut [5] from 12 to 26 (fun f wc => f = .int .i64 T ∧ wo.grownBy wc none)
   case first =>
    by_cases hk0 : k = 0
    ·have HT0 := zH (show T = 0 by omega)
     have HK0 := zH hk0
     clear hk0 hown
     go_wp2_with fail
     go_loopw [5] (fun j wr => ∃ m : Nat, m = T ∧ j = .int .i64 m ∧ wr = wo) (fun j _ => k + 1 - (intOf j).toNat)
     case atStart => exact ⟨0, HT0.out.symm, rfl, rfl⟩
     case round =>
      obtain ⟨m, hm, rfl, rfl⟩ := hrel
      have HMT := zH hm
      have hmk : ¬ m < k := by have := HK0.out; omega
      have hd0 : decide ((m : Int) < (k : Int)) = false := decide_eq_false (by have := HK0.out; omega)
      clear hm
      go_wp2_with fail
      go_meet
      case rel => exact ⟨by rw [HMT.out], gb_refl _ _⟩
    ·obtain ⟨g, gc, e1, hgB, hgl, hgc, -⟩ := owns_at hown (by omega)
     simp only [Value.slice.injEq, true_and] at e1
     obtain ⟨rfl, rfl⟩ := e1
     clear hown hgB hgc
     go_wp2_with fail
     go_loopw [5] (fun j wr => ∃ m : Nat, m ≤ T ∧ j = .int .i64 m ∧ wo.grownBy wr none) (fun j _ => k + 1 - (intOf j).toNat)
     case atStart => exact ⟨0, by omega, rfl, gb_refl _ _⟩
     case round =>
      obtain ⟨m, hm, rfl, hgq⟩ := hrel
      have HGQ := zH hgq
      have hgq2 : g < wr.heap.size := Nat.lt_of_lt_of_le hgl hgq.size
      by_cases hmk : m < k
      ·have hmR : m < R.length := by have := HRL.out; omega
       have hcell : wr.cell? ⟨g, m, none⟩ = some (.int .i64 (R[m] : Int)) := by
        rw [gb_cell hgq hgl (by simp), HOW.out.cellAt m (by omega), List.getElem?_map, List.getElem?_map, List.getElem?_eq_getElem hmR]; rfl
       have HTM := HTT.out m hm hmR
       have hd1 : decide ((m : Int) < (k : Int)) = true := decide_eq_true (by omega)
       have LK := zH (LS.out R[m] k (HRB.out _ (List.getElem_mem hmR)) hlt wr (gb_trans HG.out hgq))
       clear hgq
       generalize R[m] = y at *
       have hHTM := zH HTM
       clear HTM
       generalize lessB (phA P y) (phA P k) y k = bb at *
       go_wp2_with fail
       clear hcell hgq2
       (with_reducible refine LK.out.mono ?_)
       rintro e w5 ⟨rfl, hg⟩
       have HG5 := zH (gb_trans HGQ.out hg)
       clear hg LK
       cases bb
       ·have HMT : Hid (m = T) := zH (by
         have h1 : ¬ m < T := fun h => by have := hHTM.out.1 h; cases this
         omega)
        clear hHTM
        go_wp2_with fail
        go_meet
        case rel => exact ⟨by rw [HMT.out], HG5.out⟩
       ·have hmT : m < T := hHTM.out.2 rfl
        clear hHTM
        go_wp2_with fail
        go_roundw
        case rel => exact ⟨m + 1, by omega, by go_num, HG5.out⟩
        case measure => simp [intOf]; omega
      ·have hd1 : decide ((m : Int) < (k : Int)) = false := decide_eq_false (by omega)
       have HMT := zH (show m = T by omega)
       clear hgq
       go_wp2_with fail
       go_meet
       case rel => exact ⟨by rw [HMT.out], HGQ.out⟩
   case rest =>
    obtain ⟨rfl, hgq⟩ := hcut
    have HGQ := zH hgq
    obtain ⟨m, hmT⟩ : ∃ m : Nat, m = T := ⟨_, rfl⟩
    subst hmT
    clear hgq hown
    have OWN5 := zH (owns_keep HOW.out HGQ.out)
    obtain ⟨RI, hRI⟩ : ∃ RI, R.map (fun (i : Nat) => (i : Int)) = RI := ⟨_, rfl⟩
    have HRI := zH hRI
    rw [hRI] at OWN5 HOW
    have HRIL : Hid (RI.length = k) := zH (by rw [← hRI, List.length_map]; exact HRL.out)
    clear hRI
    go_wp2_with (at_builtin; refine wpList_push rfl _ _ 26 rfl w.heap.size 3 (.int .i64 0) 1 8 Tryz.underlying26 Tryz.infoIntC rfl (by decide) (by decide) _ _ _ rfl (OWN5.out.alloc _) _ 1 [.int .i64 0] 3 rfl (heap_alloc_new _ _) rfl (by simp [Value.oneCell']) (by have := HL.out; omega) (by have := HG.out.size; have := HGQ.out.size; simp; omega) ?_; refine Hid.out ?_)
    refine zH ?_
    intro v' w6 hown' hg'
    rw [show RI.map (Value.int .i64) ++ [Value.int .i64 0] = (RI ++ [0]).map (Value.int .i64) by simp] at hown'
    obtain ⟨g2, c2, e2, hg2B, hg2l, hc2, -⟩ := owns_at hown' (by omega)
    subst e2
    have G6 := zH (push_grown (gb_trans HG.out HGQ.out) OWN5.out (Nat.le_refl _) hg')
    have OW6 := zH hown'
    have H2 := zH (show w.heap.size ≤ g2 from hg2B)
    have HC2 := zH hc2
    clear hown' hg' hg2B hg2l HGQ OWN5
    go_wp2_with fail
    refine Rg.rR (Made w6) Makes (fun _ => none) (fun _ => false) 0 7 Makes.size (Made.start w6) (fun hne => ?_)
    (repeat (refine rQ ?_; go_big_quiet_step (fail); refine wpQuiet_nil ?_))
    rintro w7 hq7 - -
    have OW7 := zH (owns_keep OW6.out hq7); have G7 := zH (gb_trans G6.out hq7)
    clear hq7 hne OW6 G6
    have hys : ∀ z ∈ (RI ++ [0]).map (Value.int .i64), z.oneCell' = true := fun z hz => by obtain ⟨z', -, rfl⟩ := List.mem_map.1 hz; rfl
    have hmk' : m ≤ k := by omega
    refine wpList_copyIn rfl _ _ 26 26 rfl 3 Tryz.underlying26 Tryz.infoIntS w.heap.size g2 (k + 1) c2 (m + 1) m _ OW7.out hys (k - m) (k + 1 - m) (by omega) rfl _ (some ⟨g2, m, none⟩) (c2 - (m + 1)) (c2 - m) rfl rfl (fun h => if_neg (by have := HC2.out; omega)) (fun _ => rfl) (by omega) (by omega) ?_
    intro w8 ho8 hg8
    have hf8 := ho8.frozenAt m
    have hl8 := (ho8.lt g2 rfl).2
    obtain ⟨z8, hz8⟩ : ∃ z, w8.cell? ⟨g2, m, none⟩ = some z := by
     rw [ho8.cellAt m (by omega)]
     exact ⟨_, List.getElem?_eq_getElem (by have := ho8.1; omega)⟩
    obtain ⟨q1, q2⟩ := ho8.stored m (.int .i64 (k : Int))
    have hkk : k + 1 = RI.length + 1 := by have := HRIL.out; omega
    rw [hkk, ins_cells RI (k : Int) m (by have := HRIL.out; omega)] at q1
    have e9 : RI.take m ++ (k : Int) :: RI.drop m = (insO P k R).map (fun (i : Nat) => (i : Int)) := by rw [HSP.out, ← HRI.out]; simp
    have e10 : (insO P k R).length = k + 1 := by rw [insO_length]; have := HRL.out; omega
    rw [e9, ← hkk] at q1
    have OW9 : Hid ((w8.setCell ⟨g2, m, none⟩ (.int .i64 (k : Int))).ownsRow w.heap.size 3 1 (.slice (some ⟨g2, 0, none⟩) (k + 1) c2) (insO P k R).length (((insO P k R).map (fun (i : Nat) => (i : Int))).map (Value.int .i64))) := zH (by rw [e10]; exact q1)
    have G9 := zH (gb_setCell (gb_new G7.out hg8 (fun q hq => by have := H2.out; simp at hq; omega)) (a := ⟨g2, m, none⟩) (.inl H2.out) (.int .i64 (k : Int)))
    clear ho8 hg8 hys q1 q2 hkk e9 e10 OW7 G7
    refine wpList_nil ?_
    simp only [zA, zB, zC, zD, zX]
    go_wp2_with fail
    go_roundw
    case rel => exact ⟨k + 1, _, by omega, by go_num, HINS.out, OW9.out, G9.out⟩
    case measure => simp [intOf]; omega
  ·have hd_ : decide ((k : Int) < (n : Int)) = false := decide_eq_false (by omega)
   have hke : k = n := by omega
   have HKE := zH hke
   have HR : Hid (R = ordA P) := zH (by rw [hR, hke, ← HNL.out]; rfl)
   rw [hRl] at hown
   obtain ⟨ga, gc, rfl⟩ := owns_slice hown
   have HOW : Hid (wo.ownsRow w.heap.size 3 1 (.slice ga k gc) k (((ordA P).map (fun (i : Nat) => (i : Int))).map (Value.int .i64))) := zH (by have h := hown; rw [HR.out] at h; exact h)
   have HG := zH hgr
   clear hown hgr hR hRl HR hke
   go_wp2_with fail
   go_ret
   exact ⟨_, rfl, by rw [HNL.out, ← HKE.out]; exact HOW.out, HG.out⟩
end Go.Proofs.YtiebljanpnadjaaGreat
