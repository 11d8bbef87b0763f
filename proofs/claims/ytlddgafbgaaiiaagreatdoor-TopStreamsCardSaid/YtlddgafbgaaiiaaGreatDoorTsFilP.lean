/- FilP -/
import Derived.BigRegion
import Derived.Test.YtlddgafbgaaiiaaGreatDoorTsFilC
namespace Go.Proofs.YtlddgafbgaaiiaaGreatDoor
set_option linter.all false
open Go.RowKit Rg
theorem kbox {w : World} (cs : Array Value) (T : TypeId) : Hid ((w.alloc (.cells cs T)).heap[w.heap.size]? = some (.cells cs T (0, 0))) := Lib.hid (heap_alloc_new w _)
set_option maxRecDepth 100000 in
set_option maxHeartbeats 2000000 in
theorem fapply_any (fa sh : Int) (taps xs : List Int) (v x : Value) (num : Int) (w : World) (ok : FilOk fa sh taps) (hs : Sl w v taps) (hsx : Sl w x xs) (hx : ∀ x ∈ xs, -1000 ≤ x ∧ x ≤ 1000) (h0 : 0 < xs.length) (hl : xs.length ≤ 1000) (hnum : 0 ≤ num ∧ num ≤ 10000) :
    Calls Tryz.prog 16 #[.agg #[v, .int .i64 fa, .int .i64 sh], x, .int .i64 num] w fun e w' => ∃ v', e = .returned (.tuple #[v', .int .i64 0]) ∧ w'.ownsRow w.heap.size 3 1 v' (outR taps fa sh xs num 0 xs.length).length ((outR taps fa sh xs num 0 xs.length).map (Value.int .i64)) ∧ w.grownBy w' none := by
  obtain ⟨a1, c1, rfl⟩ := hs.shape'
  obtain ⟨a2, c2, rfl⟩ := hsx.shape'
  have HV := Lib.hid (fun (u : World) (hu : w.grownBy u none) => fvalid_any fa sh taps _ u ok (hs.later hu (by simp)))
  have HK := Lib.hid (fun (u : World) (hu : w.grownBy u none) => fcheck_any xs _ num 9007199254740992 u (hsx.later hu (by simp)) hx hl (by omega))
  have HO := Lib.hid (fun (u : World) (hu : w.grownBy u none) => foutputs_any fa sh taps xs _ _ num 0 u ok (hs.later hu (by simp)) (hsx.later hu (by simp)) hx h0 hl hnum (Nat.zero_le _))
  clear ok hs hsx hx
  have B1 : Hid ((w.alloc (.cells #[.slice a1 taps.length c1, .int .i64 fa, .int .i64 sh] 28)).heap[w.heap.size]? = _) := kbox _ _
  have G1 : Hid (w.grownBy (w.alloc (.cells #[.slice a1 taps.length c1, .int .i64 fa, .int .i64 sh] 28)) none) := Lib.hid (gb_alloc (gb_refl w none) _)
  go_enter Tryz.func16, Tryz.ntmps16
  go_wp2_with fail
  generalize w.alloc (.cells #[.slice a1 taps.length c1, .int .i64 fa, .int .i64 sh] 28) = w1 at *
  (with_reducible refine (HV.out _ G1.out).mono ?_)
  rintro r w2 ⟨rfl, hg⟩
  have B2 := Lib.hid (kept0 hg B1.out); have G2 := Lib.hid (gb_trans G1.out hg)
  clear hg B1 G1 HV
  have f0_ := cellD B2.out 0 _ rfl
  have f1_ := cellD B2.out 1 _ rfl
  have f2_ := cellD B2.out 2 _ rfl
  have K2 := Lib.hid (HK.out _ G2.out)
  have O2 := Lib.hid (HO.out _ G2.out)
  clear HK HO
  go_wp2_with (first | (go_at_call 33; (refine K2.out.mono ?_); rintro r w' ⟨rfl, rfl⟩) | (go_at_call 35; (refine O2.out.mono ?_); rintro r w3 ⟨v', rfl, ho, hg⟩; obtain ⟨oa, oc, rfl⟩ := owns_slice ho; have O3 := Lib.hid ho; have G3 := Lib.hid (gb_trans G2.out hg); clear ho hg))
  go_ret2
  exact ⟨_, rfl, by have h := ownMono O3.out (blkLe G2.out); simpa using h, G3.out⟩
/-- A slice that lies in memory from B on, and has no address only if it has no room. -/
structure Slb (B : Nat) (w : World) (v : Value) (xs : List Int) : Prop where
  sl : Sl w v xs
  nn : NilOk v
  low : ∀ b off n c, v = .slice (some ⟨b, off, none⟩) n c → 0 < n → B ≤ b
  ty : ∀ b off n c, v = .slice (some ⟨b, off, none⟩) n c → 0 < n → ∃ cs : Array Value, w.heap[b]? = some (.cells cs 3 (0, 0))
theorem Slb.ty' {B : Nat} {w w' : World} {v : Value} {xs : List Int} (h : Slb B w v xs) (hk : ∀ b off n c, v = .slice (some ⟨b, off, none⟩) n c → 0 < n → w'.heap[b]? = w.heap[b]?) :
    ∀ b off n c, v = .slice (some ⟨b, off, none⟩) n c → 0 < n → ∃ cs : Array Value, w'.heap[b]? = some (.cells cs 3 (0, 0)) := fun b off n c e h0 => by
  obtain ⟨cs, hc⟩ := h.ty b off n c e h0
  exact ⟨cs, (hk b off n c e h0).trans hc⟩
theorem Slb.later {B : Nat} {w w' : World} {v : Value} {xs : List Int} (h : Slb B w v xs) (hg : w.grownBy w' none) : Slb B w' v xs := ⟨h.sl.later hg (by simp), h.nn, h.low, h.ty' fun b off n c e h0 => by
  obtain ⟨cs, hc⟩ := h.ty b off n c e h0
  exact hg.block b (blkLt hc) (by simp)⟩
theorem Slb.laterp {B p : Nat} {w w' : World} {v : Value} {xs : List Int} (h : Slb B w v xs) (hg : w.grownBy w' (some p)) (hp : p < B) : Slb B w' v xs :=
  ⟨h.sl.later hg (fun b off n c e h0 he => by have := h.low b off n c e h0; simp at he; omega), h.nn, h.low, h.ty' fun b off n c e h0 => by
    obtain ⟨cs, hc⟩ := h.ty b off n c e h0
    exact hg.block b (blkLt hc) (fun he => by have := h.low b off n c e h0; simp at he; omega)⟩
theorem Slb.of {B n : Nat} {w : World} {v : Value} {xs : List Int} (h : w.ownsRow B 3 1 v n (xs.map (Value.int .i64))) (hn : n = xs.length) : Slb B w v xs := by
  refine ⟨Sl_of_owns h hn, fun k c he => ?_, fun b off k c he _ => ?_, fun b off k c he h0 => ?_⟩
  · rcases h.2 with ⟨h1, -⟩ | ⟨g, cap, cur, h1, -⟩
    · rw [h1] at he; simp at he; omega
    · rw [h1] at he; simp at he
  · exact (h.lt b (by rw [he]; rfl)).1
  · rcases h.2 with ⟨h1, -⟩ | ⟨g, cap, cur, h1, -, h3, -⟩
    · rw [h1] at he; simp at he
    · rw [h1] at he; simp at he
      obtain ⟨⟨rfl, -⟩, -⟩ := he
      exact ⟨cur, h3⟩
/-- The numbers from m on: 's[m:]'. -/
theorem Slb.drop {B b n cap : Nat} {w : World} {xs : List Int} (h : Slb B w (.slice (some ⟨b, 0, none⟩) n cap) xs) {m : Nat} (hm : m ≤ n) : Slb B w (.slice (some ⟨b, m, none⟩) (n - m) (cap - m)) (xs.drop m) := by
  obtain ⟨hs, -, hl, ht⟩ := h
  refine ⟨?_, fun k c e => by simp at e, fun b' off k c e h0 => by simp at e; exact hl b 0 n cap rfl (by omega) |> fun h => by omega, fun b' off k c e h0 => by
    simp at e
    obtain ⟨⟨rfl, -⟩, e2, -⟩ := e
    exact ht b 0 n cap rfl (by omega)⟩
  rcases hs with ⟨rfl, a, c, e⟩ | ⟨b', off', cap', e, hb, h1, h2, h3⟩
  · simp at e; obtain ⟨-, rfl, -⟩ := e
    obtain rfl : m = 0 := by omega
    exact .inl ⟨rfl, _, _, rfl⟩
  · simp at e; obtain ⟨⟨rfl, rfl⟩, rfl, rfl⟩ := e
    have hl : (xs.drop m).length = xs.length - m := by simp
    refine .inr ⟨_, _, _, by rw [hl], hb, by omega, by omega, fun k hk => ?_⟩
    rw [hl] at hk
    have := h3 (m + k) (by omega)
    rw [Nat.zero_add] at this
    rw [this, List.getElem?_drop]
theorem Slb.none {B b : Nat} {w : World} (g : Nat) {v : Value} {ys : List Int} (_ : Slb b w v ys) : Slb B w (.slice (some ⟨g, 0, none⟩) 0 0) [] :=
  ⟨.inl ⟨rfl, _, _, rfl⟩, fun k c e => by simp at e, fun b off n c e h0 => by simp at e; omega, fun b off n c e h0 => by simp at e; omega⟩
theorem Slb.mono {B B' : Nat} {w : World} {v : Value} {xs : List Int} (h : Slb B w v xs) (hb : B' ≤ B) : Slb B' w v xs := ⟨h.sl, h.nn, fun b off n c e h0 => Nat.le_trans hb (h.low b off n c e h0), h.ty⟩
set_option maxRecDepth 100000 in
set_option maxHeartbeats 2000000 in
theorem fvalidfeed_any (fa sh : Int) (taps past : List Int) (v pv : Value) (num : Int) (w : World) (ok : FilOk fa sh taps) (hs : Sl w v taps) (hsp : Sl w pv past) (hx : ∀ x ∈ past, -1000 ≤ x ∧ x ≤ 1000) (hl : past.length < taps.length) (hnum : past.length ≤ num ∧ num ≤ 20000) :
    Calls Tryz.prog 32 #[.agg #[v, .int .i64 fa, .int .i64 sh, pv, .int .i64 num]] w fun e w' => e = .returned (.bool true) ∧ w.grownBy w' none := by
  obtain ⟨a1, c1, rfl⟩ := hs.shape'
  obtain ⟨a2, c2, rfl⟩ := hsp.shape'
  have hl5 := ok.l1
  have HV := Lib.hid (fun (u : World) (hu : w.grownBy u none) => fvalid_any fa sh taps _ u ok (hs.later hu (by simp)))
  have hb : past.any badS = false := any_bad fun x h => by have := hx x h; simp [badS]; omega
  have HC := Lib.hid (fun (u : World) (hu : w.grownBy u none) => hb ▸ ccontainsF_any past _ u (hsp.later hu (by simp)))
  clear ok hs hsp hx hb
  have B1 : Hid ((w.alloc (.cells #[.slice a1 taps.length c1, .int .i64 fa, .int .i64 sh, .slice a2 past.length c2, .int .i64 num] 36)).heap[w.heap.size]? = _) := kbox _ _
  have G1 : Hid (w.grownBy (w.alloc (.cells #[.slice a1 taps.length c1, .int .i64 fa, .int .i64 sh, .slice a2 past.length c2, .int .i64 num] 36)) none) := Lib.hid (gb_alloc (gb_refl w none) _)
  go_enter Tryz.func32, Tryz.ntmps32
  go_wp2_with fail
  generalize w.alloc (.cells #[.slice a1 taps.length c1, .int .i64 fa, .int .i64 sh, .slice a2 past.length c2, .int .i64 num] 36) = w1 at *
  (with_reducible refine (HV.out _ G1.out).mono ?_)
  rintro r w2 ⟨rfl, hg⟩
  have B2 := Lib.hid (kept0 hg B1.out); have G2 := Lib.hid (gb_trans G1.out hg)
  clear hg B1 G1 HV
  have f0_ := cellD B2.out 0 _ rfl
  have f3_ := cellD B2.out 3 _ rfl
  have f4_ := cellD B2.out 4 _ rfl
  have K2 := Lib.hid (HC.out _ G2.out)
  clear HC
  go_wp2_with (first | (go_at_call 37; (refine K2.out.mono ?_); rintro r w' ⟨rfl, rfl⟩) | (go_at_call 29; refine (fin_yes _ _ _ _ (by omega) (by omega)).mono ?_; rintro e w' ⟨rfl, rfl⟩))
  go_ret
  exact ⟨rfl, G2.out⟩
set_option maxRecDepth 100000 in
set_option maxHeartbeats 2000000 in
theorem fstart_any (fa sh : Int) (taps : List Int) (v : Value) (num : Int) (w : World) (ok : FilOk fa sh taps) (hs : Sl w v taps) (hnn : NilOk v) (hnum : 0 ≤ num ∧ num ≤ 20000) :
    Calls Tryz.prog 11 #[.agg #[v, .int .i64 fa, .int .i64 sh], .int .i64 num] w fun e w' => ∃ v', e = .returned (.tuple #[.agg #[v', .int .i64 fa, .int .i64 sh, .slice none 0 0, .int .i64 num], .int .i64 0]) ∧ Slb w.heap.size w' v' taps ∧ w.grownBy w' none := by
  obtain ⟨a1, c1, rfl⟩ := hs.shape'
  have hl5 := ok.l1
  have HV := Lib.hid (fun (u : World) (hu : w.grownBy u none) => fvalid_any fa sh taps _ u ok (hs.later hu (by simp)))
  have HC := Lib.hid (fun (u : World) (hu : w.grownBy u none) => clone_any taps _ u (hs.later hu (by simp)) hnn (by omega))
  clear ok hs hnn
  have g1 := gb_alloc (gb_refl w none) (.cells #[.slice a1 taps.length c1, .int .i64 fa, .int .i64 sh] 28)
  have g2 := gb_alloc g1 (.cells #[.slice none 0 0, .int .i64 0, .int .i64 0, .slice none 0 0, .int .i64 0] 36)
  have B1 : Hid (((w.alloc (.cells #[.slice a1 taps.length c1, .int .i64 fa, .int .i64 sh] 28)).alloc (.cells #[.slice none 0 0, .int .i64 0, .int .i64 0, .slice none 0 0, .int .i64 0] 36)).heap[w.heap.size]? = _) := Lib.hid (heapOld (kbox _ _).out)
  have R1 : Hid (((w.alloc (.cells #[.slice a1 taps.length c1, .int .i64 fa, .int .i64 sh] 28)).alloc (.cells #[.slice none 0 0, .int .i64 0, .int .i64 0, .slice none 0 0, .int .i64 0] 36)).heap[w.heap.size + 1]? = some (.cells #[.slice none 0 0, .int .i64 0, .int .i64 0, .slice none 0 0, .int .i64 0] 36 (0, 0))) := Lib.hid (by simpa using (kbox (w := w.alloc (.cells #[.slice a1 taps.length c1, .int .i64 fa, .int .i64 sh] 28)) #[.slice none 0 0, .int .i64 0, .int .i64 0, .slice none 0 0, .int .i64 0] 36).out)
  have G1 := Lib.hid g2
  clear g1 g2
  go_enter Tryz.func11, Tryz.ntmps11
  go_wp2_with fail
  generalize (w.alloc (.cells #[.slice a1 taps.length c1, .int .i64 fa, .int .i64 sh] 28)).alloc (.cells #[.slice none 0 0, .int .i64 0, .int .i64 0, .slice none 0 0, .int .i64 0] 36) = w1 at *
  (with_reducible refine (HV.out _ G1.out).mono ?_)
  rintro r w2 ⟨rfl, hg⟩
  have B2 := Lib.hid (kept0 hg B1.out); have R2 := Lib.hid (kept0 hg R1.out); have G2 := Lib.hid (gb_trans G1.out hg)
  clear hg B1 R1 G1 HV
  have f0_ := cellD B2.out 0 _ rfl
  go_wp2_with (first | (go_at_call 29; refine (fin_yes _ _ _ _ (by omega) (by omega)).mono ?_; rintro e w' ⟨rfl, rfl⟩))
  (with_reducible refine (HC.out _ G2.out).mono ?_)
  rintro r w3 ⟨v', rfl, ho, hg⟩
  have O3X := Lib.hid ho
  have hz2b := blkLt R2.out
  have B3 := Lib.hid (kept0 hg B2.out); have R3 := Lib.hid (kept0 hg R2.out); have G3 := Lib.hid (gb_trans G2.out hg)
  have hz2 : w.heap.size < w2.heap.size := blkLt B2.out
  have V3 := Lib.hid ((Slb.of ho rfl).mono (blkLe G2.out))
  obtain ⟨oa, oc, hv⟩ := owns_slice ho
  subst hv
  have hlow : ∀ b, b < w2.heap.size → some b ≠ (Value.slice oa taps.length oc).ownBlock := fun b hb e => by have := (ho.lt b e.symm).1; omega
  clear hg ho B2 R2 f0_ HC
  have f0_ := cellD B3.out 0 _ rfl
  have z_ := frozD B3.out
  have g4 : w3.grownBy (w3.setCell ⟨w.heap.size, 0, none⟩ (.slice oa taps.length oc)) (some w.heap.size) := gb_setCell (gb_refl _ _) (.inr rfl) _
  have B4 : (w3.setCell ⟨w.heap.size, 0, none⟩ (.slice oa taps.length oc)).heap[w.heap.size]? = some (.cells #[.slice oa taps.length oc, .int .i64 fa, .int .i64 sh] 28 (0, 0)) := set_block B3.out 0 _
  have R4 := keptp g4 R3.out (by omega)
  have e0_ := cellD B4 0 _ rfl
  have e1_ := cellD B4 1 _ rfl
  have e2_ := cellD B4 2 _ rfl
  have r0_ := cellD R4 0 _ rfl
  have r1_ := cellD R4 1 _ rfl
  have r2_ := cellD R4 2 _ rfl
  have r3_ := cellD R4 3 _ rfl
  have r4_ := cellD R4 4 _ rfl
  have rz_ := frozD R4
  have n5 := Lib.hid (set_block (set_block (set_block (set_block (set_block R4 0 (.slice oa taps.length oc)) 1 (.int .i64 fa)) 2 (.int .i64 sh)) 3 (.slice none 0 0)) 4 (.int .i64 num))
  have gR := Lib.hid (gb_setCell (a := ⟨w.heap.size + 1, 4, none⟩) (gb_setCell (a := ⟨w.heap.size + 1, 3, none⟩) (gb_setCell (a := ⟨w.heap.size + 1, 2, none⟩) (gb_setCell (a := ⟨w.heap.size + 1, 1, none⟩) (gb_setCell (a := ⟨w.heap.size + 1, 0, none⟩) (gb_refl (w3.setCell ⟨w.heap.size, 0, none⟩ (.slice oa taps.length oc)) (some (w.heap.size + 1))) (.inr rfl) (.slice oa taps.length oc)) (.inr rfl) (.int .i64 fa)) (.inr rfl) (.int .i64 sh)) (.inr rfl) (.slice none 0 0)) (.inr rfl) (.int .i64 num))
  have GF := Lib.hid (gbNew (gbNew G3.out g4 (fun k hk => by simp at hk; omega)) gR.out (fun k hk => by simp at hk; omega))
  have SF := Lib.hid ((Slb.of (owns_keepp (owns_keepp O3X.out g4 (by omega)) gR.out (by omega)) rfl).mono (blkLe G2.out))
  clear g4 B4 R4
  go_wp2_with fail
  exact bodyPost_ret (v := .tuple #[.agg #[.slice oa taps.length oc, .int .i64 fa, .int .i64 sh, .slice none 0 0, .int .i64 num], .int .i64 0]) (by simp [results, Tryz.results11, go_sem, World.cell?, n5.out]) rfl ⟨_, rfl, SF.out, GF.out⟩
set_option maxRecDepth 100000 in
set_option maxHeartbeats 4000000 in
theorem fpush_any (fa sh : Int) (taps past xs : List Int) (v pv x : Value) (num : Int) (w : World) (ok : FilOk fa sh taps) (hs : Sl w v taps) (hsn : NilOk v) (hsp : Sl w pv past) (hpn : NilOk pv) (hsx : Sl w x xs) (hxn : NilOk x)
    (hx : ∀ x ∈ past, -1000 ≤ x ∧ x ≤ 1000) (hy : ∀ x ∈ xs, -1000 ≤ x ∧ x ≤ 1000) (hl : past.length < taps.length) (h0 : 0 < xs.length) (hlx : xs.length ≤ 100) (hnum : past.length ≤ num ∧ num ≤ 10000) :
    Calls Tryz.prog 13 #[.agg #[v, .int .i64 fa, .int .i64 sh, pv, .int .i64 num], x] w fun e w' => ∃ v' pv' o', e = .returned (.tuple #[.agg #[v', .int .i64 fa, .int .i64 sh, pv', .int .i64 (num + xs.length)], o', .int .i64 0]) ∧
      Slb w.heap.size w' v' taps ∧ Slb w.heap.size w' pv' ((past ++ xs).drop ((past ++ xs).length + 1 - taps.length)) ∧ Slb w.heap.size w' o' (outR taps fa sh (past ++ xs) (num - past.length) past.length xs.length) ∧ w.grownBy w' none := by
  obtain ⟨a1, c1, rfl⟩ := hs.shape'
  obtain ⟨a2, c2, rfl⟩ := hsp.shape'
  obtain ⟨a3, c3, rfl⟩ := hsx.shape'
  have hl5 := ok.l1
  have hall : ∀ y ∈ past ++ xs, -1000 ≤ y ∧ y ≤ 1000 := fun y h => by rcases List.mem_append.1 h with h | h; (exact hx y h); exact hy y h
  have HV := Lib.hid (fun (u : World) (hu : w.grownBy u none) => fvalidfeed_any fa sh taps past _ _ num u ok (hs.later hu (by simp)) (hsp.later hu (by simp)) hx hl ⟨hnum.1, by omega⟩)
  have HK := Lib.hid (fun (u : World) (hu : w.grownBy u none) => fcheck_any xs _ num 18014398509481984 u (hsx.later hu (by simp)) hy (by omega) (by omega))
  have HCC := Lib.hid (fun (u : World) (b : Nat) (hu : w.grownBy u none) (hb : u.heap[b]? = some (.cells #[.slice a2 past.length c2, .slice a3 xs.length c3] 22 (0, 0))) => concat2_any b _ _ past xs u hb (hsp.later hu (by simp)) (hsx.later hu (by simp)) hpn hxn (by omega) (by omega))
  have HO := Lib.hid (fun (u : World) (hu : w.grownBy u none) (va : Value) (ha : Sl u va (past ++ xs)) => foutputs_any fa sh taps (past ++ xs) _ va (num - past.length) past.length u ok (hs.later hu (by simp)) ha hall (by simp; omega) (by simp; omega) (by omega) (by simp))
  have HC := Lib.hid (fun (u : World) (hu : w.grownBy u none) => clone_any taps _ u (hs.later hu (by simp)) hsn (by omega))
  clear ok hs hsp hsx hx hy hall hsn hpn hxn
  have B1 : Hid (((w.alloc (.cells #[.slice a1 taps.length c1, .int .i64 fa, .int .i64 sh, .slice a2 past.length c2, .int .i64 num] 36)).alloc (.cells #[.slice none 0 0, .int .i64 0, .int .i64 0, .slice none 0 0, .int .i64 0] 36)).heap[w.heap.size]? = some (.cells #[.slice a1 taps.length c1, .int .i64 fa, .int .i64 sh, .slice a2 past.length c2, .int .i64 num] 36 (0, 0))) := Lib.hid (heapOld (kbox _ _).out)
  have R1 : Hid (((w.alloc (.cells #[.slice a1 taps.length c1, .int .i64 fa, .int .i64 sh, .slice a2 past.length c2, .int .i64 num] 36)).alloc (.cells #[.slice none 0 0, .int .i64 0, .int .i64 0, .slice none 0 0, .int .i64 0] 36)).heap[w.heap.size + 1]? = some (.cells #[.slice none 0 0, .int .i64 0, .int .i64 0, .slice none 0 0, .int .i64 0] 36 (0, 0))) := Lib.hid (by simpa using (kbox (w := w.alloc (.cells #[.slice a1 taps.length c1, .int .i64 fa, .int .i64 sh, .slice a2 past.length c2, .int .i64 num] 36)) #[.slice none 0 0, .int .i64 0, .int .i64 0, .slice none 0 0, .int .i64 0] 36).out)
  have G1 := Lib.hid (gb_alloc (gb_alloc (gb_refl w none) (.cells #[.slice a1 taps.length c1, .int .i64 fa, .int .i64 sh, .slice a2 past.length c2, .int .i64 num] 36)) (.cells #[.slice none 0 0, .int .i64 0, .int .i64 0, .slice none 0 0, .int .i64 0] 36))
  go_enter Tryz.func13, Tryz.ntmps13
  go_wp2_with fail
  generalize ((w.alloc (.cells #[.slice a1 taps.length c1, .int .i64 fa, .int .i64 sh, .slice a2 past.length c2, .int .i64 num] 36)).alloc (.cells #[.slice none 0 0, .int .i64 0, .int .i64 0, .slice none 0 0, .int .i64 0] 36)) = w1 at *
  (with_reducible refine (HV.out _ G1.out).mono ?_)
  rintro r w2 ⟨rfl, hg⟩
  have B2 := Lib.hid (kept0 hg B1.out); have R2 := Lib.hid (kept0 hg R1.out); have G2 := Lib.hid (gb_trans G1.out hg)
  clear hg B1 R1 G1 HV
  have f3_ := cellD B2.out 3 _ rfl
  have f4_ := cellD B2.out 4 _ rfl
  have K2 := Lib.hid (HK.out _ G2.out)
  clear HK
  go_wp2_with (first | (go_at_call 33; (refine K2.out.mono ?_); rintro r w' ⟨rfl, rfl⟩))
  have ga := gb_alloc (gb_refl w2 none) (.cells #[.slice a2 past.length c2, .slice a3 xs.length c3] 22)
  have C2 := Lib.hid (HCC.out _ w2.heap.size (gb_trans G2.out ga) (kbox _ _).out)
  have BA := Lib.hid (kept0 ga B2.out); have RA := Lib.hid (kept0 ga R2.out); have GA := Lib.hid (gb_trans G2.out ga)
  clear ga HCC B2 R2 K2 f3_ f4_
  generalize w2.alloc (.cells #[.slice a2 past.length c2, .slice a3 xs.length c3] 22) = wa at *
  (with_reducible refine C2.out.mono ?_)
  rintro r w3 ⟨va, rfl, ho, hg⟩
  have hnz : 0 < (past ++ xs).length := by simp; omega
  obtain ⟨ga, ac, hva, hga, hga3, hac, hac2, -⟩ := owns_at ho hnz
  subst hva
  have A3 := Lib.hid (Slb.of ho rfl)
  have hz3 := blkLe hg
  have B3 := Lib.hid (kept0 hg BA.out); have R3 := Lib.hid (kept0 hg RA.out); have G3 := Lib.hid (gb_trans GA.out hg)
  have O3 := Lib.hid (HO.out _ G3.out _ (Sl_of_owns ho rfl))
  have hza : w.heap.size + 1 < wa.heap.size := blkLt RA.out
  clear hg ho C2 HO BA RA GA G2
  have f0_ := cellD B3.out 0 _ rfl
  have f1_ := cellD B3.out 1 _ rfl
  have f2_ := cellD B3.out 2 _ rfl
  have f3_ := cellD B3.out 3 _ rfl
  have f4_ := cellD B3.out 4 _ rfl
  have hal := Lib.hid (show (past ++ xs).length = past.length + xs.length by simp)
  generalize hall : past ++ xs = all at *
  have HALL := Lib.hid hall
  clear hall
  go_wp2_with fail
  (with_reducible refine O3.out.mono ?_)
  rintro r w4 ⟨vo, rfl, ho, hg⟩
  obtain ⟨oa, oc, hvo⟩ := owns_slice ho
  subst hvo
  have A4 := Lib.hid (A3.out.later hg); have O4 := Lib.hid ho
  have hz4 := blkLe hg
  have B4 := Lib.hid (kept0 hg B3.out); have R4 := Lib.hid (kept0 hg R3.out); have G4 := Lib.hid (gb_trans G3.out hg)
  clear hg ho A3 B3 R3 G3 O3 f0_ f1_ f2_ f3_ f4_
  have f0_ := cellD B4.out 0 _ rfl
  go_wp2_with fail
  (with_reducible refine (HC.out _ G4.out).mono ?_)
  rintro r w5 ⟨vt, rfl, ho, hg⟩
  obtain ⟨ta, tc, hvt⟩ := owns_slice ho
  subst hvt
  have hz5 := blkLe hg
  have hlow : ∀ b, b < w4.heap.size → some b ≠ (Value.slice ta taps.length tc).ownBlock := fun b hb e => by have := (ho.lt b e.symm).1; omega
  have T5 := Lib.hid ho
  have A5 := Lib.hid (A4.out.later hg); have O5 := Lib.hid (owns_keep O4.out hg)
  have B5 := Lib.hid (kept0 hg B4.out); have R5 := Lib.hid (kept0 hg R4.out); have G5 := Lib.hid (gb_trans G4.out hg)
  clear hg ho A4 O4 B4 R4 G4 HC f0_
  have f0_ := cellD B5.out 0 _ rfl
  have z_ := frozD B5.out
  have g6 : w5.grownBy (w5.setCell ⟨w.heap.size, 0, none⟩ (.slice ta taps.length tc)) (some w.heap.size) := gb_setCell (gb_refl _ _) (.inr rfl) _
  have B6 := Lib.hid (show (w5.setCell ⟨w.heap.size, 0, none⟩ (.slice ta taps.length tc)).heap[w.heap.size]? = some (.cells #[.slice ta taps.length tc, .int .i64 fa, .int .i64 sh, .slice a2 past.length c2, .int .i64 num] 36 (0, 0)) from set_block B5.out 0 _)
  have R6 := Lib.hid (keptp g6 R5.out (by omega))
  have G6 := Lib.hid (gbNew G5.out g6 (fun k hk => by simp at hk; omega))
  have A6 := Lib.hid (A5.out.laterp g6 (by omega))
  have O6 := Lib.hid (owns_keepp O5.out g6 (by omega))
  have T6 := Lib.hid (owns_keepp T5.out g6 (by omega))
  clear g6 A5 O5 T5 R5 B5 G5
  go_wp2_with fail
  generalize (w5.setCell ⟨w.heap.size, 0, none⟩ (.slice ta taps.length tc)) = w6 at *
  clear f0_ z_
  have f0_ := cellD B6.out 0 _ rfl
  have f3_ := cellD B6.out 3 _ rfl
  have f4_ := cellD B6.out 4 _ rfl
  have z_ := frozD B6.out
  have hac1 : 1 ≤ ac := by omega
  by_cases hct : taps.length ≤ all.length + 1
  · obtain ⟨cut, hcut⟩ : ∃ cut : Nat, all.length + 1 = cut + taps.length := ⟨all.length + 1 - taps.length, by omega⟩
    have hcut2 : cut ≤ all.length := by omega
    have wc_ : (all.length : Int) - (taps.length : Int) + 1 = (cut : Int) := by omega
    have HCUT := Lib.hid hcut
    clear hcut hct
    by_cases hca : cut < ac
    · have hif : (if 0 < cut then (cut : Int) else 0) = cut := by split <;> omega
      go_region
      try simp only [hif, Int.toNat_natCast]
      have g7 : w6.grownBy (((w6.setCell ⟨w.heap.size, 3, none⟩ (.slice (some ⟨ga, cut, none⟩) (all.length - cut) (ac - cut))).setCell ⟨w.heap.size, 4, none⟩ (.int .i64 (num + xs.length))).drew) (some w.heap.size) := gb_drew (gb_setCell (a := ⟨w.heap.size, 4, none⟩) (gb_setCell (a := ⟨w.heap.size, 3, none⟩) (gb_refl _ _) (.inr rfl) (.slice (some ⟨ga, cut, none⟩) (all.length - cut) (ac - cut))) (.inr rfl) (.int .i64 (num + xs.length)))
      have B7 := Lib.hid (show (((w6.setCell ⟨w.heap.size, 3, none⟩ (.slice (some ⟨ga, cut, none⟩) (all.length - cut) (ac - cut))).setCell ⟨w.heap.size, 4, none⟩ (.int .i64 (num + xs.length))).drew).heap[w.heap.size]? = some (.cells #[.slice ta taps.length tc, .int .i64 fa, .int .i64 sh, .slice (some ⟨ga, cut, none⟩) (all.length - cut) (ac - cut), .int .i64 (num + xs.length)] 36 (0, 0)) from set_block (set_block B6.out 3 (.slice (some ⟨ga, cut, none⟩) (all.length - cut) (ac - cut))) 4 (.int .i64 (num + xs.length)))
      have R7 := Lib.hid (keptp g7 R6.out (by omega))
      have G7 := Lib.hid (gbNew G6.out g7 (fun k hk => by simp at hk; omega))
      have A7 := Lib.hid (A6.out.laterp g7 (by omega))
      have O7 := Lib.hid (owns_keepp O6.out g7 (by omega))
      have T7 := Lib.hid (owns_keepp T6.out g7 (by omega))
      clear g7 A6 O6 T6 R6 B6 G6 f0_ f3_ f4_ z_
      generalize ((w6.setCell ⟨w.heap.size, 3, none⟩ (.slice (some ⟨ga, cut, none⟩) (all.length - cut) (ac - cut))).setCell ⟨w.heap.size, 4, none⟩ (.int .i64 (num + xs.length))).drew = w7 at *
      have e0_ := cellD B7.out 0 _ rfl
      have e1_ := cellD B7.out 1 _ rfl
      have e2_ := cellD B7.out 2 _ rfl
      have e3_ := cellD B7.out 3 _ rfl
      have e4_ := cellD B7.out 4 _ rfl
      have r0_ := cellD R7.out 0 _ rfl
      have r1_ := cellD R7.out 1 _ rfl
      have r2_ := cellD R7.out 2 _ rfl
      have r3_ := cellD R7.out 3 _ rfl
      have r4_ := cellD R7.out 4 _ rfl
      have rz_ := frozD R7.out
      have n5 := Lib.hid (set_block (set_block (set_block (set_block (set_block R7.out 0 (.slice ta taps.length tc)) 1 (.int .i64 fa)) 2 (.int .i64 sh)) 3 (.slice (some ⟨ga, cut, none⟩) (all.length - cut) (ac - cut))) 4 (.int .i64 (num + xs.length)))
      have gR := Lib.hid (gb_setCell (a := ⟨w.heap.size + 1, 4, none⟩) (gb_setCell (a := ⟨w.heap.size + 1, 3, none⟩) (gb_setCell (a := ⟨w.heap.size + 1, 2, none⟩) (gb_setCell (a := ⟨w.heap.size + 1, 1, none⟩) (gb_setCell (a := ⟨w.heap.size + 1, 0, none⟩) (gb_refl w7 (some (w.heap.size + 1))) (.inr rfl) (.slice ta taps.length tc)) (.inr rfl) (.int .i64 fa)) (.inr rfl) (.int .i64 sh)) (.inr rfl) (.slice (some ⟨ga, cut, none⟩) (all.length - cut) (ac - cut))) (.inr rfl) (.int .i64 (num + xs.length)))
      have GF := Lib.hid (gbNew G7.out gR.out (fun k hk => by simp at hk; omega))
      have TF := Lib.hid ((Slb.of (owns_keepp T7.out gR.out (by omega)) rfl).mono (show w.heap.size ≤ w4.heap.size by omega))
      have OF := Lib.hid ((Slb.of (owns_keepp O7.out gR.out (by omega)) rfl).mono (show w.heap.size ≤ w3.heap.size by omega))
      have AF := Lib.hid ((A7.out.laterp gR.out (by omega)).mono (show w.heap.size ≤ wa.heap.size by omega))
      clear B7 R7 A7 O7 T7 G7 gR
      go_wp2_with fail
      exact bodyPost_ret (v := .tuple #[.agg #[.slice ta taps.length tc, .int .i64 fa, .int .i64 sh, .slice (some ⟨ga, cut, none⟩) (all.length - cut) (ac - cut), .int .i64 (num + xs.length)], .slice oa (outR taps fa sh all (num - past.length) past.length (all.length - past.length)).length oc, .int .i64 0]) (by simp [results, Tryz.results13, go_sem, World.cell?, n5.out]) rfl ⟨_, _, _, rfl, TF.out, by rw [HALL.out]; have h := AF.out.drop (m := cut) (by omega); rwa [show all.length + 1 - taps.length = cut by have := HCUT.out; omega], by rw [HALL.out]; have e : outR taps fa sh all (num - past.length) past.length xs.length = outR taps fa sh all (num - past.length) past.length (all.length - past.length) := by { rw [show all.length - past.length = xs.length by have := hal.out; omega] }; rw [e]; exact OF.out, GF.out⟩
    · obtain rfl : cut = ac := by omega
      clear hca
      have hif : (if 0 < cut then (cut : Int) else 0) = cut := by split <;> omega
      have hcc : all.length = cut := by omega
      have hcl : all.length - cut = 0 := by omega
      have HCC := Lib.hid hcc
      clear hcc
      go_region
      try simp only [hif, Int.toNat_natCast, hcl, Nat.sub_self]
      have g7 : w6.grownBy (((w6.setCell ⟨w.heap.size, 3, none⟩ (.slice (some ⟨ga, 0, none⟩) 0 0)).setCell ⟨w.heap.size, 4, none⟩ (.int .i64 (num + xs.length))).drew) (some w.heap.size) := gb_drew (gb_setCell (a := ⟨w.heap.size, 4, none⟩) (gb_setCell (a := ⟨w.heap.size, 3, none⟩) (gb_refl _ _) (.inr rfl) (.slice (some ⟨ga, 0, none⟩) 0 0)) (.inr rfl) (.int .i64 (num + xs.length)))
      have B7 := Lib.hid (show (((w6.setCell ⟨w.heap.size, 3, none⟩ (.slice (some ⟨ga, 0, none⟩) 0 0)).setCell ⟨w.heap.size, 4, none⟩ (.int .i64 (num + xs.length))).drew).heap[w.heap.size]? = some (.cells #[.slice ta taps.length tc, .int .i64 fa, .int .i64 sh, .slice (some ⟨ga, 0, none⟩) 0 0, .int .i64 (num + xs.length)] 36 (0, 0)) from set_block (set_block B6.out 3 (.slice (some ⟨ga, 0, none⟩) 0 0)) 4 (.int .i64 (num + xs.length)))
      have R7 := Lib.hid (keptp g7 R6.out (by omega))
      have G7 := Lib.hid (gbNew G6.out g7 (fun k hk => by simp at hk; omega))
      have A7 := Lib.hid (A6.out.laterp g7 (by omega))
      have O7 := Lib.hid (owns_keepp O6.out g7 (by omega))
      have T7 := Lib.hid (owns_keepp T6.out g7 (by omega))
      clear g7 A6 O6 T6 R6 B6 G6 f0_ f3_ f4_ z_
      generalize ((w6.setCell ⟨w.heap.size, 3, none⟩ (.slice (some ⟨ga, 0, none⟩) 0 0)).setCell ⟨w.heap.size, 4, none⟩ (.int .i64 (num + xs.length))).drew = w7 at *
      have e0_ := cellD B7.out 0 _ rfl
      have e1_ := cellD B7.out 1 _ rfl
      have e2_ := cellD B7.out 2 _ rfl
      have e3_ := cellD B7.out 3 _ rfl
      have e4_ := cellD B7.out 4 _ rfl
      have r0_ := cellD R7.out 0 _ rfl
      have r1_ := cellD R7.out 1 _ rfl
      have r2_ := cellD R7.out 2 _ rfl
      have r3_ := cellD R7.out 3 _ rfl
      have r4_ := cellD R7.out 4 _ rfl
      have rz_ := frozD R7.out
      have n5 := Lib.hid (set_block (set_block (set_block (set_block (set_block R7.out 0 (.slice ta taps.length tc)) 1 (.int .i64 fa)) 2 (.int .i64 sh)) 3 (.slice (some ⟨ga, 0, none⟩) 0 0)) 4 (.int .i64 (num + xs.length)))
      have gR := Lib.hid (gb_setCell (a := ⟨w.heap.size + 1, 4, none⟩) (gb_setCell (a := ⟨w.heap.size + 1, 3, none⟩) (gb_setCell (a := ⟨w.heap.size + 1, 2, none⟩) (gb_setCell (a := ⟨w.heap.size + 1, 1, none⟩) (gb_setCell (a := ⟨w.heap.size + 1, 0, none⟩) (gb_refl w7 (some (w.heap.size + 1))) (.inr rfl) (.slice ta taps.length tc)) (.inr rfl) (.int .i64 fa)) (.inr rfl) (.int .i64 sh)) (.inr rfl) (.slice (some ⟨ga, 0, none⟩) 0 0)) (.inr rfl) (.int .i64 (num + xs.length)))
      have GF := Lib.hid (gbNew G7.out gR.out (fun k hk => by simp at hk; omega))
      have TF := Lib.hid ((Slb.of (owns_keepp T7.out gR.out (by omega)) rfl).mono (show w.heap.size ≤ w4.heap.size by omega))
      have OF := Lib.hid ((Slb.of (owns_keepp O7.out gR.out (by omega)) rfl).mono (show w.heap.size ≤ w3.heap.size by omega))
      have AF := Lib.hid ((A7.out.laterp gR.out (by omega)).mono (show w.heap.size ≤ wa.heap.size by omega))
      clear B7 R7 A7 O7 T7 G7 gR
      go_wp2_with fail
      exact bodyPost_ret (v := .tuple #[.agg #[.slice ta taps.length tc, .int .i64 fa, .int .i64 sh, .slice (some ⟨ga, 0, none⟩) 0 0, .int .i64 (num + xs.length)], .slice oa (outR taps fa sh all (num - past.length) past.length (all.length - past.length)).length oc, .int .i64 0]) (by simp [results, Tryz.results13, go_sem, World.cell?, n5.out]) rfl ⟨_, _, _, rfl, TF.out, by rw [HALL.out]; have h := Slb.none (B := w.heap.size) ga AF.out; rwa [List.drop_eq_nil_of_le (show all.length ≤ all.length + 1 - taps.length by have := HCUT.out; have := HCC.out; omega)], by rw [HALL.out]; have e : outR taps fa sh all (num - past.length) past.length xs.length = outR taps fa sh all (num - past.length) past.length (all.length - past.length) := by { rw [show all.length - past.length = xs.length by have := hal.out; omega] }; rw [e]; exact OF.out, GF.out⟩
  · have hc2 : all.length + 1 < taps.length := by omega
    have wm_ : (all.length : Int) - (taps.length : Int) + 1 ≤ 0 := by omega
    clear hct
    go_region
    have g7 : w6.grownBy (((w6.setCell ⟨w.heap.size, 3, none⟩ (.slice (some ⟨ga, 0, none⟩) all.length ac)).setCell ⟨w.heap.size, 4, none⟩ (.int .i64 (num + xs.length))).drew) (some w.heap.size) := gb_drew (gb_setCell (a := ⟨w.heap.size, 4, none⟩) (gb_setCell (a := ⟨w.heap.size, 3, none⟩) (gb_refl _ _) (.inr rfl) (.slice (some ⟨ga, 0, none⟩) all.length ac)) (.inr rfl) (.int .i64 (num + xs.length)))
    have B7 := Lib.hid (show (((w6.setCell ⟨w.heap.size, 3, none⟩ (.slice (some ⟨ga, 0, none⟩) all.length ac)).setCell ⟨w.heap.size, 4, none⟩ (.int .i64 (num + xs.length))).drew).heap[w.heap.size]? = some (.cells #[.slice ta taps.length tc, .int .i64 fa, .int .i64 sh, .slice (some ⟨ga, 0, none⟩) all.length ac, .int .i64 (num + xs.length)] 36 (0, 0)) from set_block (set_block B6.out 3 (.slice (some ⟨ga, 0, none⟩) all.length ac)) 4 (.int .i64 (num + xs.length)))
    have R7 := Lib.hid (keptp g7 R6.out (by omega))
    have G7 := Lib.hid (gbNew G6.out g7 (fun k hk => by simp at hk; omega))
    have A7 := Lib.hid (A6.out.laterp g7 (by omega))
    have O7 := Lib.hid (owns_keepp O6.out g7 (by omega))
    have T7 := Lib.hid (owns_keepp T6.out g7 (by omega))
    clear g7 A6 O6 T6 R6 B6 G6 f0_ f3_ f4_ z_
    generalize ((w6.setCell ⟨w.heap.size, 3, none⟩ (.slice (some ⟨ga, 0, none⟩) all.length ac)).setCell ⟨w.heap.size, 4, none⟩ (.int .i64 (num + xs.length))).drew = w7 at *
    have e0_ := cellD B7.out 0 _ rfl
    have e1_ := cellD B7.out 1 _ rfl
    have e2_ := cellD B7.out 2 _ rfl
    have e3_ := cellD B7.out 3 _ rfl
    have e4_ := cellD B7.out 4 _ rfl
    have r0_ := cellD R7.out 0 _ rfl
    have r1_ := cellD R7.out 1 _ rfl
    have r2_ := cellD R7.out 2 _ rfl
    have r3_ := cellD R7.out 3 _ rfl
    have r4_ := cellD R7.out 4 _ rfl
    have rz_ := frozD R7.out
    have n5 := Lib.hid (set_block (set_block (set_block (set_block (set_block R7.out 0 (.slice ta taps.length tc)) 1 (.int .i64 fa)) 2 (.int .i64 sh)) 3 (.slice (some ⟨ga, 0, none⟩) all.length ac)) 4 (.int .i64 (num + xs.length)))
    have gR := Lib.hid (gb_setCell (a := ⟨w.heap.size + 1, 4, none⟩) (gb_setCell (a := ⟨w.heap.size + 1, 3, none⟩) (gb_setCell (a := ⟨w.heap.size + 1, 2, none⟩) (gb_setCell (a := ⟨w.heap.size + 1, 1, none⟩) (gb_setCell (a := ⟨w.heap.size + 1, 0, none⟩) (gb_refl w7 (some (w.heap.size + 1))) (.inr rfl) (.slice ta taps.length tc)) (.inr rfl) (.int .i64 fa)) (.inr rfl) (.int .i64 sh)) (.inr rfl) (.slice (some ⟨ga, 0, none⟩) all.length ac)) (.inr rfl) (.int .i64 (num + xs.length)))
    have GF := Lib.hid (gbNew G7.out gR.out (fun k hk => by simp at hk; omega))
    have TF := Lib.hid ((Slb.of (owns_keepp T7.out gR.out (by omega)) rfl).mono (show w.heap.size ≤ w4.heap.size by omega))
    have OF := Lib.hid ((Slb.of (owns_keepp O7.out gR.out (by omega)) rfl).mono (show w.heap.size ≤ w3.heap.size by omega))
    have AF := Lib.hid ((A7.out.laterp gR.out (by omega)).mono (show w.heap.size ≤ wa.heap.size by omega))
    clear B7 R7 A7 O7 T7 G7 gR
    go_wp2_with fail
    exact bodyPost_ret (v := .tuple #[.agg #[.slice ta taps.length tc, .int .i64 fa, .int .i64 sh, .slice (some ⟨ga, 0, none⟩) all.length ac, .int .i64 (num + xs.length)], .slice oa (outR taps fa sh all (num - past.length) past.length (all.length - past.length)).length oc, .int .i64 0]) (by simp [results, Tryz.results13, go_sem, World.cell?, n5.out]) rfl ⟨_, _, _, rfl, TF.out, by rw [HALL.out]; have h := AF.out; rwa [show all.length + 1 - taps.length = 0 by omega, List.drop_zero], by rw [HALL.out]; have e : outR taps fa sh all (num - past.length) past.length xs.length = outR taps fa sh all (num - past.length) past.length (all.length - past.length) := by { rw [show all.length - past.length = xs.length by have := hal.out; omega] }; rw [e]; exact OF.out, GF.out⟩
end Go.Proofs.YtlddgafbgaaiiaaGreatDoor
