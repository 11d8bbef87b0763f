/- The walk of MisfitMore. -/
import Derived.Test.YtkckcaijfedijaaAwake27
import Derived.Test.YtkckcaijfedijaaMisM
import Derived.Test.YtkckcaijfedijaaRgApp
import Derived.Test.YtkckcaijfedijaaRgPos
import Derived.Test.YtkckcaijfedijaaProb
import Derived.Test.YtkckcaijfedijaaLaws27b
namespace Go.Proofs.Ytkckcaijfedijaa
set_option linter.all false
open Go.RowKit Rg

theorem own_more {u : World} {B : Nat} {phs : List Ph} {a : Ph} {v : Value} (h : u.ownsRow B 30 6 v (phs.length + 1) (flatP phs ++ a.cells)) : SlC 6 u v (phs ++ [a]).length (flatP (phs ++ [a])) := by
  rw [List.length_append, show flatP (phs ++ [a]) = flatP phs ++ a.cells by simp [flatP]]; exact SlC.of_owns h

set_option maxRecDepth 100000 in
set_option maxHeartbeats 4000000 in
theorem misfitMore_walk (w : World) (v : Value) (xs : List Int) (hs : Sl w v xs) (_hx : ∀ x ∈ xs, -9223372036854775808 ≤ x ∧ x ≤ 9223372036854775807) :
    Calls Try.prog 9 #[v] w fun e w' => e = .returned (.bool true) ∧ Below w.heap.size w w' := by
  go_enter Try.func9, Try.ntmps9
  go_wp2_with fail
  (with_reducible refine (new_any w v xs hs).mono ?_)
  rintro e w1 ⟨rfl, hS, hg⟩
  have S1 := Lib.hid hS; have M1 := Lib.hid (Mem.nil (p := w.heap.size) hg); clear hg hs hS
  go_wp2_with fail
  (with_reducible refine (problem_any w.heap.size w1 w.heap.size 20 5 S1.out (by omega) (by omega) (by omega) (by omega)).mono ?_)
  rintro e w2 ⟨P, vl, vh, vp, he, hB, hT, hre, -, hcap, hlen, hph, hin, hap, hS, hg⟩
  have M2 := Lib.hid (M1.out.draw hg (by omega)); have hp2 := hS.lt.2
  have gd := good_mk hB (by omega) hT hre.1 hcap hlen.1 (by omega) hph
  have hw1 := S1.out.lt.2
  have IND : Hid (∀ u u', ProbIn P vl vh vp u → u.grownBy u' (some w.heap.size) → ProbIn P vl vh vp u') := Lib.hid (fun u u' hi hg =>
    ⟨hi.l.later hg (fun b off len cap e _ => by have := hap vl (.inl rfl) b off len cap e; simp; omega), hi.h.later hg (fun b off len cap e _ => by have := hap vh (.inr (.inl rfl)) b off len cap e; simp; omega), hi.p.draw hg (fun b off len cap e _ => by have := hap vp (.inr (.inr rfl)) b off len cap e; omega)⟩)
  have NEA : Hid (∀ x y z, placeIn 60 x y z → Near P.step P.ls P.hs P.x0 P.y0 P.z0 P.x1 P.y1 P.z1 x y z) := Lib.hid (fun x y z h => near_mk hT hre.1 hB h (by omega) (by omega) (by omega))
  have S2 := Lib.hid hS
  have HCP : Hid (P.cap ∈ ([10, 50, 200, 1000] : List Int)) := Lib.hid hcap
  clear hg hS S1 M1 hT hre hcap hph hap hw1
  obtain ⟨pa, pc, rfl⟩ := hin.p.slice
  obtain ⟨la, ln, lc, rfl⟩ := sl_slice hin.l
  obtain ⟨ha, hn, hc, rfl⟩ := sl_slice hin.h
  have ATC := Lib.hid (fun x y z u hw hi => gd.at (vl := .slice la ln lc) (vh := .slice ha hn hc) (vp := .slice pa P.phs.length pc) rfl x y z u hw hi)
  have MOC := Lib.hid (fun (a : Ph) (ha' : goodPh a) hn' (x y z : Int) (u : World) hw (vq : Value) hi => (gd.more ha' hn' (by omega)).at (vl := .slice la ln lc) (vh := .slice ha hn hc) (vp := vq) (cs := (P.more a).val (.slice la ln lc) (.slice ha hn hc) vq) rfl x y z u hw hi)
  have LOC := Lib.hid (fun (c : Int) (h0 : 1 ≤ c) (h1 : c ≤ 1099511627776) (x y z : Int) (u : World) hw hi => (gd.loose h0 h1).at (vl := .slice la ln lc) (vh := .slice ha hn hc) (vp := .slice pa P.phs.length pc) (cs := (P.loose c).val (.slice la ln lc) (.slice ha hn hc) (.slice pa P.phs.length pc)) rfl x y z u hw hi)
  have LAW := Lib.hid (fun (a : Ph) (ha' : goodPh a) hn' (c : Int) (h0 : P.cap ≤ c) (h1 : c ≤ 1099511627776) (x y z : Int) hw => gd.moreLaw ha' hn' (by omega) h0 h1 (b0 := x) (b1 := y) (b2 := z) (b3 := x) (b4 := y) (b5 := z) hw)
  have MMB : Hid (∀ x y z : Int, 0 ≤ mm P x y z x y z ∧ mm P x y z x y z ≤ 1099511627776000) := Lib.hid (fun x y z => by
    have hz := zonesL_length P x y z x y z
    have h0 := gd.sound.some.1
    have hb := (best_spec (cap := P.cap) (phs := P.phs) (zs := zonesL P x y z x y z) (by rw [hz]; exact h0)).1
    have hc := (gd.sound.fair x y z x y z).costN_in (best P.cap P.phs (zonesL P x y z x y z)).1 P.phs.length (Nat.le_refl _)
    unfold mm; rw [hb]; unfold cost; omega)
  have HVB := Lib.hid gd.sound.vb; have HI2 := Lib.hid hin; have HB := Lib.hid hB
  clear gd hin hB
  generalize mm P = m at *
  generalize tt P = tm at *
  obtain ⟨x0, y0, z0, x1, y1, z1, step, ls, hs, phs, cap⟩ := P
  simp only [Prob.val] at ATC HVB HI2 HB IND NEA HCP he hlen
  simp only [Prob.val, Prob.more, Prob.loose] at MOC LOC LAW
  subst he
  go_wp2_with fail
  refine calls_name (fun w3 hw => ?_)
  have M3 := Lib.hid (show Mem w (w.heap.size) _ _ w3 from by rw [hw]; exact (M2.out).alloc' (w2.heap.size) #[.int .i64 x0, .int .i64 y0, .int .i64 z0, .int .i64 x1, .int .i64 y1, .int .i64 z1, .int .i64 step, .slice la ln lc, .slice ha hn hc, .slice pa phs.length pc, .int .i64 cap] 68 hp2 rfl)
  have HI3 := Lib.hid (show ProbIn _ _ _ _ w3 from HI2.out.after (by rw [hw]; exact gb_alloc (gb_refl _ _) _))
  have S3 := Lib.hid (show Src w.heap.size w3 w.heap.size from by rw [hw]; exact S2.out.later (row := none) (gb_alloc (gb_refl _ _) _) (by simp))
  clear hw hp2 M2 HI2 S2
  generalize w2.heap.size = n2 at *
  have hB := HB.out
  unfold boxIn placeIn at hB
  (with_reducible refine (point_any w.heap.size w3 w.heap.size x0 y0 z0 x1 y1 z1 S3.out (by omega) (by omega) (by omega)).mono ?_)
  rintro r w4 ⟨qx, qy, qz, rfl, hq, hS, hg⟩
  have hp4 := hS.lt.2
  have M5 := Lib.hid ((M3.out.draw hg (by omega)).alloc' w4.heap.size #[.int .i64 qx, .int .i64 qy, .int .i64 qz] 26 hp4 rfl)
  have HI5 := Lib.hid ((IND.out _ _ HI3.out hg).after (gb_alloc (gb_refl w4 none) (.cells #[.int .i64 qx, .int .i64 qy, .int .i64 qz] 26)))
  have S5 := Lib.hid (hS.later (row := none) (gb_alloc (gb_refl w4 none) (.cells #[.int .i64 qx, .int .i64 qy, .int .i64 qz] 26)) (by simp))
  have HW : wiP qx qy qz qx qy qz x0 y0 z0 x1 y1 z1 = true := wiP_point HVB.out ⟨hq.1, hq.2.1⟩ ⟨hq.2.2.1, hq.2.2.2.1⟩ ⟨hq.2.2.2.2.1, hq.2.2.2.2.2⟩
  have AT1 := Lib.hid (fun u hi => ATC.out qx qy qz u HW hi); have MO1 := Lib.hid (fun a ha' hn' u vq hi => MOC.out a ha' hn' qx qy qz u HW vq hi); have LO1 := Lib.hid (fun c h0 h1 u hi => LOC.out c h0 h1 qx qy qz u HW hi)
  have LA1 := Lib.hid (fun a ha' hn' c h0 h1 => LAW.out a ha' hn' c h0 h1 qx qy qz HW); have MB1 := Lib.hid (MMB.out qx qy qz)
  clear hS hg M3 HI3 S3 hB HB HVB HW hq ATC MOC LOC LAW MMB
  generalize m qx qy qz qx qy qz = mq at *
  generalize tm qx qy qz = tq at *
  obtain ⟨pb, poff, pcap, hpv, -⟩ := HI5.out.p.block hlen.1
  simp only [Value.slice.injEq, true_and] at hpv
  obtain ⟨rfl, rfl⟩ := hpv
  have T5 := Lib.hid (M5.out.at 1 rfl)
  have e0_ := cell_of T5.out 0 _ rfl; have e1_ := cell_of T5.out 1 _ rfl; have e2_ := cell_of T5.out 2 _ rfl; have e3_ := cell_of T5.out 3 _ rfl; have e4_ := cell_of T5.out 4 _ rfl; have e5_ := cell_of T5.out 5 _ rfl; have e6_ := cell_of T5.out 6 _ rfl; have e7_ := cell_of T5.out 7 _ rfl; have e8_ := cell_of T5.out 8 _ rfl; have e9_ := cell_of T5.out 9 _ rfl; have e10_ := cell_of T5.out 10 _ rfl
  have u1 := M5.out.made 1 rfl
  go_wp2_with fail
  generalize w4.alloc (.cells #[.int .i64 qx, .int .i64 qy, .int .i64 qz] 26) = w5 at *
  generalize w4.heap.size = n4 at *
  have hp5 := S5.out.lt.2
  have ZS : (#[.int .i64 0, .int .i64 0, .int .i64 0, .int .i64 0, .int .i64 0, .int .i64 0, .int .i64 0, .slice none 0 0, .slice none 0 0, .slice none 0 0, .int .i64 0] : Array Value).size = 11 := rfl
  refine Rg.region (Made w5) (MakesS 4) (fun k => if k = 2 then some (isVar w5 11 68) else if k = 3 then some (isVar w5 11 68) else if k = 4 then some (isRow #[.int .i64 x0, .int .i64 y0, .int .i64 z0, .int .i64 x1, .int .i64 y1, .int .i64 z1, .int .i64 step, .slice la ln lc, .slice ha hn hc, (.slice (some ⟨pb, poff, none⟩) phs.length pc), .int .i64 cap] 68) else none) (fun k => k == 2 || k == 3) 0 5 (by kernel_rfl) (by kernel_rfl) (by kernel_rfl) (by kernel_rfl) (by kernel_rfl) (by kernel_rfl) (by kernel_rfl) (MakesS.size 4) (Made.start w5) (fun hne => ?_)
  (repeat (refine rLexL_quiet (by rfl) (by rfl) (by rfl) (by rfl) ?_; go_big_quiet_step (fail); refine wpQuiet_nil ?_))
  refine rg_var #[.int .i64 0, .int .i64 0, .int .i64 0, .int .i64 0, .int .i64 0, .int .i64 0, .int .i64 0, .slice none 0 0, .slice none 0 0, .slice none 0 0, .int .i64 0] 68 (by decide) rfl rfl (fun _ => by go_simp) (fun c hcb => ?_)
  simp only [Act.put, List.setIfInBounds_toArray, List.set_cons_zero, List.set_cons_succ]
  refine rg_var #[.int .i64 0, .int .i64 0, .int .i64 0, .int .i64 0, .int .i64 0, .int .i64 0, .int .i64 0, .slice none 0 0, .slice none 0 0, .slice none 0 0, .int .i64 0] 68 (by decide) rfl rfl (fun _ => by go_simp) (fun d hdb => ?_)
  simp only [Act.put, List.setIfInBounds_toArray, List.set_cons_zero, List.set_cons_succ]
  refine rg_storeRow c #[.int .i64 x0, .int .i64 y0, .int .i64 z0, .int .i64 x1, .int .i64 y1, .int .i64 z1, .int .i64 step, .slice la ln lc, .slice ha hn hc, (.slice (some ⟨pb, poff, none⟩) phs.length pc), .int .i64 cap] 68 _ _ _ 2 ⟨⟨2, .data⟩, by simp, rfl, rfl⟩ rfl rfl rfl rfl (by kernel_rfl) (by simp [Value.oneCell']) hcb rfl rfl rfl ?_ rfl
  simp only [Act.put, List.setIfInBounds_toArray, List.set_cons_zero, List.set_cons_succ]
  rintro wq hq hf hD
  have hc6 := isRow.out (v := undef) (hf 4)
  obtain ⟨dcs, hdcs, hd6⟩ := isVar.out (hf 3)
  have hcd : c ≠ d := (hD 2 _ _ rfl (by kernel_rfl) rfl rfl c rfl (Nat.zero_le _)).2 3 _ _ rfl (by decide) (by kernel_rfl) rfl rfl d rfl (Nat.zero_le _)
  refine wpList_store_row rfl _ _ _ rfl d #[.int .i64 x0, .int .i64 y0, .int .i64 z0, .int .i64 x1, .int .i64 y1, .int .i64 z1, .int .i64 step, .slice la ln lc, .slice ha hn hc, (.slice (some ⟨pb, poff, none⟩) phs.length pc), .int .i64 cap] rfl rfl _ _ hd6 (by kernel_rfl) hdcs (by simp [Value.oneCell']) ?_
  have HC6 := Lib.hid ((setRow_far (cs := #[.int .i64 x0, .int .i64 y0, .int .i64 z0, .int .i64 x1, .int .i64 y1, .int .i64 z1, .int .i64 step, .slice la ln lc, .slice ha hn hc, (.slice (some ⟨pb, poff, none⟩) phs.length pc), .int .i64 cap]) hcd).trans hc6)
  have HD6 := Lib.hid (setRow_at (cs := #[.int .i64 x0, .int .i64 y0, .int .i64 z0, .int .i64 x1, .int .i64 y1, .int .i64 z1, .int .i64 step, .slice la ln lc, .slice ha hn hc, (.slice (some ⟨pb, poff, none⟩) phs.length pc), .int .i64 cap]) hd6)
  have G6 := Lib.hid (gb_setRow (cs := #[.int .i64 x0, .int .i64 y0, .int .i64 z0, .int .i64 x1, .int .i64 y1, .int .i64 z1, .int .i64 step, .slice la ln lc, .slice ha hn hc, (.slice (some ⟨pb, poff, none⟩) phs.length pc), .int .i64 cap]) hq (.inl hdb))
  generalize wq.setRow d #[.int .i64 x0, .int .i64 y0, .int .i64 z0, .int .i64 x1, .int .i64 y1, .int .i64 z1, .int .i64 step, .slice la ln lc, .slice ha hn hc, (.slice (some ⟨pb, poff, none⟩) phs.length pc), .int .i64 cap] = w6 at *
  clear hf hD hc6 hd6 hdcs hq hne u1 ZS
  clear e0_ e1_ e2_ e3_ e4_ e5_ e6_ e7_ e8_ e9_ e10_
  refine wpList_nil ?_
  simp only [Act.put, List.setIfInBounds_toArray, List.set_cons_zero, List.set_cons_succ]
  have S6 := Lib.hid (S5.out.later (row := none) G6.out (by simp))
  go_wp2_with fail
  (with_reducible refine (phase_any w.heap.size w6 w.heap.size S6.out).mono ?_)
  rintro r w7 ⟨ax, ay, az, ae, al, an, rfl, hph, hS, hg⟩
  have hp7 := hS.lt.2
  have G8 := Lib.hid (gb_trans (gb_trans (gb_none (row := some w.heap.size) G6.out) hg) (gb_none (gb_alloc (gb_refl w7 none) (.cells #[.int .i64 ax, .int .i64 ay, .int .i64 az, .int .i64 ae, .int .i64 al, .int .i64 an] 30))))
  have HC8 := Lib.hid (block_kept (gb_alloc (gb_refl w7 none) (.cells #[.int .i64 ax, .int .i64 ay, .int .i64 az, .int .i64 ae, .int .i64 al, .int .i64 an] 30)) (block_keptp hg HC6.out (by omega)) rfl)
  have HD8 := Lib.hid (block_kept (gb_alloc (gb_refl w7 none) (.cells #[.int .i64 ax, .int .i64 ay, .int .i64 az, .int .i64 ae, .int .i64 al, .int .i64 an] 30)) (block_keptp hg HD6.out (by omega)) rfl)
  have A8 := Lib.hid (heap_alloc_new w7 (.cells #[.int .i64 ax, .int .i64 ay, .int .i64 az, .int .i64 ae, .int .i64 al, .int .i64 an] 30))
  have S8 := Lib.hid (hS.later (row := none) (gb_alloc (gb_refl w7 none) (.cells #[.int .i64 ax, .int .i64 ay, .int .i64 az, .int .i64 ae, .int .i64 al, .int .i64 an] 30)) (by simp))
  have HI8 := Lib.hid (IND.out _ _ HI5.out G8.out); have M8 := Lib.hid (M5.out.draw G8.out (Nat.le_refl _))
  have hcA : c < w7.heap.size := by have := block_lt' HC6.out; have := hg.size; omega
  have hdA : d < w7.heap.size := by have := block_lt' HD6.out; have := hg.size; omega
  clear hS hg S5 S6 HC6 HD6 G6 T5
  obtain ⟨e9, f9⟩ : w7.heap.size = w7.heap.size ∧ True := ⟨rfl, trivial⟩
  clear e9 f9
  have T8 := Lib.hid (M8.out.at 1 rfl)
  have e9_ := cell_of T8.out 9 _ rfl
  have u1 := M8.out.made 1 rfl
  obtain ⟨a0, a1, a2, a3, a4, a5⟩ := six A8.out
  have ua := Made.cells (block_lt' A8.out)
  go_wp2_with fail
  generalize w7.alloc (.cells #[.int .i64 ax, .int .i64 ay, .int .i64 az, .int .i64 ae, .int .i64 al, .int .i64 an] 30) = w8 at *
  generalize w7.heap.size = A at *
  obtain ⟨pb', poff', pcap', hpv, hpb, hpm, -, hpcell⟩ := HI8.out.p.block hlen.1
  simp only [Value.slice.injEq, Option.some.injEq, Addr.mk.injEq, true_and, and_true] at hpv
  obtain ⟨⟨rfl, rfl⟩, rfl⟩ := hpv
  have HPC := Lib.hid (fun (u : World) (hu : w8.grownBy u none) (j : Nat) (y : Value) (hj : (flatP phs)[j]? = some y) => show u.cell? ((⟨pb, poff, none⟩ : Addr).add j) = some y from by rw [show (⟨pb, poff, none⟩ : Addr).add j = ⟨pb, poff + j, none⟩ by unfold Addr.add; split <;> simp_all]; exact (gb_cell hu hpb (by simp)).trans (hpcell j y hj))
  clear hpcell
  refine Rg.region (Made w8) Makes (fun k => if k = 10 then some (isBlk w8 1 30) else if k = 11 then some (isOwn w8.heap.size 30 6 (phs.length + 1) (flatP phs ++ [.int .i64 ax, .int .i64 ay, .int .i64 az, .int .i64 ae, .int .i64 al, .int .i64 an])) else none) (fun _ => false) 0 12 (by kernel_rfl) (by kernel_rfl) (by kernel_rfl) (by kernel_rfl) (by kernel_rfl) (by kernel_rfl) (by kernel_rfl) Makes.size (Made.start w8) (fun hne => ?_)
  (repeat (refine rLexL_quiet (by rfl) (by rfl) (by rfl) (by rfl) ?_; go_big_quiet_step (fail); refine wpQuiet_nil ?_))
  refine rLexL_val (.int .i64 phs.length) (by rfl) (by rfl) (by rfl) (by rfl) (fun _ => by go_simp) ?_
  simp only [Act.put, List.setIfInBounds_toArray, List.set_cons_zero, List.set_cons_succ]
  (repeat (refine rLexL_quiet (by rfl) (by rfl) (by rfl) (by rfl) ?_; go_big_quiet_step (fail); refine wpQuiet_nil ?_))
  refine rLexL_val (.int .i64 phs.length) (by rfl) (by rfl) (by rfl) (by rfl) (fun _ => by go_simp) ?_
  simp only [Act.put, List.setIfInBounds_toArray, List.set_cons_zero, List.set_cons_succ]
  (repeat (refine rLexL_quiet (by rfl) (by rfl) (by rfl) (by rfl) ?_; go_big_quiet_step (fail); refine wpQuiet_nil ?_))
  refine rg_litN 1 #[.int .i64 ax, .int .i64 ay, .int .i64 az, .int .i64 ae, .int .i64 al, .int .i64 an] 30 rfl rfl rfl rfl (fun _ => by go_simp) (fun nb hnb => ?_)
  simp only [Act.put, List.setIfInBounds_toArray, List.set_cons_zero, List.set_cons_succ]
  refine rg_appN _ _ 50 30 (.agg #[.int .i64 0, .int .i64 0, .int .i64 0, .int .i64 0, .int .i64 0, .int .i64 0]) 6 48 Try.underlying50 Try.infoPhaseT rfl (by decide) ⟨pb, poff, none⟩ phs.length (flatP phs) nb 1 [.int .i64 ax, .int .i64 ay, .int .i64 az, .int .i64 ae, .int .i64 al, .int .i64 an] 30 10 rfl rfl rfl rfl rfl rfl (flatP_length phs) HPC.out rfl ⟨⟨10, .data⟩, by simp, rfl, rfl⟩ rfl (by omega) (by omega) (fun vq => ?_)
  simp only [Act.put, List.setIfInBounds_toArray, List.set_cons_zero, List.set_cons_succ]
  rintro wq hq hf hD
  have hown : wq.ownsRow w8.heap.size 30 6 vq (phs.length + 1) (flatP phs ++ [.int .i64 ax, .int .i64 ay, .int .i64 az, .int .i64 ae, .int .i64 al, .int .i64 an]) := hf 11
  obtain ⟨na, nc, rfl⟩ := owns_slice hown
  have hp8 := S8.out.lt.2
  have hc8 := block_lt' HC8.out; have hd8 := block_lt' HD8.out
  have HCq := Lib.hid (block_kept hq HC8.out rfl); have HDq := Lib.hid (block_kept hq HD8.out rfl)
  have hFc := frozen3 HCq.out (o := 9); have c9 := cell_of HCq.out 9 _ rfl
  have G9 : Hid (w5.grownBy (wq.setCell ⟨c, 9, none⟩ (.slice na (phs.length + 1) nc)) (some w.heap.size)) := Lib.hid (gb_setCell (gb_trans G8.out (gb_none hq)) (.inl hcb) _)
  have HC9 : Hid ((wq.setCell ⟨c, 9, none⟩ (.slice na (phs.length + 1) nc)).heap[c]? = some (.cells #[.int .i64 x0, .int .i64 y0, .int .i64 z0, .int .i64 x1, .int .i64 y1, .int .i64 z1, .int .i64 step, .slice la ln lc, .slice ha hn hc, .slice na (phs.length + 1) nc, .int .i64 cap] 68 (0, 0))) := Lib.hid (set_block HCq.out 9 _)
  have HD9 := Lib.hid ((setCell_far (a := ⟨c, 9, none⟩) (u := .slice na (phs.length + 1) nc) (Ne.symm hcd)).trans HDq.out)
  have hAc : A ≠ c := by omega
  have A9 := Lib.hid ((setCell_far (a := ⟨c, 9, none⟩) (u := .slice na (phs.length + 1) nc) hAc).trans (block_kept hq A8.out rfl))
  have OW9 := Lib.hid (hown.kept (gb_setCell (gb_refl wq (some c)) (a := ⟨c, 9, none⟩) (.inr rfl) (.slice na (phs.length + 1) nc)) (.inr (fun e => by have := (hown.lt c e).1; omega)))
  have S9 := Lib.hid ((S8.out.later (row := none) hq (by simp)).later (row := some c) (gb_setCell (gb_refl wq (some c)) (a := ⟨c, 9, none⟩) (.inr rfl) (.slice na (phs.length + 1) nc)) (fun k hk => by simp at hk; omega))
  clear hf hD hq hown HCq HDq HC8 HD8 A8 S8 G8 M8 HI8 T8 u1 ua e9_ a0 a1 a2 a3 a4 a5 HPC hpb hpm hne
  go_wp2_with fail
  generalize wq.setCell ⟨c, 9, none⟩ (.slice na (phs.length + 1) nc) = w9 at *
  clear c9 hFc
  have hp9 := S9.out.lt.2
  have d10 := cell_of HD9.out 10 _ rfl
  have p10 := Pulled.cell (B := w.heap.size) (p := w.heap.size) d10 (block_lt' HD9.out) (by omega)
  refine Rg.region (Pulled w9 w.heap.size w.heap.size) (Pull w.heap.size) (fun k => if k = 3 then some (isInt fun x => 0 ≤ x ∧ x < 100) else none) (fun _ => false) 0 5 (by kernel_rfl) (by kernel_rfl) (by kernel_rfl) (by kernel_rfl) (by kernel_rfl) (by kernel_rfl) (by kernel_rfl) Pull.size (Pulled.start S9.out) (fun hne => ?_)
  (repeat (refine rLexL_quiet (by rfl) (by rfl) (by rfl) (by rfl) ?_; go_big_quiet_step (fail); refine wpQuiet_nil ?_))
  refine rg_draw (fun x => 0 ≤ x ∧ x < 100) 30 #[.pointer (some ⟨w.heap.size, 0, none⟩), .int .i64 100] rfl rfl (fun _ => by go_simp) (fun u hu _ => n_any w.heap.size u w.heap.size _ hu.2 (by omega) (by omega)) (fun rn hrn => ?_)
  simp only [Act.put, List.setIfInBounds_toArray, List.set_cons_zero, List.set_cons_succ]
  have hcap : 1 ≤ cap ∧ cap ≤ 1000 := by have := HCP.out; simp only [List.mem_cons, List.not_mem_nil, or_false] at this; omega
  have wc : IntKind.i64.wrap (cap + rn) = cap + rn := by rw [IntKind.wrap_i64]; omega
  (repeat (refine rLexL_quiet (by rfl) (by rfl) (by rfl) (by rfl) ?_; go_big_quiet_step (fail); refine wpQuiet_nil ?_))
  rintro w10 ⟨hg10, hs10⟩ - -
  have HDx := Lib.hid (block_keptp hg10 HD9.out (by omega))
  have hFd := frozen3 HDx.out (o := 10); have dx := cell_of HDx.out 10 _ rfl
  have hgs : w10.grownBy (w10.setCell ⟨d, 10, none⟩ (.int .i64 (cap + rn))) (some d) := gb_setCell (gb_refl w10 _) (.inr rfl) _
  have G11 := Lib.hid (gb_setCell (gb_trans G9.out hg10) (a := ⟨d, 10, none⟩) (.inl hdb) (.int .i64 (cap + rn)))
  have hAd : A ≠ d := by omega
  have A11 := Lib.hid ((setCell_far (a := ⟨d, 10, none⟩) (u := .int .i64 (cap + rn)) hAd).trans (block_keptp hg10 A9.out (by omega)))
  have C11 := Lib.hid ((setCell_far (a := ⟨d, 10, none⟩) (u := .int .i64 (cap + rn)) hcd).trans (block_keptp hg10 HC9.out (by omega)))
  have D11 : Hid ((w10.setCell ⟨d, 10, none⟩ (.int .i64 (cap + rn))).heap[d]? = some (.cells #[.int .i64 x0, .int .i64 y0, .int .i64 z0, .int .i64 x1, .int .i64 y1, .int .i64 z1, .int .i64 step, .slice la ln lc, .slice ha hn hc, (.slice (some ⟨pb, poff, none⟩) phs.length pc), .int .i64 (cap + rn)] 68 (0, 0))) := Lib.hid (set_block HDx.out 10 _)
  have OW11 := Lib.hid ((owns_keepp OW9.out hg10 (by omega)).kept hgs (.inr (fun e => by have := (OW9.out.lt d e).1; omega)))
  have M11 := Lib.hid (M5.out.draw G11.out (Nat.le_refl _))
  have HI11 := Lib.hid (IND.out _ _ HI5.out G11.out)
  clear hgs hg10 hs10 HD9 A9 HC9 OW9 G9 S9 d10 p10 HDx hne
  obtain ⟨m0_0, m0_1, m0_2⟩ := cells3 (M11.out.at 0 rfl)
  have T11 := Lib.hid (M11.out.at 1 rfl)
  have e0_ := cell_of T11.out 0 _ rfl; have e1_ := cell_of T11.out 1 _ rfl; have e2_ := cell_of T11.out 2 _ rfl; have e3_ := cell_of T11.out 3 _ rfl; have e4_ := cell_of T11.out 4 _ rfl; have e5_ := cell_of T11.out 5 _ rfl; have e6_ := cell_of T11.out 6 _ rfl; have e7_ := cell_of T11.out 7 _ rfl; have e8_ := cell_of T11.out 8 _ rfl; have e9_ := cell_of T11.out 9 _ rfl; have e10_ := cell_of T11.out 10 _ rfl
  go_wp2_with fail
  generalize w10.setCell ⟨d, 10, none⟩ (.int .i64 (cap + rn)) = w11 at *
  clear hFd dx
  (with_reducible refine (AT1.out _ HI11.out).mono ?_)
  rintro r w12 ⟨rfl, hg⟩
  clear e0_ e1_ e2_ e3_ e4_ e5_ e6_ e7_ e8_ e9_ e10_
  have M12 := Lib.hid (M11.out.later hg); have A12 := Lib.hid (block_kept hg A11.out rfl); have C12 := Lib.hid (block_kept hg C11.out rfl); have D12 := Lib.hid (block_kept hg D11.out rfl); have OW12 := Lib.hid (owns_keep OW11.out hg); have HI12 := Lib.hid (HI11.out.after hg)
  clear hg m0_0 m0_1 m0_2 T11 M11 A11 C11 D11 OW11 HI11 G11 AT1
  have GP : goodPh ⟨ax, ay, az, ae, al, an⟩ := by unfold phaseIn at hph; exact ⟨hph.1, by show 0 ≤ ae; omega, by show ae ≤ al; omega, by show al ≤ _; omega, by show 1 ≤ an; omega, by show an ≤ 4; omega⟩
  have NP := NEA.out _ _ _ hph.1
  have LQ := LA1.out ⟨ax, ay, az, ae, al, an⟩ GP NP (cap + rn) (by show cap ≤ cap + rn; omega) (by omega)
  have MO2 := Lib.hid (fun u vq hi => MO1.out ⟨ax, ay, az, ae, al, an⟩ GP NP u vq hi); have LO2 := Lib.hid (fun u hi => LO1.out (cap + rn) (by omega) (by omega) u hi)
  have hmb := MB1.out
  clear GP NP LA1 MO1 LO1 MB1 NEA
  simp only [] at LQ
  generalize mm ⟨x0, y0, z0, x1, y1, z1, step, ls, hs, phs ++ [⟨ax, ay, az, ae, al, an⟩], cap⟩ qx qy qz qx qy qz = mq1 at *
  generalize mm ⟨x0, y0, z0, x1, y1, z1, step, ls, hs, phs, cap + rn⟩ qx qy qz qx qy qz = mq2 at *
  obtain ⟨m0_0, m0_1, m0_2⟩ := cells3 (M12.out.at 0 rfl)
  have e0_ := cell_of C12.out 0 _ rfl; have e1_ := cell_of C12.out 1 _ rfl; have e2_ := cell_of C12.out 2 _ rfl; have e3_ := cell_of C12.out 3 _ rfl; have e4_ := cell_of C12.out 4 _ rfl; have e5_ := cell_of C12.out 5 _ rfl; have e6_ := cell_of C12.out 6 _ rfl; have e7_ := cell_of C12.out 7 _ rfl; have e8_ := cell_of C12.out 8 _ rfl; have e9_ := cell_of C12.out 9 _ rfl; have e10_ := cell_of C12.out 10 _ rfl
  go_wp2_with fail
  have HIQ : Hid (ProbIn ⟨x0, y0, z0, x1, y1, z1, step, ls, hs, phs ++ [⟨ax, ay, az, ae, al, an⟩], cap⟩ (.slice la ln lc) (.slice ha hn hc) (.slice na (phs.length + 1) nc) w12) := Lib.hid ⟨HI12.out.l, HI12.out.h, own_more OW12.out⟩
  (with_reducible refine (MO2.out _ _ HIQ.out).mono ?_)
  rintro r w13 ⟨rfl, hg⟩
  clear e0_ e1_ e2_ e3_ e4_ e5_ e6_ e7_ e8_ e9_ e10_
  have M13 := Lib.hid (M12.out.later hg); have A13 := Lib.hid (block_kept hg A12.out rfl); have D13 := Lib.hid (block_kept hg D12.out rfl); have HI13 := Lib.hid (HI12.out.after hg)
  clear hg m0_0 m0_1 m0_2 M12 A12 C12 D12 OW12 HI12 HIQ MO2
  obtain ⟨m0_0, m0_1, m0_2⟩ := cells3 (M13.out.at 0 rfl)
  have e0_ := cell_of D13.out 0 _ rfl; have e1_ := cell_of D13.out 1 _ rfl; have e2_ := cell_of D13.out 2 _ rfl; have e3_ := cell_of D13.out 3 _ rfl; have e4_ := cell_of D13.out 4 _ rfl; have e5_ := cell_of D13.out 5 _ rfl; have e6_ := cell_of D13.out 6 _ rfl; have e7_ := cell_of D13.out 7 _ rfl; have e8_ := cell_of D13.out 8 _ rfl; have e9_ := cell_of D13.out 9 _ rfl; have e10_ := cell_of D13.out 10 _ rfl
  have HIL : Hid (ProbIn ⟨x0, y0, z0, x1, y1, z1, step, ls, hs, phs, cap + rn⟩ (.slice la ln lc) (.slice ha hn hc) (.slice (some ⟨pb, poff, none⟩) phs.length pc) w13) := Lib.hid ⟨HI13.out.l, HI13.out.h, HI13.out.p⟩
  go_wp2_with fail
  (with_reducible refine (LO2.out _ HIL.out).mono ?_)
  rintro r w14 ⟨rfl, hg⟩
  clear e0_ e1_ e2_ e3_ e4_ e5_ e6_ e7_ e8_ e9_ e10_
  have M14 := Lib.hid (M13.out.later hg); have A14 := Lib.hid (block_kept hg A13.out rfl)
  clear hg m0_0 m0_1 m0_2 M13 A13 D13 HI13 HIL LO2
  have T14 := Lib.hid (M14.out.at 1 rfl)
  have e0_ := cell_of T14.out 0 _ rfl; have e1_ := cell_of T14.out 1 _ rfl; have e2_ := cell_of T14.out 2 _ rfl; have e3_ := cell_of T14.out 3 _ rfl; have e4_ := cell_of T14.out 4 _ rfl; have e5_ := cell_of T14.out 5 _ rfl; have e6_ := cell_of T14.out 6 _ rfl; have e7_ := cell_of T14.out 7 _ rfl; have e8_ := cell_of T14.out 8 _ rfl; have e9_ := cell_of T14.out 9 _ rfl; have e10_ := cell_of T14.out 10 _ rfl
  obtain ⟨a0, a1, a2, a3, a4, a5⟩ := six A14.out
  unfold phaseIn at hph
  have hpr1 : an * cap ≤ 4 * 1000 := Int.mul_le_mul (by omega) (by omega) (by omega) (by omega)
  have hpr0 : 0 ≤ an * cap := Int.mul_nonneg (by omega) (by omega)
  generalize hpr : an * cap = pr at *
  have wp : wrap64 pr = pr := IntWalk.wrap64_in _ (by omega)
  have wq' : IntKind.i64.wrap (mq + pr) = mq + pr := by rw [IntKind.wrap_i64]; omega
  have HG14 := Lib.hid M14.out.gr
  clear M14 A14 T14
  go_wp2_with fail
  (with_reducible refine (awake27_any _).mono ?_)
  rintro r w8 ⟨rfl, hg⟩
  have HGE := Lib.hid (gb_trans HG14.out hg)
  go_wp2_with fail
  go_ret
  exact ⟨rfl, gb_end HGE.out⟩
end Go.Proofs.Ytkckcaijfedijaa
