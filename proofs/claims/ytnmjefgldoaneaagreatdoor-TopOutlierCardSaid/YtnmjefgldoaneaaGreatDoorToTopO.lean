/- TopO -/
import Derived.Test.YtnmjefgldoaneaaGreatDoorLvEnd
import Derived.Test.YtnmjefgldoaneaaGreatDoorToRgPos
import Derived.Test.YtnmjefgldoaneaaGreatDoorToProb
import Derived.Test.YtnmjefgldoaneaaGreatDoorToRef27
import Derived.Test.YtnmjefgldoaneaaGreatDoorToLst
import Derived.Test.YtnmjefgldoaneaaGreatDoorToSwpA
import Derived.Test.YtnmjefgldoaneaaGreatDoorToLeastA
set_option linter.all false
namespace Go.Proofs.YtnmjefgldoaneaaGreatDoor
open Go.RowKit Rg
theorem own_moreT {u : World} {B : Nat} {phs : List Ph} {a : Ph} {v : Value} (h : u.ownsRow B 36 6 v (phs.length + 1) (flatP phs ++ a.cells)) : SlC 6 u v (phs ++ [a]).length (flatP (phs ++ [a])) := by
  rw [List.length_append, show flatP (phs ++ [a]) = flatP phs ++ a.cells by simp [flatP]]; exact SlC.of_owns h
/-- The ways through a region that draws its order meet again. -/
theorem region_cut {P : Program} {c : Code} {Q : Exit → Act → World → Prop} {a : Act} {w : World} (aa : Int → Act) (ww : Int → World → World) (Pd : Int → World → Prop)
    (h : c.wp P (fun e a' w' => match e with | .normal => ∃ rn w8, Pd rn w8 ∧ a' = aa rn ∧ w' = ww rn w8 | _ => False) a w) (k : ∀ rn w8, Pd rn w8 → Q .normal (aa rn) (ww rn w8)) : c.wp P Q a w :=
  Code.wp_mono (fun e a' w' hh => by
    cases e <;> simp only [] at hh
    obtain ⟨rn, w8, hp, rfl, rfl⟩ := hh; exact k rn w8 hp) h
set_option maxRecDepth 100000 in
set_option maxHeartbeats 20000000 in
theorem topOutlier_walk (w : World) (v : Value) (xs : List Int) (hs : Sl w v xs) (_hx : ∀ x ∈ xs, -9223372036854775808 ≤ x ∧ x ≤ 9223372036854775807) :
    Calls Tryz.prog 3 #[v] w fun e w' => e = .returned (.bool true) ∧ Below w.heap.size w w' := by
  go_enter Tryz.func3, Tryz.ntmps3
  go_wp2_with fail
  (with_reducible refine (new_any w v xs hs).mono ?_)
  rintro e w2 ⟨rfl, hS, hg⟩
  have S2 := Lib.hid hS; have G2 := Lib.hid hg
  clear hS hg hs
  generalize hqw : w.heap.size = q at S2 ⊢
  have hq : w.heap.size ≤ q := by omega
  go_wp2_with fail
  (with_reducible refine (problem_any q w2 q 4 6 S2.out (by omega) (by omega) (by omega) (by omega)).mono ?_)
  rintro e w3 ⟨P, vl, vh, vp, rfl, hB, hT, hre, -, hcap, hlen, hph, hin, hap, hS, hg⟩
  have gd := good_mk hB (by omega) hT hre.1 hcap hlen.1 (by omega) hph
  have hq2 := S2.out.lt.2
  have HPI : Hid (PrIn q w3 ⟨P, vl, vh, vp⟩) := Lib.hid ⟨hin, fun b off len cap e _ => by have := hap _ (.inl rfl) b off len cap e; omega, fun b off len cap e _ => by have := hap _ (.inr (.inl rfl)) b off len cap e; omega, fun b off len cap e _ => by have := hap _ (.inr (.inr rfl)) b off len cap e; omega, by show P.phs.length ≤ 100; omega⟩
  have S3 := Lib.hid hS; have G3 := Lib.hid (gb_new G2.out hg (fun k hk => by simp at hk; omega))
  have HCP : Hid (P.cap ∈ ([10, 50, 200, 1000] : List Int)) := Lib.hid hcap
  have NEA : Hid (∀ x y z, placeIn 60 x y z → Near P.step P.ls P.hs P.x0 P.y0 P.z0 P.x1 P.y1 P.z1 x y z) := Lib.hid (fun x y z h => near_mk hT hre.1 hB h (by omega) (by omega) (by omega))
  have HPTS : P.reg.pts ≤ 1500 := by
    have hB' := hB
    unfold boxIn placeIn at hB'
    exact pts_side (by show P.x1 - P.x0 ≤ 8; omega) (by show P.y1 - P.y0 ≤ 8; omega) (by show P.z1 - P.z0 ≤ 8; omega) gd.sound.vb
  clear hS hg S2 G2 hT hre hcap hph hap
  obtain ⟨pa, pc, rfl⟩ := hin.p.slice
  obtain ⟨la, ln, lc, rfl⟩ := sl_slice hin.l
  obtain ⟨ha, hn, hc, rfl⟩ := sl_slice hin.h
  obtain ⟨M, a_, b_, c_, hin0, hM0, hMb, hMall, hOut⟩ := outlier_plain gd HPTS
  have HVB : P.reg.v = true := gd.sound.vb
  have HW : ∀ {r s t : Int}, P.reg.has r s t → wiP r s t r s t P.x0 P.y0 P.z0 P.x1 P.y1 P.z1 = true := fun {r s t} hq => wiP_point HVB ⟨hq.1, hq.2.1⟩ ⟨hq.2.2.1, hq.2.2.2.1⟩ ⟨hq.2.2.2.2.1, hq.2.2.2.2.2⟩
  have LEA := Lib.hid (fun (u : World) (h : ProbIn P (.slice la ln lc) (.slice ha hn hc) (.slice pa P.phs.length pc) u) => gd.leastO hB (by omega) hin0 hM0 hMall _ _ _ u h)
  have ATC := Lib.hid (fun (y : Loc) (hy : P.reg.has y.px y.py y.pz) (u : World) (hi : ProbIn P (.slice la ln lc) (.slice ha hn hc) (.slice pa P.phs.length pc) u) => gd.at (vl := .slice la ln lc) (vh := .slice ha hn hc) (vp := .slice pa P.phs.length pc) rfl y.px y.py y.pz u (HW hy) hi)
  have LOC := Lib.hid (fun (e : Ph) (he : goodPh e) hn (tol : Int) h0 h1 => hOut e he hn (by omega) tol h0 h1)
  have LAN : Hid (∀ (e : Ph) (tol : Int) (u : World) (na : Option Addr) (nc : Nat), ProbIn (P.more e) (.slice la ln lc) (.slice ha hn hc) (.slice na (P.phs.length + 1) nc) u → Calls Tryz.prog 9 #[.agg ((P.more e).val (.slice la ln lc) (.slice ha hn hc) (.slice na (P.phs.length + 1) nc)), .int .i64 tol] u fun r w' => r = .returned (.tuple #[.agg (locP (P.more e) tol).1.val, .int .i64 (locP (P.more e) tol).2]) ∧ u.grownBy w' none) :=
    Lib.hid (fun e tol u na nc h => locate_any (P.more e) _ _ _ tol u h (by simp [Prob.more]; omega))
  have MB := Lib.hid hMb
  clear gd hin HPTS hB hin0 hM0 hMb hMall hOut HVB HW
  generalize mm P = m at *
  generalize tt P = tm at *
  obtain ⟨x0, y0, z0, x1, y1, z1, step, ls, hs, phs, cap⟩ := P
  dsimp only at hlen NEA HCP
  simp only [Prob.val, Prob.more] at LEA ATC LOC LAN
  simp only [Prob.val]
  generalize hreg : Prob.reg ⟨x0, y0, z0, x1, y1, z1, step, ls, hs, phs, cap⟩ = RG at *
  clear hreg
  have HL := Lib.hid hlen
  have hg4 : w3.grownBy (w3.alloc (.cells #[.int .i64 x0, .int .i64 y0, .int .i64 z0, .int .i64 x1, .int .i64 y1, .int .i64 z1, .int .i64 step, .slice la ln lc, .slice ha hn hc, .slice pa phs.length pc, .int .i64 cap] 33)) none := gb_alloc (gb_refl _ _) _
  have A4 : Hid (QrAt w q ⟨x0, y0, z0, x1, y1, z1, step, ls, hs, phs, cap⟩ (.slice la ln lc) (.slice ha hn hc) (.slice pa phs.length pc) w3.heap.size (w3.alloc (.cells #[.int .i64 x0, .int .i64 y0, .int .i64 z0, .int .i64 x1, .int .i64 y1, .int .i64 z1, .int .i64 step, .slice la ln lc, .slice ha hn hc, .slice pa phs.length pc, .int .i64 cap] 33))) := Lib.hid ⟨heap_alloc_new w3 (.cells #[.int .i64 x0, .int .i64 y0, .int .i64 z0, .int .i64 x1, .int .i64 y1, .int .i64 z1, .int .i64 step, .slice la ln lc, .slice ha hn hc, .slice pa phs.length pc, .int .i64 cap] 33), HPI.out.draw (gb_none hg4), gb_trans G3.out hg4, hq, S3.out.lt.2⟩
  have S4 := Lib.hid (S3.out.later (row := none) hg4 (by simp))
  have hq8 := S3.out.lt.2
  clear hg4 S3 G3 HPI hlen
  go_upto_region 3 with fail
  generalize w3.alloc (.cells #[.int .i64 x0, .int .i64 y0, .int .i64 z0, .int .i64 x1, .int .i64 y1, .int .i64 z1, .int .i64 step, .slice la ln lc, .slice ha hn hc, .slice pa phs.length pc, .int .i64 cap] 33) = w4 at *
  generalize w3.heap.size = b8 at *
  have P4 := A4.out.p8
  obtain ⟨e0_, e1_, e2_, e3_, e4_, e5_, e6_, e7_, e8_, e9_, e10_⟩ := cells11 P4
  have hb8 := block_lt' P4
  clear P4
  go_upto_region 4 with fail
  clear e0_ e1_ e2_ e3_ e4_ e5_ e6_ e7_ e8_ e9_ e10_
  have hg5 : w4.grownBy (w4.alloc (.cells #[.int .i64 x0, .int .i64 y0, .int .i64 z0, .int .i64 x1, .int .i64 y1, .int .i64 z1, .int .i64 step, .slice la ln lc, .slice ha hn hc, .slice pa phs.length pc, .int .i64 cap] 33)) none := gb_alloc (gb_refl _ _) _
  have A5 := Lib.hid (A4.out.keep hg5)
  have D5 := Lib.hid (heap_alloc_new w4 (.cells #[.int .i64 x0, .int .i64 y0, .int .i64 z0, .int .i64 x1, .int .i64 y1, .int .i64 z1, .int .i64 step, .slice la ln lc, .slice ha hn hc, .slice pa phs.length pc, .int .i64 cap] 33))
  have S5 := Lib.hid (S4.out.later (row := none) hg5 (by simp))
  have T5 := Lib.hid (gb_none (row := some q) hg5)
  have hz4 : w4.heap.size ≤ w4.heap.size := Nat.le_refl _
  clear hg5 S4
  generalize hb9 : w4.heap.size = b9 at D5 hz4 ⊢
  have hq9 : q < b9 := by omega
  have hq9' : b8 < b9 := by omega
  generalize w4.alloc (.cells #[.int .i64 x0, .int .i64 y0, .int .i64 z0, .int .i64 x1, .int .i64 y1, .int .i64 z1, .int .i64 step, .slice la ln lc, .slice ha hn hc, .slice pa phs.length pc, .int .i64 cap] 33) = w5 at *
  go_wp2_with fail
  (with_reducible refine (phase_any q w5 q S5.out).mono ?_)
  rintro r w6 ⟨ax, ay, az, ae, al, an, rfl, hph, hS, hg⟩
  have HPH := Lib.hid hph
  have A6 := Lib.hid (A5.out.draw hg)
  have D6 := Lib.hid (block_keptp hg D5.out (by omega))
  have T6 := Lib.hid (gb_trans T5.out hg)
  have hz6 : b9 < w6.heap.size := block_lt' D6.out
  have hq6 : q < w6.heap.size := by omega
  have hg7 : w6.grownBy (w6.alloc (.cells #[.int .i64 ax, .int .i64 ay, .int .i64 az, .int .i64 ae, .int .i64 al, .int .i64 an] 36)) none := gb_alloc (gb_refl _ _) _
  have S7 := Lib.hid (hS.later (row := none) hg7 (by simp))
  have H7 := Lib.hid (heap_alloc_new w6 (.cells #[.int .i64 ax, .int .i64 ay, .int .i64 az, .int .i64 ae, .int .i64 al, .int .i64 an] 36))
  have G7 := Lib.hid hg7
  clear hph hS hg hg7 A5 D5 S5 T5
  go_upto_region 5 with fail
  generalize w6.alloc (.cells #[.int .i64 ax, .int .i64 ay, .int .i64 az, .int .i64 ae, .int .i64 al, .int .i64 an] 36) = w7 at *
  generalize hA : w6.heap.size = A at *
  obtain ⟨a0_, a1_, a2_, a3_, a4_, a5_⟩ := six H7.out
  have p3_ := Pulled.cell (B := q) (p := q) a3_ (block_lt' H7.out) (by omega)
  have p4_ := Pulled.cell (B := q) (p := q) a4_ (block_lt' H7.out) (by omega)
  have hae : 1000 ≤ ae ∧ ae ≤ 2999 ∧ ae ≤ al ∧ al ≤ ae + 40 := by have := HPH.out; unfold phaseIn at this; omega
  have SD : Hid (Src q w7.drew q) := Lib.hid (S7.out.later (row := none) (gb_drew (gb_refl w7 none)) (by simp))
  have GD : Hid (w7.grownBy w7.drew (some q)) := Lib.hid (gb_none (row := some q) (gb_drew (gb_refl w7 none)))
  have hqA : A ≠ q := by omega
  apply region_cut (Pd := fun rn w8 => (0 ≤ rn ∧ rn < 100000) ∧ Src q w8 q ∧ w7.grownBy w8 (some q))
  case h =>
    go_region_with ((refine (n_any q _ q 100000 SD.out (by omega) (by omega)).mono ?_; rintro e w8 ⟨rn, rfl, hrn, hs8, hg8⟩; have G8 := Lib.hid (gb_trans GD.out hg8); have S8 := Lib.hid hs8; have H8 := block_keptp G8.out H7.out hqA; obtain ⟨_, _, _, e3_, e4_, _⟩ := six H8; have f3_ := frozen3 H8 (o := 3); have f4_ := frozen3 H8 (o := 4); clear hs8 hg8))
    all_goals exact ⟨_, _, ⟨hrn, S8.out, G8.out⟩, rfl, rfl⟩
  clear SD GD S7 a0_ a1_ a2_ a3_ a4_ a5_ p3_ p4_
  rintro rn w8 ⟨hrn, hs8, hg8⟩
  have H8 := block_keptp hg8 H7.out hqA
  have wc_ : IntKind.i64.wrap (ae + rn) = ae + rn := by rw [IntKind.wrap_i64]; omega
  have wl_ : IntKind.i64.wrap (al + 100000) = al + 100000 := by rw [IntKind.wrap_i64]; omega
  simp only [wc_, wl_]
  have gA : w8.grownBy ((w8.setCell ⟨A, 3, none⟩ (.int .i64 (ae + rn))).setCell ⟨A, 4, none⟩ (.int .i64 (al + 100000))) (some A) := gb_setCell (gb_setCell (gb_refl w8 (some A)) (a := ⟨A, 3, none⟩) (.inr rfl) _) (a := ⟨A, 4, none⟩) (.inr rfl) _
  have H9 : Hid (((w8.setCell ⟨A, 3, none⟩ (.int .i64 (ae + rn))).setCell ⟨A, 4, none⟩ (.int .i64 (al + 100000))).heap[A]? = some (.cells #[.int .i64 ax, .int .i64 ay, .int .i64 az, .int .i64 (ae + rn), .int .i64 (al + 100000), .int .i64 an] 36 (0, 0))) := Lib.hid (set_block (set_block H8 3 _) 4 _)
  have S9 := Lib.hid (hs8.later (row := some A) gA (fun k hk => by simp at hk; omega))
  have T9 : Hid (w4.grownBy ((w8.setCell ⟨A, 3, none⟩ (.int .i64 (ae + rn))).setCell ⟨A, 4, none⟩ (.int .i64 (al + 100000))) (some q)) := Lib.hid (gb_setCell (gb_setCell (gb_trans (gb_trans T6.out (gb_none G7.out)) hg8) (a := ⟨A, 3, none⟩) (.inl (show w4.heap.size ≤ A by omega)) _) (a := ⟨A, 4, none⟩) (.inl (show w4.heap.size ≤ A by omega)) _)
  have D9 := Lib.hid (block_keptp gA (block_keptp hg8 (block_kept G7.out D6.out rfl) (by omega)) (by omega))
  generalize (w8.setCell ⟨A, 3, none⟩ (.int .i64 (ae + rn))).setCell ⟨A, 4, none⟩ (.int .i64 (al + 100000)) = w9 at *
  clear gA H8 H7 hg8 hs8 wc_ wl_ G7 T6 D6 A6
  have A9 := Lib.hid (A4.out.draw T9.out)
  obtain ⟨pb, poff, pcap', hpv, hpb, hpm, -, hpcell⟩ := A9.out.prob.p.block HL.out.1
  simp only [Value.slice.injEq, Option.some.injEq, Addr.mk.injEq, true_and, and_true] at hpv
  obtain ⟨rfl, rfl⟩ := hpv
  have HPC := Lib.hid (fun (u : World) (hu : w9.grownBy u none) (j : Nat) (y : Value) (hj : (flatP phs)[j]? = some y) => show u.cell? ((⟨pb, poff, none⟩ : Addr).add j) = some y from by rw [show (⟨pb, poff, none⟩ : Addr).add j = ⟨pb, poff + j, none⟩ by unfold Addr.add; split <;> simp_all]; exact (gb_cell hu hpb (by simp)).trans (hpcell j y hj))
  clear hpcell hpb
  have e9_ : w9.cell? ⟨b8, 9, none⟩ = some (.slice (some ⟨pb, poff, none⟩) phs.length pc) := cell_of A9.out.p8 9 _ rfl
  have u1_ := Made.cells (block_lt' A9.out.p8)
  obtain ⟨a0_, a1_, a2_, a3_, a4_, a5_⟩ := six H9.out
  have ua_ := Made.cells (block_lt' H9.out)
  have hlen := HL.out
  go_upto_region 6 with fail
  refine Rg.region (Made w9) Makes (fun k => if k = 10 then some (isBlk w9 1 36) else if k = 11 then some (isOwn w9.heap.size 36 6 (phs.length + 1) (flatP phs ++ [.int .i64 ax, .int .i64 ay, .int .i64 az, .int .i64 (ae + rn), .int .i64 (al + 100000), .int .i64 an])) else none) (fun _ => false) 0 12 (by kernel_rfl) (by kernel_rfl) (by kernel_rfl) (by kernel_rfl) (by kernel_rfl) (by kernel_rfl) (by kernel_rfl) Makes.size (Made.start w9) (fun hne => ?_)
  (repeat (refine rLexL_quiet (by rfl) (by rfl) (by rfl) (by rfl) ?_; go_big_quiet_step (fail); refine wpQuiet_nil ?_))
  refine rLexL_val (.int .i64 phs.length) (by rfl) (by rfl) (by rfl) (by rfl) (fun _ => by go_simp) ?_
  simp only [Act.put, List.setIfInBounds_toArray, List.set_cons_zero, List.set_cons_succ]
  (repeat (refine rLexL_quiet (by rfl) (by rfl) (by rfl) (by rfl) ?_; go_big_quiet_step (fail); refine wpQuiet_nil ?_))
  refine rLexL_val (.int .i64 phs.length) (by rfl) (by rfl) (by rfl) (by rfl) (fun _ => by go_simp) ?_
  simp only [Act.put, List.setIfInBounds_toArray, List.set_cons_zero, List.set_cons_succ]
  (repeat (refine rLexL_quiet (by rfl) (by rfl) (by rfl) (by rfl) ?_; go_big_quiet_step (fail); refine wpQuiet_nil ?_))
  refine rg_litN 1 #[.int .i64 ax, .int .i64 ay, .int .i64 az, .int .i64 (ae + rn), .int .i64 (al + 100000), .int .i64 an] 36 rfl rfl rfl rfl (fun _ => by go_simp) (fun nb hnb => ?_)
  simp only [Act.put, List.setIfInBounds_toArray, List.set_cons_zero, List.set_cons_succ]
  refine rg_appN _ _ 31 36 (.agg #[.int .i64 0, .int .i64 0, .int .i64 0, .int .i64 0, .int .i64 0, .int .i64 0]) 6 48 Tryz.underlying31 Tryz.infoPhaseT rfl (by decide) ⟨pb, poff, none⟩ phs.length (flatP phs) nb 1 [.int .i64 ax, .int .i64 ay, .int .i64 az, .int .i64 (ae + rn), .int .i64 (al + 100000), .int .i64 an] 36 10 rfl rfl rfl rfl rfl rfl (flatP_length phs) HPC.out rfl ⟨⟨10, .data⟩, by simp, rfl, rfl⟩ rfl (by omega) (by omega) (fun vq => ?_)
  simp only [Act.put, List.setIfInBounds_toArray, List.set_cons_zero, List.set_cons_succ]
  rintro wq hgq hf hD
  have hown : wq.ownsRow w9.heap.size 36 6 vq (phs.length + 1) (flatP phs ++ [.int .i64 ax, .int .i64 ay, .int .i64 az, .int .i64 (ae + rn), .int .i64 (al + 100000), .int .i64 an]) := hf 11
  obtain ⟨na, nc, rfl⟩ := owns_slice hown
  have hb9' := block_lt' D9.out
  have HDq := Lib.hid (block_kept hgq D9.out rfl)
  have hFd := frozen3 HDq.out (o := 9); have d9_ := cell_of HDq.out 9 _ rfl
  have T10 : Hid (w4.grownBy (wq.setCell ⟨b9, 9, none⟩ (.slice na (phs.length + 1) nc)) (some q)) := Lib.hid (gb_setCell (gb_trans T9.out (gb_none hgq)) (a := ⟨b9, 9, none⟩) (.inl (show w4.heap.size ≤ b9 by omega)) _)
  have D10 : Hid ((wq.setCell ⟨b9, 9, none⟩ (.slice na (phs.length + 1) nc)).heap[b9]? = some (.cells #[.int .i64 x0, .int .i64 y0, .int .i64 z0, .int .i64 x1, .int .i64 y1, .int .i64 z1, .int .i64 step, .slice la ln lc, .slice ha hn hc, .slice na (phs.length + 1) nc, .int .i64 cap] 33 (0, 0))) := Lib.hid (set_block HDq.out 9 _)
  have hAb : A ≠ b9 := by omega
  have H10 := Lib.hid ((setCell_far (a := ⟨b9, 9, none⟩) (u := .slice na (phs.length + 1) nc) hAb).trans (block_kept hgq H9.out rfl))
  have OW10 := Lib.hid (hown.kept (gb_setCell (gb_refl wq (some b9)) (a := ⟨b9, 9, none⟩) (.inr rfl) (.slice na (phs.length + 1) nc)) (.inr (fun e => by have := (hown.lt b9 e).1; omega)))
  have S10 := Lib.hid ((S9.out.later (row := none) hgq (by simp)).later (row := some b9) (gb_setCell (gb_refl wq (some b9)) (a := ⟨b9, 9, none⟩) (.inr rfl) (.slice na (phs.length + 1) nc)) (fun k hk => by simp at hk; omega))
  clear hf hD hgq hown HDq S9 T9 D9 H9 A9 e9_ u1_ a0_ a1_ a2_ a3_ a4_ a5_ ua_ HPC hpm hne hlen
  have hz10 : (wq.setCell ⟨b9, 9, none⟩ (.slice na (phs.length + 1) nc)).heap.size = wq.heap.size := by simp [World.setCell]
  go_wp2_with fail
  generalize wq.setCell ⟨b9, 9, none⟩ (.slice na (phs.length + 1) nc) = w10 at *
  clear hFd d9_
  have A10 := Lib.hid (A4.out.draw T10.out)
  (with_reducible refine (pickL_any q _ q [0, 10, 50] 3 rfl #[.int .i64 0, .int .i64 10, .int .i64 50] rfl 3 S10.out _ hz10 (by decide) (by decide)).mono ?_)
  rintro r w11 ⟨tol, rfl, htol, hs, hg⟩
  have htol : 0 ≤ tol ∧ tol ≤ 50 := by
    simp only [List.mem_cons, List.not_mem_nil, or_false] at htol; omega
  have A11 := Lib.hid (A10.out.draw hg); have D11 := Lib.hid (block_keptp hg D10.out (by omega)); have H11 := Lib.hid (block_keptp hg H10.out (by omega)); have OW11 := Lib.hid (owns_keepp OW10.out hg (by have := S10.out.lt.2; have := hb9'; omega))
  clear hs hg A10 D10 H10 OW10 S10 T10
  have e0_ := cell_of D11.out 0 _ rfl; have e1_ := cell_of D11.out 1 _ rfl; have e2_ := cell_of D11.out 2 _ rfl; have e3_ := cell_of D11.out 3 _ rfl; have e4_ := cell_of D11.out 4 _ rfl; have e5_ := cell_of D11.out 5 _ rfl; have e6_ := cell_of D11.out 6 _ rfl; have e7_ := cell_of D11.out 7 _ rfl; have e8_ := cell_of D11.out 8 _ rfl; have e9_ := cell_of D11.out 9 _ rfl; have e10_ := cell_of D11.out 10 _ rfl
  go_wp2_with fail
  clear e0_ e1_ e2_ e3_ e4_ e5_ e6_ e7_ e8_ e9_ e10_
  have hph := HPH.out
  unfold phaseIn at hph
  have GP : goodPh ⟨ax, ay, az, (ae + rn), (al + 100000), an⟩ := ⟨hph.1, by show 0 ≤ ae + rn; omega, by show ae + rn ≤ al + 100000; omega, by show al + 100000 ≤ _; omega, by show 1 ≤ an; omega, by show an ≤ 4; omega⟩
  have NP := NEA.out _ _ _ hph.1
  obtain ⟨y, hy, hyin, hyb, hyle⟩ := LOC.out ⟨ax, ay, az, (ae + rn), (al + 100000), an⟩ GP NP tol (by omega) (by omega)
  have LOC' := Lib.hid (LAN.out ⟨ax, ay, az, (ae + rn), (al + 100000), an⟩ tol)
  rw [hy] at LOC'
  dsimp only at LOC'
  have hLX : y.val = #[.int .i64 y.px, .int .i64 y.py, .int .i64 y.pz, .int .i64 y.t, .int .i64 y.m, .int .i64 y.l, .int .i64 y.a0, .int .i64 y.a1, .int .i64 y.a2, .int .i64 y.a3, .int .i64 y.a4, .int .i64 y.a5] := rfl
  rw [hLX] at LOC'
  have AT0 := Lib.hid (fun u hi => ATC.out y hyin u hi)
  clear LOC LAN hy ATC GP NP NEA
  have HIQ : Hid (ProbIn ⟨x0, y0, z0, x1, y1, z1, step, ls, hs, phs ++ [⟨ax, ay, az, (ae + rn), (al + 100000), an⟩], cap⟩ (.slice la ln lc) (.slice ha hn hc) (.slice na (phs.length + 1) nc) w11) := Lib.hid ⟨A11.out.prob.l, A11.out.prob.h, own_moreT OW11.out⟩
  (with_reducible refine (LOC'.out _ _ _ HIQ.out).mono ?_)
  rintro r w12 ⟨rfl, hg⟩
  have hg13 : w12.grownBy (w12.alloc (.cells #[.int .i64 y.px, .int .i64 y.py, .int .i64 y.pz, .int .i64 y.t, .int .i64 y.m, .int .i64 y.l, .int .i64 y.a0, .int .i64 y.a1, .int .i64 y.a2, .int .i64 y.a3, .int .i64 y.a4, .int .i64 y.a5] 41)) none := gb_alloc (gb_refl _ _) _
  have A13 := Lib.hid ((A11.out.keep hg).keep hg13); have H13 := Lib.hid (block_kept (gb_trans hg hg13) H11.out rfl); have Z13 := Lib.hid (heap_alloc_new w12 (.cells #[.int .i64 y.px, .int .i64 y.py, .int .i64 y.pz, .int .i64 y.t, .int .i64 y.m, .int .i64 y.l, .int .i64 y.a0, .int .i64 y.a1, .int .i64 y.a2, .int .i64 y.a3, .int .i64 y.a4, .int .i64 y.a5] 41))
  clear hg hg13 A11 H11 D11 OW11 LOC' HIQ
  have P13 := A13.out.p8
  obtain ⟨e0_, e1_, e2_, e3_, e4_, e5_, e6_, e7_, e8_, e9_, e10_⟩ := cells11 P13
  obtain ⟨d0_, d1_, d2_, d3_, d4_, d5_, d6_, d7_, d8_, d9_, d10_, d11_⟩ := cells12 Z13.out
  clear P13
  go_wp2_with fail
  clear e0_ e1_ e2_ e3_ e4_ e5_ e6_ e7_ e8_ e9_ e10_
  clear d0_ d1_ d2_ d3_ d4_ d5_ d6_ d7_ d8_ d9_ d10_ d11_
  generalize w12.alloc (.cells #[.int .i64 y.px, .int .i64 y.py, .int .i64 y.pz, .int .i64 y.t, .int .i64 y.m, .int .i64 y.l, .int .i64 y.a0, .int .i64 y.a1, .int .i64 y.a2, .int .i64 y.a3, .int .i64 y.a4, .int .i64 y.a5] 41) = w13 at *
  generalize w12.heap.size = bz at *
  (with_reducible refine (AT0.out w13 A13.out.prob).mono ?_)
  rintro r w14 ⟨rfl, hg⟩
  have A14 := Lib.hid (A13.out.keep hg); have H14 := Lib.hid (block_kept hg H13.out rfl)
  clear hg A13 H13 Z13 AT0
  have hcap : 1 ≤ cap ∧ cap ≤ 1000 := by have := HCP.out; simp only [List.mem_cons, List.not_mem_nil, or_false] at this; omega
  have hmb := MB.out
  have hyle : m y.px y.py y.pz y.px y.py y.pz ≤ M + an * cap + tol := hyle
  generalize m y.px y.py y.pz y.px y.py y.pz = mq at *
  have hpr1 : an * cap ≤ 4 * 1000 := Int.mul_le_mul (by omega) (by omega) (by omega) (by omega)
  have hpr0 : 0 ≤ an * cap := Int.mul_nonneg (by omega) (by omega)
  have wp_ : IntKind.i64.wrap (an * cap) = an * cap := by
    generalize an * cap = pr at *; rw [IntKind.wrap_i64]; omega
  have wp2_ : IntKind.i64.wrap (M + an * cap) = M + an * cap := by
    generalize an * cap = pr at *; rw [IntKind.wrap_i64]; omega
  have wp3_ : IntKind.i64.wrap (M + an * cap + tol) = M + an * cap + tol := by
    generalize an * cap = pr at *; rw [IntKind.wrap_i64]; omega
  have P14 := A14.out.p8
  obtain ⟨e0_, e1_, e2_, e3_, e4_, e5_, e6_, e7_, e8_, e9_, e10_⟩ := cells11 P14
  obtain ⟨a0_, a1_, a2_, a3_, a4_, a5_⟩ := six H14.out
  have u1_ := Made.cells (block_lt' A14.out.p8)
  have ua_ := Made.cells (block_lt' H14.out)
  go_upto_region 10 with fail
  refine Rg.region (Made w14) Makes (fun k => if k = 9 then some (isV (.int .i64 M)) else if k = 21 then some (isV (.bool true)) else none) (fun _ => false) 0 23 (by kernel_rfl) (by kernel_rfl) (by kernel_rfl) (by kernel_rfl) (by kernel_rfl) (by kernel_rfl) (by kernel_rfl) Makes.size (Made.start w14) (fun hne => ?_)
  (repeat (refine rLexL_quiet (by rfl) (by rfl) (by rfl) (by rfl) ?_; go_big_quiet_step (fail); refine wpQuiet_nil ?_))
  refine rg_fix (.int .i64 M) 11 #[.agg #[.int .i64 x0, .int .i64 y0, .int .i64 z0, .int .i64 x1, .int .i64 y1, .int .i64 z1, .int .i64 step, .slice la ln lc, .slice ha hn hc, .slice (some ⟨pb, poff, none⟩) phs.length pc, .int .i64 cap]] rfl rfl rfl (fun _ => by go_simp) (fun u hu => LEA.out u (A14.out.keep hu).prob) ?_
  simp only [Act.put, List.setIfInBounds_toArray, List.set_cons_zero, List.set_cons_succ]
  (repeat (refine rLexL_quiet (by rfl) (by rfl) (by rfl) (by rfl) ?_; go_big_quiet_step (fail); refine wpQuiet_nil ?_))
  refine rg_fix (.bool true) 12 #[] rfl rfl rfl (fun _ => by go_simp) (fun u hu => Liv.closed_any u) ?_
  simp only [Act.put, List.setIfInBounds_toArray, List.set_cons_zero, List.set_cons_succ]
  (repeat (refine rLexL_quiet (by rfl) (by rfl) (by rfl) (by rfl) ?_; go_big_quiet_step (fail); refine wpQuiet_nil ?_))
  rintro wq hgq - -
  have GE := Lib.hid (gb_end (gb_trans A14.out.G hgq))
  clear e0_ e1_ e2_ e3_ e4_ e5_ e6_ e7_ e8_ e9_ e10_
  clear u1_ ua_ a0_ a1_ a2_ a3_ a4_ a5_
  go_wp2_with fail
  go_ret
  exact ⟨rfl, GE.out⟩
end Go.Proofs.YtnmjefgldoaneaaGreatDoor
