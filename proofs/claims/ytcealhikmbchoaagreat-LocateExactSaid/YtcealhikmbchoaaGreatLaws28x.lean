/- The walk of LocateExact. Written by gen_law28x.py. -/
import Derived.Test.YtcealhikmbchoaaGreatAwake28
import Derived.Test.YtcealhikmbchoaaGreatQrA
import Derived.Test.YtcealhikmbchoaaGreatExa
import Derived.Test.YtcealhikmbchoaaGreatLst
namespace Go.Proofs.YtcealhikmbchoaaGreat
set_option linter.all false
open Go.RowKit Rg

/-- The reference's least misfit is the misfit of the best point. -/
theorem Good.leastC {P : Prob} (h : Good P) {side : Int} (hB : boxIn 20 side P.x0 P.y0 P.z0 P.x1 P.y1 P.z1) (hs : side ≤ 8) {m a b c : Int} (hin : P.reg.has a b c) (hm : m = mm P a b c a b c) (hall : ∀ q r s, P.reg.has q r s → m ≤ mm P q r s q r s) (vl vh vp : Value) (u : World) (hi : ProbIn P vl vh vp u) :
    Calls Tryz.prog 26 #[.agg (P.val vl vh vp)] u fun e w' => e = .returned (.int .i64 m) ∧ u.grownBy w' none := by
  have hB' := hB
  unfold boxIn placeIn at hB'
  obtain ⟨nx, hnx⟩ : ∃ n : Nat, P.x1 = P.x0 + n - 1 := ⟨(P.x1 - P.x0 + 1).toNat, by omega⟩
  obtain ⟨ny, hny⟩ : ∃ n : Nat, P.y1 = P.y0 + n - 1 := ⟨(P.y1 - P.y0 + 1).toNat, by omega⟩
  obtain ⟨nz, hnz⟩ : ∃ n : Nat, P.z1 = P.z0 + n - 1 := ⟨(P.z1 - P.z0 + 1).toNat, by omega⟩
  have hrv : P.reg.v = true := h.sound.vb
  have hw : ∀ {q r t : Int}, P.reg.has q r t → wiP q r t q r t P.x0 P.y0 P.z0 P.x1 P.y1 P.z1 = true := fun {q r t} hq => wiP_point hrv ⟨hq.1, hq.2.1⟩ ⟨hq.2.2.1, hq.2.2.2.1⟩ ⟨hq.2.2.2.2.1, hq.2.2.2.2.2⟩
  have hpt : ∀ p ∈ preX P.x0 P.y0 P.z0 ny nz nx, P.reg.has p.1 p.2.1 p.2.2 := fun p hp => by
    have := mem_preX.1 hp
    unfold Bx.has Prob.reg; dsimp only; omega
  have hmem : (a, b, c) ∈ preX P.x0 P.y0 P.z0 ny nz nx := mem_preX.2 (by unfold Bx.has Prob.reg at hin; dsimp only at hin ⊢; omega)
  have hlen : (preX P.x0 P.y0 P.z0 ny nz nx).length ≤ 10000 := by
    rw [preX_length]
    have e1 : ny * nz ≤ 9 * 9 := Nat.mul_le_mul (by omega) (by omega)
    have e2 : nx * (ny * nz) ≤ 9 * (9 * 9) := Nat.mul_le_mul (by omega) e1
    omega
  refine (rleast_any P vl vh vp nx ny nz u hi (by have := h.sound.some; omega) hnx hny hnz (by omega) (by omega) (by omega) (by omega) (by omega) (by omega) _ rfl ⟨List.length_pos_of_mem hmem, hlen⟩ (fun p hp => h.zones (hw (hpt p hp))) (fun p hp => by rw [h.bdC_eq (hw (hpt p hp))]; exact (h.mm_in (hw (hpt p hp))).1)).mono ?_
  rintro e w' ⟨r, rfl, hl, hg⟩
  refine ⟨?_, hg⟩
  rcases hl with ⟨h0, -⟩ | ⟨-, ⟨p, hp, hr⟩, hle⟩
  · have := List.length_pos_of_mem hmem; omega
  · rw [List.take_length] at hp hle
    dsimp only at hr
    rw [h.bdC_eq (hw (hpt p hp))] at hr
    have k1 := hall _ _ _ (hpt p hp)
    have k2 := hle _ hmem
    dsimp only at k2
    rw [h.bdC_eq (hw hin)] at k2
    rw [show r = m by omega]

set_option maxRecDepth 100000 in
set_option maxHeartbeats 20000000 in
theorem locateExact_walk (w : World) (v : Value) (xs : List Int) (hs : Sl w v xs) (_hx : ∀ x ∈ xs, -9223372036854775808 ≤ x ∧ x ≤ 9223372036854775807) :
    Calls Tryz.prog 5 #[v] w fun e w' => e = .returned (.bool true) ∧ Below w.heap.size w w' := by
  go_enter Tryz.func5, Tryz.ntmps5
  go_wp2_with fail
  (with_reducible refine (new_any w v xs hs).mono ?_)
  rintro e w2 ⟨rfl, hS, hg⟩
  have S2 := Lib.hid hS; have G2 := Lib.hid hg
  clear hS hg hs
  generalize hqw : w.heap.size = q at S2 ⊢
  have hq : w.heap.size ≤ q := by omega
  go_wp2_with fail
  (with_reducible refine (problem_any q w2 q 5 5 S2.out (by omega) (by omega) (by omega) (by omega)).mono ?_)
  rintro e w3 ⟨P, vl, vh, vp, rfl, hB, hT, hre, -, hcap, hlen, hph, hin, hap, hS, hg⟩
  have gd := good_mk hB (by omega) hT hre.1 hcap hlen.1 (by omega) hph
  have hq2 := S2.out.lt.2
  have HPI : Hid (PrIn q w3 ⟨P, vl, vh, vp⟩) := Lib.hid ⟨hin, fun b off len cap e _ => by have := hap _ (.inl rfl) b off len cap e; omega, fun b off len cap e _ => by have := hap _ (.inr (.inl rfl)) b off len cap e; omega, fun b off len cap e _ => by have := hap _ (.inr (.inr rfl)) b off len cap e; omega, by show P.phs.length ≤ 100; omega⟩
  have S3 := Lib.hid hS; have G3 := Lib.hid (gb_new G2.out hg (fun k hk => by simp at hk; omega))
  clear hS hg S2 G2 hT hre hcap hlen hph hap
  obtain ⟨pa, pc, rfl⟩ := hin.p.slice
  obtain ⟨la, ln, lc, rfl⟩ := sl_slice hin.l
  obtain ⟨ha, hn, hc, rfl⟩ := sl_slice hin.h
  have HPTS : P.reg.pts ≤ 1500 := by
    have hB' := hB
    unfold boxIn placeIn at hB'
    exact pts_side (by show P.x1 - P.x0 ≤ 8; omega) (by show P.y1 - P.y0 ≤ 8; omega) (by show P.z1 - P.z0 ≤ 8; omega) gd.sound.vb
  obtain ⟨y, hy, hyl, ⟨e0, e1, e2, e3, e4, e5⟩, hyin, hym, -, hall⟩ := exact_plain gd HPTS
  have LEA := Lib.hid (fun (u : World) (h : ProbIn P (.slice la ln lc) (.slice ha hn hc) (.slice pa P.phs.length pc) u) => gd.leastC hB (by omega) hyin hym hall _ _ _ u h)
  have LOC := Lib.hid (fun (u : World) (h : PrIn q u ⟨P, .slice la ln lc, .slice ha hn hc, .slice pa P.phs.length pc⟩) => locate_any P _ _ _ 0 u h.1 (by have := h.2.2.2.2; dsimp only at this; omega))
  rw [hy] at LOC
  dsimp only at LOC
  clear gd hin HPTS hB hy hyin hym hall
  obtain ⟨px, py, pz, t, m, l, a0, a1, a2, a3, a4, a5⟩ := y
  dsimp only at hyl e0 e1 e2 e3 e4 e5 LEA
  subst hyl e0 e1 e2 e3 e4 e5
  have hLX : Loc.val ⟨a3, a4, a5, t, l, l, a3, a4, a5, a3, a4, a5⟩ = #[.int .i64 a3, .int .i64 a4, .int .i64 a5, .int .i64 t, .int .i64 l, .int .i64 l, .int .i64 a3, .int .i64 a4, .int .i64 a5, .int .i64 a3, .int .i64 a4, .int .i64 a5] := rfl
  rw [hLX] at LOC
  generalize hPP : P = P0 at *
  obtain ⟨x0, y0, z0, x1, y1, z1, step, ls, hs, phs, cap⟩ := P
  subst hPP
  generalize hpn : phs.length = pn at *
  have hPV : Prob.val ⟨x0, y0, z0, x1, y1, z1, step, ls, hs, phs, cap⟩ (.slice la ln lc) (.slice ha hn hc) (.slice pa pn pc) = #[.int .i64 x0, .int .i64 y0, .int .i64 z0, .int .i64 x1, .int .i64 y1, .int .i64 z1, .int .i64 step, .slice la ln lc, .slice ha hn hc, .slice pa pn pc, .int .i64 cap] := rfl
  rw [hPV] at LOC LEA
  rw [hPV]
  have hg4 : w3.grownBy (w3.alloc (.cells #[.int .i64 x0, .int .i64 y0, .int .i64 z0, .int .i64 x1, .int .i64 y1, .int .i64 z1, .int .i64 step, .slice la ln lc, .slice ha hn hc, .slice pa pn pc, .int .i64 cap] 36)) none := gb_alloc (gb_refl _ _) _
  have A4 : Hid (QrAt w q ⟨x0, y0, z0, x1, y1, z1, step, ls, hs, phs, cap⟩ (.slice la ln lc) (.slice ha hn hc) (.slice pa pn pc) w3.heap.size (w3.alloc (.cells #[.int .i64 x0, .int .i64 y0, .int .i64 z0, .int .i64 x1, .int .i64 y1, .int .i64 z1, .int .i64 step, .slice la ln lc, .slice ha hn hc, .slice pa pn pc, .int .i64 cap] 36))) := Lib.hid ⟨heap_alloc_new w3 (.cells #[.int .i64 x0, .int .i64 y0, .int .i64 z0, .int .i64 x1, .int .i64 y1, .int .i64 z1, .int .i64 step, .slice la ln lc, .slice ha hn hc, .slice pa pn pc, .int .i64 cap] 36), HPI.out.draw (gb_none hg4), gb_trans G3.out hg4, hq, S3.out.lt.2⟩
  clear hg4 S3 G3 HPI
  go_upto_region 3 with fail
  generalize w3.alloc (.cells #[.int .i64 x0, .int .i64 y0, .int .i64 z0, .int .i64 x1, .int .i64 y1, .int .i64 z1, .int .i64 step, .slice la ln lc, .slice ha hn hc, .slice pa pn pc, .int .i64 cap] 36) = w4 at *
  generalize w3.heap.size = b8 at *
  have P4 := A4.out.p8
  rw [hPV] at P4
  obtain ⟨e0_, e1_, e2_, e3_, e4_, e5_, e6_, e7_, e8_, e9_, e10_⟩ := cells11 P4
  clear P4
  go_wp2_with fail
  clear e0_ e1_ e2_ e3_ e4_ e5_ e6_ e7_ e8_ e9_ e10_
  (with_reducible refine (LOC.out w4 A4.out.pi).mono ?_)
  rintro e w6 ⟨rfl, hg⟩
  have A6 := Lib.hid (A4.out.keep hg)
  clear hg A4 LOC
  have hg7 : w6.grownBy (w6.alloc (.cells #[.int .i64 a3, .int .i64 a4, .int .i64 a5, .int .i64 t, .int .i64 l, .int .i64 l, .int .i64 a3, .int .i64 a4, .int .i64 a5, .int .i64 a3, .int .i64 a4, .int .i64 a5] 27)) none := gb_alloc (gb_refl _ _) _
  have A7 := Lib.hid (A6.out.keep hg7); have Z7 := Lib.hid (heap_alloc_new w6 (.cells #[.int .i64 a3, .int .i64 a4, .int .i64 a5, .int .i64 t, .int .i64 l, .int .i64 l, .int .i64 a3, .int .i64 a4, .int .i64 a5, .int .i64 a3, .int .i64 a4, .int .i64 a5] 27))
  clear hg7 A6
  go_upto_region 4 with fail
  generalize w6.alloc (.cells #[.int .i64 a3, .int .i64 a4, .int .i64 a5, .int .i64 t, .int .i64 l, .int .i64 l, .int .i64 a3, .int .i64 a4, .int .i64 a5, .int .i64 a3, .int .i64 a4, .int .i64 a5] 27) = w7 at *
  generalize w6.heap.size = bz at *
  have P7 := A7.out.p8
  rw [hPV] at P7
  have hb8 := block_lt' P7; have hbz := block_lt' Z7.out
  obtain ⟨e0_, e1_, e2_, e3_, e4_, e5_, e6_, e7_, e8_, e9_, e10_⟩ := cells11 P7
  obtain ⟨d0_, d1_, d2_, d3_, d4_, d5_, d6_, d7_, d8_, d9_, d10_, d11_⟩ := cells12 Z7.out
  clear P7
  have q0_ := Made.cell e0_ hb8; have q1_ := Made.cell e1_ hb8; have q2_ := Made.cell e2_ hb8; have q3_ := Made.cell e3_ hb8; have q4_ := Made.cell e4_ hb8; have q5_ := Made.cell e5_ hb8; have q6_ := Made.cell e6_ hb8; have q7_ := Made.cell e7_ hb8; have q8_ := Made.cell e8_ hb8; have q9_ := Made.cell e9_ hb8; have q10_ := Made.cell e10_ hb8; have r0_ := Made.cell d0_ hbz; have r1_ := Made.cell d1_ hbz; have r2_ := Made.cell d2_ hbz; have r3_ := Made.cell d3_ hbz; have r4_ := Made.cell d4_ hbz; have r5_ := Made.cell d5_ hbz; have r6_ := Made.cell d6_ hbz; have r7_ := Made.cell d7_ hbz; have r8_ := Made.cell d8_ hbz; have r9_ := Made.cell d9_ hbz; have r10_ := Made.cell d10_ hbz; have r11_ := Made.cell d11_ hbz
  have s6 := same6_refl a3 a4 a5 a3 a4 a5
  refine Rg.region (Made w7) Makes (fun k => if k = 6 then some (isV (.int .i64 l)) else if k = 27 then some (isV (.bool true)) else none) (fun _ => false) 0 30 (by kernel_rfl) (by kernel_rfl) (by kernel_rfl) (by kernel_rfl) (by kernel_rfl) (by kernel_rfl) (by kernel_rfl) Makes.size (Made.start w7) (fun hne => ?_)
  (repeat (refine rLexL_quiet (by rfl) (by rfl) (by rfl) (by rfl) ?_; go_big_quiet_step (fail); refine wpQuiet_nil ?_))
  refine rg_fix (.int .i64 l) 26 #[.agg #[.int .i64 x0, .int .i64 y0, .int .i64 z0, .int .i64 x1, .int .i64 y1, .int .i64 z1, .int .i64 step, .slice la ln lc, .slice ha hn hc, .slice pa pn pc, .int .i64 cap]] rfl rfl rfl (fun _ => by go_simp) (fun u hu => LEA.out u (A7.out.prob.after hu)) ?_
  simp only [Act.put, List.setIfInBounds_toArray, List.set_cons_zero, List.set_cons_succ]
  (repeat (refine rLexL_quiet (by rfl) (by rfl) (by rfl) (by rfl) ?_; go_big_quiet_step (fail); refine wpQuiet_nil ?_))
  refine rg_fix (.bool true) 22 #[] rfl rfl rfl (fun _ => by go_simp) (fun u hu => awake28_any u) ?_
  simp only [Act.put, List.setIfInBounds_toArray, List.set_cons_zero, List.set_cons_succ]
  (repeat (refine rLexL_quiet (by rfl) (by rfl) (by rfl) (by rfl) ?_; go_big_quiet_step (fail); refine wpQuiet_nil ?_))
  rintro wq hq' hf -
  refine wpList_nil ?_
  have GE := Lib.hid (gb_end (gb_trans A7.out.G hq'))
  clear hf hq' hne A7 Z7 LEA
  go_wp2_with fail
  go_ret
  exact ⟨rfl, GE.out⟩
end Go.Proofs.YtcealhikmbchoaaGreat
