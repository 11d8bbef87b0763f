/- The walk of LocateLarge. Written by gen_law28g.py. -/
import Derived.Test.YtcealhikmbchoaaGreatAwake28
import Derived.Test.YtcealhikmbchoaaGreatQrA
import Derived.Test.YtcealhikmbchoaaGreatSrP
import Derived.Test.YtcealhikmbchoaaGreatSrchL
import Derived.Test.YtcealhikmbchoaaGreatBent
namespace Go.Proofs.YtcealhikmbchoaaGreat
set_option linter.all false
open Go.RowKit Rg

/-- Two locations that are the same. -/
theorem run_neq12 (c0 c1 c2 c3 c4 c5 c6 c7 c8 c9 c10 c11 : Int) (w : World) :
    (binOp .neq 27 (.agg #[.int .i64 c0, .int .i64 c1, .int .i64 c2, .int .i64 c3, .int .i64 c4, .int .i64 c5, .int .i64 c6, .int .i64 c7, .int .i64 c8, .int .i64 c9, .int .i64 c10, .int .i64 c11]) (.agg #[.int .i64 c0, .int .i64 c1, .int .i64 c2, .int .i64 c3, .int .i64 c4, .int .i64 c5, .int .i64 c6, .int .i64 c7, .int .i64 c8, .int .i64 c9, .int .i64 c10, .int .i64 c11])).run Tryz.prog w = .ok (.bool false) w := by
  simp [go_sem]
attribute [local go_sem high] run_neq12

set_option maxRecDepth 100000 in
set_option maxHeartbeats 20000000 in
theorem locateLarge_walk (w : World) (v : Value) (xs : List Int) (hs : Sl w v xs) (_hx : ∀ x ∈ xs, -9223372036854775808 ≤ x ∧ x ≤ 9223372036854775807) :
    Calls Tryz.prog 6 #[v] w fun e w' => e = .returned (.bool true) ∧ Below w.heap.size w w' := by
  go_enter Tryz.func6, Tryz.ntmps6
  go_wp2_with fail
  (with_reducible refine (new_any w v xs hs).mono ?_)
  rintro e w2 ⟨rfl, hS, hg⟩
  have S2 := Lib.hid hS; have G2 := Lib.hid hg
  clear hS hg hs
  generalize hqw : w.heap.size = q at S2 ⊢
  have hq : w.heap.size ≤ q := by omega
  go_wp2_with fail
  (with_reducible refine (problem_any q w2 q 30 6 S2.out (by omega) (by omega) (by omega) (by omega)).mono ?_)
  rintro e w3 ⟨P, vl, vh, vp, rfl, hB, hT, hre, -, hcap, hlen, hph, hin, hap, hS, hg⟩
  have gd := good_mk hB (by omega) hT hre.1 hcap hlen.1 (by omega) hph
  have hq2 := S2.out.lt.2
  have HPI : Hid (PrIn q w3 ⟨P, vl, vh, vp⟩) := Lib.hid ⟨hin, fun b off len cap e _ => by have := hap _ (.inl rfl) b off len cap e; omega, fun b off len cap e _ => by have := hap _ (.inr (.inl rfl)) b off len cap e; omega, fun b off len cap e _ => by have := hap _ (.inr (.inr rfl)) b off len cap e; omega, by show P.phs.length ≤ 100; omega⟩
  have S3 := Lib.hid hS; have G3 := Lib.hid (gb_new G2.out hg (fun k hk => by simp at hk; omega))
  clear hS hg S2 G2 hT hre hcap hlen hph hap
  obtain ⟨pa, pc, rfl⟩ := hin.p.slice
  obtain ⟨la, ln, lc, rfl⟩ := sl_slice hin.l
  obtain ⟨ha, hn, hc, rfl⟩ := sl_slice hin.h
  have LARGE := Lib.hid (fun (tol : Int) h0 h1 => large_plain gd (tol := tol) h0 h1)
  have LSR := Lib.hid (fun (tol : Int) => (loc_srch P tol).1)
  have ATC := Lib.hid (fun x y z u hw hi => gd.at (vl := .slice la ln lc) (vh := .slice ha hn hc) (vp := .slice pa P.phs.length pc) rfl x y z u hw hi)
  have HVB := Lib.hid gd.sound.vb
  have MMI := Lib.hid (fun b0 b1 b2 b3 b4 b5 hw => gd.mm_in (b0 := b0) (b1 := b1) (b2 := b2) (b3 := b3) (b4 := b4) (b5 := b5) hw)
  have LOC := Lib.hid (fun (tol : Int) (u : World) (h : PrIn q u ⟨P, .slice la ln lc, .slice ha hn hc, .slice pa P.phs.length pc⟩) => locate_any P _ _ _ tol u h.1 (by have := h.2.2.2.2; dsimp only at this; omega))
  have RLO := Lib.hid (fun (tol : Int) (u : World) (h : PrIn q u ⟨P, .slice la ln lc, .slice ha hn hc, .slice pa P.phs.length pc⟩) => rlocate_any P _ _ _ tol u h.1 (by have := h.2.2.2.2; dsimp only at this; omega))
  have HBX := Lib.hid hB
  clear gd hin hB
  generalize mm P = m at *
  generalize tt P = tm at *
  generalize hPP : P = P0 at *
  obtain ⟨x0, y0, z0, x1, y1, z1, step, ls, hs, phs, cap⟩ := P
  subst hPP
  generalize hpn : phs.length = pn at *
  dsimp only [Prob.reg] at LARGE MMI ATC HVB HBX
  have hPV : Prob.val ⟨x0, y0, z0, x1, y1, z1, step, ls, hs, phs, cap⟩ (.slice la ln lc) (.slice ha hn hc) (.slice pa pn pc) = #[.int .i64 x0, .int .i64 y0, .int .i64 z0, .int .i64 x1, .int .i64 y1, .int .i64 z1, .int .i64 step, .slice la ln lc, .slice ha hn hc, .slice pa pn pc, .int .i64 cap] := rfl
  rw [hPV] at LOC ATC RLO
  rw [hPV]
  have hg4 : w3.grownBy (w3.alloc (.cells #[.int .i64 x0, .int .i64 y0, .int .i64 z0, .int .i64 x1, .int .i64 y1, .int .i64 z1, .int .i64 step, .slice la ln lc, .slice ha hn hc, .slice pa pn pc, .int .i64 cap] 36)) none := gb_alloc (gb_refl _ _) _
  have S4 := Lib.hid (S3.out.later (row := none) hg4 (by simp))
  have A4 : Hid (QrAt w q ⟨x0, y0, z0, x1, y1, z1, step, ls, hs, phs, cap⟩ (.slice la ln lc) (.slice ha hn hc) (.slice pa pn pc) w3.heap.size (w3.alloc (.cells #[.int .i64 x0, .int .i64 y0, .int .i64 z0, .int .i64 x1, .int .i64 y1, .int .i64 z1, .int .i64 step, .slice la ln lc, .slice ha hn hc, .slice pa pn pc, .int .i64 cap] 36))) := Lib.hid ⟨heap_alloc_new w3 (.cells #[.int .i64 x0, .int .i64 y0, .int .i64 z0, .int .i64 x1, .int .i64 y1, .int .i64 z1, .int .i64 step, .slice la ln lc, .slice ha hn hc, .slice pa pn pc, .int .i64 cap] 36), HPI.out.draw (gb_none hg4), gb_trans G3.out hg4, hq, S3.out.lt.2⟩
  have hz4 : (w3.alloc (.cells #[.int .i64 x0, .int .i64 y0, .int .i64 z0, .int .i64 x1, .int .i64 y1, .int .i64 z1, .int .i64 step, .slice la ln lc, .slice ha hn hc, .slice pa pn pc, .int .i64 cap] 36)).heap.size = w3.heap.size + 1 := by simp
  clear hg4 S3 G3 HPI
  go_wp2_with fail
  generalize w3.alloc (.cells #[.int .i64 x0, .int .i64 y0, .int .i64 z0, .int .i64 x1, .int .i64 y1, .int .i64 z1, .int .i64 step, .slice la ln lc, .slice ha hn hc, .slice pa pn pc, .int .i64 cap] 36) = w4 at *
  generalize w3.heap.size = b8 at *
  have PK := pickL_any q w4 q [0, 10, 20, 50, 100] 5 rfl #[.int .i64 0, .int .i64 10, .int .i64 20, .int .i64 50, .int .i64 100] rfl 3 S4.out (b8 + 1) hz4 (by decide) (by decide)
  (with_reducible refine PK.mono ?_)
  rintro e w5 ⟨n, rfl, hnn, hS, hg⟩
  have hn0 : 0 ≤ n ∧ n ≤ 100 := by
    simp only [List.mem_cons, List.not_mem_nil, or_false] at hnn; omega
  have A5 := Lib.hid (A4.out.draw hg); have S5 := Lib.hid hS
  clear hS hg S4 A4 PK hnn hz4
  have LOC' := Lib.hid (LOC.out n w5 A5.out.pi)
  have RLO' := Lib.hid (fun u h => RLO.out n u h)
  have hls := LSR.out n
  have hlg := LARGE.out n (by omega) (by omega)
  have hr1 : (srch ⟨x0, y0, z0, x1, y1, z1, step, ls, hs, phs, cap⟩ n).1 = (locP ⟨x0, y0, z0, x1, y1, z1, step, ls, hs, phs, cap⟩ n).1 := by rw [hls]
  have hr2 : (srch ⟨x0, y0, z0, x1, y1, z1, step, ls, hs, phs, cap⟩ n).2.2 = (locP ⟨x0, y0, z0, x1, y1, z1, step, ls, hs, phs, cap⟩ n).2 := by rw [hls]
  rw [hr1, hr2] at RLO'
  clear hls hr1 hr2 LSR LARGE LOC RLO
  have P5 := A5.out.p8
  rw [hPV] at P5
  obtain ⟨e0_, e1_, e2_, e3_, e4_, e5_, e6_, e7_, e8_, e9_, e10_⟩ := cells11 P5
  clear P5
  rcases hlg with hlg | ⟨y, hy, hyb, hyv, hyw, hyh, hyl, hyt, hl0, hm0, htt, hmm, hall⟩
  · rw [hlg] at LOC' RLO'
    dsimp only at LOC' RLO'
    have hLX : loc0.val = #[.int .i64 0, .int .i64 0, .int .i64 0, .int .i64 0, .int .i64 0, .int .i64 0, .int .i64 0, .int .i64 0, .int .i64 0, .int .i64 0, .int .i64 0, .int .i64 0] := rfl
    rw [hLX] at LOC' RLO'
    clear hlg
    go_wp2_with fail
    clear e0_ e1_ e2_ e3_ e4_ e5_ e6_ e7_ e8_ e9_ e10_
    (with_reducible refine LOC'.out.mono ?_)
    rintro e w6 ⟨rfl, hg⟩
    have A6 := Lib.hid (A5.out.keep hg); have S6 := Lib.hid (S5.out.later (row := none) hg (by simp))
    clear hg A5 S5 LOC'
    have hg7 : w6.grownBy (w6.alloc (.cells #[.int .i64 0, .int .i64 0, .int .i64 0, .int .i64 0, .int .i64 0, .int .i64 0, .int .i64 0, .int .i64 0, .int .i64 0, .int .i64 0, .int .i64 0, .int .i64 0] 27)) none := gb_alloc (gb_refl _ _) _
    have A7 := Lib.hid (A6.out.keep hg7); have Z7 := Lib.hid (heap_alloc_new w6 (.cells #[.int .i64 0, .int .i64 0, .int .i64 0, .int .i64 0, .int .i64 0, .int .i64 0, .int .i64 0, .int .i64 0, .int .i64 0, .int .i64 0, .int .i64 0, .int .i64 0] 27)); have S7 := Lib.hid (S6.out.later (row := none) hg7 (by simp))
    have hbz : q < w6.heap.size := S6.out.lt.2
    clear hg7 A6 S6
    have P7 := A7.out.p8
    rw [hPV] at P7
    obtain ⟨e0_, e1_, e2_, e3_, e4_, e5_, e6_, e7_, e8_, e9_, e10_⟩ := cells11 P7
    clear P7
    go_wp2_with fail
    clear e0_ e1_ e2_ e3_ e4_ e5_ e6_ e7_ e8_ e9_ e10_
    generalize w6.alloc (.cells #[.int .i64 0, .int .i64 0, .int .i64 0, .int .i64 0, .int .i64 0, .int .i64 0, .int .i64 0, .int .i64 0, .int .i64 0, .int .i64 0, .int .i64 0, .int .i64 0] 27) = w7 at *
    generalize w6.heap.size = bz at *
    (with_reducible refine (RLO'.out w7 A7.out.pi).mono ?_)
    rintro e w8 ⟨rfl, hg⟩
    have hg9 : w8.grownBy (w8.alloc (.cells #[.int .i64 0, .int .i64 0, .int .i64 0, .int .i64 0, .int .i64 0, .int .i64 0, .int .i64 0, .int .i64 0, .int .i64 0, .int .i64 0, .int .i64 0, .int .i64 0] 27)) none := gb_alloc (gb_refl _ _) _
    have A9 := Lib.hid ((A7.out.keep hg).keep hg9); have S9 := Lib.hid ((S7.out.later (row := none) hg (by simp)).later (row := none) hg9 (by simp)); have Z9 := Lib.hid (block_kept hg9 (block_kept hg Z7.out rfl) rfl)
    have Y9 := Lib.hid (heap_alloc_new w8 (.cells #[.int .i64 0, .int .i64 0, .int .i64 0, .int .i64 0, .int .i64 0, .int .i64 0, .int .i64 0, .int .i64 0, .int .i64 0, .int .i64 0, .int .i64 0, .int .i64 0] 27))
    clear hg hg9 A7 S7 Z7 RLO'
    obtain ⟨d0_, d1_, d2_, d3_, d4_, d5_, d6_, d7_, d8_, d9_, d10_, d11_⟩ := cells12 Z9.out
    obtain ⟨f0_, f1_, f2_, f3_, f4_, f5_, f6_, f7_, f8_, f9_, f10_, f11_⟩ := cells12 Y9.out
    go_upto_region 6 with fail
    generalize w8.alloc (.cells #[.int .i64 0, .int .i64 0, .int .i64 0, .int .i64 0, .int .i64 0, .int .i64 0, .int .i64 0, .int .i64 0, .int .i64 0, .int .i64 0, .int .i64 0, .int .i64 0] 27) = w9 at *
    generalize w8.heap.size = by_ at *
    go_wp2_with fail
    (with_reducible refine (awake28_any w9).mono ?_)
    rintro e w17 ⟨rfl, hg⟩
    have GE := Lib.hid (gb_end (gb_trans A9.out.G hg))
    clear hg
    go_wp2_with fail
    go_ret
    exact ⟨rfl, GE.out⟩
  rw [hy] at LOC' RLO'
  dsimp only at LOC' RLO'
  have hLX : y.val = #[.int .i64 y.px, .int .i64 y.py, .int .i64 y.pz, .int .i64 y.t, .int .i64 y.m, .int .i64 y.l, .int .i64 y.a0, .int .i64 y.a1, .int .i64 y.a2, .int .i64 y.a3, .int .i64 y.a4, .int .i64 y.a5] := rfl
  rw [hLX] at LOC' RLO'
  have SP := Lib.hid hall
  have HYV := Lib.hid hyv; have HYL := Lib.hid hyl; have HM0 := Lib.hid hm0; have HL0 := Lib.hid hl0
  clear hy hyb hyv hyw hyh hyl hyt hl0 hm0 htt hmm hall
  go_wp2_with fail
  clear e0_ e1_ e2_ e3_ e4_ e5_ e6_ e7_ e8_ e9_ e10_
  (with_reducible refine LOC'.out.mono ?_)
  rintro e w6 ⟨rfl, hg⟩
  have A6 := Lib.hid (A5.out.keep hg); have S6 := Lib.hid (S5.out.later (row := none) hg (by simp))
  clear hg A5 S5 LOC'
  have hg7 : w6.grownBy (w6.alloc (.cells #[.int .i64 y.px, .int .i64 y.py, .int .i64 y.pz, .int .i64 y.t, .int .i64 y.m, .int .i64 y.l, .int .i64 y.a0, .int .i64 y.a1, .int .i64 y.a2, .int .i64 y.a3, .int .i64 y.a4, .int .i64 y.a5] 27)) none := gb_alloc (gb_refl _ _) _
  have A7 := Lib.hid (A6.out.keep hg7); have Z7 := Lib.hid (heap_alloc_new w6 (.cells #[.int .i64 y.px, .int .i64 y.py, .int .i64 y.pz, .int .i64 y.t, .int .i64 y.m, .int .i64 y.l, .int .i64 y.a0, .int .i64 y.a1, .int .i64 y.a2, .int .i64 y.a3, .int .i64 y.a4, .int .i64 y.a5] 27)); have S7 := Lib.hid (S6.out.later (row := none) hg7 (by simp))
  have hbz : q < w6.heap.size := S6.out.lt.2
  clear hg7 A6 S6
  have P7 := A7.out.p8
  rw [hPV] at P7
  obtain ⟨e0_, e1_, e2_, e3_, e4_, e5_, e6_, e7_, e8_, e9_, e10_⟩ := cells11 P7
  clear P7
  go_wp2_with fail
  clear e0_ e1_ e2_ e3_ e4_ e5_ e6_ e7_ e8_ e9_ e10_
  generalize w6.alloc (.cells #[.int .i64 y.px, .int .i64 y.py, .int .i64 y.pz, .int .i64 y.t, .int .i64 y.m, .int .i64 y.l, .int .i64 y.a0, .int .i64 y.a1, .int .i64 y.a2, .int .i64 y.a3, .int .i64 y.a4, .int .i64 y.a5] 27) = w7 at *
  generalize w6.heap.size = bz at *
  (with_reducible refine (RLO'.out w7 A7.out.pi).mono ?_)
  rintro e w8 ⟨rfl, hg⟩
  have hg9 : w8.grownBy (w8.alloc (.cells #[.int .i64 y.px, .int .i64 y.py, .int .i64 y.pz, .int .i64 y.t, .int .i64 y.m, .int .i64 y.l, .int .i64 y.a0, .int .i64 y.a1, .int .i64 y.a2, .int .i64 y.a3, .int .i64 y.a4, .int .i64 y.a5] 27)) none := gb_alloc (gb_refl _ _) _
  have A9 := Lib.hid ((A7.out.keep hg).keep hg9); have S9 := Lib.hid ((S7.out.later (row := none) hg (by simp)).later (row := none) hg9 (by simp)); have Z9 := Lib.hid (block_kept hg9 (block_kept hg Z7.out rfl) rfl)
  have Y9 := Lib.hid (heap_alloc_new w8 (.cells #[.int .i64 y.px, .int .i64 y.py, .int .i64 y.pz, .int .i64 y.t, .int .i64 y.m, .int .i64 y.l, .int .i64 y.a0, .int .i64 y.a1, .int .i64 y.a2, .int .i64 y.a3, .int .i64 y.a4, .int .i64 y.a5] 27))
  clear hg hg9 A7 S7 Z7 RLO'
  obtain ⟨d0_, d1_, d2_, d3_, d4_, d5_, d6_, d7_, d8_, d9_, d10_, d11_⟩ := cells12 Z9.out
  obtain ⟨f0_, f1_, f2_, f3_, f4_, f5_, f6_, f7_, f8_, f9_, f10_, f11_⟩ := cells12 Y9.out
  go_upto_region 6 with fail
  generalize w8.alloc (.cells #[.int .i64 y.px, .int .i64 y.py, .int .i64 y.pz, .int .i64 y.t, .int .i64 y.m, .int .i64 y.l, .int .i64 y.a0, .int .i64 y.a1, .int .i64 y.a2, .int .i64 y.a3, .int .i64 y.a4, .int .i64 y.a5] 27) = w9 at *
  generalize w8.heap.size = by_ at *
  go_wp2_with fail
  clear d0_ d1_ d2_ d3_ d4_ d5_ d6_ d7_ d8_ d9_ d10_ d11_ f0_ f1_ f2_ f3_ f4_ f5_ f6_ f7_ f8_ f9_ f10_ f11_
  have hS9 := S9.out
  go_loopg [10] 12 (fun gk i wr => ∃ k : Nat, k + gk = 12 ∧ i = .int .i64 k ∧ QrAt w q ⟨x0, y0, z0, x1, y1, z1, step, ls, hs, phs, cap⟩ (.slice la ln lc) (.slice ha hn hc) (.slice pa pn pc) b8 wr ∧ Src q wr q ∧ wr.heap[bz]? = some (.cells #[.int .i64 y.px, .int .i64 y.py, .int .i64 y.pz, .int .i64 y.t, .int .i64 y.m, .int .i64 y.l, .int .i64 y.a0, .int .i64 y.a1, .int .i64 y.a2, .int .i64 y.a3, .int .i64 y.a4, .int .i64 y.a5] 27 (0, 0)))
  case atStart => exact ⟨0, by omega, rfl, A9.out, S9.out, Z9.out⟩
  case round =>
    clear A9 S9 Z9 hS9
    obtain ⟨k, hk, rfl, hA, hS, hZ⟩ := hrel
    have A10 := Lib.hid hA; have S10 := Lib.hid hS; have Z10 := Lib.hid hZ
    clear hA hS hZ
    generalize wr = w10 at *
    by_cases hlt : k < 12
    rotate_left
    · have hkd : decide ((k : Int) < 12) = false := decide_eq_false (by omega)
      go_wp2_with fail
      (with_reducible refine (awake28_any w10).mono ?_)
      rintro e w17 ⟨rfl, hg⟩
      have GE := Lib.hid (gb_end (gb_trans A10.out.G hg))
      clear hg
      go_wp2_with fail
      go_ret
      exact ⟨rfl, GE.out⟩
    have hkd : decide ((k : Int) < 12) = true := decide_eq_true (by omega)
    have hgi : gk - 1 < gk ∧ k + 1 + (gk - 1) = 12 := by omega
    have hbx := HBX.out
    unfold boxIn placeIn at hbx
    have PTA := Lib.hid (point_any q w10 q x0 y0 z0 x1 y1 z1 S10.out (by omega) (by omega) (by omega))
    clear hbx
    have P10 := A10.out.p8
    rw [hPV] at P10
    obtain ⟨e0_, e1_, e2_, e3_, e4_, e5_, e6_, e7_, e8_, e9_, e10_⟩ := cells11 P10
    clear P10
    go_wp2_with fail
    clear e0_ e1_ e2_ e3_ e4_ e5_ e6_ e7_ e8_ e9_ e10_
    (with_reducible refine PTA.out.mono ?_)
    rintro e w11 ⟨qx, qy, qz, rfl, hpt, hS, hg⟩
    have hbq := A10.out.lt
    have hbzq : bz ≠ q := by omega
    have hg17 : w11.grownBy (w11.alloc (.cells #[.int .i64 qx, .int .i64 qy, .int .i64 qz] 23)) none := gb_alloc (gb_refl _ _) _
    have A17 := Lib.hid ((A10.out.draw hg).keep hg17); have S17 := Lib.hid (hS.later (row := none) hg17 (by simp)); have Z17 := Lib.hid (block_kept hg17 (block_keptp hg Z10.out hbzq) rfl)
    have Q17 := Lib.hid (heap_alloc_new w11 (.cells #[.int .i64 qx, .int .i64 qy, .int .i64 qz] 23))
    have hwq : wiP qx qy qz qx qy qz x0 y0 z0 x1 y1 z1 = true := wiP_point HVB.out ⟨hpt.1, hpt.2.1⟩ ⟨hpt.2.2.1, hpt.2.2.2.1⟩ ⟨hpt.2.2.2.2.1, hpt.2.2.2.2.2⟩
    obtain ⟨hS1, hS2, hS3⟩ := SP.out qx qy qz hpt
    have hMM := MMI.out _ _ _ _ _ _ hwq
    have AT1 := Lib.hid (fun u hi => ATC.out qx qy qz u hwq hi)
    have hqv := (bP_iff (wiP_iff.1 hwq).1).1
    clear hwq hg hS hg17 A10 S10 Z10 PTA hpt
    generalize m qx qy qz qx qy qz = mq at *
    generalize tm qx qy qz = tq at *
    have P17 := A17.out.p8
    rw [hPV] at P17
    obtain ⟨e0_, e1_, e2_, e3_, e4_, e5_, e6_, e7_, e8_, e9_, e10_⟩ := cells11 P17
    obtain ⟨q0_, q1_, q2_⟩ := cells3 Q17.out
    clear P17
    go_wp2_with fail
    clear e0_ e1_ e2_ e3_ e4_ e5_ e6_ e7_ e8_ e9_ e10_
    clear q0_ q1_ q2_
    generalize w11.alloc (.cells #[.int .i64 qx, .int .i64 qy, .int .i64 qz] 23) = w17 at *
    generalize w11.heap.size = bq at *
    (with_reducible refine (AT1.out w17 A17.out.prob).mono ?_)
    rintro e w18 ⟨rfl, hg⟩
    have A18 := Lib.hid (A17.out.keep hg); have S18 := Lib.hid (S17.out.later (row := none) hg (by simp)); have Z18 := Lib.hid (block_kept hg Z17.out rfl); have Q18 := Lib.hid (block_kept hg Q17.out rfl)
    clear hg A17 S17 Z17 Q17 AT1
    obtain ⟨d0_, d1_, d2_, d3_, d4_, d5_, d6_, d7_, d8_, d9_, d10_, d11_⟩ := cells12 Z18.out
    obtain ⟨q0_, q1_, q2_⟩ := cells3 Q18.out
    have hm1 := HM0.out; have hl1 := HL0.out; have hyl1 := HYL.out
    have hw_ : IntKind.i64.wrap (y.m - n) = y.m - n := IntWalk.i64_in _ (by omega)
    have t1_ : decide (mq < y.l) = false := decide_eq_false (by omega)
    have t2_ : decide (mq < y.m - n) = false := decide_eq_false (by omega)
    by_cases h3 : mq < y.m
    · have t3_ : decide (mq < y.m) = true := decide_eq_true h3
      have hC : conP y.a0 y.a1 y.a2 y.a3 y.a4 y.a5 qx qy qz = true := by
        have := hS3 h3
        unfold Bx.has at this; dsimp only at this
        exact conP_iff.2 ⟨HYV.out, hqv, by omega⟩
      have CO := Lib.hid (contains_any y.a0 y.a1 y.a2 y.a3 y.a4 y.a5 qx qy qz w18)
      rw [hC] at CO
      clear hC hS1 hS2 hS3 hMM h3 hm1 hl1 hyl1
      generalize hwv : y.m - n = wv_ at *
      go_wp2_with fail
      (with_reducible refine CO.out.mono ?_)
      rintro e w19 ⟨rfl, hg⟩
      have A19 := Lib.hid (A18.out.keep hg); have S19 := Lib.hid (S18.out.later (row := none) hg (by simp)); have Z19 := Lib.hid (block_kept hg Z18.out rfl)
      clear hg
      go_wp2_with fail
      go_roundg (gk - 1)
      case measure => exact hgi.1
      case rel => exact ⟨k + 1, hgi.2, by go_num, A19.out, S19.out, Z19.out⟩
    · have t3_ : decide (mq < y.m) = false := decide_eq_false h3
      clear hS1 hS2 hS3 hMM h3 hm1 hl1 hyl1
      generalize hwv : y.m - n = wv_ at *
      go_wp2_with fail
      go_roundg (gk - 1)
      case measure => exact hgi.1
      case rel => exact ⟨k + 1, hgi.2, by go_num, A18.out, S18.out, Z18.out⟩
end Go.Proofs.YtcealhikmbchoaaGreat
