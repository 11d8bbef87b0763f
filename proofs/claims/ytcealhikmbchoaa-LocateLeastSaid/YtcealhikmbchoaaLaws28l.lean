/- The walk of LocateLeast. Written by gen_law28l.py. -/
import Derived.Test.YtcealhikmbchoaaAwake28
import Derived.Test.YtcealhikmbchoaaRgPullS
import Derived.Test.YtcealhikmbchoaaAll24
import Derived.Test.YtcealhikmbchoaaBent
namespace Go.Proofs.Ytcealhikmbchoaa
set_option linter.all false
open Go.RowKit Rg

theorem addr_is (g j : Nat) : (⟨g, 0, none⟩ : Addr).add j = ⟨g, j, none⟩ := by unfold Addr.add; split <;> simp_all
theorem pts_side {x0 y0 z0 x1 y1 z1 : Int} (h0 : x1 - x0 ≤ 8) (h1 : y1 - y0 ≤ 8) (h2 : z1 - z0 ≤ 8) (hv : bP x0 y0 z0 x1 y1 z1 = true) : ptsP x0 y0 z0 x1 y1 z1 ≤ 1500 := by
  obtain ⟨v0, v1, o0, o1, o2⟩ := bP_iff hv
  unfold ptsP ptsD
  rw [hv]
  simp only [if_true]
  have m1 : (x1 - x0 + 1) * (y1 - y0 + 1) ≤ 9 * 9 := Int.mul_le_mul (by omega) (by omega) (by omega) (by omega)
  have p1 : 0 ≤ (x1 - x0 + 1) * (y1 - y0 + 1) := Int.mul_nonneg (by omega) (by omega)
  have m2 : (x1 - x0 + 1) * (y1 - y0 + 1) * (z1 - z0 + 1) ≤ (9 * 9) * 9 := Int.mul_le_mul m1 (by omega) (by omega) (by omega)
  omega
/-- What the walk keeps. -/
structure QrAt (w : World) (q : Nat) (P : Prob) (vl vh vp : Value) (b8 : Nat) (u : World) : Prop where
  p8 : u.heap[b8]? = some (.cells (P.val vl vh vp) 36 (0, 0))
  pi : PrIn q u ⟨P, vl, vh, vp⟩
  G : w.grownBy u none
  lt : w.heap.size ≤ q ∧ q < b8
section
variable {w u u' : World} {q b8 : Nat} {P : Prob} {vl vh vp : Value}
theorem QrAt.draw (h : QrAt w q P vl vh vp b8 u) (hg : u.grownBy u' (some q)) : QrAt w q P vl vh vp b8 u' := by
  have hl := h.lt
  exact ⟨block_keptp hg h.p8 (by omega), h.pi.draw hg, gb_new h.G hg (fun k hk => by simp at hk; omega), h.lt⟩
theorem QrAt.prob (h : QrAt w q P vl vh vp b8 u) : ProbIn P vl vh vp u := h.pi.1
theorem QrAt.keep (h : QrAt w q P vl vh vp b8 u) (hg : u.grownBy u' none) : QrAt w q P vl vh vp b8 u' := h.draw (gb_none hg)
end

set_option maxRecDepth 100000 in
set_option maxHeartbeats 20000000 in
theorem locateLeast_walk (w : World) (v : Value) (xs : List Int) (hs : Sl w v xs) (_hx : ∀ x ∈ xs, -9223372036854775808 ≤ x ∧ x ≤ 9223372036854775807) :
    Calls Try.prog 4 #[v] w fun e w' => e = .returned (.bool true) ∧ Below w.heap.size w w' := by
  go_enter Try.func4, Try.ntmps4
  go_wp2_with fail
  (with_reducible refine (new_any w v xs hs).mono ?_)
  rintro e w2 ⟨rfl, hS, hg⟩
  have S2 := Lib.hid hS; have G2 := Lib.hid hg
  clear hS hg hs
  generalize hqw : w.heap.size = q at S2 ⊢
  have hq : w.heap.size ≤ q := by omega
  go_wp2_with fail
  (with_reducible refine (problem_any q w2 q 4 6 S2.out (by omega) (by omega) (by omega) (by omega)).mono ?_)
  rintro e w3 ⟨P, vl, vh, vp, rfl, hB, hT, hre, -, hcap, hlen, hph, hin, hap, hS, hg⟩
  have gd := good_mk hB (by omega) hT hre.1 hcap hlen.1 (by omega) hph
  have hq2 := S2.out.lt.2
  have HPI : Hid (PrIn q w3 ⟨P, vl, vh, vp⟩) := Lib.hid ⟨hin, fun b off len cap e _ => by have := hap _ (.inl rfl) b off len cap e; omega, fun b off len cap e _ => by have := hap _ (.inr (.inl rfl)) b off len cap e; omega, fun b off len cap e _ => by have := hap _ (.inr (.inr rfl)) b off len cap e; omega, by show P.phs.length ≤ 100; omega⟩
  have S3 := Lib.hid hS; have G3 := Lib.hid (gb_new G2.out hg (fun k hk => by simp at hk; omega))
  clear hS hg S2 G2 hT hre hcap hlen hph hap
  obtain ⟨pa, pc, rfl⟩ := hin.p.slice
  obtain ⟨la, ln, lc, rfl⟩ := sl_slice hin.l
  obtain ⟨ha, hn, hc, rfl⟩ := sl_slice hin.h
  have HPTS : P.reg.pts ≤ 1500 := by
    have hB' := hB
    unfold boxIn placeIn at hB'
    exact pts_side (by show P.x1 - P.x0 ≤ 8; omega) (by show P.y1 - P.y0 ≤ 8; omega) (by show P.z1 - P.z0 ≤ 8; omega) gd.sound.vb
  have LST := Lib.hid (fun (tol : Int) h0 h1 => least_plain gd (tol := tol) h0 h1 HPTS)
  have ATC := Lib.hid (fun x y z u hw hi => gd.at (vl := .slice la ln lc) (vh := .slice ha hn hc) (vp := .slice pa P.phs.length pc) rfl x y z u hw hi)
  have HVB := Lib.hid gd.sound.vb
  have MMI := Lib.hid (fun b0 b1 b2 b3 b4 b5 hw => gd.mm_in (b0 := b0) (b1 := b1) (b2 := b2) (b3 := b3) (b4 := b4) (b5 := b5) hw)
  have LOC := Lib.hid (fun (tol : Int) (u : World) (h : PrIn q u ⟨P, .slice la ln lc, .slice ha hn hc, .slice pa P.phs.length pc⟩) => locate_any P _ _ _ tol u h.1 (by have := h.2.2.2.2; dsimp only at this; omega))
  clear gd hin HPTS
  generalize mm P = m at *
  generalize tt P = tm at *
  generalize hPP : P = P0 at *
  obtain ⟨x0, y0, z0, x1, y1, z1, step, ls, hs, phs, cap⟩ := P
  subst hPP
  generalize hpn : phs.length = pn at *
  dsimp only [Prob.reg] at LST MMI ATC HVB hB
  have hPV : Prob.val ⟨x0, y0, z0, x1, y1, z1, step, ls, hs, phs, cap⟩ (.slice la ln lc) (.slice ha hn hc) (.slice pa pn pc) = #[.int .i64 x0, .int .i64 y0, .int .i64 z0, .int .i64 x1, .int .i64 y1, .int .i64 z1, .int .i64 step, .slice la ln lc, .slice ha hn hc, .slice pa pn pc, .int .i64 cap] := rfl
  rw [hPV] at LOC ATC
  rw [hPV]
  have hg4 : w3.grownBy (w3.alloc (.cells #[.int .i64 x0, .int .i64 y0, .int .i64 z0, .int .i64 x1, .int .i64 y1, .int .i64 z1, .int .i64 step, .slice la ln lc, .slice ha hn hc, .slice pa pn pc, .int .i64 cap] 36)) none := gb_alloc (gb_refl _ _) _
  have S4 := Lib.hid (S3.out.later (row := none) hg4 (by simp))
  have A4 : Hid (QrAt w q ⟨x0, y0, z0, x1, y1, z1, step, ls, hs, phs, cap⟩ (.slice la ln lc) (.slice ha hn hc) (.slice pa pn pc) w3.heap.size (w3.alloc (.cells #[.int .i64 x0, .int .i64 y0, .int .i64 z0, .int .i64 x1, .int .i64 y1, .int .i64 z1, .int .i64 step, .slice la ln lc, .slice ha hn hc, .slice pa pn pc, .int .i64 cap] 36))) := Lib.hid ⟨heap_alloc_new w3 (.cells #[.int .i64 x0, .int .i64 y0, .int .i64 z0, .int .i64 x1, .int .i64 y1, .int .i64 z1, .int .i64 step, .slice la ln lc, .slice ha hn hc, .slice pa pn pc, .int .i64 cap] 36), HPI.out.draw (gb_none hg4), gb_trans G3.out hg4, hq, S3.out.lt.2⟩
  have hz4 : (w3.alloc (.cells #[.int .i64 x0, .int .i64 y0, .int .i64 z0, .int .i64 x1, .int .i64 y1, .int .i64 z1, .int .i64 step, .slice la ln lc, .slice ha hn hc, .slice pa pn pc, .int .i64 cap] 36)).heap.size = w3.heap.size + 1 := by simp
  clear hg4 S3 G3 HPI
  go_wp2_with fail
  generalize w3.alloc (.cells #[.int .i64 x0, .int .i64 y0, .int .i64 z0, .int .i64 x1, .int .i64 y1, .int .i64 z1, .int .i64 step, .slice la ln lc, .slice ha hn hc, .slice pa pn pc, .int .i64 cap] 36) = w4 at *
  generalize w3.heap.size = b8 at *
  have PK := pickL_any q w4 q [0, 0, 5, 20, 100] 5 rfl #[.int .i64 0, .int .i64 0, .int .i64 5, .int .i64 20, .int .i64 100] rfl 3 S4.out (b8 + 1) hz4 (by decide) (by decide)
  (with_reducible refine PK.mono ?_)
  rintro e w5 ⟨n, rfl, hn, hS, hg⟩
  have hn0 : 0 ≤ n ∧ n ≤ 100 := by
    simp only [List.mem_cons, List.not_mem_nil, or_false] at hn; omega
  have A5 := Lib.hid (A4.out.draw hg)
  clear hS hg S4 A4 PK hn hz4
  obtain ⟨y, hy, hyb, hyv, hyw, hyh, hyl, hyt, hl0, hm0, htt, hmm, hall⟩ := LST.out n (by omega) (by omega)
  have SP := Lib.hid hall
  have LOC' := Lib.hid (LOC.out n w5 A5.out.pi)
  rw [hy] at LOC'
  dsimp only at LOC'
  have hLX : y.val = #[.int .i64 y.px, .int .i64 y.py, .int .i64 y.pz, .int .i64 y.t, .int .i64 y.m, .int .i64 y.l, .int .i64 y.a0, .int .i64 y.a1, .int .i64 y.a2, .int .i64 y.a3, .int .i64 y.a4, .int .i64 y.a5] := rfl
  rw [hLX] at LOC'
  clear LOC LST hall hy
  have hw0 : wiP y.px y.py y.pz y.px y.py y.pz x0 y0 z0 x1 y1 z1 = true := by unfold Bx.has at hyb; dsimp only at hyb; exact wiP_point HVB.out (by omega) (by omega) (by omega)
  have hvp := (bP_iff (wiP_iff.1 hw0).1).1
  have C1 : conP x0 y0 z0 x1 y1 z1 y.px y.py y.pz = true := by unfold Bx.has at hyb; dsimp only at hyb; exact conP_iff.2 ⟨HVB.out, hvp, by omega⟩
  have C2 : conP y.a0 y.a1 y.a2 y.a3 y.a4 y.a5 y.px y.py y.pz = true := by unfold Bx.has at hyh; dsimp only at hyh; exact conP_iff.2 ⟨hyv, hvp, by omega⟩
  have C3 : wiP y.a0 y.a1 y.a2 y.a3 y.a4 y.a5 x0 y0 z0 x1 y1 z1 = true := wiP_of (c := ⟨y.a0, y.a1, y.a2, y.a3, y.a4, y.a5⟩) (b := ⟨x0, y0, z0, x1, y1, z1⟩) hyv HVB.out hyw
  have CA1 := Lib.hid (fun u => contains_any x0 y0 z0 x1 y1 z1 y.px y.py y.pz u)
  have CA2 := Lib.hid (fun u => contains_any y.a0 y.a1 y.a2 y.a3 y.a4 y.a5 y.px y.py y.pz u)
  have CA3 := Lib.hid (fun u => within_any y.a0 y.a1 y.a2 y.a3 y.a4 y.a5 x0 y0 z0 x1 y1 z1 u)
  rw [C1] at CA1
  rw [C2] at CA2
  rw [C3] at CA3
  have AT0 := Lib.hid (fun u hi => ATC.out y.px y.py y.pz u hw0 hi)
  rw [← htt, ← hmm] at AT0
  have HYV := Lib.hid hyv
  clear C1 C2 C3 hw0 hvp hyb hyv hyw hyh htt hmm
  have P5 := A5.out.p8
  rw [hPV] at P5
  obtain ⟨e0_, e1_, e2_, e3_, e4_, e5_, e6_, e7_, e8_, e9_, e10_⟩ := cells11 P5
  clear P5
  go_wp2_with fail
  clear e0_ e1_ e2_ e3_ e4_ e5_ e6_ e7_ e8_ e9_ e10_
  (with_reducible refine LOC'.out.mono ?_)
  rintro e w6 ⟨rfl, hg⟩
  have A6 := Lib.hid (A5.out.keep hg)
  clear hg A5 LOC'
  have hg7 : w6.grownBy (w6.alloc (.cells #[.int .i64 y.px, .int .i64 y.py, .int .i64 y.pz, .int .i64 y.t, .int .i64 y.m, .int .i64 y.l, .int .i64 y.a0, .int .i64 y.a1, .int .i64 y.a2, .int .i64 y.a3, .int .i64 y.a4, .int .i64 y.a5] 28)) none := gb_alloc (gb_refl _ _) _
  have A7 := Lib.hid (A6.out.keep hg7); have Z7 := Lib.hid (heap_alloc_new w6 (.cells #[.int .i64 y.px, .int .i64 y.py, .int .i64 y.pz, .int .i64 y.t, .int .i64 y.m, .int .i64 y.l, .int .i64 y.a0, .int .i64 y.a1, .int .i64 y.a2, .int .i64 y.a3, .int .i64 y.a4, .int .i64 y.a5] 28))
  clear hg7 A6
  have P7 := A7.out.p8
  rw [hPV] at P7
  obtain ⟨e0_, e1_, e2_, e3_, e4_, e5_, e6_, e7_, e8_, e9_, e10_⟩ := cells11 P7
  obtain ⟨d0_, d1_, d2_, d3_, d4_, d5_, d6_, d7_, d8_, d9_, d10_, d11_⟩ := cells12 Z7.out
  clear P7
  go_wp2_with fail
  clear e0_ e1_ e2_ e3_ e4_ e5_ e6_ e7_ e8_ e9_ e10_
  clear d0_ d1_ d2_ d3_ d4_ d5_ d6_ d7_ d8_ d9_ d10_ d11_
  generalize w6.alloc (.cells #[.int .i64 y.px, .int .i64 y.py, .int .i64 y.pz, .int .i64 y.t, .int .i64 y.m, .int .i64 y.l, .int .i64 y.a0, .int .i64 y.a1, .int .i64 y.a2, .int .i64 y.a3, .int .i64 y.a4, .int .i64 y.a5] 28) = w7 at *
  generalize w6.heap.size = bz at *
  (with_reducible refine (CA1.out w7).mono ?_)
  rintro e w8 ⟨rfl, hg⟩
  have A8 := Lib.hid (A7.out.keep hg); have Z8 := Lib.hid (block_kept hg Z7.out rfl)
  clear hg A7 Z7 CA1
  obtain ⟨d0_, d1_, d2_, d3_, d4_, d5_, d6_, d7_, d8_, d9_, d10_, d11_⟩ := cells12 Z8.out
  go_wp2_with fail
  clear d0_ d1_ d2_ d3_ d4_ d5_ d6_ d7_ d8_ d9_ d10_ d11_
  (with_reducible refine (CA2.out w8).mono ?_)
  rintro e w9 ⟨rfl, hg⟩
  have A9 := Lib.hid (A8.out.keep hg); have Z9 := Lib.hid (block_kept hg Z8.out rfl)
  clear hg A8 Z8 CA2
  have P9 := A9.out.p8
  rw [hPV] at P9
  obtain ⟨e0_, e1_, e2_, e3_, e4_, e5_, e6_, e7_, e8_, e9_, e10_⟩ := cells11 P9
  obtain ⟨d0_, d1_, d2_, d3_, d4_, d5_, d6_, d7_, d8_, d9_, d10_, d11_⟩ := cells12 Z9.out
  clear P9
  go_wp2_with fail
  clear e0_ e1_ e2_ e3_ e4_ e5_ e6_ e7_ e8_ e9_ e10_
  clear d0_ d1_ d2_ d3_ d4_ d5_ d6_ d7_ d8_ d9_ d10_ d11_
  (with_reducible refine (CA3.out w9).mono ?_)
  rintro e w10 ⟨rfl, hg⟩
  have A10 := Lib.hid (A9.out.keep hg); have Z10 := Lib.hid (block_kept hg Z9.out rfl)
  clear hg A9 Z9 CA3
  have P10 := A10.out.p8
  rw [hPV] at P10
  obtain ⟨e0_, e1_, e2_, e3_, e4_, e5_, e6_, e7_, e8_, e9_, e10_⟩ := cells11 P10
  obtain ⟨d0_, d1_, d2_, d3_, d4_, d5_, d6_, d7_, d8_, d9_, d10_, d11_⟩ := cells12 Z10.out
  clear P10
  have hw_ : IntKind.i64.wrap (y.m - y.l) = y.m - y.l := IntWalk.i64_in _ (by omega)
  have t1_ : decide (y.l > y.m) = false := decide_eq_false (by omega)
  have t2_ : decide (y.m - y.l > n) = false := decide_eq_false (by omega)
  generalize hwl : y.m - y.l = wl_ at *
  go_wp2_with fail
  clear e0_ e1_ e2_ e3_ e4_ e5_ e6_ e7_ e8_ e9_ e10_
  clear d0_ d1_ d2_ d3_ d4_ d5_ d6_ d7_ d8_ d9_ d10_ d11_ hw_ t1_ t2_ hwl
  (with_reducible refine (AT0.out w10 A10.out.prob).mono ?_)
  rintro e w11 ⟨rfl, hg⟩
  have A11 := Lib.hid (A10.out.keep hg); have Z11 := Lib.hid (block_kept hg Z10.out rfl)
  clear hg A10 Z10 AT0
  obtain ⟨nx, hnx⟩ : ∃ n : Nat, x1 = x0 + n - 1 := ⟨(x1 - x0 + 1).toNat, by unfold boxIn placeIn at hB; omega⟩
  obtain ⟨ny, hny⟩ : ∃ n : Nat, y1 = y0 + n - 1 := ⟨(y1 - y0 + 1).toNat, by unfold boxIn placeIn at hB; omega⟩
  obtain ⟨nz, hnz⟩ : ∃ n : Nat, z1 = z0 + n - 1 := ⟨(z1 - z0 + 1).toNat, by unfold boxIn placeIn at hB; omega⟩
  have hB' := hB
  unfold boxIn placeIn at hB'
  have ALL := Lib.hid (fun u => all_any x0 y0 z0 x1 y1 z1 nx ny nz u hnx hny hnz (by omega) (by omega) (by omega) (by omega) (by omega) (by omega))
  have HMEM : Hid (∀ p ∈ preX x0 y0 z0 ny nz nx, wiP p.1 p.2.1 p.2.2 p.1 p.2.1 p.2.2 x0 y0 z0 x1 y1 z1 = true ∧ (x0 ≤ p.1 ∧ p.1 ≤ x1 ∧ y0 ≤ p.2.1 ∧ p.2.1 ≤ y1 ∧ z0 ≤ p.2.2 ∧ p.2.2 ≤ z1)) := Lib.hid (by
    intro p hp
    have hm := mem_preX.1 hp
    exact ⟨wiP_point HVB.out (by omega) (by omega) (by omega), by omega⟩)
  have HLEN : Hid ((preX x0 y0 z0 ny nz nx).length ≤ 1000 ∧ 0 < (preX x0 y0 z0 ny nz nx).length) := Lib.hid (by
    rw [preX_length]
    have e1 : ny * nz ≤ 5 * 5 := Nat.mul_le_mul (by omega) (by omega)
    have e2 : nx * (ny * nz) ≤ 5 * (5 * 5) := Nat.mul_le_mul (by omega) e1
    exact ⟨by omega, Nat.mul_pos (by omega) (Nat.mul_pos (by omega) (by omega))⟩)
  clear hB' hnx hny hnz
  have P11 := A11.out.p8
  rw [hPV] at P11
  obtain ⟨e0_, e1_, e2_, e3_, e4_, e5_, e6_, e7_, e8_, e9_, e10_⟩ := cells11 P11
  obtain ⟨d0_, d1_, d2_, d3_, d4_, d5_, d6_, d7_, d8_, d9_, d10_, d11_⟩ := cells12 Z11.out
  clear P11
  have u1_ : (y.t != y.t) = false := by simp
  have u2_ : (y.m != y.m) = false := by simp
  go_wp2_with fail
  clear d0_ d1_ d2_ d3_ d4_ d5_ d6_ d7_ d8_ d9_ d10_ d11_ u1_ u2_
  (with_reducible refine (ALL.out w11).mono ?_)
  rintro e w15 ⟨lv, rfl, hown, -, hg⟩
  clear e0_ e1_ e2_ e3_ e4_ e5_ e6_ e7_ e8_ e9_ e10_
  generalize preX x0 y0 z0 ny nz nx = L3 at *
  obtain ⟨lva, lvc, rfl⟩ := owns_slice hown
  obtain ⟨gq, cap', hv, hgB, hgl⟩ := hown.form HLEN.out.2
  simp only [Value.slice.injEq, true_and] at hv
  obtain ⟨rfl, rfl⟩ := hv
  have HOWN := Lib.hid hown
  have A15 := Lib.hid (A11.out.keep hg); have Z15 := Lib.hid (block_kept hg Z11.out rfl)
  clear hg hown ALL A11 Z11 hgB hgl
  have hll := HLEN.out.1
  go_upto_block 0 with fail
  go_wp2_with fail
  go_loopg [97] L3.length (fun gk i wr => ∃ k : Nat, k + gk = L3.length ∧ i = .int .i64 k ∧ w15.grownBy wr none)
  case atStart => exact ⟨0, by omega, rfl, gb_refl _ _⟩
  case round =>
    obtain ⟨k3, hk3, rfl, hgr⟩ := hrel
    generalize wr = w16 at *
    have GR := Lib.hid hgr
    clear hgr
    by_cases hlt3 : k3 < L3.length
    rotate_left
    · have hkd3 : decide ((k3 : Int) < (L3.length : Int)) = false := decide_eq_false (by omega)
      have G16 := Lib.hid (gb_trans A15.out.G GR.out)
      go_wp2_with fail
      (with_reducible refine (awake28_any w16).mono ?_)
      rintro e w17 ⟨rfl, hg⟩
      have GE := Lib.hid (gb_end (gb_trans G16.out hg))
      clear hg
      go_wp2_with fail
      go_ret
      exact ⟨rfl, GE.out⟩
    have hkd3 : decide ((k3 : Int) < (L3.length : Int)) = true := decide_eq_true (by omega)
    have hgi : gk - 1 < gk ∧ k3 + 1 + (gk - 1) = L3.length := by omega
    have hown2 := owns_keep HOWN.out GR.out
    obtain ⟨f1, f2, f3⟩ := flat3_at L3 k3 hlt3
    have c0 := hown2.cells (g := gq) rfl _ _ f1; have c1 := hown2.cells (g := gq) rfl _ _ f2; have c2 := hown2.cells (g := gq) rfl _ _ f3
    rw [addr_is] at c0 c1 c2
    clear f1 f2 f3 hown2
    have hmq := HMEM.out L3[k3] (List.getElem_mem hlt3)
    generalize L3[k3] = p_ at *
    obtain ⟨qx, qy, qz⟩ := p_
    dsimp only at hmq c0 c1 c2
    obtain ⟨hS1, hS2, hS3⟩ := SP.out qx qy qz hmq.2
    have hMM := MMI.out _ _ _ _ _ _ hmq.1
    have AT1 := Lib.hid (fun u hi => ATC.out qx qy qz u hmq.1 hi)
    have hqv := (bP_iff (wiP_iff.1 hmq.1).1).1
    have hqc := World.block_lt_of_cell? w16 _ c0
    clear hmq
    generalize m qx qy qz qx qy qz = mq at *
    generalize tm qx qy qz = tq at *
    have hg17 : w16.grownBy (w16.alloc (.cells #[.int .i64 qx, .int .i64 qy, .int .i64 qz] 24)) none := gb_alloc (gb_refl _ _) _
    have A17 := Lib.hid (A15.out.keep (gb_trans GR.out hg17)); have Z17 := Lib.hid (block_kept (gb_trans GR.out hg17) Z15.out rfl); have G17 := Lib.hid (gb_trans GR.out hg17)
    have Q17 := Lib.hid (heap_alloc_new w16 (.cells #[.int .i64 qx, .int .i64 qy, .int .i64 qz] 24))
    clear hg17 GR
    have P17 := A17.out.p8
    rw [hPV] at P17
    obtain ⟨e0_, e1_, e2_, e3_, e4_, e5_, e6_, e7_, e8_, e9_, e10_⟩ := cells11 P17
    obtain ⟨q0_, q1_, q2_⟩ := cells3 Q17.out
    clear P17
    go_wp2_with fail
    clear e0_ e1_ e2_ e3_ e4_ e5_ e6_ e7_ e8_ e9_ e10_
    clear q0_ q1_ q2_ c0 c1 c2 hqc
    generalize w16.alloc (.cells #[.int .i64 qx, .int .i64 qy, .int .i64 qz] 24) = w17 at *
    generalize w16.heap.size = bq at *
    (with_reducible refine (AT1.out w17 A17.out.prob).mono ?_)
    rintro e w18 ⟨rfl, hg⟩
    have Z18 := Lib.hid (block_kept hg Z17.out rfl); have G18 := Lib.hid (gb_trans G17.out hg); have Q18 := Lib.hid (block_kept hg Q17.out rfl)
    clear hg A17 Z17 G17 Q17 AT1
    obtain ⟨d0_, d1_, d2_, d3_, d4_, d5_, d6_, d7_, d8_, d9_, d10_, d11_⟩ := cells12 Z18.out
    obtain ⟨q0_, q1_, q2_⟩ := cells3 Q18.out
    have hw_ : IntKind.i64.wrap (y.m - n) = y.m - n := IntWalk.i64_in _ (by omega)
    have t1_ : decide (mq < y.l) = false := decide_eq_false (by omega)
    have t2_ : decide (mq < y.m - n) = false := decide_eq_false (by omega)
    by_cases h3 : mq < y.m
    · have t3_ : decide (mq < y.m) = true := decide_eq_true h3
      have hC : conP y.a0 y.a1 y.a2 y.a3 y.a4 y.a5 qx qy qz = true := by
        have := hS3 h3
        unfold Bx.has at this; dsimp only at this
        exact conP_iff.2 ⟨HYV.out, hqv, by omega⟩
      have CO := Lib.hid (contains_any y.a0 y.a1 y.a2 y.a3 y.a4 y.a5 qx qy qz w18)
      rw [hC] at CO
      clear hC hS1 hS2 hS3 hMM h3
      generalize hwv : y.m - n = wv_ at *
      go_wp2_with fail
      (with_reducible refine CO.out.mono ?_)
      rintro e w19 ⟨rfl, hg⟩
      have G19 := Lib.hid (gb_trans G18.out hg)
      clear hg
      go_wp2_with fail
      go_roundg (gk - 1)
      case measure => exact hgi.1
      case rel => exact ⟨k3 + 1, hgi.2, by go_num, G19.out⟩
    · have t3_ : decide (mq < y.m) = false := decide_eq_false h3
      clear hS1 hS2 hS3 hMM h3
      generalize hwv : y.m - n = wv_ at *
      go_wp2_with fail
      go_roundg (gk - 1)
      case measure => exact hgi.1
      case rel => exact ⟨k3 + 1, hgi.2, by go_num, G18.out⟩
end Go.Proofs.Ytcealhikmbchoaa
