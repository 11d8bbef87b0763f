/- The walk of ProofMakes. Written by gen_law29m.py. -/
import Derived.Test.YtcealhikmbchoaaAwake29
import Derived.Test.YtcealhikmbchoaaQr
import Derived.Test.YtcealhikmbchoaaMkP
import Derived.Test.YtcealhikmbchoaaBent
namespace Go.Proofs.Ytcealhikmbchoaa
set_option linter.all false
open Go.RowKit Rg
/-- A row of its own lies in new memory. -/
theorem owns_new {u : World} {B : Nat} {E : TypeId} {k n : Nat} {v : Value} {ys : List Value} (h : u.ownsRow B E k v n ys) {b off len cap : Nat} (e : v = .slice (some ⟨b, off, none⟩) len cap) (h0 : 0 < len) : B ≤ b := by
  subst e
  rcases h.2 with ⟨h1, h2⟩ | ⟨g, cap', cur, e, hb, _⟩
  · simp at h1
  · simp at e; omega

set_option maxRecDepth 100000 in
set_option maxHeartbeats 20000000 in
theorem proofMakes_walk (w : World) (v : Value) (xs : List Int) (hs : Sl w v xs) (_hx : ∀ x ∈ xs, -9223372036854775808 ≤ x ∧ x ≤ 9223372036854775807) :
    Calls Try.prog 7 #[v] w fun e w' => e = .returned (.bool true) ∧ Below w.heap.size w w' := by
  go_enter Try.func7, Try.ntmps7
  go_wp2_with fail
  (with_reducible refine (new_any w v xs hs).mono ?_)
  rintro e w2 ⟨rfl, hS, hg⟩
  have S2 := Lib.hid hS; have G2 := Lib.hid hg
  clear hS hg hs
  generalize hqw : w.heap.size = q at S2 ⊢
  have hq : w.heap.size ≤ q := by omega
  go_wp2_with fail
  (with_reducible refine (problem_any q w2 q 8 6 S2.out (by omega) (by omega) (by omega) (by omega)).mono ?_)
  rintro e w3 ⟨P, vl, vh, vp, rfl, hB, hT, hre, -, hcap, hlen, hph, hin, hap, hS, hg⟩
  have gd := good_mk hB (by omega) hT hre.1 hcap hlen.1 (by omega) hph
  have hq2 := S2.out.lt.2
  have HPI : Hid (PrIn q w3 ⟨P, vl, vh, vp⟩) := Lib.hid ⟨hin, fun b off len cap e _ => by have := hap _ (.inl rfl) b off len cap e; omega, fun b off len cap e _ => by have := hap _ (.inr (.inl rfl)) b off len cap e; omega, fun b off len cap e _ => by have := hap _ (.inr (.inr rfl)) b off len cap e; omega, by show P.phs.length ≤ 100; omega⟩
  have S3 := Lib.hid hS; have G3 := Lib.hid (gb_new G2.out hg (fun k hk => by simp at hk; omega))
  clear hS hg S2 G2 hT hre hcap hlen hph hap
  obtain ⟨pa, pc, rfl⟩ := hin.p.slice
  obtain ⟨la, ln, lc, rfl⟩ := sl_slice hin.l
  obtain ⟨ha, hn, hc, rfl⟩ := sl_slice hin.h
  have HPTS : P.reg.pts ≤ 1500 := by
    have hB' := hB
    unfold boxIn placeIn at hB'
    exact pts_side (by show P.x1 - P.x0 ≤ 8; omega) (by show P.y1 - P.y0 ≤ 8; omega) (by show P.z1 - P.z0 ≤ 8; omega) gd.sound.vb
  have MKP := Lib.hid (fun (tol : Int) h0 h1 => by
    obtain ⟨y, s, h1, h2, h3, h4⟩ := makes_plain gd (tol := tol) h0 h1 HPTS
    exact (⟨y, s, h1, h2, h3, h4, fun more hm => chk_more (more := more) hm (make_check h3)⟩ : ∃ (y : Loc) (s : List Int), locP P tol = (y, 0) ∧ y.l ≤ y.m ∧ mkE P y tol = (0, s) ∧ s.length ≤ 3000 ∧ ∀ more, tol ≤ more → chkE P y more s = 0))
  have LOC := Lib.hid (fun (tol : Int) (u : World) (h : PrIn q u ⟨P, .slice la ln lc, .slice ha hn hc, .slice pa P.phs.length pc⟩) => locate_any P _ _ _ tol u h.1 (by have := h.2.2.2.2; dsimp only at this; omega))
  have MAK := Lib.hid (fun (x : Loc) (tol : Int) (u : World) (h : PrIn q u ⟨P, .slice la ln lc, .slice ha hn hc, .slice pa P.phs.length pc⟩) => make_any P _ _ _ x tol u h.1 (by have := h.2.2.2.2; dsimp only at this; omega))
  have CHK := Lib.hid (fun (x : Loc) (tol : Int) (lst : List Int) (vs : Value) (u : World) (h : PrIn q u ⟨P, .slice la ln lc, .slice ha hn hc, .slice pa P.phs.length pc⟩) (hs' : Sl u vs lst) (hl : lst.length ≤ 1000000) => check_any P _ _ _ x tol lst vs u h.1 hs' (by have := h.2.2.2.2; dsimp only at this; omega) hl)
  clear gd hin HPTS hB
  generalize hPP : P = P0 at *
  obtain ⟨x0, y0, z0, x1, y1, z1, step, ls, hs, phs, cap⟩ := P
  subst hPP
  generalize hpn : phs.length = pn at *
  have hPV : Prob.val ⟨x0, y0, z0, x1, y1, z1, step, ls, hs, phs, cap⟩ (.slice la ln lc) (.slice ha hn hc) (.slice pa pn pc) = #[.int .i64 x0, .int .i64 y0, .int .i64 z0, .int .i64 x1, .int .i64 y1, .int .i64 z1, .int .i64 step, .slice la ln lc, .slice ha hn hc, .slice pa pn pc, .int .i64 cap] := rfl
  rw [hPV] at LOC MAK CHK
  rw [hPV]
  have hg4 : w3.grownBy (w3.alloc (.cells #[.int .i64 x0, .int .i64 y0, .int .i64 z0, .int .i64 x1, .int .i64 y1, .int .i64 z1, .int .i64 step, .slice la ln lc, .slice ha hn hc, .slice pa pn pc, .int .i64 cap] 36)) none := gb_alloc (gb_refl _ _) _
  have S4 := Lib.hid (S3.out.later (row := none) hg4 (by simp))
  have A4 : Hid (QrAt w q ⟨x0, y0, z0, x1, y1, z1, step, ls, hs, phs, cap⟩ (.slice la ln lc) (.slice ha hn hc) (.slice pa pn pc) w3.heap.size (w3.alloc (.cells #[.int .i64 x0, .int .i64 y0, .int .i64 z0, .int .i64 x1, .int .i64 y1, .int .i64 z1, .int .i64 step, .slice la ln lc, .slice ha hn hc, .slice pa pn pc, .int .i64 cap] 36))) := Lib.hid ⟨heap_alloc_new w3 (.cells #[.int .i64 x0, .int .i64 y0, .int .i64 z0, .int .i64 x1, .int .i64 y1, .int .i64 z1, .int .i64 step, .slice la ln lc, .slice ha hn hc, .slice pa pn pc, .int .i64 cap] 36), HPI.out.draw (gb_none hg4), gb_trans G3.out hg4, hq, S3.out.lt.2⟩
  have hz4 : (w3.alloc (.cells #[.int .i64 x0, .int .i64 y0, .int .i64 z0, .int .i64 x1, .int .i64 y1, .int .i64 z1, .int .i64 step, .slice la ln lc, .slice ha hn hc, .slice pa pn pc, .int .i64 cap] 36)).heap.size = w3.heap.size + 1 := by simp
  clear hg4 S3 G3 HPI
  go_wp2_with fail
  generalize w3.alloc (.cells #[.int .i64 x0, .int .i64 y0, .int .i64 z0, .int .i64 x1, .int .i64 y1, .int .i64 z1, .int .i64 step, .slice la ln lc, .slice ha hn hc, .slice pa pn pc, .int .i64 cap] 36) = w4 at *
  generalize w3.heap.size = b8 at *
  have PK := pickL_any q w4 q [0, 10, 40, 200] 4 rfl #[.int .i64 0, .int .i64 10, .int .i64 40, .int .i64 200] rfl 3 S4.out (b8 + 1) hz4 (by decide) (by decide)
  (with_reducible refine PK.mono ?_)
  rintro e w5 ⟨n, rfl, hn, hS, hg⟩
  have hn0 : 0 ≤ n ∧ n ≤ 1000 := by
    simp only [List.mem_cons, List.not_mem_nil, or_false] at hn; omega
  have A5 := Lib.hid (A4.out.draw hg); have S5 := Lib.hid hS
  clear hS hg S4 A4 PK hn hz4
  obtain ⟨y, c, hy, hml, hmk, hcl, hall⟩ := MKP.out n (by omega) (by omega)
  have LOC' := Lib.hid (LOC.out n w5 A5.out.pi)
  have MAK' := Lib.hid (MAK.out y n)
  rw [hy] at LOC'
  rw [hmk] at MAK'
  dsimp only at LOC' MAK'
  have hLX : y.val = #[.int .i64 y.px, .int .i64 y.py, .int .i64 y.pz, .int .i64 y.t, .int .i64 y.m, .int .i64 y.l, .int .i64 y.a0, .int .i64 y.a1, .int .i64 y.a2, .int .i64 y.a3, .int .i64 y.a4, .int .i64 y.a5] := rfl
  rw [hLX] at LOC' MAK'
  clear LOC MKP hy hmk MAK
  have P5 := A5.out.p8
  rw [hPV] at P5
  obtain ⟨e0_, e1_, e2_, e3_, e4_, e5_, e6_, e7_, e8_, e9_, e10_⟩ := cells11 P5
  clear P5
  go_wp2_with fail
  clear e0_ e1_ e2_ e3_ e4_ e5_ e6_ e7_ e8_ e9_ e10_
  (with_reducible refine LOC'.out.mono ?_)
  rintro e w6 ⟨rfl, hg⟩
  have A6 := Lib.hid (A5.out.keep hg); have S6 := Lib.hid (S5.out.later (row := none) hg (by simp))
  clear hg A5 LOC' S5
  have hg7 : w6.grownBy (w6.alloc (.cells #[.int .i64 y.px, .int .i64 y.py, .int .i64 y.pz, .int .i64 y.t, .int .i64 y.m, .int .i64 y.l, .int .i64 y.a0, .int .i64 y.a1, .int .i64 y.a2, .int .i64 y.a3, .int .i64 y.a4, .int .i64 y.a5] 28)) none := gb_alloc (gb_refl _ _) _
  have A7 := Lib.hid (A6.out.keep hg7); have Z7 := Lib.hid (heap_alloc_new w6 (.cells #[.int .i64 y.px, .int .i64 y.py, .int .i64 y.pz, .int .i64 y.t, .int .i64 y.m, .int .i64 y.l, .int .i64 y.a0, .int .i64 y.a1, .int .i64 y.a2, .int .i64 y.a3, .int .i64 y.a4, .int .i64 y.a5] 28)); have S7 := Lib.hid (S6.out.later (row := none) hg7 (by simp))
  have hbz : q < w6.heap.size := S6.out.lt.2
  clear hg7 A6 S6
  have P7 := A7.out.p8
  rw [hPV] at P7
  obtain ⟨e0_, e1_, e2_, e3_, e4_, e5_, e6_, e7_, e8_, e9_, e10_⟩ := cells11 P7
  obtain ⟨d0_, d1_, d2_, d3_, d4_, d5_, d6_, d7_, d8_, d9_, d10_, d11_⟩ := cells12 Z7.out
  clear P7
  go_wp2_with fail
  clear e0_ e1_ e2_ e3_ e4_ e5_ e6_ e7_ e8_ e9_ e10_
  clear d0_ d1_ d2_ d3_ d4_ d5_ d6_ d7_ d8_ d9_ d10_ d11_
  generalize w6.alloc (.cells #[.int .i64 y.px, .int .i64 y.py, .int .i64 y.pz, .int .i64 y.t, .int .i64 y.m, .int .i64 y.l, .int .i64 y.a0, .int .i64 y.a1, .int .i64 y.a2, .int .i64 y.a3, .int .i64 y.a4, .int .i64 y.a5] 28) = w7 at *
  generalize w6.heap.size = bz at *
  (with_reducible refine (MAK'.out w7 A7.out.pi).mono ?_)
  rintro e w8 ⟨vc, rfl, ho, hg⟩
  have C8 := Lib.hid (Sl_of_owns ho rfl)
  have A8 := Lib.hid (A7.out.keep hg); have Z8 := Lib.hid (block_kept hg Z7.out rfl); have S8 := Lib.hid (S7.out.later (row := none) hg (by simp))
  have hcB := fun b off len cap (e : vc = .slice (some ⟨b, off, none⟩) len cap) (h0 : 0 < len) => owns_new ho e h0
  have CB := Lib.hid (show ∀ b off len cap, vc = .slice (some ⟨b, off, none⟩) len cap → 0 < len → q < b from fun b off len cap e h0 => by have := hcB b off len cap e h0; have := S7.out.lt.2; omega)
  clear ho hg A7 Z7 S7 MAK' hcB
  obtain ⟨ca, cc, rfl⟩ := C8.out.shape
  have LN := Lib.hid (n_any q w8 q 100 S8.out (by omega) (by omega))
  go_wp2_with fail
  (with_reducible refine LN.out.mono ?_)
  rintro e w9 ⟨k, rfl, hk, hS, hg⟩
  have A9 := Lib.hid (A8.out.draw hg); have Z9 := Lib.hid (block_keptp hg Z8.out (by omega)); have C9 := Lib.hid (C8.out.later hg (fun b off len cap e h => by have := CB.out b off len cap e h; simp; omega))
  clear hg hS A8 Z8 C8 S8 LN CB
  have CH1 := Lib.hid (CHK.out y n c _ w9 A9.out.pi C9.out (by omega))
  rw [hall n (by omega), hLX] at CH1
  have hkw : IntKind.i64.wrap (n + k) = n + k := IntWalk.i64_in _ (by omega)
  have CH2 := Lib.hid (fun vs u h1 h2 => CHK.out y (n + k) c vs u h1 h2 (by omega))
  rw [hall (n + k) (by omega), hLX] at CH2
  clear CHK hall
  have P9 := A9.out.p8
  rw [hPV] at P9
  obtain ⟨e0_, e1_, e2_, e3_, e4_, e5_, e6_, e7_, e8_, e9_, e10_⟩ := cells11 P9
  obtain ⟨d0_, d1_, d2_, d3_, d4_, d5_, d6_, d7_, d8_, d9_, d10_, d11_⟩ := cells12 Z9.out
  clear P9
  go_wp2_with fail
  clear e0_ e1_ e2_ e3_ e4_ e5_ e6_ e7_ e8_ e9_ e10_
  clear d0_ d1_ d2_ d3_ d4_ d5_ d6_ d7_ d8_ d9_ d10_ d11_
  (with_reducible refine CH1.out.mono ?_)
  rintro e w10 ⟨rfl, hg⟩
  have A10 := Lib.hid (A9.out.keep hg); have Z10 := Lib.hid (block_kept hg Z9.out rfl); have C10 := Lib.hid (C9.out.after hg)
  clear hg A9 Z9 C9 CH1
  have P10 := A10.out.p8
  rw [hPV] at P10
  obtain ⟨e0_, e1_, e2_, e3_, e4_, e5_, e6_, e7_, e8_, e9_, e10_⟩ := cells11 P10
  obtain ⟨d0_, d1_, d2_, d3_, d4_, d5_, d6_, d7_, d8_, d9_, d10_, d11_⟩ := cells12 Z10.out
  clear P10
  go_wp2_with fail
  clear e0_ e1_ e2_ e3_ e4_ e5_ e6_ e7_ e8_ e9_ e10_
  clear d0_ d1_ d2_ d3_ d4_ d5_ d6_ d7_ d8_ d9_ d10_ d11_
  (with_reducible refine (CH2.out _ w10 A10.out.pi C10.out).mono ?_)
  rintro e w11 ⟨rfl, hg⟩
  have G11 := Lib.hid (gb_trans A10.out.G hg)
  clear hg A10 Z10 C10 CH2
  go_wp2_with fail
  (with_reducible refine (awake29_any w11).mono ?_)
  rintro e w17 ⟨rfl, hg⟩
  have GE := Lib.hid (gb_end (gb_trans G11.out hg))
  clear hg
  go_wp2_with fail
  go_ret
  exact ⟨rfl, GE.out⟩
end Go.Proofs.Ytcealhikmbchoaa
