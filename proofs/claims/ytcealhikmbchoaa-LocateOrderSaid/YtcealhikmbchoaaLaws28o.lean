/- The walk of LocateOrder. Written by gen_law28o.py. -/
import Derived.Test.YtcealhikmbchoaaAwake28
import Derived.Test.YtcealhikmbchoaaQrA
import Derived.Test.YtcealhikmbchoaaSwpA
import Derived.BigRegion
namespace Go.Proofs.Ytcealhikmbchoaa
set_option linter.all false
open Go.RowKit Rg
attribute [local go_sem high] run_eql12

theorem swap_frozen {u : World} {B q n cp : Nat} {xs : List Value} (h : u.ownsRow B 59 6 (.slice (some ⟨q, 0, none⟩) n cp) n xs) (j : Nat) : u.frozen? ⟨q, j, none⟩ = false := World.ownsRow.frozenAt h j
set_option maxRecDepth 100000 in
set_option maxHeartbeats 20000000 in
theorem locateOrder_walk (w : World) (v : Value) (xs : List Int) (hs : Sl w v xs) (_hx : ∀ x ∈ xs, -9223372036854775808 ≤ x ∧ x ≤ 9223372036854775807) (v1 : Value) (l1 : List Int) (hs1 : Sl w v1 l1) (hx1 : ∀ x ∈ l1, -9223372036854775808 ≤ x ∧ x ≤ 9223372036854775807) :
    Calls Try.prog 5 #[v, v1] w fun e w' => e = .returned (.bool true) ∧ Below w.heap.size w w' := by
  have HL1 := Lib.hid hs1; have HX1 := Lib.hid hx1
  obtain ⟨sa, sc, rfl⟩ := hs1.shape
  have hl1 : l1.length ≤ 9223372036854775807 := by
    by_cases h0 : 0 < l1.length
    · obtain ⟨_, _, _, _, _, h1, h2, _⟩ := hs1.block h0; omega
    · omega
  clear hs1 hx1
  go_enter Try.func5, Try.ntmps5
  go_wp2_with fail
  (with_reducible refine (new_any w v xs hs).mono ?_)
  rintro e w2 ⟨rfl, hS, hg⟩
  have S2 := Lib.hid hS; have G2 := Lib.hid hg
  clear hS hg hs
  generalize hqw : w.heap.size = q at S2 ⊢
  have hq : w.heap.size ≤ q := by omega
  go_wp2_with fail
  (with_reducible refine (problem_any q w2 q 5 6 S2.out (by omega) (by omega) (by omega) (by omega)).mono ?_)
  rintro e w3 ⟨P, vl, vh, vp, rfl, hB, hT, hre, -, hcap, hlen, hph, hin, hap, hS, hg⟩
  have gd := good_mk hB (by omega) hT hre.1 hcap hlen.1 (by omega) hph
  have hq2 := S2.out.lt.2
  have HPI : Hid (PrIn q w3 ⟨P, vl, vh, vp⟩) := Lib.hid ⟨hin, fun b off len cap e _ => by have := hap _ (.inl rfl) b off len cap e; omega, fun b off len cap e _ => by have := hap _ (.inr (.inl rfl)) b off len cap e; omega, fun b off len cap e _ => by have := hap _ (.inr (.inr rfl)) b off len cap e; omega, by show P.phs.length ≤ 100; omega⟩
  have S3 := Lib.hid hS; have G3 := Lib.hid (gb_new G2.out hg (fun k hk => by simp at hk; omega))
  have HLN : Hid (0 < P.phs.length ∧ P.phs.length ≤ 100) := Lib.hid ⟨hlen.1, by omega⟩
  clear hS hg S2 G2 hT hre hcap hlen hph hap
  obtain ⟨pa, pc, rfl⟩ := hin.p.slice
  obtain ⟨la, ln, lc, rfl⟩ := sl_slice hin.l
  obtain ⟨ha, hn, hc, rfl⟩ := sl_slice hin.h
  have HPTS : P.reg.pts ≤ 1500 := by
    have hB' := hB
    unfold boxIn placeIn at hB'
    exact pts_side (by show P.x1 - P.x0 ≤ 8; omega) (by show P.y1 - P.y0 ≤ 8; omega) (by show P.z1 - P.z0 ≤ 8; omega) gd.sound.vb
  have LEAST : Hid (∀ n : Int, 0 ≤ n → n ≤ 1000 → ∃ y : Loc, locP P n = (y, 0)) := Lib.hid (fun n h0 h1 => by
    obtain ⟨y, hy, -⟩ := least_plain gd (tol := n) h0 (by omega) HPTS
    exact ⟨y, hy⟩)
  have PERM : Hid (∀ (l : List Ph) (n : Int), P.phs.Perm l → locP (P.phases l) n = locP P n) := Lib.hid (fun l n p => (locP_phases gd.sound p n).1.symm)
  have MONO : Hid (∀ (t u : Int), 0 ≤ t → t ≤ u → ∃ a b, boxP P t = (a, 0) ∧ boxP P u = (b, 0) ∧ b ≤ a) := Lib.hid (fun t u h0 k => boxP_mono gd.sound HPTS h0 k)
  have LOC := Lib.hid (fun (tol : Int) (u : World) (h : PrIn q u ⟨P, .slice la ln lc, .slice ha hn hc, .slice pa P.phs.length pc⟩) => locate_any P _ _ _ tol u h.1 (by have := h.2.2.2.2; dsimp only at this; omega))
  have LOQ := Lib.hid (fun (l : List Ph) (vq : Value) (tol : Int) (u : World) (h : ProbIn (P.phases l) (.slice la ln lc) (.slice ha hn hc) vq u) (hl : l.length ≤ 1000000000) => locate_any (P.phases l) _ _ _ tol u h hl)
  have BOX := Lib.hid (fun (tol : Int) (u : World) (h : PrIn q u ⟨P, .slice la ln lc, .slice ha hn hc, .slice pa P.phs.length pc⟩) => boxes_any P _ _ _ tol u h.1 (by have := h.2.2.2.2; dsimp only at this; omega))
  clear gd hin HPTS hB
  generalize hPP : P = P0 at *
  obtain ⟨x0, y0, z0, x1, y1, z1, step, ls, hs, phs, cap⟩ := P
  subst hPP
  dsimp only at HLN
  generalize hpn : phs.length = pn at *
  have hPV : Prob.val ⟨x0, y0, z0, x1, y1, z1, step, ls, hs, phs, cap⟩ (.slice la ln lc) (.slice ha hn hc) (.slice pa pn pc) = #[.int .i64 x0, .int .i64 y0, .int .i64 z0, .int .i64 x1, .int .i64 y1, .int .i64 z1, .int .i64 step, .slice la ln lc, .slice ha hn hc, .slice pa pn pc, .int .i64 cap] := rfl
  have hQV : ∀ (l : List Ph) (vq : Value), Prob.val (Prob.phases ⟨x0, y0, z0, x1, y1, z1, step, ls, hs, phs, cap⟩ l) (.slice la ln lc) (.slice ha hn hc) vq = #[.int .i64 x0, .int .i64 y0, .int .i64 z0, .int .i64 x1, .int .i64 y1, .int .i64 z1, .int .i64 step, .slice la ln lc, .slice ha hn hc, vq, .int .i64 cap] := fun _ _ => rfl
  rw [hPV] at LOC BOX
  simp only [hQV] at LOQ
  rw [hPV]
  have hg4 : w3.grownBy (w3.alloc (.cells #[.int .i64 x0, .int .i64 y0, .int .i64 z0, .int .i64 x1, .int .i64 y1, .int .i64 z1, .int .i64 step, .slice la ln lc, .slice ha hn hc, .slice pa pn pc, .int .i64 cap] 36)) none := gb_alloc (gb_refl _ _) _
  have S4 := Lib.hid (S3.out.later (row := none) hg4 (by simp))
  have A4 : Hid (QrAt w q ⟨x0, y0, z0, x1, y1, z1, step, ls, hs, phs, cap⟩ (.slice la ln lc) (.slice ha hn hc) (.slice pa pn pc) w3.heap.size (w3.alloc (.cells #[.int .i64 x0, .int .i64 y0, .int .i64 z0, .int .i64 x1, .int .i64 y1, .int .i64 z1, .int .i64 step, .slice la ln lc, .slice ha hn hc, .slice pa pn pc, .int .i64 cap] 36))) := Lib.hid ⟨heap_alloc_new w3 (.cells #[.int .i64 x0, .int .i64 y0, .int .i64 z0, .int .i64 x1, .int .i64 y1, .int .i64 z1, .int .i64 step, .slice la ln lc, .slice ha hn hc, .slice pa pn pc, .int .i64 cap] 36), HPI.out.draw (gb_none hg4), gb_trans G3.out hg4, hq, S3.out.lt.2⟩
  clear hg4 S3 G3 HPI
  go_upto_region 3 with fail
  generalize w3.alloc (.cells #[.int .i64 x0, .int .i64 y0, .int .i64 z0, .int .i64 x1, .int .i64 y1, .int .i64 z1, .int .i64 step, .slice la ln lc, .slice ha hn hc, .slice pa pn pc, .int .i64 cap] 36) = w4 at *
  generalize w3.heap.size = b8 at *
  have P4 := A4.out.p8
  rw [hPV] at P4
  obtain ⟨e0_, e1_, e2_, e3_, e4_, e5_, e6_, e7_, e8_, e9_, e10_⟩ := cells11 P4
  clear P4
  go_upto_region 4 with fail
  clear e0_ e1_ e2_ e3_ e4_ e5_ e6_ e7_ e8_ e9_ e10_
  have hg5 : w4.grownBy (w4.alloc (.cells #[.int .i64 x0, .int .i64 y0, .int .i64 z0, .int .i64 x1, .int .i64 y1, .int .i64 z1, .int .i64 step, .slice la ln lc, .slice ha hn hc, .slice pa pn pc, .int .i64 cap] 36)) none := gb_alloc (gb_refl _ _) _
  have Q5 := Lib.hid (heap_alloc_new w4 (.cells #[.int .i64 x0, .int .i64 y0, .int .i64 z0, .int .i64 x1, .int .i64 y1, .int .i64 z1, .int .i64 step, .slice la ln lc, .slice ha hn hc, .slice pa pn pc, .int .i64 cap] 36))
  have G5 := Lib.hid hg5
  have A5 := Lib.hid (A4.out.keep hg5)
  clear hg5
  generalize w4.alloc (.cells #[.int .i64 x0, .int .i64 y0, .int .i64 z0, .int .i64 x1, .int .i64 y1, .int .i64 z1, .int .i64 step, .slice la ln lc, .slice ha hn hc, .slice pa pn pc, .int .i64 cap] 36) = w5 at *
  have hQe : w4.heap.size = w4.heap.size := rfl
  generalize hQ : w4.heap.size = Q at *
  clear hQe
  have P5 := A5.out.p8
  rw [hPV] at P5
  obtain ⟨e0_, e1_, e2_, e3_, e4_, e5_, e6_, e7_, e8_, e9_, e10_⟩ := cells11 P5
  clear P5
  obtain ⟨pb, poff, pcap, hpv, -, -, -, hpc⟩ := A5.out.pi.1.p.block (by show 0 < phs.length; rw [hpn]; exact HLN.out.1)
  dsimp only at hpv hpc
  rw [hpn] at hpv
  simp only [Value.slice.injEq, true_and] at hpv
  obtain ⟨hpa, -⟩ := hpv
  have HPA := Lib.hid hpa
  clear hpa
  have hb8 := block_lt' A5.out.p8
  have hg6 : w5.grownBy (w5.alloc (.cells #[] 59)) none := gb_alloc (gb_refl _ _) _
  have PC := Lib.hid (fun j u (h : (flatP phs)[j]? = some u) => (gb_cell hg6 (World.block_lt_of_cell? w5 _ (hpc j u h)) (by simp)).trans (hpc j u h))
  have hfl : (flatP phs).length = pn * 6 := by rw [flatP_length, hpn]
  clear hpc
  go_wp2_with (at_builtin; go_loud (refine wpList_copyAt rfl _ _ 34 rfl 59 (.agg #[.int .i64 0, .int .i64 0, .int .i64 0, .int .i64 0, .int .i64 0, .int .i64 0]) 6 48 Try.underlying34 (by kernel_rfl) rfl (by decide) w5.heap.size rfl pb poff pn pc (flatP phs) (by rw [← HPA.out]; rfl) HLN.out.1 hfl PC.out (oneCells phs) (by have := HLN.out.2; omega) (by have := HLN.out.2; omega) ?_); refine Hid.out ?_)
  refine Lib.hid ?_
  intro g gc w7 hown hg7
  have hg57 := gb_trans hg6 hg7
  have R8 := Lib.hid (PrRe.mk9 Q5.out G5.out (Nat.le_of_eq hQ) hg57 (vq := .slice (some ⟨g, 0, none⟩) pn gc) (l := phs) (by rw [hpn]; exact hown) (by have := block_lt' Q5.out; simp; omega))
  clear e0_ e1_ e2_ e3_ e4_ e5_ e6_ e7_ e8_ e9_ e10_
  clear hg6 hown PC hfl
  have hQ7 := block_kept hg57 Q5.out rfl
  obtain ⟨e0_, e1_, e2_, e3_, e4_, e5_, e6_, e7_, e8_, e9_, e10_⟩ := cells11 hQ7
  have hQf : w7.frozen? ⟨Q, 9, none⟩ = false := by simp [World.frozen?, hQ7]
  clear hQ7 hg57 hg7
  go_upto_region 5 with fail
  clear e0_ e1_ e2_ e3_ e4_ e5_ e6_ e7_ e8_ e9_ e10_
  clear hQf
  generalize w7.setCell ⟨Q, 9, none⟩ (.slice (some ⟨g, 0, none⟩) pn gc) = w8 at *
  clear Q5 G5 A5
  have hQg := Lib.hid (fun (l : List Ph) (u : World) (h : PrRe w4 Q x0 y0 z0 x1 y1 z1 step (.slice la ln lc) (.slice ha hn hc) cap l (.slice (some ⟨g, 0, none⟩) pn gc) u) => (h.own.lt g rfl).1)
  have e9_ := cell_of R8.out.prob 9 _ rfl
  go_wp2_with fail
  clear e9_
  have R0 : Hid (∃ l : List Ph, phs.Perm l ∧ PrRe w4 Q x0 y0 z0 x1 y1 z1 step (.slice la ln lc) (.slice ha hn hc) cap l (.slice (some ⟨g, 0, none⟩) pn gc) w8) := Lib.hid ⟨phs, List.Perm.refl _, R8.out⟩
  clear R8
  go_loopg [32] pn (fun gk i wr => ∃ k : Nat, k + gk = pn ∧ i = .int .i64 k ∧ ∃ l : List Ph, phs.Perm l ∧ PrRe w4 Q x0 y0 z0 x1 y1 z1 step (.slice la ln lc) (.slice ha hn hc) cap l (.slice (some ⟨g, 0, none⟩) pn gc) wr)
  case atStart => exact ⟨0, by omega, rfl, R0.out⟩
  case round =>
    clear R0
    obtain ⟨k, hk, rfl, l, hperm, hre⟩ := hrel
    have PM := Lib.hid hperm; have RE := Lib.hid hre
    have hll : l.length = pn := by rw [← hpn]; exact hperm.length_eq.symm
    clear hperm hre
    generalize wr = w9 at *
    have hpn1 := HLN.out
    by_cases hlt : k < pn
    rotate_left
    · have hkd : decide ((k : Int) < (pn : Int)) = false := decide_eq_false (by omega)
      clear HX1 HL1
      have G9 := Lib.hid RE.out.gr
      have S9 := Lib.hid (S4.out.later (row := none) RE.out.gr (by simp)); have A9 := Lib.hid (A4.out.keep RE.out.gr)
      have RB9 := Lib.hid (RE.out.base A4.out.G)
      have hqQ : q < Q := by have := S4.out.lt.2; omega
      have hbQ : b8 < Q := by have := block_lt' A4.out.p8; omega
      clear RE S4 A4 hQg
      have LN := Lib.hid (n_any q w9 q 40 S9.out (by omega) (by omega))
      go_wp2_with fail
      (with_reducible refine LN.out.mono ?_)
      rintro e w10 ⟨n, rfl, hnb, hS, hg⟩
      have A10 := Lib.hid (A9.out.draw hg); have S10 := Lib.hid hS; have R10 := Lib.hid (RB9.out.draw hg hqQ hq)
      clear hg hS A9 S9 RB9 LN G9
      obtain ⟨y, hy⟩ := LEAST.out n (by omega) (by omega)
      have LOC' := Lib.hid (LOC.out n w10 A10.out.pi)
      have LOQ' := Lib.hid (fun u h => LOQ.out l (.slice (some ⟨g, 0, none⟩) pn gc) n u h (by omega))
      rw [PERM.out l n PM.out] at LOQ'
      rw [hy] at LOC' LOQ'
      dsimp only at LOC' LOQ'
      have hLX : y.val = #[.int .i64 y.px, .int .i64 y.py, .int .i64 y.pz, .int .i64 y.t, .int .i64 y.m, .int .i64 y.l, .int .i64 y.a0, .int .i64 y.a1, .int .i64 y.a2, .int .i64 y.a3, .int .i64 y.a4, .int .i64 y.a5] := rfl
      rw [hLX] at LOC' LOQ'
      clear LOC LOQ PERM LEAST hy
      obtain ⟨aa, b0, haa, -, -⟩ := MONO.out n n (by omega) (Int.le_refl _)
      have BX1 := Lib.hid (fun u h => BOX.out n u h)
      rw [haa] at BX1
      dsimp only at BX1
      have MON := Lib.hid (fun n2 (h : (0 : Int) ≤ n2) => by
        obtain ⟨a', b', h1, h2, h3⟩ := MONO.out n (n + n2) (by omega) (by omega)
        rw [haa] at h1
        simp only [Prod.mk.injEq, and_true] at h1
        exact (⟨b', h2, by omega⟩ : ∃ b, boxP ⟨x0, y0, z0, x1, y1, z1, step, ls, hs, phs, cap⟩ (n + n2) = (b, 0) ∧ b ≤ aa))
      clear MONO haa
      have P10 := A10.out.p8
      rw [hPV] at P10
      obtain ⟨e0_, e1_, e2_, e3_, e4_, e5_, e6_, e7_, e8_, e9_, e10_⟩ := cells11 P10
      clear P10
      go_wp2_with fail
      clear e0_ e1_ e2_ e3_ e4_ e5_ e6_ e7_ e8_ e9_ e10_
      (with_reducible refine LOC'.out.mono ?_)
      rintro e w11 ⟨rfl, hg⟩
      have A11 := Lib.hid (A10.out.keep hg); have S11 := Lib.hid (S10.out.later (row := none) hg (by simp)); have R11 := Lib.hid (R10.out.later hg)
      clear hg A10 LOC' S10 R10
      have hg12 : w11.grownBy (w11.alloc (.cells #[.int .i64 y.px, .int .i64 y.py, .int .i64 y.pz, .int .i64 y.t, .int .i64 y.m, .int .i64 y.l, .int .i64 y.a0, .int .i64 y.a1, .int .i64 y.a2, .int .i64 y.a3, .int .i64 y.a4, .int .i64 y.a5] 28)) none := gb_alloc (gb_refl _ _) _
      have A12 := Lib.hid (A11.out.keep hg12); have S12 := Lib.hid (S11.out.later (row := none) hg12 (by simp)); have R12 := Lib.hid (R11.out.later hg12); have Z12 := Lib.hid (heap_alloc_new w11 (.cells #[.int .i64 y.px, .int .i64 y.py, .int .i64 y.pz, .int .i64 y.t, .int .i64 y.m, .int .i64 y.l, .int .i64 y.a0, .int .i64 y.a1, .int .i64 y.a2, .int .i64 y.a3, .int .i64 y.a4, .int .i64 y.a5] 28))
      have hbz : q < w11.heap.size := S11.out.lt.2
      clear hg12 A11 S11 R11
      obtain ⟨e0_, e1_, e2_, e3_, e4_, e5_, e6_, e7_, e8_, e9_, e10_⟩ := cells11 R12.out.prob
      go_wp2_with fail
      clear e0_ e1_ e2_ e3_ e4_ e5_ e6_ e7_ e8_ e9_ e10_
      generalize w11.alloc (.cells #[.int .i64 y.px, .int .i64 y.py, .int .i64 y.pz, .int .i64 y.t, .int .i64 y.m, .int .i64 y.l, .int .i64 y.a0, .int .i64 y.a1, .int .i64 y.a2, .int .i64 y.a3, .int .i64 y.a4, .int .i64 y.a5] 28) = w12 at *
      generalize w11.heap.size = bz at *
      (with_reducible refine (LOQ'.out w12 (R12.out.inn (P := Prob.phases ⟨x0, y0, z0, x1, y1, z1, step, ls, hs, phs, cap⟩ l) A12.out.prob (gb_refl _ _) rfl rfl)).mono ?_)
      rintro e w13 ⟨rfl, hg⟩
      have A13 := Lib.hid (A12.out.keep hg); have S13 := Lib.hid (S12.out.later (row := none) hg (by simp)); have Z13 := Lib.hid (block_kept hg Z12.out rfl)
      clear hg A12 S12 R12 Z12 LOQ'
      have hg14 : w13.grownBy (w13.alloc (.cells #[.int .i64 y.px, .int .i64 y.py, .int .i64 y.pz, .int .i64 y.t, .int .i64 y.m, .int .i64 y.l, .int .i64 y.a0, .int .i64 y.a1, .int .i64 y.a2, .int .i64 y.a3, .int .i64 y.a4, .int .i64 y.a5] 28)) none := gb_alloc (gb_refl _ _) _
      have A14 := Lib.hid (A13.out.keep hg14); have S14 := Lib.hid (S13.out.later (row := none) hg14 (by simp)); have Z14 := Lib.hid (block_kept hg14 Z13.out rfl); have Y14 := Lib.hid (heap_alloc_new w13 (.cells #[.int .i64 y.px, .int .i64 y.py, .int .i64 y.pz, .int .i64 y.t, .int .i64 y.m, .int .i64 y.l, .int .i64 y.a0, .int .i64 y.a1, .int .i64 y.a2, .int .i64 y.a3, .int .i64 y.a4, .int .i64 y.a5] 28))
      have hby : q < w13.heap.size := S13.out.lt.2
      clear hg14 A13 S13 Z13
      have P14 := A14.out.p8
      rw [hPV] at P14
      obtain ⟨e0_, e1_, e2_, e3_, e4_, e5_, e6_, e7_, e8_, e9_, e10_⟩ := cells11 P14
      clear P14
      go_wp2_with fail
      clear e0_ e1_ e2_ e3_ e4_ e5_ e6_ e7_ e8_ e9_ e10_
      generalize w13.alloc (.cells #[.int .i64 y.px, .int .i64 y.py, .int .i64 y.pz, .int .i64 y.t, .int .i64 y.m, .int .i64 y.l, .int .i64 y.a0, .int .i64 y.a1, .int .i64 y.a2, .int .i64 y.a3, .int .i64 y.a4, .int .i64 y.a5] 28) = w14 at *
      generalize w13.heap.size = by_ at *
      (with_reducible refine (BX1.out w14 A14.out.pi).mono ?_)
      rintro e w15 ⟨rfl, hg⟩
      have A15 := Lib.hid (A14.out.keep hg); have S15 := Lib.hid (S14.out.later (row := none) hg (by simp)); have Z15 := Lib.hid (block_kept hg Z14.out rfl); have Y15 := Lib.hid (block_kept hg Y14.out rfl)
      clear hg A14 S14 Z14 Y14 BX1
      have P15 := A15.out.p8
      rw [hPV] at P15
      have hb8 := block_lt' P15
      have hb8q : ¬ b8 = q := by have := A15.out.lt; omega
      obtain ⟨e0_, e1_, e2_, e3_, e4_, e5_, e6_, e7_, e8_, e9_, e10_⟩ := cells11 P15
      clear P15
      have q0_ := Pulled.cell (B := q) (p := q) e0_ hb8 hb8q; have q1_ := Pulled.cell (B := q) (p := q) e1_ hb8 hb8q; have q2_ := Pulled.cell (B := q) (p := q) e2_ hb8 hb8q; have q3_ := Pulled.cell (B := q) (p := q) e3_ hb8 hb8q; have q4_ := Pulled.cell (B := q) (p := q) e4_ hb8 hb8q; have q5_ := Pulled.cell (B := q) (p := q) e5_ hb8 hb8q; have q6_ := Pulled.cell (B := q) (p := q) e6_ hb8 hb8q; have q7_ := Pulled.cell (B := q) (p := q) e7_ hb8 hb8q; have q8_ := Pulled.cell (B := q) (p := q) e8_ hb8 hb8q; have q9_ := Pulled.cell (B := q) (p := q) e9_ hb8 hb8q; have q10_ := Pulled.cell (B := q) (p := q) e10_ hb8 hb8q
      go_upto_region 16 with fail
      refine Rg.region (Pulled w15 q q) (Pull q) (fun k => if k = 3 then some (isInt fun x => 0 ≤ x ∧ x < 50) else if k = 5 then some (isSome' fun v => ∃ b, v = .tuple #[.int .i64 b, .int .i64 0] ∧ b ≤ aa) else none) (fun _ => false) 0 11 (by kernel_rfl) (by kernel_rfl) (by kernel_rfl) (by kernel_rfl) (by kernel_rfl) (by kernel_rfl) (by kernel_rfl) Pull.size (Pulled.start S15.out) (fun hne => ?_)
      (repeat (refine rLexL_quiet (by rfl) (by rfl) (by rfl) (by rfl) ?_; go_big_quiet_step (fail); refine wpQuiet_nil ?_))
      refine rg_draw (fun x => 0 ≤ x ∧ x < 50) 12 #[.pointer (some ⟨q, 0, none⟩), .int .i64 50] rfl rfl (fun _ => by go_simp) (fun u hu _ => n_any q u q _ hu.2 (by omega) (by omega)) (fun n2 hn2 => ?_)
      simp only [Act.put, List.setIfInBounds_toArray, List.set_cons_zero, List.set_cons_succ]
      have w3' : IntKind.i64.wrap (n + n2) = n + n2 := IntWalk.i64_in _ (by omega)
      obtain ⟨bb, hbb, hle⟩ := MON.out n2 hn2.1
      have BX2 := Lib.hid (fun u h => BOX.out (n + n2) u h)
      rw [hbb] at BX2
      dsimp only at BX2
      have BX3 : Hid (∀ u, Pulled w15 q q u → Calls Try.prog 26 #[.agg #[.int .i64 x0, .int .i64 y0, .int .i64 z0, .int .i64 x1, .int .i64 y1, .int .i64 z1, .int .i64 step, .slice la ln lc, .slice ha hn hc, .slice pa pn pc, .int .i64 cap], .int .i64 (n + n2)] u fun e w' => ∃ v, e = .returned v ∧ (∃ b, v = .tuple #[.int .i64 b, .int .i64 0] ∧ b ≤ aa) ∧ Src q w' q ∧ u.grownBy w' (some q)) := Lib.hid (fun u hu => by
        refine (BX2.out u (A15.out.pi.draw hu.1)).mono ?_
        rintro e w' ⟨rfl, hg⟩
        exact ⟨_, rfl, ⟨bb, rfl, hle⟩, hu.2.later (row := none) hg (by simp), gb_none hg⟩)
      clear hbb hle BX2
      (repeat (refine rLexL_quiet (by rfl) (by rfl) (by rfl) (by rfl) ?_; go_big_quiet_step (fail); refine wpQuiet_nil ?_))
      refine rg_drawF (fun v => ∃ b, v = .tuple #[.int .i64 b, .int .i64 0] ∧ b ≤ aa) 26 #[.agg #[.int .i64 x0, .int .i64 y0, .int .i64 z0, .int .i64 x1, .int .i64 y1, .int .i64 z1, .int .i64 step, .slice la ln lc, .slice ha hn hc, .slice pa pn pc, .int .i64 cap], .int .i64 (n + n2)] rfl rfl (fun _ => by go_simp) (fun u hu _ => BX3.out u hu) (fun v hv => ?_)
      clear BX3
      obtain ⟨b2, rfl, hb2⟩ := hv
      simp only [Act.put, List.setIfInBounds_toArray, List.set_cons_zero, List.set_cons_succ]
      (repeat (refine rLexL_quiet (by rfl) (by rfl) (by rfl) (by rfl) ?_; go_big_quiet_step (fail); refine wpQuiet_nil ?_))
      rintro wq ⟨hq', hqs⟩ hf -
      refine wpList_nil ?_
      have A16 := Lib.hid (A15.out.draw hq'); have Z16 := Lib.hid (block_keptp hq' Z15.out (by omega)); have Y16 := Lib.hid (block_keptp hq' Y15.out (by omega))
      clear e0_ e1_ e2_ e3_ e4_ e5_ e6_ e7_ e8_ e9_ e10_
      clear hf hq' hqs hne A15 S15 Z15 Y15 w3' MON BOX q0_ q1_ q2_ q3_ q4_ q5_ q6_ q7_ q8_ q9_ q10_
      generalize wq = w16 at *
      obtain ⟨d0_, d1_, d2_, d3_, d4_, d5_, d6_, d7_, d8_, d9_, d10_, d11_⟩ := cells12 Z16.out
      obtain ⟨f0_, f1_, f2_, f3_, f4_, f5_, f6_, f7_, f8_, f9_, f10_, f11_⟩ := cells12 Y16.out
      have u1_ : decide (b2 ≤ aa) = true := decide_eq_true hb2
      go_wp2_with fail
      (with_reducible refine (awake28_any w16).mono ?_)
      rintro e w17 ⟨rfl, hg⟩
      have GE := Lib.hid (gb_end (gb_trans A16.out.G hg))
      clear hg
      go_wp2_with fail
      go_ret
      exact ⟨rfl, GE.out⟩
    have hkd : decide ((k : Int) < (pn : Int)) = true := decide_eq_true (by omega)
    have hgi : gk - 1 < gk ∧ k + 1 + (gk - 1) = pn := by omega
    by_cases hkl : k < l1.length
    rotate_left
    · have hkd2 : decide ((k : Int) < (l1.length : Int)) = false := decide_eq_false (by omega)
      go_wp2_with fail
      go_roundg (gk - 1)
      case measure => exact hgi.1
      case rel => exact ⟨k + 1, hgi.2, by go_num, l, PM.out, RE.out⟩
    have hkd2 : decide ((k : Int) < (l1.length : Int)) = true := decide_eq_true (by omega)
    have e9_ := cell_of RE.out.prob 9 _ rfl
    have hQlt := RE.out.lt
    have hkx := HX1.out l1[k] (List.getElem_mem hkl)
    obtain ⟨ob, ooff, ocap, hov, hob, ho1, ho2, ho3⟩ := (HL1.out.later (row := none) (gb_trans A4.out.G RE.out.gr) (by simp)).block (by omega)
    simp only [Value.slice.injEq, true_and] at hov
    obtain ⟨hsa, rfl⟩ := hov
    have c0_ := ho3 k hkl
    rw [show at0 l1 k = l1[k] by simp [at0, hkl]] at c0_
    generalize l1[k] = ok at *
    have MOD := Lib.hid (fun u => mod_any ok pn u (by omega) (by omega))
    obtain ⟨m, hm, hmp⟩ : ∃ m : Nat, ok % (pn : Int) = m ∧ m < pn := ⟨(ok % (pn : Int)).toNat, by have := Int.emod_nonneg ok (show (pn : Int) ≠ 0 by omega); omega, by have := Int.emod_nonneg ok (show (pn : Int) ≠ 0 by omega); have := Int.emod_lt_of_pos ok (show (0 : Int) < pn by omega); omega⟩
    rw [hm] at MOD
    clear ho3 hm
    rw [hsa]
    have q0_ := Made.cell c0_ hob
    have q9_ := Made.cell e9_ hQlt
    go_wp2_with fail
    refine Rg.region (Made w9) Makes (fun k => if k = 7 then some (isV (.int .i64 m)) else none) (fun _ => false) 0 9 (by kernel_rfl) (by kernel_rfl) (by kernel_rfl) (by kernel_rfl) (by kernel_rfl) (by kernel_rfl) (by kernel_rfl) Makes.size (Made.start w9) (fun hne => ?_)
    (repeat (refine rLexL_quiet (by rfl) (by rfl) (by rfl) (by rfl) ?_; go_big_quiet_step (fail); refine wpQuiet_nil ?_))
    refine rLexL_val (.int .i64 pn) (by rfl) (by rfl) (by rfl) (by rfl) (fun _ => by go_simp) ?_
    simp only [Act.put, List.setIfInBounds_toArray, List.set_cons_zero, List.set_cons_succ]
    refine rg_fix (.int .i64 m) 25 #[.int .i64 ok, .int .i64 pn] rfl rfl rfl (fun _ => by go_simp) (fun u hu => same_grown (MOD.out u)) ?_
    simp only [Act.put, List.setIfInBounds_toArray, List.set_cons_zero, List.set_cons_succ]
    (repeat (refine rLexL_quiet (by rfl) (by rfl) (by rfl) (by rfl) ?_; go_big_quiet_step (fail); refine wpQuiet_nil ?_))
    rintro wq hq hf hD
    refine wpList_nil ?_
    have RE2 := Lib.hid (RE.out.later hq)
    clear hf hD hq hne q0_ q9_ c0_ e9_ MOD RE hQlt hob ho1 ho2 hkx
    generalize wq = w10 at *
    have e9_ := cell_of RE2.out.prob 9 _ rfl
    have hQlt := RE2.out.lt
    have hgQ := hQg.out l w10 RE2.out
    have hgl : g < w10.heap.size := (RE2.out.own.lt g rfl).2
    have hQg1 : ¬ Q = g := by omega
    have hQg2 : ¬ g = Q := by omega
    have ow := RE2.out.own
    rw [hll] at ow
    have hf := fun j => swap_frozen ow j
    clear ow
    have HS := Lib.hid (PrRe.swap RE2.out hll k m hlt hmp)
    obtain ⟨i0_, i1_, i2_, i3_, i4_, i5_⟩ := RE2.out.it k (by omega)
    obtain ⟨k0_, k1_, k2_, k3_, k4_, k5_⟩ := RE2.out.it m (by omega)
    have PM2 := Lib.hid (PM.out.trans (swapPh_perm l (i := k) (k := m) (by omega) (by omega)).symm)
    have hmd : decide ((m : Int) < (pn : Int)) = true := decide_eq_true (by omega)
    by_cases hkm : k = m
    · subst hkm
      clear k0_ k1_ k2_ k3_ k4_ k5_
      go_wp2_with fail
      go_region
      rw [← hsa]
      have H11 := Lib.hid (HS.out.later (gb_drew (gb_refl _ none)))
      clear HS hf i0_ i1_ i2_ i3_ i4_ i5_
      go_wp2_with fail
      go_roundg (gk - 1)
      case measure => exact hgi.1
      case rel => exact ⟨k + 1, hgi.2, by go_num, swapPh l k k, PM2.out, H11.out⟩
    · obtain ⟨n0_, n1_, n2_, n3_, n4_, n5_, n6_, n7_, n8_, n9_, n10_, n11_, n12_, n13_, n14_, n15_, n16_, n17_, n18_, n19_, n20_, n21_, n22_, n23_, n24_, n25_, n26_, n27_, n28_, n29_, n30_, n31_, n32_, n33_, n34_, n35_, n36_, n37_, n38_, n39_, n40_, n41_, n42_, n43_, n44_, n45_, n46_, n47_, n48_, n49_, n50_, n51_, n52_, n53_, n54_, n55_, n56_, n57_, n58_, n59_, n60_, n61_, n62_, n63_, n64_, n65_, n66_, n67_, n68_, n69_, n70_, n71_⟩ := apart72 hkm
      go_wp2_with fail
      go_region
      rw [← hsa]
      have H11 := Lib.hid (HS.out.later (gb_drew (gb_refl _ none)))
      clear HS hf i0_ i1_ i2_ i3_ i4_ i5_ k0_ k1_ k2_ k3_ k4_ k5_ n0_ n1_ n2_ n3_ n4_ n5_ n6_ n7_ n8_ n9_ n10_ n11_ n12_ n13_ n14_ n15_ n16_ n17_ n18_ n19_ n20_ n21_ n22_ n23_ n24_ n25_ n26_ n27_ n28_ n29_ n30_ n31_ n32_ n33_ n34_ n35_ n36_ n37_ n38_ n39_ n40_ n41_ n42_ n43_ n44_ n45_ n46_ n47_ n48_ n49_ n50_ n51_ n52_ n53_ n54_ n55_ n56_ n57_ n58_ n59_ n60_ n61_ n62_ n63_ n64_ n65_ n66_ n67_ n68_ n69_ n70_ n71_
      go_wp2_with fail
      go_roundg (gk - 1)
      case measure => exact hgi.1
      case rel => exact ⟨k + 1, hgi.2, by go_num, swapPh l k m, PM2.out, H11.out⟩
    
end Go.Proofs.Ytcealhikmbchoaa
