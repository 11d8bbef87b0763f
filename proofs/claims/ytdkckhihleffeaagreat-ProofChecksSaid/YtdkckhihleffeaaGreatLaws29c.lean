/- The walk of ProofChecks. Written by gen_law29c.py. -/
import Derived.Test.YtdkckhihleffeaaGreatPcP
import Derived.Test.YtdkckhihleffeaaGreatSrchL
import Derived.Test.YtdkckhihleffeaaGreatBent29
import Derived.Test.YtdkckhihleffeaaGreatAwake29
import Derived.Test.YtdkckhihleffeaaGreatLit27
import Derived.Test.YtdkckhihleffeaaGreatBent
namespace Go.Proofs.YtdkckhihleffeaaGreat
set_option linter.all false
open Go.RowKit Rg

theorem LocOut.draw {B p : Nat} {w : World} {e : Ending} {w' : World} (h : LocOut B p w e w') : ∃ v, e = .returned v ∧ (∃ y : Loc, v = .agg y.val) ∧ Src B w' p ∧ w.grownBy w' (some p) := by
  obtain ⟨y, rfl, h1, h2⟩ := h
  exact ⟨_, rfl, ⟨y, rfl⟩, h1, h2⟩
theorem rcheckE_any (P : Prob) (vl vh vp : Value) (x : Loc) (tol : Int) (lst : List Int) (vs : Value) (w : World) (hi : ProbIn P vl vh vp w) (hs' : Sl w vs lst) (hbig : P.phs.length ≤ 1000000000) :
    Calls Tryz.prog 17 #[.agg (P.val vl vh vp), .agg x.val, .int .i64 tol, vs] w fun e w' => e = .returned (.int .i64 (chkE P x tol lst)) ∧ w.grownBy w' none := by
  have h := rcheck_any P vl vh vp x tol lst vs w hi hs' hbig
  rw [chkR_eq] at h
  exact h
set_option maxRecDepth 100000 in
set_option maxHeartbeats 40000000 in
theorem proofChecks_walk (w : World) (r0 r1 r2 r3 r4 r5 r6 r7 r8 r9 r10 r11 : Int) (t : Int) (_ht1 : -9223372036854775808 ≤ t) (_ht2 : t ≤ 9223372036854775807) (v1 : Value) (l1 : List Int) (hs1 : Sl w v1 l1) (_hx1 : ∀ x ∈ l1, -9223372036854775808 ≤ x ∧ x ≤ 9223372036854775807) (v : Value) (xs : List Int) (hs : Sl w v xs) (_hx : ∀ x ∈ xs, -9223372036854775808 ≤ x ∧ x ≤ 9223372036854775807) :
    Calls Tryz.prog 3 #[.agg #[.int .i64 r0, .int .i64 r1, .int .i64 r2, .int .i64 r3, .int .i64 r4, .int .i64 r5, .int .i64 r6, .int .i64 r7, .int .i64 r8, .int .i64 r9, .int .i64 r10, .int .i64 r11], .int .i64 t, v1, v] w fun e w' => e = .returned (.bool true) ∧ Below w.heap.size w w' := by
  have hg0 := gb_alloc (gb_refl w none) (.cells #[.int .i64 r0, .int .i64 r1, .int .i64 r2, .int .i64 r3, .int .i64 r4, .int .i64 r5, .int .i64 r6, .int .i64 r7, .int .i64 r8, .int .i64 r9, .int .i64 r10, .int .i64 r11] 27)
  have K0 := Lib.hid (heap_alloc_new w (.cells #[.int .i64 r0, .int .i64 r1, .int .i64 r2, .int .i64 r3, .int .i64 r4, .int .i64 r5, .int .i64 r6, .int .i64 r7, .int .i64 r8, .int .i64 r9, .int .i64 r10, .int .i64 r11] 27))
  have GW := Lib.hid hg0; have HS1 := Lib.hid (hs.after hg0); have HL1 := Lib.hid (hs1.after hg0)
  obtain ⟨sa, sc, rfl⟩ := hs1.shape
  have hv : v.oneCell' = true := by obtain ⟨va, vn, vc, rfl⟩ := sl_slice hs; rfl
  clear hg0 hs hs1 _hx _hx1
  go_enter Tryz.func3, Tryz.ntmps3
  by_cases hl : 200 < l1.length
  · have hl' : decide ((l1.length : Int) > 200) = true := decide_eq_true (by omega)
    go_wp2_with fail
    generalize w.alloc (.cells #[.int .i64 r0, .int .i64 r1, .int .i64 r2, .int .i64 r3, .int .i64 r4, .int .i64 r5, .int .i64 r6, .int .i64 r7, .int .i64 r8, .int .i64 r9, .int .i64 r10, .int .i64 r11] 27) = w1 at *
    (with_reducible refine (awake29_any w1).mono ?_)
    rintro e w2 ⟨rfl, hg⟩
    have GE := Lib.hid (gb_end (gb_trans GW.out hg))
    clear hg
    go_wp2_with fail
    go_ret
    exact ⟨rfl, GE.out⟩
  have hl' : decide ((l1.length : Int) > 200) = false := decide_eq_false (by omega)
  have HL200 : Hid (l1.length ≤ 200) := Lib.hid (by omega)
  clear hl
  go_wp2_with fail
  generalize w.alloc (.cells #[.int .i64 r0, .int .i64 r1, .int .i64 r2, .int .i64 r3, .int .i64 r4, .int .i64 r5, .int .i64 r6, .int .i64 r7, .int .i64 r8, .int .i64 r9, .int .i64 r10, .int .i64 r11] 27) = w1 at *
  generalize w.heap.size = rawb0 at K0 ⊢
  (with_reducible refine (new_any w1 v xs HS1.out).mono ?_)
  rintro e w2 ⟨rfl, hS, hg⟩
  have hlt := block_lt' K0.out
  have S2 := Lib.hid hS
  have M2 := Lib.hid ((Mem.nil (w0 := w1) (p := w1.heap.size) hg).more (block_kept hg K0.out rfl) (by have := block_lt' K0.out; omega))
  have HL2 := Lib.hid (show SlA w1.heap.size w2 (.slice sa l1.length sc) l1 from ⟨HL1.out.after hg, HL1.out.apart_lt (Nat.le_refl _)⟩)
  clear hg hS HS1 HL1 K0 hlt hl'
  go_wp2_with fail
  generalize hq : w1.heap.size = q at *
  have hq2 : w1.heap.size ≤ q := by omega
  clear hq
  (with_reducible refine (problem_any q w2 q 4 5 S2.out (by omega) (by omega) (by omega) (by omega)).mono ?_)
  rintro e w3 ⟨G, gvl, gvh, gvp, rfl, hB, hT, hre, hln, hcap, hpl, hph, hin, hap, hS, hg⟩
  have gd := good_mk hB (by omega) hT hre.1 hcap hpl.1 (by omega) hph
  have HVB := Lib.hid gd.sound.vb
  have hq3 := S2.out.lt.2
  have M3 := Lib.hid (M2.out.draw hg hq2); have S3 := Lib.hid (hS); have HL3 := Lib.hid (HL2.out.draw hg)
  clear hg hS M2 S2 HL2
  have GI3 := Lib.hid (show PrIn q w3 ⟨G, gvl, gvh, gvp⟩ from ⟨hin, fun b off len cap e _ => by have := hap gvl (.inl rfl) b off len cap e; omega, fun b off len cap e _ => by have := hap gvh (.inr (.inl rfl)) b off len cap e; omega, fun b off len cap e _ => by have := hap gvp (.inr (.inr rfl)) b off len cap e; omega, by have := hpl.2; simp only []; omega⟩)
  obtain ⟨pa, pc, rfl⟩ := hin.p.slice
  obtain ⟨la, ln, lc, rfl⟩ := sl_slice hin.l; obtain ⟨ha, hn, hc, rfl⟩ := sl_slice hin.h
  have HLS := Lib.hid (⟨hT.2.2.2.1, hT.2.2.1, by omega⟩ : 2 ≤ G.ls.length ∧ G.ls.length = G.hs.length ∧ G.ls.length ≤ 300)
  have HLP := Lib.hid (⟨hpl.1, by omega⟩ : 0 < G.phs.length ∧ G.phs.length ≤ 64)
  clear hB hT hre hln hcap hpl hph hin hap hq3 gd
  have BPC_ := Lib.hid (fun (u : World) (hS : Src q u q) (h : PrIn q u ⟨G, .slice la ln lc, .slice ha hn hc, .slice pa G.phs.length pc⟩) => bentProblem_any q u q G _ _ _ hS h.1 h.2.1 h.2.2.1 HLS.out.1 HLS.out.2.1 HLS.out.2.2 HLP.out.1 HLP.out.2)
  have BEN := Lib.hid (fun (x : Loc) (u : World) (h : PrIn q u ⟨G, .slice la ln lc, .slice ha hn hc, .slice pa G.phs.length pc⟩) (hS : Src q u q) => bent29_any G _ _ _ x q q u h.1 ⟨h.2.1, h.2.2.1, h.2.2.2.1⟩ (by have := h.2.2.2.2; dsimp only at this; omega) HVB.out hS)
  have LOC := Lib.hid (fun (tol : Int) (u : World) (h : PrIn q u ⟨G, .slice la ln lc, .slice ha hn hc, .slice pa G.phs.length pc⟩) => rlocate_any G _ _ _ tol u h.1 (by have := h.2.2.2.2; dsimp only at this; omega))
  have RMK := Lib.hid (fun (x : Loc) (tol : Int) (u : World) (h : PrIn q u ⟨G, .slice la ln lc, .slice ha hn hc, .slice pa G.phs.length pc⟩) => rmake_any G _ _ _ x tol u h.1 (by have := h.2.2.2.2; dsimp only at this; omega))
  have RML := Lib.hid (fun (x : Loc) (tol : Int) => mkR_len (P := G) (x := x) (tol := tol))
  clear HLS HLP HVB
  generalize mkR G = mkr at *
  generalize srch G = sr at *
  obtain ⟨x0, y0, z0, x1, y1, z1, step, ls, hs, phs, cap⟩ := G
  simp only [Prob.val] at BPC_ BEN LOC RMK GI3 ⊢
  have hz_ : (w3.alloc (.cells #[.int .i64 x0, .int .i64 y0, .int .i64 z0, .int .i64 x1, .int .i64 y1, .int .i64 z1, .int .i64 step, .slice la ln lc, .slice ha hn hc, .slice pa phs.length pc, .int .i64 cap] 36)).heap.size = w3.heap.size + 1 := by simp
  have hp_ := S3.out.lt.2
  have ha_ : w3.grownBy (w3.alloc (.cells #[.int .i64 x0, .int .i64 y0, .int .i64 z0, .int .i64 x1, .int .i64 y1, .int .i64 z1, .int .i64 step, .slice la ln lc, .slice ha hn hc, .slice pa phs.length pc, .int .i64 cap] 36)) none := gb_alloc (gb_refl _ _) _
  have hb_ := heap_alloc_new w3 (.cells #[.int .i64 x0, .int .i64 y0, .int .i64 z0, .int .i64 x1, .int .i64 y1, .int .i64 z1, .int .i64 step, .slice la ln lc, .slice ha hn hc, .slice pa phs.length pc, .int .i64 cap] 36)
  have M4 := Lib.hid (M3.out.later ha_); have S4 := Lib.hid (S3.out.later (row := none) ha_ (by simp)); have HL4 := Lib.hid (HL3.out.draw (gb_none ha_)); have GI4 := Lib.hid (GI3.out.draw (gb_none ha_))
  have M4 := Lib.hid (M4.out.more hb_ (by omega))
  clear hp_ ha_ hb_ M3 S3 HL3 GI3
  go_wp2_with fail
  generalize w3.alloc (.cells #[.int .i64 x0, .int .i64 y0, .int .i64 z0, .int .i64 x1, .int .i64 y1, .int .i64 z1, .int .i64 step, .slice la ln lc, .slice ha hn hc, .slice pa phs.length pc, .int .i64 cap] 36) = w4 at *
  generalize w3.heap.size = goodb at *
  have PK := pickL_any q w4 q [0, 0, 10, 50] 4 rfl #[.int .i64 0, .int .i64 0, .int .i64 10, .int .i64 50] rfl 3 S4.out (goodb + 1) hz_ (by decide) (by decide)
  (with_reducible refine PK.mono ?_)
  rintro e w5 ⟨tn, rfl, -, hS, hg⟩
  clear PK hz_
  have M5 := Lib.hid (M4.out.draw hg hq2); have S5 := Lib.hid (hS); have HL5 := Lib.hid (HL4.out.draw hg); have GI5 := Lib.hid (GI4.out.draw hg)
  clear hg hS M4 S4 HL4 GI4
  have LO_ := Lib.hid (LOC.out tn)
  clear LOC
  generalize sr tn = so at *
  obtain ⟨⟨lx0, lx1, lx2, lx3, lx4, lx5, lx6, lx7, lx8, lx9, lx10, lx11⟩, tk, er⟩ := so
  simp only [Loc.val] at LO_
  have RM_ := Lib.hid (RMK.out ⟨lx0, lx1, lx2, lx3, lx4, lx5, lx6, lx7, lx8, lx9, lx10, lx11⟩ tn)
  have HCL := Lib.hid (RML.out ⟨lx0, lx1, lx2, lx3, lx4, lx5, lx6, lx7, lx8, lx9, lx10, lx11⟩ tn)
  clear RMK RML
  generalize mkr ⟨lx0, lx1, lx2, lx3, lx4, lx5, lx6, lx7, lx8, lx9, lx10, lx11⟩ tn = mk0 at *
  obtain ⟨me, cl⟩ := mk0
  simp only [Loc.val] at RM_
  dsimp only at HCL RM_
  clear sr mkr
  obtain ⟨good0_, good1_, good2_, good3_, good4_, good5_, good6_, good7_, good8_, good9_, good10_⟩ := cells11 (M5.out.at 0 rfl)
  go_wp2_with fail
  (with_reducible refine (LO_.out w5 GI5.out).mono ?_)
  rintro r w6 ⟨rfl, hg⟩
  clear good0_ good1_ good2_ good3_ good4_ good5_ good6_ good7_ good8_ good9_ good10_ LO_
  have M6 := Lib.hid (M5.out.later hg); have S6 := Lib.hid (S5.out.later (row := none) hg (by simp)); have HL6 := Lib.hid (HL5.out.draw (gb_none hg)); have GI6 := Lib.hid (GI5.out.draw (gb_none hg))
  clear hg M5 S5 HL5 GI5
  have hp_ := S6.out.lt.2
  have ha_ : w6.grownBy (w6.alloc (.cells #[.int .i64 lx0, .int .i64 lx1, .int .i64 lx2, .int .i64 lx3, .int .i64 lx4, .int .i64 lx5, .int .i64 lx6, .int .i64 lx7, .int .i64 lx8, .int .i64 lx9, .int .i64 lx10, .int .i64 lx11] 27)) none := gb_alloc (gb_refl _ _) _
  have hb_ := heap_alloc_new w6 (.cells #[.int .i64 lx0, .int .i64 lx1, .int .i64 lx2, .int .i64 lx3, .int .i64 lx4, .int .i64 lx5, .int .i64 lx6, .int .i64 lx7, .int .i64 lx8, .int .i64 lx9, .int .i64 lx10, .int .i64 lx11] 27)
  have M7 := Lib.hid (M6.out.later ha_); have S7 := Lib.hid (S6.out.later (row := none) ha_ (by simp)); have HL7 := Lib.hid (HL6.out.draw (gb_none ha_)); have GI7 := Lib.hid (GI6.out.draw (gb_none ha_))
  have M7 := Lib.hid (M7.out.more hb_ (by omega))
  clear hp_ ha_ hb_ M6 S6 HL6 GI6
  obtain ⟨good0_, good1_, good2_, good3_, good4_, good5_, good6_, good7_, good8_, good9_, good10_⟩ := cells11 (M7.out.at 1 rfl)
  obtain ⟨lx0_, lx1_, lx2_, lx3_, lx4_, lx5_, lx6_, lx7_, lx8_, lx9_, lx10_, lx11_⟩ := cells12 (M7.out.at 0 rfl)
  go_wp2_with fail
  generalize w6.alloc (.cells #[.int .i64 lx0, .int .i64 lx1, .int .i64 lx2, .int .i64 lx3, .int .i64 lx4, .int .i64 lx5, .int .i64 lx6, .int .i64 lx7, .int .i64 lx8, .int .i64 lx9, .int .i64 lx10, .int .i64 lx11] 27) = w7 at *
  generalize w6.heap.size = lxb at *
  have hql_ := S7.out.lt.2
  (with_reducible refine (RM_.out w7 GI7.out).mono ?_)
  rintro r w8 ⟨vc, rfl, ho, hg⟩
  have HC8 := Lib.hid (show SlA q w8 vc cl from SlA.own ho rfl hql_)
  clear good0_ good1_ good2_ good3_ good4_ good5_ good6_ good7_ good8_ good9_ good10_ lx0_ lx1_ lx2_ lx3_ lx4_ lx5_ lx6_ lx7_ lx8_ lx9_ lx10_ lx11_ RM_ ho hql_
  have M8 := Lib.hid (M7.out.later hg); have S8 := Lib.hid (S7.out.later (row := none) hg (by simp)); have HL8 := Lib.hid (HL7.out.draw (gb_none hg)); have GI8 := Lib.hid (GI7.out.draw (gb_none hg))
  clear hg M7 S7 HL7 GI7
  obtain ⟨ca, cc, rfl⟩ := HC8.out.1.shape
  have hcl6 := HCL.out
  go_wp2_with (at_builtin; refine wpList_copyAny rfl _ _ 28 rfl 3 Tryz.underlying28 Tryz.infoIntT w8.heap.size rfl (heap_alloc_new w8 _) _ _ _ rfl (HC8.out.1.after (gb_alloc (gb_refl w8 none) _)) (by omega) ?_; refine Hid.out ?_)
  refine Lib.hid ?_
  intro g gc wo hown hg
  have HGO := Lib.hid (gb_trans (gb_alloc (gb_refl w8 none) (.cells #[] 3)) hg)
  have hqB_ : q < w8.heap.size := S8.out.lt.2
  have SO := Lib.hid (S8.out.later (row := none) HGO.out (by simp))
  have HOW := Lib.hid hown
  clear hown hg
  go_upto_if 59 with fail
  go_cut [] from 59 to 68 (fun wc => ∃ ol : List Int, SlA q wc (.slice (some ⟨g, 0, none⟩) cl.length gc) ol ∧ ol.length = cl.length ∧ Src q wc q ∧ w8.grownBy wc (some q))
  case first =>
    by_cases h0 : cl.length = 0
    · have hd2_ : ¬ (0 < cl.length) := by omega
      have hst := SlA.own HOW.out rfl hqB_
      have HST := Lib.hid hst
      clear hst h0
      go_wp2_with fail
      go_meet
      case rel => exact ⟨cl, HST.out, rfl, SO.out, gb_none HGO.out⟩
    have hd2_ : 0 < cl.length := by omega
    have HN0 := Lib.hid (n_any q wo q cl.length SO.out (by omega) (by omega))
    have HC0 : Hid (0 < cl.length) := Lib.hid (by omega)
    clear h0
    go_wp2_with fail
    clear hd2_
    (with_reducible refine HN0.out.mono ?_)
    rintro r wa ⟨ix, rfl, hix, hS, hg⟩
    obtain ⟨j, rfl⟩ : ∃ j : Nat, ix = j := ⟨ix.toNat, by omega⟩
    have SA := Lib.hid hS; have OA := Lib.hid (owns_keepp HOW.out hg hqB_); have GA := Lib.hid (gb_trans (gb_none HGO.out) hg)
    have HJ : Hid (j < cl.length) := Lib.hid (by omega)
    clear hS hg HN0 hix
    go_wp2_with fail
    (with_reducible refine (n_any q wa q 4 SA.out (by omega) (by omega)).mono ?_)
    rintro r wb ⟨k4, rfl, ⟨hk0, hk4⟩, hS, hg⟩
    have SB := Lib.hid hS; have OB := Lib.hid (owns_keepp OA.out hg hqB_); have GB := Lib.hid (gb_trans GA.out hg)
    have hw_ : IntKind.i64.wrap (k4 - 1) = k4 - 1 := IntWalk.i64_in _ (by omega)
    clear hS hg SA OA GA
    have hj := HJ.out
    have hF := OB.out.frozenAt j
    obtain ⟨OS, hgs⟩ := OB.out.stored j (.int .i64 (k4 - 1))
    have hcx : wb.cell? ⟨g, j, none⟩ = some (.int .i64 (cl[j]?.getD 0)) := owns_ints' OB.out j hj
    have hgB := (OB.out.lt g rfl).1
    have GS := Lib.hid (gb_setCell GB.out (a := ⟨g, j, none⟩) (.inl hgB) (.int .i64 (k4 - 1)))
    go_wp2_with fail
    go_meet
    case rel => exact ⟨cl.set j (k4 - 1), SlA.own (by rw [List.map_set]; exact OS) (by rw [List.length_set]) hqB_, by rw [List.length_set], SB.out.later hgs (fun b hb => by simp at hb; omega), GS.out⟩
  case rest =>
  obtain ⟨ol, hod, holl, hS, hg⟩ := hcut
  generalize wc = w9 at *
  have HOD9 := Lib.hid (show SlA q w9 (.slice (some ⟨g, 0, none⟩) cl.length gc) ol ∧ ol.length = cl.length from ⟨hod, holl⟩)
  clear hod holl HOW SO HGO hqB_ hcl6
  have M9 := Lib.hid (M8.out.draw hg hq2); have S9 := Lib.hid (hS); have HL9 := Lib.hid (HL8.out.draw hg); have GI9 := Lib.hid (GI8.out.draw hg); have HC9 := Lib.hid (HC8.out.draw hg)
  clear hg hS M8 S8 HL8 GI8 HC8
  obtain ⟨good0_, good1_, good2_, good3_, good4_, good5_, good6_, good7_, good8_, good9_, good10_⟩ := cells11 (M9.out.at 1 rfl)
  go_wp2_with fail
  (with_reducible refine ((BPC_.out w9 S9.out GI9.out).mono fun e w' h => h.draw).mono ?_)
  rintro r w10 ⟨_, rfl, ⟨⟨⟨v0, v1, v2, v3, v4, v5, bst, bls, bhs, bph, bcap⟩, bvl, bvh, bvp⟩, rfl, fin⟩, hS, hg⟩
  obtain ⟨⟨da, dc, rfl⟩, ⟨ea, en, ec, rfl⟩, ⟨fa, fn, fc, rfl⟩, -⟩ := fin.sl
  have BI10 := Lib.hid fin
  clear fin BPC_ good0_ good1_ good2_ good3_ good4_ good5_ good6_ good7_ good8_ good9_ good10_
  simp only [Pv.cells]
  have M10 := Lib.hid (M9.out.draw hg hq2); have S10 := Lib.hid (hS); have HL10 := Lib.hid (HL9.out.draw hg); have GI10 := Lib.hid (GI9.out.draw hg); have HC10 := Lib.hid (HC9.out.draw hg); have HOD10 := Lib.hid (And.intro (HOD9.out.1.draw hg) HOD9.out.2)
  clear hg hS M9 S9 HL9 GI9 HC9 HOD9
  generalize hbn : bph.length = dn at *
  have hp_ := S10.out.lt.2
  have ha_ : w10.grownBy (w10.alloc (.cells #[.int .i64 v0, .int .i64 v1, .int .i64 v2, .int .i64 v3, .int .i64 v4, .int .i64 v5, .int .i64 bst, .slice ea en ec, .slice fa fn fc, .slice da dn dc, .int .i64 bcap] 36)) none := gb_alloc (gb_refl _ _) _
  have hb_ := heap_alloc_new w10 (.cells #[.int .i64 v0, .int .i64 v1, .int .i64 v2, .int .i64 v3, .int .i64 v4, .int .i64 v5, .int .i64 bst, .slice ea en ec, .slice fa fn fc, .slice da dn dc, .int .i64 bcap] 36)
  have M11 := Lib.hid (M10.out.later ha_); have S11 := Lib.hid (S10.out.later (row := none) ha_ (by simp)); have HL11 := Lib.hid (HL10.out.draw (gb_none ha_)); have GI11 := Lib.hid (GI10.out.draw (gb_none ha_)); have HC11 := Lib.hid (HC10.out.draw (gb_none ha_)); have HOD11 := Lib.hid (And.intro (HOD10.out.1.draw (gb_none ha_)) HOD10.out.2); have BI11 := Lib.hid (BI10.out.draw (gb_none ha_))
  have M11 := Lib.hid (M11.out.more hb_ (by omega))
  clear hp_ ha_ hb_ M10 S10 HL10 GI10 HC10 HOD10 BI10
  obtain ⟨bad0_, bad1_, bad2_, bad3_, bad4_, bad5_, bad6_, bad7_, bad8_, bad9_, bad10_⟩ := cells11 (M11.out.at 0 rfl)
  obtain ⟨good0_, good1_, good2_, good3_, good4_, good5_, good6_, good7_, good8_, good9_, good10_⟩ := cells11 (M11.out.at 2 rfl)
  go_upto_region 12 with fail
  generalize w10.alloc (.cells #[.int .i64 v0, .int .i64 v1, .int .i64 v2, .int .i64 v3, .int .i64 v4, .int .i64 v5, .int .i64 bst, .slice ea en ec, .slice fa fn fc, .slice da dn dc, .int .i64 bcap] 36) = w11 at *
  generalize w10.heap.size = badb at *
  have hp_ := S11.out.lt.2
  have ha_ : w11.grownBy (w11.alloc (.cells #[.int .i64 x0, .int .i64 y0, .int .i64 z0, .int .i64 x1, .int .i64 y1, .int .i64 z1, .int .i64 step, .slice la ln lc, .slice ha hn hc, .slice pa phs.length pc, .int .i64 cap, .int .i64 v0, .int .i64 v1, .int .i64 v2, .int .i64 v3, .int .i64 v4, .int .i64 v5, .int .i64 bst, .slice ea en ec, .slice fa fn fc, .slice da dn dc, .int .i64 bcap] 36)) none := gb_alloc (gb_refl _ _) _
  have hb_ := heap_alloc_new w11 (.cells #[.int .i64 x0, .int .i64 y0, .int .i64 z0, .int .i64 x1, .int .i64 y1, .int .i64 z1, .int .i64 step, .slice la ln lc, .slice ha hn hc, .slice pa phs.length pc, .int .i64 cap, .int .i64 v0, .int .i64 v1, .int .i64 v2, .int .i64 v3, .int .i64 v4, .int .i64 v5, .int .i64 bst, .slice ea en ec, .slice fa fn fc, .slice da dn dc, .int .i64 bcap] 36)
  have M12 := Lib.hid (M11.out.later ha_); have S12 := Lib.hid (S11.out.later (row := none) ha_ (by simp)); have HL12 := Lib.hid (HL11.out.draw (gb_none ha_)); have GI12 := Lib.hid (GI11.out.draw (gb_none ha_)); have HC12 := Lib.hid (HC11.out.draw (gb_none ha_)); have HOD12 := Lib.hid (And.intro (HOD11.out.1.draw (gb_none ha_)) HOD11.out.2); have BI12 := Lib.hid (BI11.out.draw (gb_none ha_))
  have M12 := Lib.hid (M12.out.more hb_ (by omega))
  clear hp_ ha_ hb_ M11 S11 HL11 GI11 HC11 HOD11 BI11
  go_wp2_with fail
  generalize w11.alloc (.cells #[.int .i64 x0, .int .i64 y0, .int .i64 z0, .int .i64 x1, .int .i64 y1, .int .i64 z1, .int .i64 step, .slice la ln lc, .slice ha hn hc, .slice pa phs.length pc, .int .i64 cap, .int .i64 v0, .int .i64 v1, .int .i64 v2, .int .i64 v3, .int .i64 v4, .int .i64 v5, .int .i64 bst, .slice ea en ec, .slice fa fn fc, .slice da dn dc, .int .i64 bcap] 36) = w12 at *
  generalize w11.heap.size = plb at *
  clear bad0_ bad1_ bad2_ bad3_ bad4_ bad5_ bad6_ bad7_ bad8_ bad9_ bad10_ good0_ good1_ good2_ good3_ good4_ good5_ good6_ good7_ good8_ good9_ good10_
  have HBpl : Hid (w12.heap[plb]? = some (.cells (flatPr [⟨⟨x0, y0, z0, x1, y1, z1, step, ls, hs, phs, cap⟩, .slice la ln lc, .slice ha hn hc, .slice pa phs.length pc⟩, ⟨⟨v0, v1, v2, v3, v4, v5, bst, bls, bhs, bph, bcap⟩, .slice ea en ec, .slice fa fn fc, .slice da dn dc⟩]).toArray 36 (0, 0))) := Lib.hid (M12.out.at 0 rfl)
  have hnpl0 := M12.out.blk _ (List.mem_cons_self ..)
  have hnpl : plb ≠ q := hnpl0.2
  clear hnpl0
  have HLpl : Hid (∀ t ∈ ([⟨⟨x0, y0, z0, x1, y1, z1, step, ls, hs, phs, cap⟩, .slice la ln lc, .slice ha hn hc, .slice pa phs.length pc⟩, ⟨⟨v0, v1, v2, v3, v4, v5, bst, bls, bhs, bph, bcap⟩, .slice ea en ec, .slice fa fn fc, .slice da dn dc⟩] : List Pv), PrIn q w12 t) := Lib.hid (by
    intro t ht
    simp only [List.mem_cons, List.not_mem_nil, or_false] at ht
    rcases ht with rfl | rfl
    · exact GI12.out
    · exact BI12.out)
  obtain ⟨Lpl, hL, hLpl⟩ : ∃ Lpl : List Pv, Lpl = [⟨⟨x0, y0, z0, x1, y1, z1, step, ls, hs, phs, cap⟩, .slice la ln lc, .slice ha hn hc, .slice pa phs.length pc⟩, ⟨⟨v0, v1, v2, v3, v4, v5, bst, bls, bhs, bph, bcap⟩, .slice ea en ec, .slice fa fn fc, .slice da dn dc⟩] ∧ Lpl.length = 2 := ⟨_, rfl, rfl⟩
  rw [← hL] at HBpl HLpl
  clear hL
  go_loopw [76] (fun i wr => ∃ k : Nat, k ≤ 2 ∧ i = .int .i64 k ∧ Src q wr q ∧ w12.grownBy wr (some q)) (fun i _ => 2 - (intOf i).toNat)
  case atStart => exact ⟨0, by omega, rfl, S12.out, gb_refl _ _⟩
  case round =>
    obtain ⟨kpl, hkpl, rfl, hS, hgr⟩ := hrel
    by_cases hltpl : kpl < 2
    · have hkLpl : kpl < Lpl.length := by omega
      have hkdpl : decide ((kpl : Int) < 2) = true := decide_eq_true (by omega)
      obtain ⟨r0_, r1_, r2_, r3_, r4_, r5_, r6_, r7_, r8_, r9_, r10_⟩ := rowPr (block_keptp hgr HBpl.out hnpl) kpl hkLpl
      generalize wr = w100 at *
      have Gpl_12 := Lib.hid (gb_refl w12 (some q))
      have M100 := Lib.hid (M12.out.draw hgr hq2); have S100 := Lib.hid (hS); have HL100 := Lib.hid (HL12.out.draw hgr); have GI100 := Lib.hid (GI12.out.draw hgr); have HC100 := Lib.hid (HC12.out.draw hgr); have HOD100 := Lib.hid (And.intro (HOD12.out.1.draw hgr) HOD12.out.2); have BI100 := Lib.hid (BI12.out.draw hgr); have Gpl_100 := Lib.hid (gb_trans Gpl_12.out hgr)
      clear hgr hS
      have hin := (HLpl.out _ (List.getElem_mem hkLpl)).draw Gpl_100.out
      generalize Lpl[kpl] = tp at *
      obtain ⟨P, pvl, pvh, pvp⟩ := tp
      simp only [] at r0_ r1_ r2_ r3_ r4_ r5_ r6_ r7_ r8_ r9_ r10_ hin
      obtain ⟨⟨qa, qc, rfl⟩, ⟨ma, mn, mc, rfl⟩, ⟨na, nn, nc, rfl⟩, hp100⟩ := hin.sl
      have PI100 := Lib.hid hin; clear hin
      have hpb : P.phs.length ≤ 1000000000 := by omega
      have MA := Lib.hid (fun (x : Loc) (tol : Int) (u : World) (h : PrIn q u ⟨P, .slice ma mn mc, .slice na nn nc, .slice qa P.phs.length qc⟩) => make_any P _ _ _ x tol u h.1 hpb)
      have RM := Lib.hid (fun (x : Loc) (tol : Int) (u : World) (h : PrIn q u ⟨P, .slice ma mn mc, .slice na nn nc, .slice qa P.phs.length qc⟩) => rmake_any P _ _ _ x tol u h.1 hpb)
      have CA := Lib.hid (fun (x : Loc) (tol : Int) (lst : List Int) (vs : Value) (u : World) (h : PrIn q u ⟨P, .slice ma mn mc, .slice na nn nc, .slice qa P.phs.length qc⟩) (hs : Sl u vs lst) (hl : lst.length ≤ 1000000) => check_any P _ _ _ x tol lst vs u h.1 hs h.2.2.2.2 hl)
      have CB := Lib.hid (fun (x : Loc) (tol : Int) (lst : List Int) (vs : Value) (u : World) (h : PrIn q u ⟨P, .slice ma mn mc, .slice na nn nc, .slice qa P.phs.length qc⟩) (hs : Sl u vs lst) => rcheckE_any P _ _ _ x tol lst vs u h.1 hs hpb)
      have MKQ := Lib.hid (fun (h : P.reg.pts ≤ 500) (x : Loc) (tol : Int) => mkR_eq P x tol h)
      have MKL := Lib.hid (fun (x : Loc) (tol : Int) => mkE_len (P := P) (x := x) (tol := tol))
      clear hpb hp100
      generalize mkE P = mke at *
      generalize mkR P = mkr at *
      generalize chkE P = che at *
      obtain ⟨m0, m1, m2, m3, m4, m5, mst, mls, mhs, mph, mcap⟩ := P
      simp only [Prob.val] at MA RM CA CB r0_ r1_ r2_ r3_ r4_ r5_ r6_ r10_
      simp only [Prob.reg, Bx.pts] at MKQ
      generalize mph.length = ml at *
      have RPT := Lib.hid (fun u => rpoints_any m0 m1 m2 m3 m4 m5 u)
      have hp_ := S100.out.lt.2
      have ha_ : w100.grownBy (w100.alloc (.cells #[.int .i64 m0, .int .i64 m1, .int .i64 m2, .int .i64 m3, .int .i64 m4, .int .i64 m5, .int .i64 mst, .slice ma mn mc, .slice na nn nc, .slice qa ml qc, .int .i64 mcap] 36)) none := gb_alloc (gb_refl _ _) _
      have hb_ := heap_alloc_new w100 (.cells #[.int .i64 m0, .int .i64 m1, .int .i64 m2, .int .i64 m3, .int .i64 m4, .int .i64 m5, .int .i64 mst, .slice ma mn mc, .slice na nn nc, .slice qa ml qc, .int .i64 mcap] 36)
      have M101 := Lib.hid (M100.out.later ha_); have S101 := Lib.hid (S100.out.later (row := none) ha_ (by simp)); have HL101 := Lib.hid (HL100.out.draw (gb_none ha_)); have GI101 := Lib.hid (GI100.out.draw (gb_none ha_)); have HC101 := Lib.hid (HC100.out.draw (gb_none ha_)); have HOD101 := Lib.hid (And.intro (HOD100.out.1.draw (gb_none ha_)) HOD100.out.2); have BI101 := Lib.hid (BI100.out.draw (gb_none ha_)); have Gpl_101 := Lib.hid (gb_trans Gpl_100.out (gb_none ha_)); have PI101 := Lib.hid (PI100.out.draw (gb_none ha_))
      have M101 := Lib.hid (M101.out.more hb_ (by omega))
      clear hp_ ha_ hb_ M100 S100 HL100 GI100 HC100 HOD100 BI100 Gpl_100 PI100
      obtain ⟨pr0_, pr1_, pr2_, pr3_, pr4_, pr5_, pr6_, pr7_, pr8_, pr9_, pr10_⟩ := cells11 (M101.out.at 0 rfl)
      go_wp2_with fail
      generalize w100.alloc (.cells #[.int .i64 m0, .int .i64 m1, .int .i64 m2, .int .i64 m3, .int .i64 m4, .int .i64 m5, .int .i64 mst, .slice ma mn mc, .slice na nn nc, .slice qa ml qc, .int .i64 mcap] 36) = w101 at *
      generalize w100.heap.size = prb at *
      clear r0_ r1_ r2_ r3_ r4_ r5_ r6_ r7_ r8_ r9_ r10_
      (with_reducible refine (RPT.out w101).mono ?_)
      rintro r w102 ⟨rfl, hg⟩
      clear pr0_ pr1_ pr2_ pr3_ pr4_ pr5_ pr6_ pr7_ pr8_ pr9_ pr10_ RPT
      have M102 := Lib.hid (M101.out.later hg); have S102 := Lib.hid (S101.out.later (row := none) hg (by simp)); have HL102 := Lib.hid (HL101.out.draw (gb_none hg)); have GI102 := Lib.hid (GI101.out.draw (gb_none hg)); have HC102 := Lib.hid (HC101.out.draw (gb_none hg)); have HOD102 := Lib.hid (And.intro (HOD101.out.1.draw (gb_none hg)) HOD101.out.2); have BI102 := Lib.hid (BI101.out.draw (gb_none hg)); have Gpl_102 := Lib.hid (gb_trans Gpl_101.out (gb_none hg)); have PI102 := Lib.hid (PI101.out.draw (gb_none hg))
      clear hg M101 S101 HL101 GI101 HC101 HOD101 BI101 Gpl_101 PI101
      generalize ptsP m0 m1 m2 m3 m4 m5 = mpt at *
      by_cases hmp : mpt > 500
      · have hmd : decide (mpt > 500) = true := decide_eq_true hmp
        have HGN := Gpl_102; have HSN := S102
        go_wp2_with fail
        go_roundw
        case rel => exact ⟨kpl + 1, by omega, by go_num, HSN.out, HGN.out⟩
        case measure => simp [intOf]; omega
      have hmd : decide (mpt > 500) = false := decide_eq_false hmp
      have MKQ := Lib.hid (MKQ.out (by omega))
      clear hmp
      obtain ⟨raw0_, raw1_, raw2_, raw3_, raw4_, raw5_, raw6_, raw7_, raw8_, raw9_, raw10_, raw11_⟩ := cells12 (M102.out.at 5 rfl)
      obtain ⟨good0_, good1_, good2_, good3_, good4_, good5_, good6_, good7_, good8_, good9_, good10_⟩ := cells11 (M102.out.at 4 rfl)
      obtain ⟨lx0_, lx1_, lx2_, lx3_, lx4_, lx5_, lx6_, lx7_, lx8_, lx9_, lx10_, lx11_⟩ := cells12 (M102.out.at 3 rfl)
      have uraw_ := M102.out.pulled (B := q) 5 rfl
      have ugood_ := M102.out.pulled (B := q) 4 rfl
      have ulx_ := M102.out.pulled (B := q) 3 rfl
      go_wp2_with fail
      clear hmd
      have hLX : ∀ x : Loc, x.val = #[.int .i64 x.px, .int .i64 x.py, .int .i64 x.pz, .int .i64 x.t, .int .i64 x.m, .int .i64 x.l, .int .i64 x.a0, .int .i64 x.a1, .int .i64 x.a2, .int .i64 x.a3, .int .i64 x.a4, .int .i64 x.a5] := fun _ => rfl
      have hp_ := S102.out.lt.2
      refine Rg.region (Pulled w102 q q) (Pull q) (fun k => if k = 5 then some (isSome' (fun v => ∃ y : Loc, v = .agg y.val)) else if k = 11 then some (isSome' (fun v => ∃ y : Loc, v = .agg y.val)) else if k = 12 then some (isSome' (fun v => ∃ y : Loc, v = .agg y.val)) else if k = 13 then some (isBlk w102 4 27) else none) (fun _ => false) 0 16 (by kernel_rfl) (by kernel_rfl) (by kernel_rfl) (by kernel_rfl) (by kernel_rfl) (by kernel_rfl) (by kernel_rfl) Pull.size (Pulled.start S102.out) (fun hne => ?_)
      (repeat (refine rLexL_quiet (by rfl) (by rfl) (by rfl) (by rfl) ?_; go_big_quiet_step (fail); refine wpQuiet_nil ?_))
      refine rg_drawF (fun v => ∃ y : Loc, v = .agg y.val) 13 #[.pointer (some ⟨q, 0, none⟩), .agg #[.int .i64 x0, .int .i64 y0, .int .i64 z0, .int .i64 x1, .int .i64 y1, .int .i64 z1, .int .i64 step, .slice la ln lc, .slice ha hn hc, .slice pa phs.length pc, .int .i64 cap], .agg #[.int .i64 lx0, .int .i64 lx1, .int .i64 lx2, .int .i64 lx3, .int .i64 lx4, .int .i64 lx5, .int .i64 lx6, .int .i64 lx7, .int .i64 lx8, .int .i64 lx9, .int .i64 lx10, .int .i64 lx11]] rfl rfl (fun _ => by go_simp) (fun u hu _ => (BEN.out ⟨lx0, lx1, lx2, lx3, lx4, lx5, lx6, lx7, lx8, lx9, lx10, lx11⟩ u (GI102.out.draw hu.1) hu.2).mono fun e w' h => h.draw) (fun vb hvb => ?_)
      obtain ⟨ka, rfl⟩ := hvb
      rw [hLX ka]
      simp only [Act.put, List.setIfInBounds_toArray, List.set_cons_zero, List.set_cons_succ]
      (repeat (refine rLexL_quiet (by rfl) (by rfl) (by rfl) (by rfl) ?_; go_big_quiet_step (fail); refine wpQuiet_nil ?_))
      refine rg_drawF (fun v => ∃ y : Loc, v = .agg y.val) 13 #[.pointer (some ⟨q, 0, none⟩), .agg #[.int .i64 x0, .int .i64 y0, .int .i64 z0, .int .i64 x1, .int .i64 y1, .int .i64 z1, .int .i64 step, .slice la ln lc, .slice ha hn hc, .slice pa phs.length pc, .int .i64 cap], .agg #[.int .i64 lx0, .int .i64 lx1, .int .i64 lx2, .int .i64 lx3, .int .i64 lx4, .int .i64 lx5, .int .i64 lx6, .int .i64 lx7, .int .i64 lx8, .int .i64 lx9, .int .i64 lx10, .int .i64 lx11]] rfl rfl (fun _ => by go_simp) (fun u hu _ => (BEN.out ⟨lx0, lx1, lx2, lx3, lx4, lx5, lx6, lx7, lx8, lx9, lx10, lx11⟩ u (GI102.out.draw hu.1) hu.2).mono fun e w' h => h.draw) (fun vb hvb => ?_)
      obtain ⟨kb, rfl⟩ := hvb
      rw [hLX kb]
      simp only [Act.put, List.setIfInBounds_toArray, List.set_cons_zero, List.set_cons_succ]
      (repeat (refine rLexL_quiet (by rfl) (by rfl) (by rfl) (by rfl) ?_; go_big_quiet_step (fail); refine wpQuiet_nil ?_))
      refine rg_drawF (fun v => ∃ y : Loc, v = .agg y.val) 13 #[.pointer (some ⟨q, 0, none⟩), .agg #[.int .i64 x0, .int .i64 y0, .int .i64 z0, .int .i64 x1, .int .i64 y1, .int .i64 z1, .int .i64 step, .slice la ln lc, .slice ha hn hc, .slice pa phs.length pc, .int .i64 cap], .agg #[.int .i64 kb.px, .int .i64 kb.py, .int .i64 kb.pz, .int .i64 kb.t, .int .i64 kb.m, .int .i64 kb.l, .int .i64 kb.a0, .int .i64 kb.a1, .int .i64 kb.a2, .int .i64 kb.a3, .int .i64 kb.a4, .int .i64 kb.a5]] rfl rfl (fun _ => by go_simp) (fun u hu _ => (BEN.out kb u (GI102.out.draw hu.1) hu.2).mono fun e w' h => h.draw) (fun vb hvb => ?_)
      obtain ⟨kc, rfl⟩ := hvb
      rw [hLX kc]
      simp only [Act.put, List.setIfInBounds_toArray, List.set_cons_zero, List.set_cons_succ]
      (repeat (refine rLexL_quiet (by rfl) (by rfl) (by rfl) (by rfl) ?_; go_big_quiet_step (fail); refine wpQuiet_nil ?_))
      refine rg_litB 4 #[.int .i64 lx0, .int .i64 lx1, .int .i64 lx2, .int .i64 lx3, .int .i64 lx4, .int .i64 lx5, .int .i64 lx6, .int .i64 lx7, .int .i64 lx8, .int .i64 lx9, .int .i64 lx10, .int .i64 lx11, .int .i64 r0, .int .i64 r1, .int .i64 r2, .int .i64 r3, .int .i64 r4, .int .i64 r5, .int .i64 r6, .int .i64 r7, .int .i64 r8, .int .i64 r9, .int .i64 r10, .int .i64 r11, .int .i64 ka.px, .int .i64 ka.py, .int .i64 ka.pz, .int .i64 ka.t, .int .i64 ka.m, .int .i64 ka.l, .int .i64 ka.a0, .int .i64 ka.a1, .int .i64 ka.a2, .int .i64 ka.a3, .int .i64 ka.a4, .int .i64 ka.a5, .int .i64 kc.px, .int .i64 kc.py, .int .i64 kc.pz, .int .i64 kc.t, .int .i64 kc.m, .int .i64 kc.l, .int .i64 kc.a0, .int .i64 kc.a1, .int .i64 kc.a2, .int .i64 kc.a3, .int .i64 kc.a4, .int .i64 kc.a5] 27 rfl rfl rfl (fun _ => by go_simp) hp_ (fun nl nlh => ?_)
      simp only [Act.put, List.setIfInBounds_toArray, List.set_cons_zero, List.set_cons_succ]
      (repeat (refine rLexL_quiet (by rfl) (by rfl) (by rfl) (by rfl) ?_; go_big_quiet_step (fail); refine wpQuiet_nil ?_))
      refine rLexL_val (.int .i64 4) (by rfl) (by rfl) (by rfl) (by rfl) (fun _ => by go_simp) ?_
      simp only [Act.put, List.setIfInBounds_toArray, List.set_cons_zero, List.set_cons_succ]
      (repeat (refine rLexL_quiet (by rfl) (by rfl) (by rfl) (by rfl) ?_; go_big_quiet_step (fail); refine wpQuiet_nil ?_))
      rintro wq ⟨hgq, hqs⟩ hf -
      have HBnl : Hid (wq.heap[nl]? = some (.cells (flatLo [⟨lx0, lx1, lx2, lx3, lx4, lx5, lx6, lx7, lx8, lx9, lx10, lx11⟩, ⟨r0, r1, r2, r3, r4, r5, r6, r7, r8, r9, r10, r11⟩, ka, kc]).toArray 27 (0, 0))) := Lib.hid (hf 13)
      have hnnl : nl ≠ q := by omega
      generalize wq = w103 at *
      have M103 := Lib.hid (M102.out.draw hgq hq2); have S103 := Lib.hid (hqs); have HL103 := Lib.hid (HL102.out.draw hgq); have GI103 := Lib.hid (GI102.out.draw hgq); have HC103 := Lib.hid (HC102.out.draw hgq); have HOD103 := Lib.hid (And.intro (HOD102.out.1.draw hgq) HOD102.out.2); have BI103 := Lib.hid (BI102.out.draw hgq); have Gpl_103 := Lib.hid (gb_trans Gpl_102.out hgq); have PI103 := Lib.hid (PI102.out.draw hgq)
      clear hf hgq hqs hne hp_ nlh M102 S102 HL102 GI102 HC102 HOD102 BI102 Gpl_102 PI102 raw0_ raw1_ raw2_ raw3_ raw4_ raw5_ raw6_ raw7_ raw8_ raw9_ raw10_ raw11_ good0_ good1_ good2_ good3_ good4_ good5_ good6_ good7_ good8_ good9_ good10_ lx0_ lx1_ lx2_ lx3_ lx4_ lx5_ lx6_ lx7_ lx8_ lx9_ lx10_ lx11_ uraw_ ugood_ ulx_
      refine wpList_nil ?_
      obtain ⟨Lnl, hL, hLnl⟩ : ∃ Lnl : List Loc, Lnl = [⟨lx0, lx1, lx2, lx3, lx4, lx5, lx6, lx7, lx8, lx9, lx10, lx11⟩, ⟨r0, r1, r2, r3, r4, r5, r6, r7, r8, r9, r10, r11⟩, ka, kc] ∧ Lnl.length = 4 := ⟨_, rfl, rfl⟩
      rw [← hL] at HBnl
      clear hL
      go_wp2_with fail
      go_loopw [99] (fun i wr => ∃ k : Nat, k ≤ 4 ∧ i = .int .i64 k ∧ Src q wr q ∧ w103.grownBy wr (some q)) (fun i _ => 4 - (intOf i).toNat)
      case atStart => exact ⟨0, by omega, rfl, S103.out, gb_refl _ _⟩
      case round =>
        obtain ⟨knl, hknl, rfl, hS, hgr⟩ := hrel
        by_cases hltnl : knl < 4
        · have hkLnl : knl < Lnl.length := by omega
          have hkdnl : decide ((knl : Int) < 4) = true := decide_eq_true (by omega)
          obtain ⟨r0_, r1_, r2_, r3_, r4_, r5_, r6_, r7_, r8_, r9_, r10_, r11_⟩ := rowLo (block_keptp hgr HBnl.out hnnl) knl hkLnl
          generalize wr = w200 at *
          have Gnl_103 := Lib.hid (gb_refl w103 (some q))
          have M200 := Lib.hid (M103.out.draw hgr hq2); have S200 := Lib.hid (hS); have HL200 := Lib.hid (HL103.out.draw hgr); have GI200 := Lib.hid (GI103.out.draw hgr); have HC200 := Lib.hid (HC103.out.draw hgr); have HOD200 := Lib.hid (And.intro (HOD103.out.1.draw hgr) HOD103.out.2); have BI200 := Lib.hid (BI103.out.draw hgr); have Gpl_200 := Lib.hid (gb_trans Gpl_103.out hgr); have PI200 := Lib.hid (PI103.out.draw hgr); have Gnl_200 := Lib.hid (gb_trans Gnl_103.out hgr)
          clear hgr hS
          generalize Lnl[knl] = y at *
          have hp_ := S200.out.lt.2
          have ha_ : w200.grownBy (w200.alloc (.cells #[.int .i64 y.px, .int .i64 y.py, .int .i64 y.pz, .int .i64 y.t, .int .i64 y.m, .int .i64 y.l, .int .i64 y.a0, .int .i64 y.a1, .int .i64 y.a2, .int .i64 y.a3, .int .i64 y.a4, .int .i64 y.a5] 27)) none := gb_alloc (gb_refl _ _) _
          have hb_ := heap_alloc_new w200 (.cells #[.int .i64 y.px, .int .i64 y.py, .int .i64 y.pz, .int .i64 y.t, .int .i64 y.m, .int .i64 y.l, .int .i64 y.a0, .int .i64 y.a1, .int .i64 y.a2, .int .i64 y.a3, .int .i64 y.a4, .int .i64 y.a5] 27)
          have M201 := Lib.hid (M200.out.later ha_); have S201 := Lib.hid (S200.out.later (row := none) ha_ (by simp)); have HL201 := Lib.hid (HL200.out.draw (gb_none ha_)); have GI201 := Lib.hid (GI200.out.draw (gb_none ha_)); have HC201 := Lib.hid (HC200.out.draw (gb_none ha_)); have HOD201 := Lib.hid (And.intro (HOD200.out.1.draw (gb_none ha_)) HOD200.out.2); have BI201 := Lib.hid (BI200.out.draw (gb_none ha_)); have Gpl_201 := Lib.hid (gb_trans Gpl_200.out (gb_none ha_)); have PI201 := Lib.hid (PI200.out.draw (gb_none ha_)); have Gnl_201 := Lib.hid (gb_trans Gnl_200.out (gb_none ha_))
          have M201 := Lib.hid (M201.out.more hb_ (by omega))
          clear hp_ ha_ hb_ M200 S200 HL200 GI200 HC200 HOD200 BI200 Gpl_200 PI200 Gnl_200
          go_wp2_with fail
          generalize w200.alloc (.cells #[.int .i64 y.px, .int .i64 y.py, .int .i64 y.pz, .int .i64 y.t, .int .i64 y.m, .int .i64 y.l, .int .i64 y.a0, .int .i64 y.a1, .int .i64 y.a2, .int .i64 y.a3, .int .i64 y.a4, .int .i64 y.a5] 27) = w201 at *
          generalize w200.heap.size = lyb at *
          clear r0_ r1_ r2_ r3_ r4_ r5_ r6_ r7_ r8_ r9_ r10_ r11_
          (with_reducible refine (n_any q w201 q 20 S201.out (by omega) (by omega)).mono ?_)
          rintro r w202 ⟨nn3, rfl, hnn3, hS, hg⟩
          clear hnn3
          have M202 := Lib.hid (M201.out.draw hg hq2); have S202 := Lib.hid (hS); have HL202 := Lib.hid (HL201.out.draw hg); have GI202 := Lib.hid (GI201.out.draw hg); have HC202 := Lib.hid (HC201.out.draw hg); have HOD202 := Lib.hid (And.intro (HOD201.out.1.draw hg) HOD201.out.2); have BI202 := Lib.hid (BI201.out.draw hg); have Gpl_202 := Lib.hid (gb_trans Gpl_201.out hg); have PI202 := Lib.hid (PI201.out.draw hg); have Gnl_202 := Lib.hid (gb_trans Gnl_201.out hg)
          clear hg hS M201 S201 HL201 GI201 HC201 HOD201 BI201 Gpl_201 PI201 Gnl_201
          have hp_ := S202.out.lt.2
          have ha_ : w202.grownBy (w202.alloc (.cells #[.int .i64 tn, .int .i64 t, .int .i64 nn3] 3)) none := gb_alloc (gb_refl _ _) _
          have hb_ := heap_alloc_new w202 (.cells #[.int .i64 tn, .int .i64 t, .int .i64 nn3] 3)
          have M203 := Lib.hid (M202.out.later ha_); have S203 := Lib.hid (S202.out.later (row := none) ha_ (by simp)); have HL203 := Lib.hid (HL202.out.draw (gb_none ha_)); have GI203 := Lib.hid (GI202.out.draw (gb_none ha_)); have HC203 := Lib.hid (HC202.out.draw (gb_none ha_)); have HOD203 := Lib.hid (And.intro (HOD202.out.1.draw (gb_none ha_)) HOD202.out.2); have BI203 := Lib.hid (BI202.out.draw (gb_none ha_)); have Gpl_203 := Lib.hid (gb_trans Gpl_202.out (gb_none ha_)); have PI203 := Lib.hid (PI202.out.draw (gb_none ha_)); have Gnl_203 := Lib.hid (gb_trans Gnl_202.out (gb_none ha_))
          have M203 := Lib.hid (M203.out.more hb_ (by omega))
          clear hp_ ha_ hb_ M202 S202 HL202 GI202 HC202 HOD202 BI202 Gpl_202 PI202 Gnl_202
          go_wp2_with fail
          generalize w202.alloc (.cells #[.int .i64 tn, .int .i64 t, .int .i64 nn3] 3) = w203 at *
          generalize w202.heap.size = ntb at *
          have HBnt : Hid (w203.heap[ntb]? = some (.cells ([tn, t, nn3].map (Value.int .i64)).toArray 3 (0, 0))) := Lib.hid (M203.out.at 0 rfl)
          have hnnt0 := M203.out.blk _ (List.mem_cons_self ..)
          have hnnt : ntb ≠ q := hnnt0.2
          clear hnnt0
          obtain ⟨Lnt, hL, hLnt⟩ : ∃ Lnt : List Int, Lnt = [tn, t, nn3] ∧ Lnt.length = 3 := ⟨_, rfl, rfl⟩
          rw [← hL] at HBnt
          clear hL
          go_loopw [109] (fun i wr => ∃ k : Nat, k ≤ 3 ∧ i = .int .i64 k ∧ Src q wr q ∧ w203.grownBy wr (some q)) (fun i _ => 3 - (intOf i).toNat)
          case atStart => exact ⟨0, by omega, rfl, S203.out, gb_refl _ _⟩
          case round =>
            obtain ⟨knt, hknt, rfl, hS, hgr⟩ := hrel
            by_cases hltnt : knt < 3
            · have hkLnt : knt < Lnt.length := by omega
              have hkdnt : decide ((knt : Int) < 3) = true := decide_eq_true (by omega)
              have r0_ := row1 (block_keptp hgr HBnt.out hnnt) knt hkLnt
              generalize wr = w300 at *
              have Gnt_203 := Lib.hid (gb_refl w203 (some q))
              have M300 := Lib.hid (M203.out.draw hgr hq2); have S300 := Lib.hid (hS); have HL300 := Lib.hid (HL203.out.draw hgr); have GI300 := Lib.hid (GI203.out.draw hgr); have HC300 := Lib.hid (HC203.out.draw hgr); have HOD300 := Lib.hid (And.intro (HOD203.out.1.draw hgr) HOD203.out.2); have BI300 := Lib.hid (BI203.out.draw hgr); have Gpl_300 := Lib.hid (gb_trans Gpl_203.out hgr); have PI300 := Lib.hid (PI203.out.draw hgr); have Gnl_300 := Lib.hid (gb_trans Gnl_203.out hgr); have Gnt_300 := Lib.hid (gb_trans Gnt_203.out hgr)
              clear hgr hS
              generalize Lnt[knt]?.getD 0 = o at *
              have MAo := Lib.hid (MA.out y o); have RMo := Lib.hid (RM.out y o)
              have CAo := Lib.hid (CA.out y o); have CBo := Lib.hid (CB.out y o)
              have hmk := MKQ.out y o
              rw [hmk] at RMo
              have HAL := Lib.hid (MKL.out y o)
              clear hmk
              generalize mke y o = mk at *
              obtain ⟨me2, al⟩ := mk
              generalize che y o = ch at *
              simp only [Loc.val] at MAo RMo CAo CBo
              dsimp only at MAo RMo HAL
              have g1_ : (me2 != me2) = false := by simp
              obtain ⟨pr0_, pr1_, pr2_, pr3_, pr4_, pr5_, pr6_, pr7_, pr8_, pr9_, pr10_⟩ := cells11 (M300.out.at 2 rfl)
              obtain ⟨ly0_, ly1_, ly2_, ly3_, ly4_, ly5_, ly6_, ly7_, ly8_, ly9_, ly10_, ly11_⟩ := cells12 (M300.out.at 1 rfl)
              go_wp2_with fail
              have hql_ := S300.out.lt.2
              (with_reducible refine (MAo.out w300 PI300.out).mono ?_)
              rintro r w301 ⟨ua, rfl, ho, hg⟩
              have HUA301 := Lib.hid (show SlA q w301 ua al from SlA.own ho rfl hql_)
              clear pr0_ pr1_ pr2_ pr3_ pr4_ pr5_ pr6_ pr7_ pr8_ pr9_ pr10_ ly0_ ly1_ ly2_ ly3_ ly4_ ly5_ ly6_ ly7_ ly8_ ly9_ ly10_ ly11_ r0_ MAo ho hql_
              have M301 := Lib.hid (M300.out.later hg); have S301 := Lib.hid (S300.out.later (row := none) hg (by simp)); have HL301 := Lib.hid (HL300.out.draw (gb_none hg)); have GI301 := Lib.hid (GI300.out.draw (gb_none hg)); have HC301 := Lib.hid (HC300.out.draw (gb_none hg)); have HOD301 := Lib.hid (And.intro (HOD300.out.1.draw (gb_none hg)) HOD300.out.2); have BI301 := Lib.hid (BI300.out.draw (gb_none hg)); have Gpl_301 := Lib.hid (gb_trans Gpl_300.out (gb_none hg)); have PI301 := Lib.hid (PI300.out.draw (gb_none hg)); have Gnl_301 := Lib.hid (gb_trans Gnl_300.out (gb_none hg)); have Gnt_301 := Lib.hid (gb_trans Gnt_300.out (gb_none hg))
              clear hg M300 S300 HL300 GI300 HC300 HOD300 BI300 Gpl_300 PI300 Gnl_300 Gnt_300
              obtain ⟨uaa, uac, rfl⟩ := HUA301.out.1.shape
              obtain ⟨pr0_, pr1_, pr2_, pr3_, pr4_, pr5_, pr6_, pr7_, pr8_, pr9_, pr10_⟩ := cells11 (M301.out.at 2 rfl)
              obtain ⟨ly0_, ly1_, ly2_, ly3_, ly4_, ly5_, ly6_, ly7_, ly8_, ly9_, ly10_, ly11_⟩ := cells12 (M301.out.at 1 rfl)
              go_wp2_with fail
              have hql_ := S301.out.lt.2
              (with_reducible refine (RMo.out w301 PI301.out).mono ?_)
              rintro r w302 ⟨ub, rfl, ho, hg⟩
              have HUB302 := Lib.hid (show SlA q w302 ub al from SlA.own ho rfl hql_)
              clear pr0_ pr1_ pr2_ pr3_ pr4_ pr5_ pr6_ pr7_ pr8_ pr9_ pr10_ ly0_ ly1_ ly2_ ly3_ ly4_ ly5_ ly6_ ly7_ ly8_ ly9_ ly10_ ly11_ RMo ho hql_
              have M302 := Lib.hid (M301.out.later hg); have S302 := Lib.hid (S301.out.later (row := none) hg (by simp)); have HL302 := Lib.hid (HL301.out.draw (gb_none hg)); have GI302 := Lib.hid (GI301.out.draw (gb_none hg)); have HC302 := Lib.hid (HC301.out.draw (gb_none hg)); have HOD302 := Lib.hid (And.intro (HOD301.out.1.draw (gb_none hg)) HOD301.out.2); have BI302 := Lib.hid (BI301.out.draw (gb_none hg)); have Gpl_302 := Lib.hid (gb_trans Gpl_301.out (gb_none hg)); have PI302 := Lib.hid (PI301.out.draw (gb_none hg)); have Gnl_302 := Lib.hid (gb_trans Gnl_301.out (gb_none hg)); have Gnt_302 := Lib.hid (gb_trans Gnt_301.out (gb_none hg)); have HUA302 := Lib.hid (HUA301.out.draw (gb_none hg))
              clear hg M301 S301 HL301 GI301 HC301 HOD301 BI301 Gpl_301 PI301 Gnl_301 Gnt_301 HUA301
              obtain ⟨uba, ubc, rfl⟩ := HUB302.out.1.shape
              have hal6 := HAL.out
              go_wp2_with fail
              have is_ := Lib.hid (ints_same _ _ al w302 HUA302.out.1 HUB302.out.1 (by omega))
              (with_reducible refine (is_.out).mono ?_)
              rintro r w303 ⟨rfl, hg⟩
              clear is_
              have M303 := Lib.hid (M302.out.later hg); have S303 := Lib.hid (S302.out.later (row := none) hg (by simp)); have HL303 := Lib.hid (HL302.out.draw (gb_none hg)); have GI303 := Lib.hid (GI302.out.draw (gb_none hg)); have HC303 := Lib.hid (HC302.out.draw (gb_none hg)); have HOD303 := Lib.hid (And.intro (HOD302.out.1.draw (gb_none hg)) HOD302.out.2); have BI303 := Lib.hid (BI302.out.draw (gb_none hg)); have Gpl_303 := Lib.hid (gb_trans Gpl_302.out (gb_none hg)); have PI303 := Lib.hid (PI302.out.draw (gb_none hg)); have Gnl_303 := Lib.hid (gb_trans Gnl_302.out (gb_none hg)); have Gnt_303 := Lib.hid (gb_trans Gnt_302.out (gb_none hg)); have HUA303 := Lib.hid (HUA302.out.draw (gb_none hg)); have HUB303 := Lib.hid (HUB302.out.draw (gb_none hg))
              clear hg M302 S302 HL302 GI302 HC302 HOD302 BI302 Gpl_302 PI302 Gnl_302 Gnt_302 HUA302 HUB302
              clear hal6
              have hcl6 := HCL.out
              have hcc_ := Sl.capLe HC303.out.1
              have had_ := Sl.addr0 HC303.out.1
              go_wp2_with (at_builtin; go_loud (refine wpList_capPush rfl _ _ 28 rfl 3 Tryz.underlying28 Tryz.infoIntT ca cc cl rfl (HC303.out.1.after (gb_alloc (gb_refl w303 none) _)) (by omega) w303.heap.size 1 0 3 rfl (heap_alloc_new w303 _) ?_); refine Hid.out ?_)
              refine Lib.hid ?_
              intro g2 gc2 w304 hown hg
              have hg_ := gb_trans (gb_alloc (gb_refl w303 none) (.cells #[.int .i64 0] 3)) hg
              have hqB_ : q < (w303.alloc (.cells #[.int .i64 0] 3)).heap.size := by have := S303.out.lt.2; simp; omega
              have HAP304 := Lib.hid (show SlA q w304 (.slice (some ⟨g2, 0, none⟩) (cl.length + 1) gc2) (cl ++ [0]) from SlA.own (B := w303.heap.size + 1) (by rw [List.map_append]; exact hown) (by simp) (by have := S303.out.lt.2; omega))
              clear hown hg hqB_ hcl6 hcc_ had_
              have M304 := Lib.hid (M303.out.later hg_); have S304 := Lib.hid (S303.out.later (row := none) hg_ (by simp)); have HL304 := Lib.hid (HL303.out.draw (gb_none hg_)); have GI304 := Lib.hid (GI303.out.draw (gb_none hg_)); have HC304 := Lib.hid (HC303.out.draw (gb_none hg_)); have HOD304 := Lib.hid (And.intro (HOD303.out.1.draw (gb_none hg_)) HOD303.out.2); have BI304 := Lib.hid (BI303.out.draw (gb_none hg_)); have Gpl_304 := Lib.hid (gb_trans Gpl_303.out (gb_none hg_)); have PI304 := Lib.hid (PI303.out.draw (gb_none hg_)); have Gnl_304 := Lib.hid (gb_trans Gnl_303.out (gb_none hg_)); have Gnt_304 := Lib.hid (gb_trans Gnt_303.out (gb_none hg_)); have HUA304 := Lib.hid (HUA303.out.draw (gb_none hg_)); have HUB304 := Lib.hid (HUB303.out.draw (gb_none hg_))
              clear hg_ M303 S303 HL303 GI303 HC303 HOD303 BI303 Gpl_303 PI303 Gnl_303 Gnt_303 HUA303 HUB303
              have hp_ := S304.out.lt.2
              have ha_ : w304.grownBy (w304.alloc (.cells #[.slice ca cl.length cc, .slice sa l1.length sc, .slice (some ⟨g, 0, none⟩) cl.length gc, .slice uba al.length ubc, .slice (some ⟨g2, 0, none⟩) (cl.length + 1) gc2, .slice none 0 0] 28)) none := gb_alloc (gb_refl _ _) _
              have hb_ := heap_alloc_new w304 (.cells #[.slice ca cl.length cc, .slice sa l1.length sc, .slice (some ⟨g, 0, none⟩) cl.length gc, .slice uba al.length ubc, .slice (some ⟨g2, 0, none⟩) (cl.length + 1) gc2, .slice none 0 0] 28)
              have M305 := Lib.hid (M304.out.later ha_); have S305 := Lib.hid (S304.out.later (row := none) ha_ (by simp)); have HL305 := Lib.hid (HL304.out.draw (gb_none ha_)); have GI305 := Lib.hid (GI304.out.draw (gb_none ha_)); have HC305 := Lib.hid (HC304.out.draw (gb_none ha_)); have HOD305 := Lib.hid (And.intro (HOD304.out.1.draw (gb_none ha_)) HOD304.out.2); have BI305 := Lib.hid (BI304.out.draw (gb_none ha_)); have Gpl_305 := Lib.hid (gb_trans Gpl_304.out (gb_none ha_)); have PI305 := Lib.hid (PI304.out.draw (gb_none ha_)); have Gnl_305 := Lib.hid (gb_trans Gnl_304.out (gb_none ha_)); have Gnt_305 := Lib.hid (gb_trans Gnt_304.out (gb_none ha_)); have HUA305 := Lib.hid (HUA304.out.draw (gb_none ha_)); have HUB305 := Lib.hid (HUB304.out.draw (gb_none ha_)); have HAP305 := Lib.hid (HAP304.out.draw (gb_none ha_))
              have M305 := Lib.hid (M305.out.more hb_ (by omega))
              clear hp_ ha_ hb_ M304 S304 HL304 GI304 HC304 HOD304 BI304 Gpl_304 PI304 Gnl_304 Gnt_304 HUA304 HUB304 HAP304
              go_wp2_with fail
              generalize w304.alloc (.cells #[.slice ca cl.length cc, .slice sa l1.length sc, .slice (some ⟨g, 0, none⟩) cl.length gc, .slice uba al.length ubc, .slice (some ⟨g2, 0, none⟩) (cl.length + 1) gc2, .slice none 0 0] 28) = w305 at *
              generalize w304.heap.size = vlb at *
              have HBvl : Hid (w305.heap[vlb]? = some (.cells ([.slice ca cl.length cc, .slice sa l1.length sc, .slice (some ⟨g, 0, none⟩) cl.length gc, .slice uba al.length ubc, .slice (some ⟨g2, 0, none⟩) (cl.length + 1) gc2, .slice none 0 0] : List Value).toArray 28 (0, 0))) := Lib.hid (M305.out.at 0 rfl)
              have hnvl0 := M305.out.blk _ (List.mem_cons_self ..)
              have hnvl : vlb ≠ q := hnvl0.2
              clear hnvl0
              have HLvl : Hid (∀ t ∈ ([.slice ca cl.length cc, .slice sa l1.length sc, .slice (some ⟨g, 0, none⟩) cl.length gc, .slice uba al.length ubc, .slice (some ⟨g2, 0, none⟩) (cl.length + 1) gc2, .slice none 0 0] : List Value), ∃ lst : List Int, SlA q w305 t lst ∧ lst.length ≤ 10000) := Lib.hid (by
                have z1 := HL200.out; have z2 := HCL.out; have z3 := HAL.out; have z4 := HOD305.out.2
                intro t ht
                simp only [List.mem_cons, List.not_mem_nil, or_false] at ht
                rcases ht with rfl | rfl | rfl | rfl | rfl | rfl
                · exact ⟨cl, HC305.out, by omega⟩
                · exact ⟨l1, HL305.out, by omega⟩
                · exact ⟨ol, HOD305.out.1, by omega⟩
                · exact ⟨al, HUB305.out, by omega⟩
                · exact ⟨cl ++ [0], HAP305.out, by simp; omega⟩
                · exact ⟨[], ⟨.inl ⟨rfl, _, _, rfl⟩, fun b off len cap e _ => by simp at e⟩, by simp⟩)
              obtain ⟨Lvl, hL, hLvl⟩ : ∃ Lvl : List Value, Lvl = [.slice ca cl.length cc, .slice sa l1.length sc, .slice (some ⟨g, 0, none⟩) cl.length gc, .slice uba al.length ubc, .slice (some ⟨g2, 0, none⟩) (cl.length + 1) gc2, .slice none 0 0] ∧ Lvl.length = 6 := ⟨_, rfl, rfl⟩
              rw [← hL] at HBvl HLvl
              clear hL
              go_loopw [150] (fun i wr => ∃ k : Nat, k ≤ 6 ∧ i = .int .i64 k ∧ Src q wr q ∧ w305.grownBy wr (some q)) (fun i _ => 6 - (intOf i).toNat)
              case atStart => exact ⟨0, by omega, rfl, S305.out, gb_refl _ _⟩
              case round =>
                obtain ⟨kvl, hkvl, rfl, hS, hgr⟩ := hrel
                by_cases hltvl : kvl < 6
                · have hkLvl : kvl < Lvl.length := by omega
                  have hkdvl : decide ((kvl : Int) < 6) = true := decide_eq_true (by omega)
                  have r0_ := rowV (block_keptp hgr HBvl.out hnvl) kvl hkLvl
                  generalize wr = w400 at *
                  have Gvl_305 := Lib.hid (gb_refl w305 (some q))
                  have M400 := Lib.hid (M305.out.draw hgr hq2); have S400 := Lib.hid (hS); have HL400 := Lib.hid (HL305.out.draw hgr); have GI400 := Lib.hid (GI305.out.draw hgr); have HC400 := Lib.hid (HC305.out.draw hgr); have HOD400 := Lib.hid (And.intro (HOD305.out.1.draw hgr) HOD305.out.2); have BI400 := Lib.hid (BI305.out.draw hgr); have Gpl_400 := Lib.hid (gb_trans Gpl_305.out hgr); have PI400 := Lib.hid (PI305.out.draw hgr); have Gnl_400 := Lib.hid (gb_trans Gnl_305.out hgr); have Gnt_400 := Lib.hid (gb_trans Gnt_305.out hgr); have HUA400 := Lib.hid (HUA305.out.draw hgr); have HUB400 := Lib.hid (HUB305.out.draw hgr); have HAP400 := Lib.hid (HAP305.out.draw hgr); have Gvl_400 := Lib.hid (gb_trans Gvl_305.out hgr)
                  clear hgr hS
                  obtain ⟨lst, hsl0, hll⟩ := HLvl.out Lvl[kvl] (List.getElem_mem hkLvl)
                  have HSL400 := Lib.hid (hsl0.draw Gvl_400.out)
                  clear hsl0
                  generalize Lvl[kvl] = vk at *
                  obtain ⟨ka, kc, rfl⟩ := HSL400.out.1.shape
                  have CAl := Lib.hid (fun u h hs => CAo.out lst (.slice ka lst.length kc) u h hs (by omega)); have CBl := Lib.hid (fun u h hs => CBo.out lst (.slice ka lst.length kc) u h hs)
                  generalize ch lst = ce at *
                  have g2_ : (ce != ce) = false := by simp
                  obtain ⟨pr0_, pr1_, pr2_, pr3_, pr4_, pr5_, pr6_, pr7_, pr8_, pr9_, pr10_⟩ := cells11 (M400.out.at 3 rfl)
                  obtain ⟨ly0_, ly1_, ly2_, ly3_, ly4_, ly5_, ly6_, ly7_, ly8_, ly9_, ly10_, ly11_⟩ := cells12 (M400.out.at 2 rfl)
                  have upr_ := M400.out.made 3 rfl
                  have uly_ := M400.out.made 2 rfl
                  go_wp2_with fail
                  refine Rg.region (Made w400) Makes (fun k => if k = 4 then some (isV (.int .i64 ce)) else if k = 9 then some (isV (.int .i64 ce)) else none) (fun _ => false) 0 11 (by kernel_rfl) (by kernel_rfl) (by kernel_rfl) (by kernel_rfl) (by kernel_rfl) (by kernel_rfl) (by kernel_rfl) Makes.size (Made.start w400) (fun hne => ?_)
                  (repeat (refine rLexL_quiet (by rfl) (by rfl) (by rfl) (by rfl) ?_; go_big_quiet_step (fail); refine wpQuiet_nil ?_))
                  refine rg_fix (.int .i64 ce) 16 #[.agg #[.int .i64 m0, .int .i64 m1, .int .i64 m2, .int .i64 m3, .int .i64 m4, .int .i64 m5, .int .i64 mst, .slice ma mn mc, .slice na nn nc, .slice qa ml qc, .int .i64 mcap], .agg #[.int .i64 y.px, .int .i64 y.py, .int .i64 y.pz, .int .i64 y.t, .int .i64 y.m, .int .i64 y.l, .int .i64 y.a0, .int .i64 y.a1, .int .i64 y.a2, .int .i64 y.a3, .int .i64 y.a4, .int .i64 y.a5], .int .i64 o, .slice ka lst.length kc] rfl rfl rfl (fun _ => by go_simp) (fun u hu => CAl.out u (PI400.out.draw (gb_none hu)) (HSL400.out.1.after hu)) ?_
                  simp only [Act.put, List.setIfInBounds_toArray, List.set_cons_zero, List.set_cons_succ]
                  (repeat (refine rLexL_quiet (by rfl) (by rfl) (by rfl) (by rfl) ?_; go_big_quiet_step (fail); refine wpQuiet_nil ?_))
                  refine rg_fix (.int .i64 ce) 17 #[.agg #[.int .i64 m0, .int .i64 m1, .int .i64 m2, .int .i64 m3, .int .i64 m4, .int .i64 m5, .int .i64 mst, .slice ma mn mc, .slice na nn nc, .slice qa ml qc, .int .i64 mcap], .agg #[.int .i64 y.px, .int .i64 y.py, .int .i64 y.pz, .int .i64 y.t, .int .i64 y.m, .int .i64 y.l, .int .i64 y.a0, .int .i64 y.a1, .int .i64 y.a2, .int .i64 y.a3, .int .i64 y.a4, .int .i64 y.a5], .int .i64 o, .slice ka lst.length kc] rfl rfl rfl (fun _ => by go_simp) (fun u hu => CBl.out u (PI400.out.draw (gb_none hu)) (HSL400.out.1.after hu)) ?_
                  simp only [Act.put, List.setIfInBounds_toArray, List.set_cons_zero, List.set_cons_succ]
                  (repeat (refine rLexL_quiet (by rfl) (by rfl) (by rfl) (by rfl) ?_; go_big_quiet_step (fail); refine wpQuiet_nil ?_))
                  rintro wq hq_ - -
                  refine wpList_nil ?_
                  generalize wq = w401 at *
                  clear hne pr0_ pr1_ pr2_ pr3_ pr4_ pr5_ pr6_ pr7_ pr8_ pr9_ pr10_ ly0_ ly1_ ly2_ ly3_ ly4_ ly5_ ly6_ ly7_ ly8_ ly9_ ly10_ ly11_ upr_ uly_ r0_ CAl CBl
                  have M401 := Lib.hid (M400.out.later hq_); have S401 := Lib.hid (S400.out.later (row := none) hq_ (by simp)); have HL401 := Lib.hid (HL400.out.draw (gb_none hq_)); have GI401 := Lib.hid (GI400.out.draw (gb_none hq_)); have HC401 := Lib.hid (HC400.out.draw (gb_none hq_)); have HOD401 := Lib.hid (And.intro (HOD400.out.1.draw (gb_none hq_)) HOD400.out.2); have BI401 := Lib.hid (BI400.out.draw (gb_none hq_)); have Gpl_401 := Lib.hid (gb_trans Gpl_400.out (gb_none hq_)); have PI401 := Lib.hid (PI400.out.draw (gb_none hq_)); have Gnl_401 := Lib.hid (gb_trans Gnl_400.out (gb_none hq_)); have Gnt_401 := Lib.hid (gb_trans Gnt_400.out (gb_none hq_)); have HUA401 := Lib.hid (HUA400.out.draw (gb_none hq_)); have HUB401 := Lib.hid (HUB400.out.draw (gb_none hq_)); have HAP401 := Lib.hid (HAP400.out.draw (gb_none hq_)); have Gvl_401 := Lib.hid (gb_trans Gvl_400.out (gb_none hq_)); have HSL401 := Lib.hid (HSL400.out.draw (gb_none hq_))
                  clear hq_ M400 S400 HL400 GI400 HC400 HOD400 BI400 Gpl_400 PI400 Gnl_400 Gnt_400 HUA400 HUB400 HAP400 Gvl_400 HSL400
                  have HGN := Gvl_401; have HSN := S401
                  go_wp2_with fail
                  go_roundw
                  case rel => exact ⟨kvl + 1, by omega, by go_num, HSN.out, HGN.out⟩
                  case measure => simp [intOf]; omega
                · have hkdvl : decide ((kvl : Int) < 6) = false := decide_eq_false (by omega)
                  generalize wr = w500 at *
                  have M500 := Lib.hid (M305.out.draw hgr hq2); have S500 := Lib.hid (hS); have HL500 := Lib.hid (HL305.out.draw hgr); have GI500 := Lib.hid (GI305.out.draw hgr); have HC500 := Lib.hid (HC305.out.draw hgr); have HOD500 := Lib.hid (And.intro (HOD305.out.1.draw hgr) HOD305.out.2); have BI500 := Lib.hid (BI305.out.draw hgr); have Gpl_500 := Lib.hid (gb_trans Gpl_305.out hgr); have PI500 := Lib.hid (PI305.out.draw hgr); have Gnl_500 := Lib.hid (gb_trans Gnl_305.out hgr); have Gnt_500 := Lib.hid (gb_trans Gnt_305.out hgr); have HUA500 := Lib.hid (HUA305.out.draw hgr); have HUB500 := Lib.hid (HUB305.out.draw hgr); have HAP500 := Lib.hid (HAP305.out.draw hgr)
                  clear hgr hS M305 S305 HL305 GI305 HC305 HOD305 BI305 Gpl_305 PI305 Gnl_305 Gnt_305 HUA305 HUB305 HAP305 HBvl CAo CBo
                  have HGN := Gnt_500; have HSN := S500
                  go_wp2_with fail
                  go_roundw
                  case rel => exact ⟨knt + 1, by omega, by go_num, HSN.out, HGN.out⟩
                  case measure => simp [intOf]; omega
            · have hkdnt : decide ((knt : Int) < 3) = false := decide_eq_false (by omega)
              generalize wr = w600 at *
              have M600 := Lib.hid (M203.out.draw hgr hq2); have S600 := Lib.hid (hS); have HL600 := Lib.hid (HL203.out.draw hgr); have GI600 := Lib.hid (GI203.out.draw hgr); have HC600 := Lib.hid (HC203.out.draw hgr); have HOD600 := Lib.hid (And.intro (HOD203.out.1.draw hgr) HOD203.out.2); have BI600 := Lib.hid (BI203.out.draw hgr); have Gpl_600 := Lib.hid (gb_trans Gpl_203.out hgr); have PI600 := Lib.hid (PI203.out.draw hgr); have Gnl_600 := Lib.hid (gb_trans Gnl_203.out hgr)
              clear hgr hS M203 S203 HL203 GI203 HC203 HOD203 BI203 Gpl_203 PI203 Gnl_203 HBnt
              have HGN := Gnl_600; have HSN := S600
              go_wp2_with fail
              go_roundw
              case rel => exact ⟨knl + 1, by omega, by go_num, HSN.out, HGN.out⟩
              case measure => simp [intOf]; omega
        · have hkdnl : decide ((knl : Int) < 4) = false := decide_eq_false (by omega)
          generalize wr = w700 at *
          have M700 := Lib.hid (M103.out.draw hgr hq2); have S700 := Lib.hid (hS); have HL700 := Lib.hid (HL103.out.draw hgr); have GI700 := Lib.hid (GI103.out.draw hgr); have HC700 := Lib.hid (HC103.out.draw hgr); have HOD700 := Lib.hid (And.intro (HOD103.out.1.draw hgr) HOD103.out.2); have BI700 := Lib.hid (BI103.out.draw hgr); have Gpl_700 := Lib.hid (gb_trans Gpl_103.out hgr); have PI700 := Lib.hid (PI103.out.draw hgr)
          clear hgr hS M103 S103 HL103 GI103 HC103 HOD103 BI103 Gpl_103 PI103 HBnl
          have HGN := Gpl_700; have HSN := S700
          go_wp2_with fail
          go_roundw
          case rel => exact ⟨kpl + 1, by omega, by go_num, HSN.out, HGN.out⟩
          case measure => simp [intOf]; omega
    · have hkdpl : decide ((kpl : Int) < 2) = false := decide_eq_false (by omega)
      generalize wr = w800 at *
      have M800 := Lib.hid (M12.out.draw hgr hq2); have S800 := Lib.hid (hS); have HL800 := Lib.hid (HL12.out.draw hgr); have GI800 := Lib.hid (GI12.out.draw hgr); have HC800 := Lib.hid (HC12.out.draw hgr); have HOD800 := Lib.hid (And.intro (HOD12.out.1.draw hgr) HOD12.out.2); have BI800 := Lib.hid (BI12.out.draw hgr)
      clear hgr hS M12 S12 HL12 GI12 HC12 HOD12 BI12 HBpl
      have HGM := Lib.hid (gb_trans GW.out M800.out.gr)
      go_wp2_with fail
      (with_reducible refine (awake29_any _).mono ?_)
      rintro r w8 ⟨rfl, hg⟩
      have HGE := Lib.hid (gb_trans HGM.out hg)
      go_wp2_with fail
      go_ret
      exact ⟨rfl, gb_end HGE.out⟩
end Go.Proofs.YtdkckhihleffeaaGreat
