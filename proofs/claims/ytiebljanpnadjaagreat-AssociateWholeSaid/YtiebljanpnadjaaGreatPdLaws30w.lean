/- Laws30w -/
import Derived.BigRegion
import Derived.Test.YtiebljanpnadjaaGreatPdAsI
import Derived.Test.YtiebljanpnadjaaGreatPdAsX
import Derived.Test.YtiebljanpnadjaaGreatPdAsM
namespace Go.Proofs.YtiebljanpnadjaaGreat
set_option linter.all false
open Go.RowKit Rg
theorem wh_cells {w : World} {b : Nat} {T : TypeId} {fr : Nat × Nat} {v0 v1 v2 v3 v4 v5 v6 v7 v8 v9 v10 v11 v12 v13 : Value} (h : w.heap[b]? = some (.cells #[v0, v1, v2, v3, v4, v5, v6, v7, v8, v9, v10, v11, v12, v13] T fr)) :
    (((w.setCell ⟨b, 10, none⟩ (.int .i64 0)).setCell ⟨b, 11, none⟩ (.int .i64 2000)).setCell ⟨b, 13, none⟩ (.int .i64 2)).heap[b]? = some (.cells #[v0, v1, v2, v3, v4, v5, v6, v7, v8, v9, .int .i64 0, .int .i64 2000, v12, .int .i64 2] T fr) :=
  set_block (set_block (set_block h 10 _) 11 _) 13 _
theorem wh_grown {w u : World} {b : Nat} (h : w.grownBy u none) (hb : w.heap.size ≤ b) : w.grownBy (((u.setCell ⟨b, 10, none⟩ (.int .i64 0)).setCell ⟨b, 11, none⟩ (.int .i64 2000)).setCell ⟨b, 13, none⟩ (.int .i64 2)) none :=
  gb_setCell (a := ⟨b, 13, none⟩) (gb_setCell (a := ⟨b, 11, none⟩) (gb_setCell (a := ⟨b, 10, none⟩) h (.inl hb) _) (.inl hb) _) (.inl hb) _
set_option maxRecDepth 100000 in
set_option maxHeartbeats 20000000 in
theorem associateWhole_walk (w : World) (v : Value) (xs : List Int) (hs0 : Sl w v xs) (_hx : ∀ x ∈ xs, -9223372036854775808 ≤ x ∧ x ≤ 9223372036854775807) (v1 : Value) (l1 : List Int) (hs1 : Sl w v1 l1) (hx1 : ∀ x ∈ l1, -9223372036854775808 ≤ x ∧ x ≤ 9223372036854775807) :
    Calls Tryz.prog 8 #[v, v1] w fun e w' => e = .returned (.bool true) ∧ Below w.heap.size w w' := by
  have HL1 := Lib.hid hs1; have HX1 := Lib.hid hx1
  obtain ⟨sa, sc, rfl⟩ := hs1.shape
  have hl1 : l1.length ≤ 9223372036854775807 := by
    by_cases h0 : 0 < l1.length
    · obtain ⟨_, _, _, _, _, h1, h2, _⟩ := hs1.block h0; omega
    · omega
  clear hs1 hx1
  go_enter Tryz.func8, Tryz.ntmps8
  go_wp2_with fail
  (with_reducible refine (new_any w v xs hs0).mono ?_)
  rintro e w2 ⟨rfl, hS, hg⟩
  have S2 := Lib.hid hS; have G2 := Lib.hid hg
  clear hS hg hs0
  generalize hqw : w.heap.size = q at S2 ⊢
  have hq : w.heap.size ≤ q := by omega
  go_wp2_with fail
  (with_reducible refine (association_any q w2 q 3 S2.out (by omega) (by omega)).mono ?_)
  rintro e w3 ⟨A, la, lc, ha, hc, rfl, hgd, hin, hfr, hS, hg⟩
  have hq2 := S2.out.lt.2
  have S3 := Lib.hid hS; have G3 := Lib.hid (gb_new G2.out hg (fun k hk => by simp at hk; omega))
  have HGD := Lib.hid hgd; have HIN := Lib.hid hin; have HFR := Lib.hid hfr
  clear hS hg S2 G2 hgd hin hfr
  obtain ⟨x0, y0, z0, x1, y1, z1, st, ls, hs, cap, tol, span, lim, least⟩ := A
  simp only [Asc.val] at HIN ⊢
  have Z0 := Lib.hid (heap_alloc_new w3 (.cells #[.int .i64 0, .int .i64 0, .int .i64 0, .int .i64 0, .int .i64 0, .int .i64 0, .int .i64 0, .slice none 0 0, .slice none 0 0, .int .i64 0, .int .i64 0, .int .i64 0, .int .i64 0, .int .i64 0] 30))
  have B4 := Lib.hid (setRow_at (cs := #[.int .i64 x0, .int .i64 y0, .int .i64 z0, .int .i64 x1, .int .i64 y1, .int .i64 z1, .int .i64 st, .slice la ls.length lc, .slice ha hs.length hc, .int .i64 cap, .int .i64 tol, .int .i64 span, .int .i64 lim, .int .i64 least]) Z0.out)
  have hg4 := gb_setRow (cs := #[.int .i64 x0, .int .i64 y0, .int .i64 z0, .int .i64 x1, .int .i64 y1, .int .i64 z1, .int .i64 st, .slice la ls.length lc, .slice ha hs.length hc, .int .i64 cap, .int .i64 tol, .int .i64 span, .int .i64 lim, .int .i64 least]) (g := w3.heap.size) (gb_alloc (gb_refl w3 none) (.cells #[.int .i64 0, .int .i64 0, .int .i64 0, .int .i64 0, .int .i64 0, .int .i64 0, .int .i64 0, .slice none 0 0, .slice none 0 0, .int .i64 0, .int .i64 0, .int .i64 0, .int .i64 0, .int .i64 0] 30)) (.inl (Nat.le_refl _))
  have HG4 := Lib.hid hg4
  clear hg4
  have hcz := cells14 B4.out
  have fz := frzA B4.out
  have hq3 := S3.out.lt.2
  have B5 := Lib.hid (wh_cells B4.out)
  have HG5 := Lib.hid (wh_grown HG4.out (Nat.le_refl _))
  obtain ⟨-, -, -, -, -, -, -, -, -, -, c10_, c11_, c12_, c13_⟩ := hcz
  have f10_ := fz 10; have f11_ := fz 11; have f13_ := fz 13
  clear fz
  go_upto_region 4 with (with_reducible refine wpList_store_row rfl _ _ _ rfl w3.heap.size #[.int .i64 x0, .int .i64 y0, .int .i64 z0, .int .i64 x1, .int .i64 y1, .int .i64 z1, .int .i64 st, .slice la ls.length lc, .slice ha hs.length hc, .int .i64 cap, .int .i64 tol, .int .i64 span, .int .i64 lim, .int .i64 least] rfl rfl _ _ Z0.out (by kernel_rfl) rfl (by simp [Value.oneCell']) ?_)
  clear c10_ c11_ c12_ c13_ f10_ f11_ f13_ B4 HG4 Z0
  generalize (((((w3.alloc (.cells #[.int .i64 0, .int .i64 0, .int .i64 0, .int .i64 0, .int .i64 0, .int .i64 0, .int .i64 0, .slice none 0 0, .slice none 0 0, .int .i64 0, .int .i64 0, .int .i64 0, .int .i64 0, .int .i64 0] 30)).setRow w3.heap.size #[.int .i64 x0, .int .i64 y0, .int .i64 z0, .int .i64 x1, .int .i64 y1, .int .i64 z1, .int .i64 st, .slice la ls.length lc, .slice ha hs.length hc, .int .i64 cap, .int .i64 tol, .int .i64 span, .int .i64 lim, .int .i64 least]).setCell ⟨w3.heap.size, 10, none⟩ (.int .i64 0)).setCell ⟨w3.heap.size, 11, none⟩ (.int .i64 2000)).setCell ⟨w3.heap.size, 13, none⟩ (.int .i64 2)) = w5 at *
  have S5 := Lib.hid (S3.out.later HG5.out (by simp)); have G5 := Lib.hid (gb_trans G3.out HG5.out)
  have HB := Lib.hid HGD.out.box; have HT := Lib.hid HGD.out.tab; have HRE := Lib.hid (reach_small HGD.out.tab.1 HGD.out.st HGD.out.rea HGD.out.len); have HLO := Lib.hid HGD.out.low
  simp only [] at HB HT HRE HLO
  have LAT : Hid (∀ b off len cap, Value.slice la ls.length lc = .slice (some ⟨b, off, none⟩) len cap → b < w3.heap.size ∧ b ≠ q) := Lib.hid (fun b off len cap e => by
    obtain ⟨b', off', cap', e', hb', -⟩ := HIN.out.l.block (by have := HT.out.2.2.2.1; show 0 < ls.length; omega)
    rw [e'] at e
    simp only [Value.slice.injEq] at e e'
    obtain ⟨e1, -, -⟩ := e
    cases e1
    exact ⟨hb', by have := HFR.out b off (.inl e'.1); omega⟩)
  have LOW5 := Lib.hid (HIN.out.l.after HG5.out)
  obtain ⟨c0_, c1_, c2_, c3_, c4_, c5_, c6_, c7_, c8_, c9_, c10_, c11_, c12_, c13_⟩ := cells14 B5.out
  have hBx := HB.out
  unfold boxIn placeIn at hBx
  go_wp2_with fail
  (with_reducible refine (point_any q w5 q x0 y0 z0 x1 y1 z1 S5.out (by omega) (by omega) (by omega)).mono ?_)
  rintro e w6 ⟨px, py, pz, rfl, hpt, hS, hg⟩
  have HPT := Lib.hid hpt; have S6 := Lib.hid hS; have B6 := Lib.hid (block_keptp hg B5.out (by omega)); have G6 := Lib.hid (gb_new G5.out hg (fun p hp => by simp at hp; omega)); have K6 := Lib.hid (gb_trans (gb_none (row := some q) HG5.out) hg)
  have LOW6 := Lib.hid (LOW5.out.later hg (fun b off len cap e _ => by have := (LAT.out b off len cap e).2; simpa using this))
  clear hpt hS hg c0_ c1_ c2_ c3_ c4_ c5_ c6_ c7_ c8_ c9_ c10_ c11_ c12_ c13_ hBx S5 B5 G5 LOW5 S3
  go_wp2_with fail
  (with_reducible refine (n_any q w6 q 500 S6.out (by omega) (by omega)).mono ?_)
  rintro e w7 ⟨tn, rfl, htn, hS, hg⟩
  have hX : w3.heap.size < w7.heap.size := by have := block_lt' B6.out; have := hg.size; omega
  have hgX := gb_alloc (gb_refl w7 none) (.cells #[.int .i64 px, .int .i64 py, .int .i64 pz] 23)
  have M0 : Hid (PsAt w3 q q w7.heap.size #[.int .i64 x0, .int .i64 y0, .int .i64 z0, .int .i64 x1, .int .i64 y1, .int .i64 z1, .int .i64 st, .slice la ls.length lc, .slice ha hs.length hc, .int .i64 cap, .int .i64 0, .int .i64 2000, .int .i64 lim, .int .i64 2] px py pz [] (.slice none 0 0) (.slice la ls.length lc) ls (w7.alloc (.cells #[.int .i64 px, .int .i64 py, .int .i64 pz] 23))) := Lib.hid
    ⟨block_kept hgX (block_keptp hg B6.out (by omega)) rfl, heap_alloc_new _ _, World.ownsRow_nil _ _ _ _, (LOW6.out.later hg (fun b off len cap e _ => by have := (LAT.out b off len cap e).2; simpa using this)).after hgX, LAT.out, ⟨hq3, hX⟩, hS.later hgX (by simp), gb_trans (gb_trans K6.out hg) (gb_none hgX)⟩
  have G7 := Lib.hid (gb_trans (gb_new G6.out hg (fun p hp => by simp at hp; omega)) hgX)
  clear hS hg hgX S6 B6 G6 K6 LOW6 hX LAT
  obtain ⟨t, ht, ht0⟩ : ∃ t : Int, t = 1000 + tn ∧ 0 ≤ t ∧ t ≤ 1500 := ⟨_, rfl, by omega, by omega⟩
  have hwt : IntKind.i64.wrap (1000 + tn) = t := by rw [IntKind.wrap_i64]; omega
  go_wp2_with fail
  generalize w7.alloc (.cells #[.int .i64 px, .int .i64 py, .int .i64 pz] 23) = w8 at *
  generalize w7.heap.size = X at *
  (with_reducible refine (n_any q w8 q 6 M0.out.src (by omega) (by omega)).mono ?_)
  rintro e w9 ⟨kn, rfl, hkn, hS, hg⟩
  have M1 := Lib.hid (M0.out.draw hg hS)
  rw [← ht]
  clear hS hg M0 ht hwt htn
  have HXZ : Hid (w.heap.size ≤ q ∧ q < w3.heap.size) := Lib.hid ⟨hq, hq3⟩
  generalize hzz : w3.heap.size = z at *
  have HZ := Lib.hid hzz
  clear hzz
  go_wp2_with fail
  go_loopw [9, 10] (fun vp kv wr => ∃ (m : Nat) (l : List Ph), kv = .int .i64 (m : Int) ∧ (l.length : Int) + m = 2 + kn ∧ (∀ a ∈ l, goodPh a ∧ Fits st ls px py pz t a) ∧ PsAt w3 q q X #[.int .i64 x0, .int .i64 y0, .int .i64 z0, .int .i64 x1, .int .i64 y1, .int .i64 z1, .int .i64 st, .slice la ls.length lc, .slice ha hs.length hc, .int .i64 cap, .int .i64 0, .int .i64 2000, .int .i64 lim, .int .i64 2] px py pz l vp (.slice la ls.length lc) ls wr) (fun _ kv _ => (intOf kv).toNat)
  case atStart => exact ⟨(2 + kn).toNat, [], by rw [Int.toNat_of_nonneg (by omega)], by simp; omega, by simp, M1.out⟩
  case round =>
    obtain ⟨m, l, rfl, hlm, hgood, hM⟩ := hrel
    have MR := Lib.hid hM; have GOOD := Lib.hid hgood
    obtain ⟨oa, oc, rfl⟩ := owns_slice hM.own
    clear hM hgood M1
    by_cases hm : 0 < m
    · skip
      go_wp2_with fail
      (with_reducible refine (phase_any q wr q MR.out.src).mono ?_)
      rintro e w10 ⟨ax, ay, az, ae, al, an, rfl, hph, hS, hg⟩
      have hvb : (Value.slice oa l.length oc).ownBlock ≠ some w10.heap.size := fun e => by have := (MR.out.own.lt _ e).2; have := hg.size; omega
      have hXA : X < w10.heap.size := by have := block_lt' MR.out.pos; have := hg.size; omega
      have M1 := Lib.hid ((MR.out.draw hg hS).later (gb_alloc (gb_refl w10 none) (.cells #[.int .i64 ax, .int .i64 ay, .int .i64 az, .int .i64 ae, .int .i64 al, .int .i64 an] 51)))
      have A1 := Lib.hid (heap_alloc_new w10 (.cells #[.int .i64 ax, .int .i64 ay, .int .i64 az, .int .i64 ae, .int .i64 al, .int .i64 an] 51))
      clear hS hg MR
      go_upto_region 10 with fail
      generalize w10.alloc (.cells #[.int .i64 ax, .int .i64 ay, .int .i64 az, .int .i64 ae, .int .i64 al, .int .i64 an] 51) = w11 at *
      generalize w10.heap.size = A at *
      have hBx := HB.out; have hQx := HPT.out
      unfold phaseIn at hph
      have hN := near_mk HT.out HRE.out.1 hBx hph.1 (by omega) (by omega) (by omega)
      have hsq : sqP ax ay az px py pz = sqD ax ay az px py pz := by
        have h1 := hN.vp
        have h2 : vP px py pz = true := by
          unfold boxIn placeIn at hBx
          exact vP_mk (by omega)
        unfold sqP; rw [h1, h2]; rfl
      have hfar := (near_point (px := ax) (py := ay) (pz := az) ⟨hQx.1, hQx.2.1⟩ ⟨hQx.2.2.1, hQx.2.2.2.1⟩ ⟨hQx.2.2.2.2.1, hQx.2.2.2.2.2⟩ : nearD x0 y0 z0 x1 y1 z1 ax ay az ≤ sqD px py pz ax ay az ∧ sqD px py pz ax ay az ≤ farD x0 y0 z0 x1 y1 z1 ax ay az).2
      obtain ⟨n0, n1, n2⟩ := far_small hN.vb hN.vp
      have hre := hN.reach
      have hfl : floorI (sqD ax ay az px py pz) ≤ reachS st ls := by
        rw [sqD_comm]
        exact Int.le_trans (floorI_mono hfar) (Int.le_trans (ceilI_ge _) hre)
      have hsb : sqD ax ay az px py pz ≤ 9223372036854775807 := by rw [sqD_comm]; omega
      obtain ⟨t1, t2, t3, t4, t5, -⟩ := HT.out
      have hfit : Hid (∀ e' l' : Int, e' = t + at0 ls (loI st (floorI (sqD ax ay az px py pz))) → e' ≤ l' → Fits st ls px py pz t ⟨ax, ay, az, e', l', an⟩) := Lib.hid (fun e' l' h1 h2 => ⟨h1, h2⟩)
      have SQ := Lib.hid (fun (u : World) => rsquare_any ax ay az px py pz u)
      rw [hsq] at SQ
      have FL := Lib.hid (fun (u : World) => rfloor24_any (sqD ax ay az px py pz) u hsb)
      obtain ⟨dn, hdn⟩ : ∃ dn : Nat, floorI (sqD ax ay az px py pz) = (dn : Int) := ⟨_, rfl⟩
      rw [hdn] at FL hfl hfit
      unfold reachS at hfl
      obtain ⟨di1, di2⟩ := loI_spec (d := (dn : Int)) (n := ls.length) t1 (by omega) hfl t4
      have htv := tOk_at HT.out di2; have hlo9 := HLO.out (loI st (dn : Int))
      have hib : ((loI st (dn : Int) : Nat) : Int) ≤ 255 := by omega
      clear hBx hQx hN hsq hfar n0 n1 n2 hre hfl hsb hdn t2 t3 t4 t5
      generalize sqD ax ay az px py pz = sd at *
      generalize loI st (dn : Int) = i at *
      generalize htve : at0 ls i = tv at *
      generalize at0 hs i = tvh at *
      obtain ⟨a0_, a1_, a2_, a3_, a4_, a5_⟩ := six A1.out
      obtain ⟨x0_, x1_, x2_⟩ := cells3 M1.out.pos
      have hXlt := block_lt' M1.out.pos
      go_wp2_with fail
      clear a0_ a1_ a2_ a3_ a4_ a5_ x0_ x1_ x2_ hXlt
      (with_reducible refine (SQ.out w11).mono ?_)
      rintro e w12 ⟨rfl, hg⟩
      have M2 := Lib.hid (M1.out.later hg); have A2 := Lib.hid (block_kept hg A1.out rfl)
      clear hg M1 A1 SQ
      go_wp2_with fail
      (with_reducible refine (FL.out w12).mono ?_)
      rintro e w13 ⟨rfl, rfl⟩
      clear FL
      have M3 := M2; have A3 := A2
      clear M2 A2
      generalize w12 = w13 at *
      go_upto_region 11 with fail
      have PQ := M3.out.arg
      rw [HZ.out] at PQ
      have q6_ := cell_of PQ 6 _ rfl; have q7_ := cell_of PQ 7 _ rfl
      have hQl := block_lt' PQ
      obtain ⟨gl', goff', gcap', hlv, hgl, hgc, hgm, hgcell⟩ := M3.out.low.block (by omega)
      simp only [Value.slice.injEq, true_and] at hlv
      obtain ⟨rfl, rfl⟩ := hlv
      have hgi := hgcell _ di2
      rw [htve] at hgi
      have d6 := Made.cell q6_ hQl; have d7 := Made.cell q7_ hQl
      have dgi := Made.cell hgi hgl
      have we : IntKind.i64.wrap (t + tv) = t + tv := by rw [IntKind.wrap_i64]; omega
      clear PQ hgcell
      refine Rg.region (Made w13) Makes (fun _ => none) (fun _ => false) 0 12 (by kernel_rfl) (by kernel_rfl) (by kernel_rfl) (by kernel_rfl) (by kernel_rfl) (by kernel_rfl) (by kernel_rfl) Makes.size (Made.start w13) (fun hne => ?_)
      (repeat (refine rLexL_quiet (by rfl) (by rfl) (by rfl) (by rfl) ?_; go_big_quiet_step (fail); refine wpQuiet_nil ?_))
      rintro w14 hg14 - -
      have hg14 : w13.grownBy w14 none := hg14
      have M4 := Lib.hid (M3.out.later hg14)
      have hA4 := block_kept hg14 A3.out rfl
      have hF4 := frozen3 hA4
      obtain ⟨b0_, b1_, b2_, b3_, b4_, b5_⟩ := six hA4
      have A5 := Lib.hid (set_block hA4 3 (.int .i64 (t + tv)))
      have M5 := Lib.hid (M4.out.other (a := A) (gb_setCell (gb_refl w14 _) (a := ⟨A, 3, none⟩) (.inr rfl) (.int .i64 (t + tv))) hXA hvb)
      clear hg14 hA4 M3 A3 M4 d6 d7 dgi q6_ q7_ hne we hgi hQl hgl
      go_wp2_with fail
      generalize w14.setCell ⟨A, 3, none⟩ (.int .i64 (t + tv)) = w15 at *
      clear hF4 b0_ b1_ b2_ b3_ b4_ b5_
      obtain ⟨E, hE, hE0, hE1⟩ : ∃ E : Int, E = t + tv ∧ 0 ≤ E ∧ E ≤ 40000 := ⟨_, rfl, by omega, by omega⟩
      rw [← hE] at A5
      have HE := Lib.hid hE
      clear hE
      have hAq : A ≠ q := by have := M5.out.order; omega
      obtain ⟨s0_, s1_, s2_, s3_, s4_, s5_⟩ := six A5.out
      have d3 := Pulled.cell (B := q) (p := q) s3_ (block_lt' A5.out) hAq
      refine Rg.region (Pulled w15 q q) (Pull q) (fun k => if k = 3 then some (isInt fun x => 0 ≤ x ∧ x < 6) else none) (fun _ => false) 0 5 (by kernel_rfl) (by kernel_rfl) (by kernel_rfl) (by kernel_rfl) (by kernel_rfl) (by kernel_rfl) (by kernel_rfl) Pull.size (Pulled.start M5.out.src) (fun hne => ?_)
      (repeat (refine rLexL_quiet (by rfl) (by rfl) (by rfl) (by rfl) ?_; go_big_quiet_step (fail); refine wpQuiet_nil ?_))
      refine rg_draw (fun x => 0 ≤ x ∧ x < 6) 26 #[.pointer (some ⟨q, 0, none⟩), .int .i64 6] rfl rfl (fun _ => by go_simp) (fun u hu _ => n_any q u q _ hu.2 (by omega) (by omega)) (fun n8 hn8 => ?_)
      simp only [Act.put, List.setIfInBounds_toArray, List.set_cons_zero, List.set_cons_succ]
      have wg : IntKind.i64.wrap (E + n8) = E + n8 := by rw [IntKind.wrap_i64]; omega
      (repeat (refine rLexL_quiet (by rfl) (by rfl) (by rfl) (by rfl) ?_; go_big_quiet_step (fail); refine wpQuiet_nil ?_))
      rintro w16 ⟨hg16, hs16⟩ - -
      have M6 := Lib.hid (M5.out.draw hg16 hs16)
      have hA6 := block_keptp hg16 A5.out hAq
      have hF6 := frozen3 hA6
      obtain ⟨b0_, b1_, b2_, b3_, b4_, b5_⟩ := six hA6
      have hsz : (w16.setCell ⟨A, 4, none⟩ (.int .i64 (E + n8))).heap.size = w16.heap.size := by simp [World.setCell]
      have A7 := Lib.hid (set_block hA6 4 (.int .i64 (E + n8)))
      have M7 := Lib.hid (M6.out.other (a := A) (gb_setCell (gb_refl w16 _) (a := ⟨A, 4, none⟩) (.inr rfl) (.int .i64 (E + n8))) hXA hvb)
      clear hg16 hs16 hA6 M5 A5 M6 d3 s0_ s1_ s2_ s3_ s4_ s5_ hne wg
      have hlen6 : (flatP l).length = l.length * 6 := flatP_length l
      have HOWN := Lib.hid M7.out.own
      have hXl := block_lt' M7.out.pos
      have hll : l.length ≤ 40 := by omega
      generalize hfl : flatP l = fl at *
      have HFL := Lib.hid hfl
      clear hfl
      go_wp2_with (at_builtin; generalize w16.setCell ⟨A, 4, none⟩ (.int .i64 (E + n8)) = w17 at *; refine wpList_push rfl _ _ 31 rfl (X + 1) 51 (.agg #[.int .i64 0, .int .i64 0, .int .i64 0, .int .i64 0, .int .i64 0, .int .i64 0]) 6 48 Tryz.underlying31 Tryz.infoPhaseT rfl (by decide) (by decide) (.slice oa l.length oc) l.length fl rfl (HOWN.out.alloc _) w16.heap.size 1 [.int .i64 ax, .int .i64 ay, .int .i64 az, .int .i64 E, .int .i64 (E + n8), .int .i64 an] 51 rfl (by rw [← hsz]; exact heap_alloc_new _ _) rfl (by simp [Value.oneCell']) (by omega) (by simp; omega) ?_; refine Hid.out ?_)
      refine Lib.hid ?_
      intro v' w9 hown' hg'
      have MN := Lib.hid ((M7.out.later (gb_alloc (gb_refl w17 none) (.cells #[.int .i64 ax, .int .i64 ay, .int .i64 az, .int .i64 E, .int .i64 (E + n8), .int .i64 an] 51))).push (a := ⟨ax, ay, az, E, (E + n8), an⟩) hg' (by rw [HFL.out]; exact hown'))
      obtain ⟨na, nc, rfl⟩ := owns_slice hown'
      clear hown' hg' HOWN
      go_wp2_with fail
      go_roundw
      case rel =>
        refine ⟨m - 1, l ++ [⟨ax, ay, az, E, (E + n8), an⟩], by congr 1; omega, by simp; omega, ?_, MN.out⟩
        intro a ha
        rcases List.mem_append.1 ha with h | h
        · exact GOOD.out a h
        · rw [List.mem_singleton.1 h]; exact ⟨⟨hph.1, by show 0 ≤ E; omega, by show E ≤ E + n8; omega, by show E + n8 ≤ _; omega, by show 1 ≤ an; omega, by show an ≤ 4; omega⟩, hfit.out _ _ HE.out (by omega)⟩
      case measure => simp [intOf]; omega
    · have hmd_ : decide ((0 : Int) < (m : Int)) = false := decide_eq_false (by omega)
      have HINW : Hid (∀ u, w3.grownBy u (some q) → AscIn ⟨x0, y0, z0, x1, y1, z1, st, ls, hs, cap, 0, 2000, lim, 2⟩ (.slice la ls.length lc) (.slice ha hs.length hc) u) := Lib.hid (fun u hg => ⟨HIN.out.l.later hg (fun b off len cap e _ => by simp only [Value.slice.injEq] at e; have := HFR.out b off (.inl e.1); simp; omega), HIN.out.h.later hg (fun b off len cap e _ => by simp only [Value.slice.injEq] at e; have := HFR.out b off (.inr e.1); simp; omega)⟩)
      obtain ⟨n, hn⟩ : ∃ n, l.length = n := ⟨_, rfl⟩
      have HN := Lib.hid hn
      have hown := MR.out.own
      rw [hn] at hown ⊢
      have hn27 : 2 ≤ n ∧ n ≤ 7 := by omega
      obtain ⟨g, gcc, hv, hgB, hgl⟩ := hown.form (by omega)
      simp only [Value.slice.injEq, true_and] at hv
      obtain ⟨rfl, rfl⟩ := hv
      have HOW := Lib.hid hown
      have HARG : Hid (wr.heap[z]? = some (.cells #[.int .i64 x0, .int .i64 y0, .int .i64 z0, .int .i64 x1, .int .i64 y1, .int .i64 z1, .int .i64 st, .slice la ls.length lc, .slice ha hs.length hc, .int .i64 cap, .int .i64 0, .int .i64 2000, .int .i64 lim, .int .i64 2] 30 (0, 0))) := Lib.hid (by have h := MR.out.arg; rw [HZ.out] at h; exact h)
      have HGA : Hid (X + 1 ≤ g ∧ z < X) := Lib.hid ⟨hgB, by have := MR.out.order; have := HZ.out; omega⟩
      have HG3 := Lib.hid MR.out.grown
      have GR := Lib.hid (gb_new G3.out HG3.out (fun p hp => by simp at hp; omega))
      have GOODL := Lib.hid GOOD.out
      have HPM0 : Hid (l.Perm l) := Lib.hid (List.Perm.refl _)
      have HZQ : Hid (w.heap.size ≤ z) := Lib.hid (by have := HXZ.out; omega)
      clear hown hn MR GOOD hgB hgl HIN HFR G3 hlm hkn
      generalize wr = wA at *
      go_wp2_with fail
      go_loopw [71] (fun iv wr => ∃ (k : Nat) (l' : List Ph), k ≤ n ∧ iv = .int .i64 k ∧ l'.Perm l ∧ wr.ownsRow (X + 1) 51 6 (.slice (some ⟨g, 0, none⟩) n oc) n (flatP l') ∧ wA.grownBy wr (some g)) (fun iv _ => n - (intOf iv).toNat)
      case atStart => exact ⟨0, l, by omega, rfl, HPM0.out, HOW.out, gb_refl _ _⟩
      case round =>
        obtain ⟨k, l', hk, rfl, hpl, hown, hgr⟩ := hrel
        have PM := Lib.hid hpl; have OW := Lib.hid hown; have GW := Lib.hid hgr
        have hll : l'.length = n := by rw [hpl.length_eq]; exact HN.out
        clear hpl hown hgr HPM0 HOW
        generalize wr = wB at *
        have GAB := Lib.hid (gb_new GR.out GW.out (fun q e => by simp at e; have := HGA.out; have := HZQ.out; omega))
        by_cases hlt : k < n
        · have hkd : decide ((k : Int) < (n : Int)) = true := decide_eq_true (by omega)
          by_cases hkl : k < l1.length
          rotate_left
          · have hkd2 : decide ((k : Int) < (l1.length : Int)) = false := decide_eq_false (by omega)
            go_wp2_with fail
            go_roundw
            case rel => exact ⟨k + 1, l', by omega, by go_num, PM.out, OW.out, GW.out⟩
            case measure => simp [intOf]; omega
          have hkd2 : decide ((k : Int) < (l1.length : Int)) = true := decide_eq_true (by omega)
          have hkx := HX1.out l1[k] (List.getElem_mem hkl)
          obtain ⟨ob, ooff, ocap, hov, hob, ho1, ho2, ho3⟩ := (HL1.out.later (row := none) GAB.out (by simp)).block (by omega)
          simp only [Value.slice.injEq, true_and] at hov
          obtain ⟨rfl, rfl⟩ := hov
          have c0_ := ho3 k hkl
          rw [show at0 l1 k = l1[k] by simp [at0, hkl]] at c0_
          generalize l1[k] = ok at *
          have MOD := Lib.hid (fun u => mod_any ok n u (by omega) (by omega))
          obtain ⟨m, hm, hmp⟩ : ∃ m : Nat, ok % (n : Int) = m ∧ m < n := ⟨(ok % (n : Int)).toNat, by have := Int.emod_nonneg ok (show (n : Int) ≠ 0 by omega); omega, by have := Int.emod_nonneg ok (show (n : Int) ≠ 0 by omega); have := Int.emod_lt_of_pos ok (show (0 : Int) < n by omega); omega⟩
          rw [hm] at MOD
          clear ho3 hm
          go_wp2_with fail
          (with_reducible refine (MOD.out wB).mono ?_)
          rintro e wM ⟨rfl, hwM⟩
          subst hwM
          clear c0_ MOD hkx hob ho1 ho2
          obtain ⟨OS, hgs⟩ := owns_swap (by rw [hll]; exact OW.out) k m (by omega) (by omega)
          rw [swapPh_length, hll] at OS
          have dd := gb_drew (gb_refl ((wB.setCells g (k * 6) (phAt l' m).cells).setCells g (m * 6) (phAt l' k).cells) none)
          have O11 := Lib.hid (owns_keep OS dd); have G11 := Lib.hid (gb_trans (gb_trans GW.out hgs) (gb_none dd))
          have PM2 := Lib.hid ((swapPh_perm l' (i := k) (k := m) (by omega) (by omega)).trans PM.out)
          obtain ⟨i0_, i1_, i2_, i3_, i4_, i5_⟩ := owns_phA OW.out k (by omega)
          obtain ⟨k0_, k1_, k2_, k3_, k4_, k5_⟩ := owns_phA OW.out m (by omega)
          have hf := fun j => OW.out.frozenAt j
          have hgl := (OW.out.lt g rfl).2
          have hmd : decide ((m : Int) < (n : Int)) = true := decide_eq_true (by omega)
          clear OS hgs dd
          by_cases hkm : k = m
          · subst hkm
            clear k0_ k1_ k2_ k3_ k4_ k5_
            go_wp2_with fail
            go_region
            clear hf i0_ i1_ i2_ i3_ i4_ i5_
            go_wp2_with fail
            go_roundw
            case rel => exact ⟨k + 1, swapPh l' k k, by omega, by go_num, PM2.out, O11.out, G11.out⟩
            case measure => simp [intOf]; omega
          · obtain ⟨n0_, n1_, n2_, n3_, n4_, n5_, n6_, n7_, n8_, n9_, n10_, n11_, n12_, n13_, n14_, n15_, n16_, n17_, n18_, n19_, n20_, n21_, n22_, n23_, n24_, n25_, n26_, n27_, n28_, n29_, n30_, n31_, n32_, n33_, n34_, n35_, n36_, n37_, n38_, n39_, n40_, n41_, n42_, n43_, n44_, n45_, n46_, n47_, n48_, n49_, n50_, n51_, n52_, n53_, n54_, n55_, n56_, n57_, n58_, n59_, n60_, n61_, n62_, n63_, n64_, n65_, n66_, n67_, n68_, n69_, n70_, n71_⟩ := apart72 hkm
            go_wp2_with fail
            go_region
            clear hf i0_ i1_ i2_ i3_ i4_ i5_ k0_ k1_ k2_ k3_ k4_ k5_ n0_ n1_ n2_ n3_ n4_ n5_ n6_ n7_ n8_ n9_ n10_ n11_ n12_ n13_ n14_ n15_ n16_ n17_ n18_ n19_ n20_ n21_ n22_ n23_ n24_ n25_ n26_ n27_ n28_ n29_ n30_ n31_ n32_ n33_ n34_ n35_ n36_ n37_ n38_ n39_ n40_ n41_ n42_ n43_ n44_ n45_ n46_ n47_ n48_ n49_ n50_ n51_ n52_ n53_ n54_ n55_ n56_ n57_ n58_ n59_ n60_ n61_ n62_ n63_ n64_ n65_ n66_ n67_ n68_ n69_ n70_ n71_
            go_wp2_with fail
            go_roundw
            case rel => exact ⟨k + 1, swapPh l' k m, by omega, by go_num, PM2.out, O11.out, G11.out⟩
            case measure => simp [intOf]; omega
        · have hkd : decide ((k : Int) < (n : Int)) = false := decide_eq_false (by omega)
          have hPG : ∀ a ∈ l', goodPh a ∧ Fits st ls px py pz t a := fun a ha => GOODL.out a (PM.out.subset ha)
          obtain ⟨y, hy⟩ := whole_plain (A := ⟨x0, y0, z0, x1, y1, z1, st, ls, hs, cap, tol, span, lim, least⟩) HGD.out (by omega) (fun a ha => (hPG a ha).1) (by rw [hll]; omega) HPT.out (fun a ha => (hPG a ha).2)
          have hex := whole_expl (A := ⟨x0, y0, z0, x1, y1, z1, st, ls, hs, cap, tol, span, lim, least⟩) (g := grpOf l' (List.range l'.length) y) HGD.out (by omega) (fun a ha => (hPG a ha).1) (by rw [hll]; omega) (by rw [hy]; simp)
          have hwh : Asc.wh ⟨x0, y0, z0, x1, y1, z1, st, ls, hs, cap, tol, span, lim, least⟩ = ⟨x0, y0, z0, x1, y1, z1, st, ls, hs, cap, 0, 2000, lim, 2⟩ := rfl
          rw [hwh] at hy hex
          have HINB := Lib.hid (HINW.out wB (gb_newp HG3.out GW.out (fun p hp => by simp at hp; have := HGA.out; have := HZ.out; omega)))
          have AS1 := Lib.hid (associate_any ⟨x0, y0, z0, x1, y1, z1, st, ls, hs, cap, 0, 2000, lim, 2⟩ l' (.slice la ls.length lc) (.slice ha hs.length hc) (.slice (some ⟨g, 0, none⟩) n oc) wB HINB.out (by rw [hll]; exact SlC.of_owns OW.out) (by rw [hll]; omega))
          unfold AsRes at AS1
          rw [hy] at AS1
          simp only [Asc.val] at AS1
          have BB := Lib.hid ((GW.out.block z (block_lt' HARG.out) (fun e => by simp at e; have := HGA.out; omega)).trans HARG.out)
          have HPB := Lib.hid (SlC.of_owns OW.out); have HLL := Lib.hid hll; have HEX := Lib.hid hex
          clear hPG hy hex hwh hll PM OW GW HINW HG3 HARG HL1 HX1 GR GOODL
          go_wp2_with (with_reducible refine wpList_load14 rfl _ rfl z rfl _ _ BB.out rfl ?_)
          (with_reducible refine AS1.out.mono ?_)
          rintro e w10 ⟨L1, gv, lv, rfl, hG1, hM1, hL1, hg⟩
          obtain ⟨ga, gc1, rfl⟩ := hG1.1.slice
          obtain ⟨fa, fc, rfl⟩ := hL1.shape
          have hLl : L1.length = 1 := by have := congrArg List.length hM1; simpa using this
          obtain ⟨b1, o1, d1, m1, f1, e1, hb1, emv, hs1, x0_, x1_, x2_, x3_, x4_⟩ := hG1.at (i := 0) (by omega)
          have hg0 : L1[0].g = grpOf l' (List.range l'.length) y := by
            have h := congrArg (fun l => l[0]?) hM1
            simpa [hLl] using h
          rw [hLl] at e1 ⊢
          simp only [Value.slice.injEq, true_and] at e1
          obtain ⟨rfl, rfl⟩ := e1
          rw [hg0] at hs1 x0_ x1_ x2_ x3_ x4_
          have hml := (grpOf_len l' (List.range l'.length) y).trans (List.length_range.trans HLL.out)
          rw [hml] at hs1 x0_
          have HEX2 := HEX.out
          generalize grpOf l' (List.range l'.length) y = gg at *
          obtain ⟨ms, qx, qy, qz, qt⟩ := gg
          simp only [Nat.zero_mul, Nat.add_zero] at hs1 x0_ x1_ x2_ x3_ x4_ HEX2
          simp only [List.length_nil]
          have W10 := Lib.hid (gb_trans GAB.out hg); have HS1 := Lib.hid hs1; have B10 := Lib.hid (block_kept hg BB.out rfl)
          have XP := Lib.hid (fun (u : World) (hu : w10.grownBy u none) => explains_any ⟨x0, y0, z0, x1, y1, z1, st, ls, hs, cap, 0, 2000, lim, 2⟩ l' ms qx qy qz qt (.slice la ls.length lc) (.slice ha hs.length hc) (.slice (some ⟨g, 0, none⟩) n oc) (.slice m1 n f1) u (HINB.out.after (gb_trans hg hu)) (by rw [HLL.out]; exact HPB.out.after (gb_trans hg hu)) (hs1.after hu) (by rw [HLL.out]; omega))
          rw [HEX2] at XP
          simp only [Asc.val] at XP
          clear hg hG1 hM1 hL1 AS1 BB hLl emv hg0 hml hs1 HEX HEX2 HINB HPB GAB
          have hnn : ((n : Int) != (n : Int)) = false := by simp
          go_wp2_with fail
          clear hnn
          have v0_ := Made.cell x0_ hb1; have v1_ := Made.cell x1_ hb1; have v2_ := Made.cell x2_ hb1; have v3_ := Made.cell x3_ hb1; have v4_ := Made.cell x4_ hb1
          refine Rg.region (Made w10) Makes (fun k_ => if k_ = 0 then some (isV (.agg #[.int .i64 x0, .int .i64 y0, .int .i64 z0, .int .i64 x1, .int .i64 y1, .int .i64 z1, .int .i64 st, .slice la ls.length lc, .slice ha hs.length hc, .int .i64 cap, .int .i64 0, .int .i64 2000, .int .i64 lim, .int .i64 2])) else if k_ = 5 then some (isV (.bool true)) else if k_ = 7 then some (isV (.bool true)) else none) (fun _ => false) 0 10 (by kernel_rfl) (by kernel_rfl) (by kernel_rfl) (by kernel_rfl) (by kernel_rfl) (by kernel_rfl) (by kernel_rfl) Makes.size (Made.start w10) (fun hne => ?_)
          refine rg_load14 (fun u => gb_refl u none) _ z #[.int .i64 x0, .int .i64 y0, .int .i64 z0, .int .i64 x1, .int .i64 y1, .int .i64 z1, .int .i64 st, .slice la ls.length lc, .slice ha hs.length hc, .int .i64 cap, .int .i64 0, .int .i64 2000, .int .i64 lim, .int .i64 2] 30 B10.out rfl rfl (by rfl) rfl rfl (by rfl) ?_
          simp only [Act.put, List.setIfInBounds_toArray, List.set_cons_zero, List.set_cons_succ]
          (repeat (refine rLexL_quiet (by rfl) (by rfl) (by rfl) (by rfl) ?_; go_big_quiet_step (fail); refine wpQuiet_nil ?_))
          refine rg_fix (.bool true) 27 #[.agg #[.int .i64 x0, .int .i64 y0, .int .i64 z0, .int .i64 x1, .int .i64 y1, .int .i64 z1, .int .i64 st, .slice la ls.length lc, .slice ha hs.length hc, .int .i64 cap, .int .i64 0, .int .i64 2000, .int .i64 lim, .int .i64 2], .slice (some ⟨g, 0, none⟩) n oc, .agg #[.slice m1 n f1, .int .i64 qx, .int .i64 qy, .int .i64 qz, .int .i64 qt]] rfl rfl rfl (fun _ => by go_simp) (fun u hu => XP.out u hu) ?_
          simp only [Act.put, List.setIfInBounds_toArray, List.set_cons_zero, List.set_cons_succ]
          (repeat (refine rLexL_quiet (by rfl) (by rfl) (by rfl) (by rfl) ?_; go_big_quiet_step (fail); refine wpQuiet_nil ?_))
          refine rg_fix (.bool true) 10 #[] rfl rfl rfl (fun _ => by go_simp) (fun u hu => awake30_any u) ?_
          simp only [Act.put, List.setIfInBounds_toArray, List.set_cons_zero, List.set_cons_succ]
          (repeat (refine rLexL_quiet (by rfl) (by rfl) (by rfl) (by rfl) ?_; go_big_quiet_step (fail); refine wpQuiet_nil ?_))
          rintro w20 hg20 - -
          refine wpList_nil ?_
          have GE := Lib.hid (gb_end (gb_trans W10.out hg20))
          clear hg20 hne v0_ v1_ v2_ v3_ v4_ x0_ x1_ x2_ x3_ x4_ hb1 XP W10
          go_wp2_with fail
          go_ret
          exact ⟨rfl, GE.out⟩
end Go.Proofs.YtiebljanpnadjaaGreat
