import Derived.Test.YtiebljanpnadjaaGreatPgAsD
namespace Go.Proofs.YtiebljanpnadjaaGreat
set_option linter.all false
open Go.RowKit Rg
set_option maxRecDepth 100000 in
set_option maxHeartbeats 20000000 in
theorem phases_any (A : Asc) (B : Nat) (w : World) (p : Nat) (side most : Int) (la ha : Option Addr) (lc hc : Nat) (h : Src B w p) (hA : AscIn A (.slice la A.ls.length lc) (.slice ha A.hs.length hc) w) (hgd : AscGood side A) (hs1 : side ≤ 40) (hm0 : 0 ≤ most) (hm1 : most ≤ 30) (hlp : ∀ b off, la = some ⟨b, off, none⟩ → b ≠ p) :
  Calls Tryz.prog 13 #[.pointer (some ⟨p, 0, none⟩), .agg (A.val (.slice la A.ls.length lc) (.slice ha A.hs.length hc)), most] w (NewPhs B p most w) := by
 obtain ⟨x0, y0, z0, x1, y1, z1, step, ls, hs, cap, tol, span, lim, least⟩ := A
 simp only [Asc.val] at *
 have HB := zH hgd.box; have HT := zH hgd.tab; have HR := zH (reach_small hgd.tab.1 hgd.st hgd.rea hgd.len); have HLN := zH hgd.len; have HLO := zH hgd.low
 simp only [] at HB HT HR HLN HLO
 have hp := h.lt
 have LOW := zH hA.l
 have LAT : Hid (∀ b off len cap, Value.slice la ls.length lc = .slice (some ⟨b, off, none⟩) len cap → b < w.heap.size ∧ b ≠ p) := zH (fun b off len cap e => by
  obtain ⟨b', off', cap', e', hb', -⟩ := LOW.out.block (by have := HT.out.2.2.2.1; show 0 < ls.length; omega)
  rw [e'] at e
  simp only [Value.slice.injEq] at e e'
  obtain ⟨e1, -, -⟩ := e
  cases e1
  exact ⟨hb', hlp b off e'.1⟩)
 have hg0 := gb_alloc (gb_refl w none) (.cells #[x0, y0, z0, x1, y1, z1, step, .slice la ls.length lc, .slice ha hs.length hc, cap, tol, span, lim, least] 30)
 have S0 := zH (h.later hg0 (by simp)); have G0 := zH (gb_none (row := some p) hg0)
 have R0 := zH (heap_alloc_new w (.cells #[x0, y0, z0, x1, y1, z1, step, .slice la ls.length lc, .slice ha hs.length hc, cap, tol, span, lim, least] 30)); have L0 := zH (LOW.out.after hg0)
 clear h hg0 hA hgd LOW hlp
 obtain ⟨c0_, c1_, c2_, c3_, c4_, c5_, c6_, c7_, c8_, c9_, c10_, c11_, c12_, c13_⟩ := cells14 R0.out
 have hBx := HB.out
 unfold boxIn placeIn at hBx
 go_enter Tryz.func13, Tryz.ntmps13
 go_wp2_with fail
 generalize w.alloc (.cells #[x0, y0, z0, x1, y1, z1, step, .slice la ls.length lc, .slice ha hs.length hc, cap, tol, span, lim, least] 30) = w1 at *
 (with_reducible refine (point_any B w1 p x0 y0 z0 x1 y1 z1 S0.out (by omega) (by omega) (by omega)).mono ?_)
 rintro e w2 ⟨px, py, pz, rfl, hq, hS, hg⟩
 have HQ0 := zH hq; have S2 := zH hS; have R2 := zH (block_keptp hg R0.out (by omega)); have G2 := zH (gb_trans G0.out hg)
 have L2 := zH (L0.out.later hg (fun b off len cap e _ => by have := (LAT.out b off len cap e).2; simpa using this))
 clear hq hS hg c0_ c1_ c2_ c3_ c4_ c5_ c6_ c7_ c8_ c9_ c10_ c11_ c12_ c13_ hBx S0 R0 G0 L0
 go_wp2_with fail
 (with_reducible refine (n_any B w2 p 500 S2.out (by omega) (by omega)).mono ?_)
 rintro e w3 ⟨tn, rfl, htn, hS, hg⟩
 have hX : w.heap.size < w3.heap.size := by have := block_lt' R2.out; have := hg.size; omega
 have hgX := gb_alloc (gb_refl w3 none) (.cells #[px, py, pz] 23)
 have M0 : Hid (PsAt w B p w3.heap.size #[x0, y0, z0, x1, y1, z1, step, .slice la ls.length lc, .slice ha hs.length hc, cap, tol, span, lim, least] px py pz [] (.slice none 0 0) (.slice la ls.length lc) ls (w3.alloc (.cells #[px, py, pz] 23))) := Lib.hid
  ⟨block_kept hgX (block_keptp hg R2.out (by omega)) rfl, heap_alloc_new _ _, World.ownsRow_nil _ _ _ _, (L2.out.later hg (fun b off len cap e _ => by have := (LAT.out b off len cap e).2; simpa using this)).after hgX, LAT.out, ⟨hp.2, hX⟩, hS.later hgX (by simp), gb_trans (gb_trans G2.out hg) (gb_none hgX)⟩
 clear hS hg hgX S2 R2 G2 L2 hX
 have hmw : IntKind.i64.wrap (most + 1) = most + 1 := by rw [IntKind.wrap_i64]; omega
 go_wp2_with fail
 generalize w3.alloc (.cells #[px, py, pz] 23) = w4 at *
 generalize w3.heap.size = X at *
 (with_reducible refine (n_any B w4 p (most + 1) M0.out.src (by omega) (by omega)).mono ?_)
 rintro e w5 ⟨kn, rfl, hkn, hS, hg⟩
 have M1 := zH (M0.out.draw hg hS)
 clear hS hg M0 hmw
 go_wp2_with fail
 go_loopw [7, 9, 10] (fun vp tv kv wr => ∃ (m : Nat) (l : List Ph) (t px py pz : Int), kv = .int .i64 (m : Int) ∧ tv = .int .i64 t ∧ (l.length : Int) + m = kn ∧ (0 ≤ t ∧ t ≤ 1500 + 900 * (l.length : Int)) ∧ (x0 ≤ px ∧ px ≤ x1 ∧ y0 ≤ py ∧ py ≤ y1 ∧ z0 ≤ pz ∧ pz ≤ z1) ∧ (∀ a ∈ l, soonPh a) ∧ PsAt w B p X #[x0, y0, z0, x1, y1, z1, step, .slice la ls.length lc, .slice ha hs.length hc, cap, tol, span, lim, least] px py pz l vp (.slice la ls.length lc) ls wr) (fun _ _ kv _ => (intOf kv).toNat)
 case atStart => exact ⟨kn.toNat, [], 1000 + tn, px, py, pz, by rw [Int.toNat_of_nonneg (by omega)], rfl, by simp; omega, ⟨by omega, by simp; omega⟩, by have := HQ0.out; omega, by simp, M1.out⟩
 case round =>
  obtain ⟨m, l, t, px, py, pz, rfl, rfl, hlm, ht, hq, hgood, hM⟩ := hrel
  have MR := zH hM; have GOOD := zH hgood; have HQ := zH hq
  obtain ⟨oa, oc, rfl⟩ := owns_slice hM.own
  clear hM hgood M1 hq
  by_cases hm : 0 < m
  ·skip
   go_wp2_with fail
   (with_reducible refine (phase_any B wr p MR.out.src).mono ?_)
   rintro e w10 ⟨ax, ay, az, ae, al, an, rfl, hph, hS, hg⟩
   have hvb : (Value.slice oa l.length oc).ownBlock ≠ some w10.heap.size := fun e => by have := (MR.out.own.lt _ e).2; have := hg.size; omega
   have hXA : X < w10.heap.size := by have := block_lt' MR.out.pos; have := hg.size; omega
   have M1 := zH ((MR.out.draw hg hS).later (gb_alloc (gb_refl w10 none) (.cells #[ax, ay, az, ae, al, an] 51)))
   have A1 := zH (heap_alloc_new w10 (.cells #[ax, ay, az, ae, al, an] 51))
   clear hS hg MR
   go_wp2_with fail
   generalize w10.alloc (.cells #[ax, ay, az, ae, al, an] 51) = w11 at *
   generalize w10.heap.size = A at *
   (with_reducible refine (n_any B w11 p 6 M1.out.src (by omega) (by omega)).mono ?_)
   rintro e w12 ⟨k6, rfl, hk6, hS, hg⟩
   have hAp : A ≠ p := by have := M1.out.order; omega
   have M2 := zH (M1.out.draw hg hS); have A2 := zH (block_keptp hg A1.out hAp)
   clear hS hg M1 A1
   by_cases hk0 : k6 = 0
   ·have hk0b : (k6 == 0) = true := by rw [hk0]; rfl
    obtain ⟨c0_, c1_, c2_, c3_, c4_, c5_, c6_, c7_, c8_, c9_, c10_, c11_, c12_, c13_⟩ := cells14 M2.out.arg
    have hBx := HB.out
    unfold boxIn placeIn at hBx
    clear hk0 hk6
    go_wp2_with fail
    (with_reducible refine (point_any B w12 p x0 y0 z0 x1 y1 z1 M2.out.src (by omega) (by omega) (by omega)).mono ?_)
    rintro e w13 ⟨ux, uy, uz, rfl, hq, hS, hg⟩
    have HQ := zH hq
    have M3 := zH (M2.out.draw hg hS); have A3 := zH (block_keptp hg A2.out hAp)
    clear hq hS hg M2 A2 hBx c0_ c1_ c2_ c3_ c4_ c5_ c6_ c7_ c8_ c9_ c10_ c11_ c12_ c13_
    go_wp2_with fail
    (with_reducible refine (n_any B w13 p 900 M3.out.src (by omega) (by omega)).mono ?_)
    rintro e w14 ⟨n9, rfl, hn9, hS, hg⟩
    have M4 := zH (M3.out.draw hg hS); have A4 := zH (block_keptp hg A3.out hAp)
    have PX := zH M4.out.pos
    have M5 := zH (M4.out.move (qx := ux) (qy := uy) (qz := uz) (gb_setRow (cs := #[ux, uy, uz]) (gb_refl w14 _) (.inr rfl)) (setRow_at PX.out)); have A5 := zH ((setRow_far (g := X) (cs := #[ux, uy, uz]) (by omega)).trans A4.out)
    have ht9 : 0 ≤ t + n9 ∧ t + n9 ≤ 1500 + 900 * ((l.length : Int) + 1) := by omega
    have hwt : IntKind.i64.wrap (t + n9) = t + n9 := by rw [IntKind.wrap_i64]; omega
    clear hS hg M3 A3 M4 A4
    go_wp2_with (with_reducible refine wpList_store_row rfl _ _ _ rfl X #[ux, uy, uz] rfl rfl _ _ PX.out (by kernel_rfl) rfl (by simp [Value.oneCell']) ?_)
    have M2 := M5; have A2 := A5
    clear M5 A5 PX hwt hk0b
    generalize w14.setRow X #[ux, uy, uz] = w12 at *
    generalize t + n9 = t9 at *
    have hBx := HB.out; have hQx := HQ.out
    unfold boxIn placeIn at hBx
    unfold phaseIn placeIn at hph
    have vx : -120 ≤ ax - ux ∧ ax - ux ≤ 120 := by omega
    have vy : -120 ≤ ay - uy ∧ ay - uy ≤ 120 := by omega
    have vz : -60 ≤ az - uz ∧ az - uz ≤ 60 := by omega
    clear hBx hQx
    have sx := sq_abs vx.1 vx.2; have sy := sq_abs vy.1 vy.2; have sz := sq_abs vz.1 vz.2
    have nx := sq_nn (ax - ux); have ny := sq_nn (ay - uy); have nz := sq_nn (az - uz)
    have SX := zH (fun (u : World) => sqk_any (ax - ux) u (by omega) (by omega))
    have SY := zH (fun (u : World) => sqk_any (ay - uy) u (by omega) (by omega))
    have SZ := zH (fun (u : World) => sqk_any (az - uz) u (by omega) (by omega))
    generalize (ax - ux) * (ax - ux) = qx at *
    generalize (ay - uy) * (ay - uy) = qy at *
    generalize (az - uz) * (az - uz) = qz at *
    have hAlt := block_lt' A2.out; have hXlt := block_lt' M2.out.pos
    go_wp2_with fail
    go_loopw [12] (fun v wr => ∃ d : Nat, d ≤ 200 ∧ v = .int .i64 d ∧ (d = 0 ∨ ((d : Int) - 1) * ((d : Int) - 1) < qx + qy + qz) ∧ w12.grownBy wr none) (fun v _ => 201 - (intOf v).toNat)
    case atStart => exact ⟨0, by omega, rfl, .inl rfl, gb_refl _ _⟩
    case round =>
     obtain ⟨d, hd, rfl, hdl, hgr⟩ := hrel
     have hdd0 := sq_nn (d : Int)
     have hdd1 := sq_abs (d := (d : Int)) (m := 200) (by omega) (by omega)
     have HSM : Hid (d = 200 → qx + qy + qz ≤ 199 * 199) := zH (fun _ => by omega)
     have HD2 : Hid (((d : Int) + 1 - 1) * ((d : Int) + 1 - 1) = (d : Int) * (d : Int)) := zH (by rw [Int.add_sub_cancel])
     have HLD : Hid (qx + qy + qz ≤ (d : Int) * (d : Int) ∨ ((d : Int) * (d : Int) < qx + qy + qz ∧ d < 200)) := zH (by
      rcases Int.lt_or_le ((d : Int) * (d : Int)) (qx + qy + qz) with h | h
      ·right
       refine ⟨h, ?_⟩
       rcases Nat.lt_or_ge d 200 with h2 | h2
       ·exact h2
       ·exfalso
        have : (d : Int) = 200 := by omega
        rw [this] at h; omega
      ·exact .inl h)
     have wdd : wrap64 ((d : Int) * (d : Int)) = (d : Int) * (d : Int) := IntWalk.wrap64_in _ (by omega)
     have MR := zH (M2.out.later hgr); have AR := zH (block_kept hgr A2.out rfl)
     have HGR := zH hgr
     obtain ⟨a0_, a1_, a2_, a3_, a4_, a5_⟩ := six AR.out
     obtain ⟨x0_, x1_, x2_⟩ := cells3 MR.out.pos
     have u1 := fun (x : Up wr) (c : Nat) => ever_cell x (b := A) (o := c) (block_lt' AR.out)
     have u2 := fun (x : Up wr) (c : Nat) => ever_cell x (b := X) (o := c) (block_lt' MR.out.pos)
     clear hgr hdl
     generalize hdd : (d : Int) * (d : Int) = dd at *
     rcases HLD.out with hle | ⟨hlt, hd2⟩
     rotate_left
     ·go_wp2_with fail
      (refine wp_region_grown (by kernel_rfl) (by kernel_rfl) ?_; (repeat (go_big_quiet_step ((go_at_call 38; first | (with_reducible exact Calls.grown_same (SX.out _)) | (with_reducible exact Calls.grown_same (SY.out _)) | (with_reducible exact Calls.grown_same (SZ.out _)))))); refine wpQuiet_nil ?_; intro wq hq)
      have HGN := zH (gb_trans HGR.out hq)
      clear hq u1 u2 a0_ a1_ a2_ a3_ a4_ a5_ x0_ x1_ x2_
      go_wp2_with fail
      go_roundw
      case rel => exact ⟨d + 1, by omega, by go_num, .inr (by push_cast; rw [HD2.out]; exact hlt), HGN.out⟩
      case measure => simp [intOf]; omega
     ·go_wp2_with fail
      (refine wp_region_grown (by kernel_rfl) (by kernel_rfl) ?_; (repeat (go_big_quiet_step ((go_at_call 38; first | (with_reducible exact Calls.grown_same (SX.out _)) | (with_reducible exact Calls.grown_same (SY.out _)) | (with_reducible exact Calls.grown_same (SZ.out _)))))); refine wpQuiet_nil ?_; intro wq hq)
      have M3 := zH (MR.out.later hq); have A3 := zH (block_kept hq AR.out rfl)
      go_wp2_with fail
      clear hq u1 u2 a0_ a1_ a2_ a3_ a4_ a5_ x0_ x1_ x2_ MR AR HGR hle HLD HSM HD2 hdd hdd0 hdd1 wdd SX SY SZ sx sy sz nx ny nz M2 A2
      generalize wq = w13 at *
      obtain ⟨t1, t2, t3, t4, t5, -⟩ := HT.out
      have hrs := HR.out.1
      unfold reachS at hrs
      obtain ⟨di1, di2⟩ := loI_spec (d := (d : Int)) (n := ls.length) t1 (by omega) (by omega) t4
      have htv := tOk_at HT.out di2; have hlo9 := HLO.out (loI step (d : Int))
      obtain ⟨gl, goff, gcap', hlv, hgl, hgc, hgm, hgcell⟩ := M3.out.low.block (by omega)
      simp only [Value.slice.injEq, true_and] at hlv
      obtain ⟨rfl, rfl⟩ := hlv
      have hgi := hgcell _ di2
      have hgp : gl ≠ p := (M3.out.lowAt _ _ _ _ rfl).2
      clear hgcell t2 t3 t4 t5 hrs
      generalize loI step (d : Int) = i at *
      generalize at0 ls i = tv at *
      generalize at0 hs i = tvh at *
      have pq := M3.out.arg
      have q6_ := cell_of pq 6 _ rfl; have q7_ := cell_of pq 7 _ rfl
      have hQl := block_lt' pq
      have hQp : w.heap.size ≠ p := by have := M3.out.order; omega
      have d6 := Pulled.cell (B := B) (p := p) q6_ hQl hQp; have d7 := Pulled.cell (B := B) (p := p) q7_ hQl hQp
      have dgi := Pulled.cell (B := B) (p := p) hgi hgl hgp
      clear pq
      have we : IntKind.i64.wrap (t9 + tv) = t9 + tv := by rw [IntKind.wrap_i64]; omega
      refine Rg.rR (Pulled w13 B p) (Pull p) (fun k => if k = 13 then some (isInt fun x => 0 ≤ x ∧ x < 6) else none) (fun _ => false) 0 15 Pull.size (Pulled.start M3.out.src) (fun hne => ?_)
      (repeat (refine rQ ?_; go_big_quiet_step (fail); refine wpQuiet_nil ?_))
      refine rg_draw (fun x => 0 ≤ x ∧ x < 6) 26 #[.pointer (some ⟨p, 0, none⟩), (6:Int)] rfl rfl (fun _ => by go_simp) (fun u hu _ => n_any B u p _ hu.2 (by omega) (by omega)) (fun n6 hn6 => ?_)
      simp only [zA, zB, zC, zD, zX]
      have wf : IntKind.i64.wrap (t9 + tv + n6) = t9 + tv + n6 := by rw [IntKind.wrap_i64]; omega
      (repeat (refine rQ ?_; go_big_quiet_step (fail); refine wpQuiet_nil ?_))
      rintro w14 ⟨hg14, hs14⟩ - -
      have M4 := zH (M3.out.draw hg14 hs14)
      have hA4 := block_keptp hg14 A3.out hAp
      have hF4 := frozen3 hA4
      obtain ⟨b0_, b1_, b2_, b3_, b4_, b5_⟩ := six hA4
      have A5 := zH (set_block hA4 3 (.int .i64 (t9 + tv + n6)))
      have M5 := zH (M4.out.other (a := A) (gb_setCell (gb_refl w14 _) (a := ⟨A, 3, none⟩) (.inr rfl) (.int .i64 (t9 + tv + n6))) hXA hvb)
      clear hg14 hs14 hA4 M3 A3 M4 d6 d7 dgi q6_ q7_ hne we wf hgi
      go_wp2_with fail
      generalize w14.setCell ⟨A, 3, none⟩ (.int .i64 (t9 + tv + n6)) = w15 at *
      clear hF4 b0_ b1_ b2_ b3_ b4_ b5_
      obtain ⟨E, hE, hE0, hE1⟩ : ∃ E : Int, E = t9 + tv + n6 ∧ 0 ≤ E ∧ E ≤ 40000 := ⟨_, rfl, by omega, by omega⟩
      rw [← hE] at A5
      clear hE
      obtain ⟨s0_, s1_, s2_, s3_, s4_, s5_⟩ := six A5.out
      have d3 := Pulled.cell (B := B) (p := p) s3_ (block_lt' A5.out) hAp
      refine Rg.rR (Pulled w15 B p) (Pull p) (fun k => if k = 3 then some (isInt fun x => 0 ≤ x ∧ x < 8) else none) (fun _ => false) 0 5 Pull.size (Pulled.start M5.out.src) (fun hne => ?_)
      (repeat (refine rQ ?_; go_big_quiet_step (fail); refine wpQuiet_nil ?_))
      refine rg_draw (fun x => 0 ≤ x ∧ x < 8) 26 #[.pointer (some ⟨p, 0, none⟩), (8:Int)] rfl rfl (fun _ => by go_simp) (fun u hu _ => n_any B u p _ hu.2 (by omega) (by omega)) (fun n8 hn8 => ?_)
      simp only [zA, zB, zC, zD, zX]
      have wg : IntKind.i64.wrap (E + n8) = E + n8 := by rw [IntKind.wrap_i64]; omega
      (repeat (refine rQ ?_; go_big_quiet_step (fail); refine wpQuiet_nil ?_))
      rintro w16 ⟨hg16, hs16⟩ - -
      have M6 := zH (M5.out.draw hg16 hs16)
      have hA6 := block_keptp hg16 A5.out hAp
      have hF6 := frozen3 hA6
      obtain ⟨b0_, b1_, b2_, b3_, b4_, b5_⟩ := six hA6
      have hsz : (w16.setCell ⟨A, 4, none⟩ (.int .i64 (E + n8))).heap.size = w16.heap.size := by simp [World.setCell]
      have A7 := zH (set_block hA6 4 (.int .i64 (E + n8)))
      have M7 := zH (M6.out.other (a := A) (gb_setCell (gb_refl w16 _) (a := ⟨A, 4, none⟩) (.inr rfl) (.int .i64 (E + n8))) hXA hvb)
      clear hg16 hs16 hA6 M5 A5 M6 d3 s0_ s1_ s2_ s3_ s4_ s5_ hne wg
      have hlen6 : (flatP l).length = l.length * 6 := flatP_length l
      have HOWN := zH M7.out.own
      have hXl := block_lt' M7.out.pos
      have hll : l.length ≤ 40 := by omega
      generalize hfl : flatP l = fl at *
      have HFL := zH hfl
      clear hfl
      go_wp2_with (at_builtin; generalize w16.setCell ⟨A, 4, none⟩ (.int .i64 (E + n8)) = w17 at *; refine wpList_push rfl _ _ 31 rfl (X + 1) 51 (.agg #[(0:Int), (0:Int), (0:Int), (0:Int), (0:Int), (0:Int)]) 6 48 Tryz.underlying31 Tryz.infoPhaseT rfl (by decide) (by decide) (.slice oa l.length oc) l.length fl rfl (HOWN.out.alloc _) w16.heap.size 1 [.int .i64 ax, .int .i64 ay, .int .i64 az, .int .i64 E, .int .i64 (E + n8), .int .i64 an] 51 rfl (by rw [← hsz]; exact heap_alloc_new _ _) rfl (by simp [Value.oneCell']) (by omega) (by simp; omega) ?_; refine Hid.out ?_)
      refine zH ?_
      intro v' w9 hown' hg'
      have MN := zH ((M7.out.later (gb_alloc (gb_refl w17 none) (.cells #[ax, ay, az, E, .int .i64 (E + n8), an] 51))).push (a := ⟨ax, ay, az, E, (E + n8), an⟩) hg' (by rw [HFL.out]; exact hown'))
      obtain ⟨na, nc, rfl⟩ := owns_slice hown'
      clear hown' hg' HOWN
      go_wp2_with fail
      go_roundw
      case rel =>
       refine ⟨m - 1, l ++ [⟨ax, ay, az, E, (E + n8), an⟩], t9, ux, uy, uz, by congr 1; omega, rfl, by simp; omega, ⟨by omega, by simp; omega⟩, HQ.out, ?_, MN.out⟩
       intro a ha
       rcases List.mem_append.1 ha with h | h
       ·exact GOOD.out a h
       ·rw [List.mem_singleton.1 h]; exact (by exact ⟨⟨hph.1, by show 0 ≤ E; omega, by show E ≤ E + n8; omega, by show E + n8 ≤ _; omega, by show 1 ≤ an; omega, by show an ≤ 4; omega⟩, by show E ≤ 40000; omega, by show E + n8 ≤ 50000; omega⟩)
      case measure => simp [intOf]; omega
   ·have hk0b : (k6 == 0) = false := by simpa using hk0
    by_cases hk1 : k6 = 1
    ·have hk1b : (k6 == 1) = true := by rw [hk1]; rfl
     clear hk0 hk1 hk6
     obtain ⟨c0_, c1_, c2_, c3_, c4_, c5_⟩ := six A2.out
     have hlen6 : (flatP l).length = l.length * 6 := flatP_length l
     have HOWN := zH M2.out.own
     have hXl := block_lt' M2.out.pos
     have hll : l.length ≤ 40 := by omega
     generalize hfl : flatP l = fl at *
     have HFL := zH hfl
     clear hfl
     go_wp2_with (at_builtin; refine wpList_push rfl _ _ 31 rfl (X + 1) 51 (.agg #[(0:Int), (0:Int), (0:Int), (0:Int), (0:Int), (0:Int)]) 6 48 Tryz.underlying31 Tryz.infoPhaseT rfl (by decide) (by decide) (.slice oa l.length oc) l.length fl rfl (HOWN.out.alloc _) w12.heap.size 1 [.int .i64 ax, .int .i64 ay, .int .i64 az, .int .i64 ae, .int .i64 al, .int .i64 an] 51 rfl (heap_alloc_new _ _) rfl (by simp [Value.oneCell']) (by omega) (by simp; omega) ?_; refine Hid.out ?_)
     refine zH ?_
     intro v' w9 hown' hg'
     have MN := zH ((M2.out.later (gb_alloc (gb_refl w12 none) (.cells #[ax, ay, az, ae, al, an] 51))).push (a := ⟨ax, ay, az, ae, al, an⟩) hg' (by rw [HFL.out]; exact hown'))
     obtain ⟨na, nc, rfl⟩ := owns_slice hown'
     clear hown' hg' HOWN
     go_wp2_with fail
     go_roundw
     case rel =>
      refine ⟨m - 1, l ++ [⟨ax, ay, az, ae, al, an⟩], t, px, py, pz, by congr 1; omega, rfl, by simp; omega, ⟨by omega, by simp; omega⟩, HQ.out, ?_, MN.out⟩
      intro a ha
      rcases List.mem_append.1 ha with h | h
      ·exact GOOD.out a h
      ·rw [List.mem_singleton.1 h]; exact (by unfold phaseIn at hph; exact ⟨⟨hph.1, by show 0 ≤ ae; omega, by show ae ≤ al; omega, by show al ≤ _; omega, by show 1 ≤ an; omega, by show an ≤ 4; omega⟩, by show ae ≤ 40000; omega, by show al ≤ 50000; omega⟩)
     case measure => simp [intOf]; omega
    ·have hk1b : (k6 == 1) = false := by simpa using hk1
     clear hk0 hk1 hk6
     have hBx := HB.out; have hQx := HQ.out
     unfold boxIn placeIn at hBx
     unfold phaseIn placeIn at hph
     have vx : -120 ≤ ax - px ∧ ax - px ≤ 120 := by omega
     have vy : -120 ≤ ay - py ∧ ay - py ≤ 120 := by omega
     have vz : -60 ≤ az - pz ∧ az - pz ≤ 60 := by omega
     clear hBx hQx
     have sx := sq_abs vx.1 vx.2; have sy := sq_abs vy.1 vy.2; have sz := sq_abs vz.1 vz.2
     have nx := sq_nn (ax - px); have ny := sq_nn (ay - py); have nz := sq_nn (az - pz)
     have SX := zH (fun (u : World) => sqk_any (ax - px) u (by omega) (by omega))
     have SY := zH (fun (u : World) => sqk_any (ay - py) u (by omega) (by omega))
     have SZ := zH (fun (u : World) => sqk_any (az - pz) u (by omega) (by omega))
     generalize (ax - px) * (ax - px) = qx at *
     generalize (ay - py) * (ay - py) = qy at *
     generalize (az - pz) * (az - pz) = qz at *
     have hAlt := block_lt' A2.out; have hXlt := block_lt' M2.out.pos
     go_wp2_with fail
     go_loopw [12] (fun v wr => ∃ d : Nat, d ≤ 200 ∧ v = .int .i64 d ∧ (d = 0 ∨ ((d : Int) - 1) * ((d : Int) - 1) < qx + qy + qz) ∧ w12.grownBy wr none) (fun v _ => 201 - (intOf v).toNat)
     case atStart => exact ⟨0, by omega, rfl, .inl rfl, gb_refl _ _⟩
     case round =>
      obtain ⟨d, hd, rfl, hdl, hgr⟩ := hrel
      have hdd0 := sq_nn (d : Int)
      have hdd1 := sq_abs (d := (d : Int)) (m := 200) (by omega) (by omega)
      have HSM : Hid (d = 200 → qx + qy + qz ≤ 199 * 199) := zH (fun _ => by omega)
      have HD2 : Hid (((d : Int) + 1 - 1) * ((d : Int) + 1 - 1) = (d : Int) * (d : Int)) := zH (by rw [Int.add_sub_cancel])
      have HLD : Hid (qx + qy + qz ≤ (d : Int) * (d : Int) ∨ ((d : Int) * (d : Int) < qx + qy + qz ∧ d < 200)) := zH (by
       rcases Int.lt_or_le ((d : Int) * (d : Int)) (qx + qy + qz) with h | h
       ·right
        refine ⟨h, ?_⟩
        rcases Nat.lt_or_ge d 200 with h2 | h2
        ·exact h2
        ·exfalso
         have : (d : Int) = 200 := by omega
         rw [this] at h; omega
       ·exact .inl h)
      have wdd : wrap64 ((d : Int) * (d : Int)) = (d : Int) * (d : Int) := IntWalk.wrap64_in _ (by omega)
      have MR := zH (M2.out.later hgr); have AR := zH (block_kept hgr A2.out rfl)
      have HGR := zH hgr
      obtain ⟨a0_, a1_, a2_, a3_, a4_, a5_⟩ := six AR.out
      obtain ⟨x0_, x1_, x2_⟩ := cells3 MR.out.pos
      have u1 := fun (x : Up wr) (c : Nat) => ever_cell x (b := A) (o := c) (block_lt' AR.out)
      have u2 := fun (x : Up wr) (c : Nat) => ever_cell x (b := X) (o := c) (block_lt' MR.out.pos)
      clear hgr hdl
      generalize hdd : (d : Int) * (d : Int) = dd at *
      rcases HLD.out with hle | ⟨hlt, hd2⟩
      rotate_left
      ·go_wp2_with fail
       (refine wp_region_grown (by kernel_rfl) (by kernel_rfl) ?_; (repeat (go_big_quiet_step ((go_at_call 38; first | (with_reducible exact Calls.grown_same (SX.out _)) | (with_reducible exact Calls.grown_same (SY.out _)) | (with_reducible exact Calls.grown_same (SZ.out _)))))); refine wpQuiet_nil ?_; intro wq hq)
       have HGN := zH (gb_trans HGR.out hq)
       clear hq u1 u2 a0_ a1_ a2_ a3_ a4_ a5_ x0_ x1_ x2_
       go_wp2_with fail
       go_roundw
       case rel => exact ⟨d + 1, by omega, by go_num, .inr (by push_cast; rw [HD2.out]; exact hlt), HGN.out⟩
       case measure => simp [intOf]; omega
      ·go_wp2_with fail
       (refine wp_region_grown (by kernel_rfl) (by kernel_rfl) ?_; (repeat (go_big_quiet_step ((go_at_call 38; first | (with_reducible exact Calls.grown_same (SX.out _)) | (with_reducible exact Calls.grown_same (SY.out _)) | (with_reducible exact Calls.grown_same (SZ.out _)))))); refine wpQuiet_nil ?_; intro wq hq)
       have M3 := zH (MR.out.later hq); have A3 := zH (block_kept hq AR.out rfl)
       go_wp2_with fail
       clear hq u1 u2 a0_ a1_ a2_ a3_ a4_ a5_ x0_ x1_ x2_ MR AR HGR hle HLD HSM HD2 hdd hdd0 hdd1 wdd SX SY SZ sx sy sz nx ny nz M2 A2
       generalize wq = w13 at *
       obtain ⟨t1, t2, t3, t4, t5, -⟩ := HT.out
       have hrs := HR.out.1
       unfold reachS at hrs
       obtain ⟨di1, di2⟩ := loI_spec (d := (d : Int)) (n := ls.length) t1 (by omega) (by omega) t4
       have htv := tOk_at HT.out di2; have hlo9 := HLO.out (loI step (d : Int))
       obtain ⟨gl, goff, gcap', hlv, hgl, hgc, hgm, hgcell⟩ := M3.out.low.block (by omega)
       simp only [Value.slice.injEq, true_and] at hlv
       obtain ⟨rfl, rfl⟩ := hlv
       have hgi := hgcell _ di2
       have hgp : gl ≠ p := (M3.out.lowAt _ _ _ _ rfl).2
       clear hgcell t2 t3 t4 t5 hrs
       generalize loI step (d : Int) = i at *
       generalize at0 ls i = tv at *
       generalize at0 hs i = tvh at *
       have pq := M3.out.arg
       have q6_ := cell_of pq 6 _ rfl; have q7_ := cell_of pq 7 _ rfl
       have hQl := block_lt' pq
       have hQp : w.heap.size ≠ p := by have := M3.out.order; omega
       have d6 := Pulled.cell (B := B) (p := p) q6_ hQl hQp; have d7 := Pulled.cell (B := B) (p := p) q7_ hQl hQp
       have dgi := Pulled.cell (B := B) (p := p) hgi hgl hgp
       clear pq
       have we : IntKind.i64.wrap (t + tv) = t + tv := by rw [IntKind.wrap_i64]; omega
       refine Rg.rR (Pulled w13 B p) (Pull p) (fun k => if k = 13 then some (isInt fun x => 0 ≤ x ∧ x < 6) else none) (fun _ => false) 0 15 Pull.size (Pulled.start M3.out.src) (fun hne => ?_)
       (repeat (refine rQ ?_; go_big_quiet_step (fail); refine wpQuiet_nil ?_))
       refine rg_draw (fun x => 0 ≤ x ∧ x < 6) 26 #[.pointer (some ⟨p, 0, none⟩), (6:Int)] rfl rfl (fun _ => by go_simp) (fun u hu _ => n_any B u p _ hu.2 (by omega) (by omega)) (fun n6 hn6 => ?_)
       simp only [zA, zB, zC, zD, zX]
       have wf : IntKind.i64.wrap (t + tv + n6) = t + tv + n6 := by rw [IntKind.wrap_i64]; omega
       (repeat (refine rQ ?_; go_big_quiet_step (fail); refine wpQuiet_nil ?_))
       rintro w14 ⟨hg14, hs14⟩ - -
       have M4 := zH (M3.out.draw hg14 hs14)
       have hA4 := block_keptp hg14 A3.out hAp
       have hF4 := frozen3 hA4
       obtain ⟨b0_, b1_, b2_, b3_, b4_, b5_⟩ := six hA4
       have A5 := zH (set_block hA4 3 (.int .i64 (t + tv + n6)))
       have M5 := zH (M4.out.other (a := A) (gb_setCell (gb_refl w14 _) (a := ⟨A, 3, none⟩) (.inr rfl) (.int .i64 (t + tv + n6))) hXA hvb)
       clear hg14 hs14 hA4 M3 A3 M4 d6 d7 dgi q6_ q7_ hne we wf hgi
       go_wp2_with fail
       generalize w14.setCell ⟨A, 3, none⟩ (.int .i64 (t + tv + n6)) = w15 at *
       clear hF4 b0_ b1_ b2_ b3_ b4_ b5_
       obtain ⟨E, hE, hE0, hE1⟩ : ∃ E : Int, E = t + tv + n6 ∧ 0 ≤ E ∧ E ≤ 40000 := ⟨_, rfl, by omega, by omega⟩
       rw [← hE] at A5
       clear hE
       obtain ⟨s0_, s1_, s2_, s3_, s4_, s5_⟩ := six A5.out
       have d3 := Pulled.cell (B := B) (p := p) s3_ (block_lt' A5.out) hAp
       refine Rg.rR (Pulled w15 B p) (Pull p) (fun k => if k = 3 then some (isInt fun x => 0 ≤ x ∧ x < 8) else none) (fun _ => false) 0 5 Pull.size (Pulled.start M5.out.src) (fun hne => ?_)
       (repeat (refine rQ ?_; go_big_quiet_step (fail); refine wpQuiet_nil ?_))
       refine rg_draw (fun x => 0 ≤ x ∧ x < 8) 26 #[.pointer (some ⟨p, 0, none⟩), (8:Int)] rfl rfl (fun _ => by go_simp) (fun u hu _ => n_any B u p _ hu.2 (by omega) (by omega)) (fun n8 hn8 => ?_)
       simp only [zA, zB, zC, zD, zX]
       have wg : IntKind.i64.wrap (E + n8) = E + n8 := by rw [IntKind.wrap_i64]; omega
       (repeat (refine rQ ?_; go_big_quiet_step (fail); refine wpQuiet_nil ?_))
       rintro w16 ⟨hg16, hs16⟩ - -
       have M6 := zH (M5.out.draw hg16 hs16)
       have hA6 := block_keptp hg16 A5.out hAp
       have hF6 := frozen3 hA6
       obtain ⟨b0_, b1_, b2_, b3_, b4_, b5_⟩ := six hA6
       have hsz : (w16.setCell ⟨A, 4, none⟩ (.int .i64 (E + n8))).heap.size = w16.heap.size := by simp [World.setCell]
       have A7 := zH (set_block hA6 4 (.int .i64 (E + n8)))
       have M7 := zH (M6.out.other (a := A) (gb_setCell (gb_refl w16 _) (a := ⟨A, 4, none⟩) (.inr rfl) (.int .i64 (E + n8))) hXA hvb)
       clear hg16 hs16 hA6 M5 A5 M6 d3 s0_ s1_ s2_ s3_ s4_ s5_ hne wg
       have hlen6 : (flatP l).length = l.length * 6 := flatP_length l
       have HOWN := zH M7.out.own
       have hXl := block_lt' M7.out.pos
       have hll : l.length ≤ 40 := by omega
       generalize hfl : flatP l = fl at *
       have HFL := zH hfl
       clear hfl
       go_wp2_with (at_builtin; generalize w16.setCell ⟨A, 4, none⟩ (.int .i64 (E + n8)) = w17 at *; refine wpList_push rfl _ _ 31 rfl (X + 1) 51 (.agg #[(0:Int), (0:Int), (0:Int), (0:Int), (0:Int), (0:Int)]) 6 48 Tryz.underlying31 Tryz.infoPhaseT rfl (by decide) (by decide) (.slice oa l.length oc) l.length fl rfl (HOWN.out.alloc _) w16.heap.size 1 [.int .i64 ax, .int .i64 ay, .int .i64 az, .int .i64 E, .int .i64 (E + n8), .int .i64 an] 51 rfl (by rw [← hsz]; exact heap_alloc_new _ _) rfl (by simp [Value.oneCell']) (by omega) (by simp; omega) ?_; refine Hid.out ?_)
       refine zH ?_
       intro v' w9 hown' hg'
       have MN := zH ((M7.out.later (gb_alloc (gb_refl w17 none) (.cells #[ax, ay, az, E, .int .i64 (E + n8), an] 51))).push (a := ⟨ax, ay, az, E, (E + n8), an⟩) hg' (by rw [HFL.out]; exact hown'))
       obtain ⟨na, nc, rfl⟩ := owns_slice hown'
       clear hown' hg' HOWN
       go_wp2_with fail
       go_roundw
       case rel =>
        refine ⟨m - 1, l ++ [⟨ax, ay, az, E, (E + n8), an⟩], t, px, py, pz, by congr 1; omega, rfl, by simp; omega, ⟨by omega, by simp; omega⟩, HQ.out, ?_, MN.out⟩
        intro a ha
        rcases List.mem_append.1 ha with h | h
        ·exact GOOD.out a h
        ·rw [List.mem_singleton.1 h]; exact (by exact ⟨⟨hph.1, by show 0 ≤ E; omega, by show E ≤ E + n8; omega, by show E + n8 ≤ _; omega, by show 1 ≤ an; omega, by show an ≤ 4; omega⟩, by show E ≤ 40000; omega, by show E + n8 ≤ 50000; omega⟩)
       case measure => simp [intOf]; omega
  ·obtain rfl : m = 0 := by omega
   have hvp : ∀ b off, oa = some ⟨b, off, none⟩ → w.heap.size ≤ b := fun b off e => by
    subst e
    have := (MR.out.own.lt b rfl).1; have := MR.out.order; omega
   go_wp2_with fail
   exact bodyPost_ret (v := .slice oa l.length oc) (by simp [results, Tryz.results13, go_sem]) rfl ⟨l, oa, oc, rfl, by omega, GOOD.out, owns_mono MR.out.own (by have := MR.out.order; omega), hvp, MR.out.src, MR.out.grown⟩
end Go.Proofs.YtiebljanpnadjaaGreat
