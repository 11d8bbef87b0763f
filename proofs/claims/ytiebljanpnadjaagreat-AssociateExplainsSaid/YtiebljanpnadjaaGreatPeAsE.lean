import Derived.Test.YtiebljanpnadjaaGreatPeAsA
namespace Go.Proofs.YtiebljanpnadjaaGreat
set_option linter.all false
open Go.RowKit Rg
theorem tame_of {st : Int} {ls hs : List Int} {b0 b1 b2 b3 b4 b5 : Int} {a : Ph} (hp : phP a.x a.y a.z a.e a.l a.n = true) : Tame (zoneOf st ls hs b0 b1 b2 b3 b4 b5 a) := by
 have hp := phP_iff.1 hp
 have bb := bnd_bounds st ls hs b0 b1 b2 b3 b4 b5 a.x a.y a.z
 unfold Tame zoneOf znF znT
 simp only []
 refine ⟨?_, ?_⟩ <;> split <;> omega
def exK (A : Asc) (P : List Ph) (ms : List Int) (px py pz pt : Int) (k : Nat) : Bool :=
 inI (at0 ms k) 0 ((P.length : Int) - 1) && !(decide (0 < k) && decide (at0 ms k ≤ at0 ms (k - 1))) && (zoneE A.st A.ls A.hs px py pz px py pz (phA P (at0 ms k).toNat) == 0) && !decide (A.lim < resid (zoneOf A.st A.ls A.hs px py pz px py pz (phA P (at0 ms k).toNat)) pt)
def explB (A : Asc) (P : List Ph) (ms : List Int) (px py pz pt : Int) : Bool :=
 (avE A P == 0) && !decide ((ms.length : Int) < A.least) && conP A.x0 A.y0 A.z0 A.x1 A.y1 A.z1 px py pz && inI pt (-18014398509481984) 18014398509481984 && (List.range ms.length).all (exK A P ms px py pz pt)
set_option maxRecDepth 100000 in
set_option maxHeartbeats 20000000 in
theorem explains_any (A : Asc) (P : List Ph) (ms : List Int) (px py pz pt : Int) (vl vh pv mv : Value) (w : World) (hA : AscIn A vl vh w) (hp : SlC 6 w pv P.length (flatP P)) (hms : Sl w mv ms) (hP : P.length ≤ 1000000) :
  Calls Tryz.prog 27 #[.agg (A.val vl vh), pv, .agg #[mv, px, py, pz, pt]] w fun e w' => e = .returned (.bool (explB A P ms px py pz pt)) ∧ w.grownBy w' none := by
 have h1 := hA.l; have h2 := hA.h
 obtain ⟨la, ln, lc, rfl⟩ := sl_slice h1; obtain ⟨ha, hm, hc, rfl⟩ := sl_slice h2
 obtain ⟨pa, pc, rfl⟩ := hp.slice
 obtain ⟨ma, mc, rfl⟩ := hms.shape
 have HAW := zH hA; have HP := zH hp; have HM := zH hms
 clear h1 h2 hA hp hms
 have VA := zH (fun (u : World) (hu : w.grownBy u none) => avalidate_any A _ _ _ P u (HAW.out.after hu) (HP.out.after hu))
 have ZA := zH (fun (a : Ph) (u : World) (hu : w.grownBy u none) => zone_any A.st _ _ A.ls A.hs px py pz px py pz a.x a.y a.z a.e a.l a.n u (HAW.out.after hu).l (HAW.out.after hu).h)
 have CON := zH (fun (u : World) => contains_any A.x0 A.y0 A.z0 A.x1 A.y1 A.z1 px py pz u)
 have INT := zH (fun (u : World) => ain_any pt (-18014398509481984) 18014398509481984 u)
 obtain ⟨E, hE⟩ : ∃ E, explB A P ms px py pz pt = E := ⟨_, rfl⟩
 have HX := zH hE
 rw [hE]
 clear hE
 unfold explB at HX
 have PHS : Hid (avE A P = 0 → ∀ a ∈ P, phP a.x a.y a.z a.e a.l a.n = true) := zH (fun h => (avE_ok h).2)
 have EXK : Hid (∀ k, exK A P ms px py pz pt k = (inI (at0 ms k) 0 ((P.length : Int) - 1) && !(decide (0 < k) && decide (at0 ms k ≤ at0 ms (k - 1))) && (zoneE A.st A.ls A.hs px py pz px py pz (phA P (at0 ms k).toNat) == 0) && !decide (A.lim < resid (zoneOf A.st A.ls A.hs px py pz px py pz (phA P (at0 ms k).toNat)) pt))) := zH (fun k => rfl)
 have EXF : Hid (∀ k, k < ms.length → exK A P ms px py pz pt k = false → (List.range ms.length).all (exK A P ms px py pz pt) = false) := zH (fun k hk h => by
  rw [List.all_eq_false]; exact ⟨k, List.mem_range.2 hk, by rw [h]; simp⟩)
 have EXT : Hid ((∀ k, k < ms.length → exK A P ms px py pz pt k = true) → (List.range ms.length).all (exK A P ms px py pz pt) = true) := zH (fun h => by
  rw [List.all_eq_true]; exact fun k hk => h k (List.mem_range.1 hk))
 obtain ⟨x0, y0, z0, x1, y1, z1, st, ls, hs, cap, tol, span, lim, least⟩ := A
 simp only [Asc.val] at *
 generalize exK ⟨x0, y0, z0, x1, y1, z1, st, ls, hs, cap, tol, span, lim, least⟩ P ms px py pz pt = ek at *
 obtain ⟨ve, hve⟩ : ∃ ve, avE ⟨x0, y0, z0, x1, y1, z1, st, ls, hs, cap, tol, span, lim, least⟩ P = ve := ⟨_, rfl⟩
 rw [hve] at HX VA PHS
 clear hve
 obtain ⟨cb, hcb⟩ : ∃ cb, conP x0 y0 z0 x1 y1 z1 px py pz = cb := ⟨_, rfl⟩
 rw [hcb] at HX CON
 clear hcb
 obtain ⟨tb, htb⟩ : ∃ tb, inI pt (-18014398509481984) 18014398509481984 = tb := ⟨_, rfl⟩
 have HTB := zH htb
 rw [htb] at HX INT
 clear htb
 generalize hml : ms.length = ml at *
 have HML := zH hml
 clear hml
 obtain ⟨n, hn⟩ : ∃ n, P.length = n := ⟨_, rfl⟩
 rw [hn] at VA HP EXK hP
 rw [hn]
 have HN := zH hn
 clear hn
 have g1 := gb_alloc (gb_alloc (gb_refl w none) (.cells #[x0, y0, z0, x1, y1, z1, st, .slice la ln lc, .slice ha hm hc, cap, tol, span, lim, least] 30)) (.cells #[.slice ma ml mc, px, py, pz, pt] 53)
 have l1 : (w.alloc (.cells #[x0, y0, z0, x1, y1, z1, st, .slice la ln lc, .slice ha hm hc, cap, tol, span, lim, least] 30)).heap.size = w.heap.size + 1 := by simp
 have b1 : ((w.alloc (.cells #[x0, y0, z0, x1, y1, z1, st, .slice la ln lc, .slice ha hm hc, cap, tol, span, lim, least] 30)).alloc (.cells #[.slice ma ml mc, px, py, pz, pt] 53)).heap[w.heap.size]? = some (.cells #[x0, y0, z0, x1, y1, z1, st, .slice la ln lc, .slice ha hm hc, cap, tol, span, lim, least] 30 (0, 0)) := by rw [heap_alloc_old _ _ (by simp), heap_alloc_new]
 have b2 : ((w.alloc (.cells #[x0, y0, z0, x1, y1, z1, st, .slice la ln lc, .slice ha hm hc, cap, tol, span, lim, least] 30)).alloc (.cells #[.slice ma ml mc, px, py, pz, pt] 53)).heap[w.heap.size + 1]? = some (.cells #[.slice ma ml mc, px, py, pz, pt] 53 (0, 0)) := by simpa using heap_alloc_new (w.alloc _) _
 have G1 := zH g1; have A1 := zH b1; have B1 := zH b2
 clear g1 l1 b1 b2
 go_enter Tryz.func27, Tryz.ntmps27
 go_wp2_with (with_reducible refine wpList_load14 rfl _ rfl w.heap.size rfl _ _ A1.out rfl ?_)
 generalize (w.alloc (.cells #[x0, y0, z0, x1, y1, z1, st, .slice la ln lc, .slice ha hm hc, cap, tol, span, lim, least] 30)).alloc (.cells #[.slice ma ml mc, px, py, pz, pt] 53) = w1 at *
 generalize hzw : w.heap.size = z at *
 clear hzw
 (with_reducible refine (VA.out w1 G1.out).mono ?_)
 rintro e w2 ⟨rfl, hg⟩
 have G2 := zH (gb_trans G1.out hg); have A2 := zH (block_kept hg A1.out rfl); have B2 := zH (block_kept hg B1.out rfl)
 clear hg G1 A1 B1 VA
 by_cases hv : ve = 0
 rotate_left
 ·have hv' : (ve != 0) = true := by simpa using hv
  have HE : Hid (E = false) := zH (by rw [← HX.out, show (ve == 0) = false by simpa using hv]; rfl)
  clear hv
  go_wp2_with fail
  exact bodyPost_ret (v := .bool false) (by simp [results, Tryz.results27, go_sem]) rfl ⟨by rw [HE.out], G2.out⟩
 have hv' : (ve != 0) = false := by rw [hv]; rfl
 have PHA := zH (PHS.out hv)
 rw [show (ve == 0) = true by rw [hv]; rfl] at HX
 clear hv PHS
 obtain ⟨c0_, c1_, c2_, c3_, c4_, c5_, c6_, c7_, c8_, c9_, c10_, c11_, c12_, c13_⟩ := cells14 A2.out
 obtain ⟨g0_, g1_, g2_, g3_, g4_⟩ := cells5 B2.out
 have hz_ := block_lt' A2.out
 have hz2_ := block_lt' B2.out
 by_cases hl : (ml : Int) < least
 ·have hl' : decide ((ml : Int) < least) = true := decide_eq_true hl
  rw [hl'] at HX
  have HE : Hid (E = false) := zH (by rw [← HX.out]; simp)
  clear hl
  go_wp2_with fail
  exact bodyPost_ret (v := .bool false) (by simp [results, Tryz.results27, go_sem]) rfl ⟨by rw [HE.out], G2.out⟩
 have hl' : decide ((ml : Int) < least) = false := decide_eq_false hl
 rw [hl'] at HX
 clear hl
 go_wp2_with fail
 (with_reducible refine (CON.out w2).mono ?_)
 rintro e w3 ⟨rfl, hg⟩
 have G3 := zH (gb_trans G2.out hg); have A3 := zH (block_kept hg A2.out rfl); have B3 := zH (block_kept hg B2.out rfl)
 clear c0_ c1_ c2_ c3_ c4_ c5_ c6_ c7_ c8_ c9_ c10_ c11_ c12_ c13_
 clear g0_ g1_ g2_ g3_ g4_
 clear hg G2 A2 B2 CON hv' hl' hz_ hz2_
 obtain ⟨c0_, c1_, c2_, c3_, c4_, c5_, c6_, c7_, c8_, c9_, c10_, c11_, c12_, c13_⟩ := cells14 A3.out
 obtain ⟨g0_, g1_, g2_, g3_, g4_⟩ := cells5 B3.out
 have hz_ := block_lt' A3.out
 have hz2_ := block_lt' B3.out
 cases cb
 ·have HE : Hid (E = false) := zH (by rw [← HX.out]; simp)
  go_wp2_with fail
  exact bodyPost_ret (v := .bool false) (by simp [results, Tryz.results27, go_sem]) rfl ⟨by rw [HE.out], G3.out⟩
 go_wp2_with fail
 (with_reducible refine (INT.out _).mono ?_)
 rintro e w' ⟨rfl, rfl⟩
 clear c0_ c1_ c2_ c3_ c4_ c5_ c6_ c7_ c8_ c9_ c10_ c11_ c12_ c13_
 clear g0_ g1_ g2_ g3_ g4_
 clear INT hz_ hz2_
 cases tb
 ·have HE : Hid (E = false) := zH (by rw [← HX.out]; simp)
  go_wp2_with fail
  exact bodyPost_ret (v := .bool false) (by simp [results, Tryz.results27, go_sem]) rfl ⟨by rw [HE.out], G3.out⟩
 have HPT : Hid (-18014398509481984 ≤ pt ∧ pt ≤ 18014398509481984) := zH (inI_iff.1 HTB.out)
 obtain ⟨g0_, g1_, g2_, g3_, g4_⟩ := cells5 B3.out
 have hz2_ := block_lt' B3.out
 go_wp2_with fail
 clear g0_ g1_ g2_ g3_ g4_
 clear hz2_
 go_loopw [40] (fun kv wr => ∃ k : Nat, k ≤ ml ∧ kv = .int .i64 (k : Int) ∧ (∀ j, j < k → ek j = true) ∧ w3.grownBy wr none) (fun kv _ => ml - (intOf kv).toNat)
 case atStart => exact ⟨0, by omega, rfl, fun j hj => by omega, gb_refl _ _⟩
 case round =>
  obtain ⟨k, hkm, rfl, hek, hgr⟩ := hrel
  have HEK := zH hek; have GR := zH (gb_trans G3.out hgr); have AR := zH (block_kept hgr A3.out rfl); have BR := zH (block_kept hgr B3.out rfl)
  have HGR := zH hgr
  clear hek hgr
  by_cases hlt : k < ml
  ·have hkd : decide ((k : Int) < (ml : Int)) = true := decide_eq_true (by omega)
   obtain ⟨mb, mo, mc', me, hmb, hmle, hmcap, hmc⟩ := HM.out.block (by rw [HML.out]; omega)
   have hmlb : ml ≤ 9223372036854775807 := by have := HML.out; omega
   clear hmle hmcap
   simp only [Value.slice.injEq] at me
   obtain ⟨rfl, -, rfl⟩ := me
   have EKK := zH (EXK.out k)
   have EXFK := zH (EXF.out k hlt)
   have c0_ : wr.cell? ⟨mb, mo + k, none⟩ = some (.int .i64 (at0 ms k)) := (gb_cell GR.out hmb (by simp)).trans (hmc k (by rw [HML.out]; exact hlt))
   have PREV : Hid (∀ k1, k = k1 + 1 → wr.cell? ⟨mb, mo + k1, none⟩ = some (.int .i64 (at0 ms (k - 1)))) := zH (fun k1 h => by
    subst h
    exact (gb_cell GR.out hmb (by simp)).trans (hmc k1 (by rw [HML.out]; omega)))
   clear hmb hmc
   obtain ⟨vk, hvk⟩ : ∃ v, at0 ms k = v := ⟨_, rfl⟩
   obtain ⟨vp, hvp⟩ : ∃ v, at0 ms (k - 1) = v := ⟨_, rfl⟩
   rw [hvk] at c0_ EKK
   rw [hvp] at PREV EKK
   clear hvk hvp
   have hwn : IntKind.i64.wrap ((n : Int) - 1) = (n : Int) - 1 := by rw [IntKind.wrap_i64]; omega
   have INK := zH (fun (u : World) => ain_any vk 0 ((n : Int) - 1) u)
   obtain ⟨kb, hkb⟩ : ∃ b, inI vk 0 ((n : Int) - 1) = b := ⟨_, rfl⟩
   have HKB := zH hkb
   rw [hkb] at EKK INK
   clear hkb
   obtain ⟨g0_, g1_, g2_, g3_, g4_⟩ := cells5 BR.out
   have hz2_ := block_lt' BR.out
   go_wp2_with fail
   (with_reducible refine (INK.out _).mono ?_)
   rintro e w' ⟨rfl, rfl⟩
   clear INK
   cases kb
   ·have HE : Hid (E = false) := zH (by rw [← HX.out, EXFK.out (by rw [EKK.out]; rfl)]; simp)
    go_wp2_with fail
    exact bodyPost_ret (v := .bool false) (by simp [results, Tryz.results27, go_sem]) rfl ⟨by rw [HE.out], GR.out⟩
   obtain ⟨j, rfl⟩ : ∃ j : Nat, vk = (j : Int) := ⟨vk.toNat, by have := (inI_iff.1 HKB.out).1; omega⟩
   have hjn : j < n := by have := (inI_iff.1 HKB.out).2; omega
   have hjP : j < P.length := by have := HN.out; omega
   have hpa : phA P (j : Int).toNat = P[j] := by unfold phA; simp [hjP]
   rw [hpa] at EKK
   have PHJ := zH (PHA.out P[j] (List.getElem_mem hjP))
   obtain ⟨pb, po, pc', pe, hpb, -, -, hpc⟩ := HP.out.block (by omega)
   simp only [Value.slice.injEq] at pe
   obtain ⟨rfl, -, rfl⟩ := pe
   obtain ⟨q0, q1, q2, q3, q4, q5⟩ := SlC.ph hpc j hjP
   have PHC : Hid (∀ u : World, w.grownBy u none → pb < u.heap.size ∧ u.cell? ⟨pb, po + j * 6, none⟩ = some (.int .i64 P[j].x) ∧ u.cell? ⟨pb, po + j * 6 + 1, none⟩ = some (.int .i64 P[j].y) ∧ u.cell? ⟨pb, po + j * 6 + 2, none⟩ = some (.int .i64 P[j].z) ∧ u.cell? ⟨pb, po + j * 6 + 3, none⟩ = some (.int .i64 P[j].e) ∧ u.cell? ⟨pb, po + j * 6 + 4, none⟩ = some (.int .i64 P[j].l) ∧ u.cell? ⟨pb, po + j * 6 + 5, none⟩ = some (.int .i64 P[j].n)) := zH (fun u hu =>
    ⟨Nat.lt_of_lt_of_le hpb hu.size, (gb_cell hu hpb (by simp)).trans q0, (gb_cell hu hpb (by simp)).trans q1, (gb_cell hu hpb (by simp)).trans q2, (gb_cell hu hpb (by simp)).trans q3, (gb_cell hu hpb (by simp)).trans q4, (gb_cell hu hpb (by simp)).trans q5⟩)
   have ZK := zH (fun (u : World) hu => ZA.out P[j] u hu)
   have TM := zH (tame_of (st := st) (ls := ls) (hs := hs) (b0 := px) (b1 := py) (b2 := pz) (b3 := px) (b4 := py) (b5 := pz) PHJ.out)
   have RSD := zH (fun (u : World) => residual_any (zoneOf st ls hs px py pz px py pz P[j]) pt u TM.out.1 TM.out.2 (by have := HPT.out; omega))
   clear hpb hpc q0 q1 q2 q3 q4 q5 PHJ TM hpa
   simp only [znV_is] at ZK
   obtain ⟨ze, hze⟩ : ∃ v, zoneE st ls hs px py pz px py pz P[j] = v := ⟨_, rfl⟩
   rw [hze] at ZK EKK
   clear hze
   obtain ⟨zz, hzz⟩ : ∃ v, zoneOf st ls hs px py pz px py pz P[j] = v := ⟨_, rfl⟩
   rw [hzz] at ZK EKK RSD
   clear hzz
   obtain ⟨rz, hrz⟩ : ∃ v, resid zz pt = v := ⟨_, rfl⟩
   rw [hrz] at EKK RSD
   clear hrz
   obtain ⟨zf, zt⟩ := zz
   simp only [] at ZK RSD
   generalize P[j] = a at *
   obtain ⟨ax, ay, az, ae, al, an⟩ := a
   simp only [] at ZK PHC
   by_cases hk0 : k = 0
   ·have hk0' : decide ((k : Int) > 0) = false := decide_eq_false (by omega)
    have hk0n : ¬ 0 < k := by omega
    have EK2 : Hid (ek k = ((ze == 0) && !decide (lim < rz))) := zH (by rw [EKK.out]; simp [hk0])
    clear hk0
    go_wp2_with fail
    clear hk0' hk0n hwn c0_ g0_ g1_ g2_ g3_ g4_ hz2_ 
    obtain ⟨hpb_, p0_, p1_, p2_, p3_, p4_, p5_⟩ := PHC.out wr GR.out
    obtain ⟨c0_, c1_, c2_, c3_, c4_, c5_, c6_, c7_, c8_, c9_, c10_, c11_, c12_, c13_⟩ := cells14 AR.out
    obtain ⟨g0_, g1_, g2_, g3_, g4_⟩ := cells5 BR.out
    have hz_ := block_lt' AR.out
    have hz2_ := block_lt' BR.out
    have u0_ := Made.cells hz_; have u1_ := Made.cells hz2_; have u2_ := Made.cells hpb_
    refine Rg.rR (Made wr) (MakesS 16) (fun k_ => if k_ = 11 then some (isV (.tuple #[.agg #[zf, zt], ze])) else if k_ = 15 then some (isVar wr 2 97) else if k_ = 16 then some (isRow #[zf, zt] 97) else none)
     (fun k_ => k_ == 15) 0 17 (MakesS.size 16) (Made.start wr) (fun hne => ?_)
    (repeat (refine rQ ?_; go_big_quiet_step (fail); refine wpQuiet_nil ?_))
    refine rg_fixG Made.grown (MakesS.none (by decide)) (.tuple #[.agg #[zf, zt], ze]) 55 #[.agg #[st, .slice la ln lc, .slice ha hm hc], .agg #[px, py, pz, px, py, pz], .agg #[ax, ay, az, ae, al, an]] rfl rfl rfl (fun _ => by go_simp) (fun u hu => ZK.out u (gb_trans GR.out hu)) ?_
    simp only [zA, zB, zC, zD, zX]
    (repeat (refine rQ ?_; go_big_quiet_step (fail); refine wpQuiet_nil ?_))
    refine rg_var #[(0:Int), (0:Int)] 97 (by decide) rfl rfl (fun _ => by go_simp) (fun zb hzb => ?_)
    simp only [zA, zB, zC, zD, zX]
    refine rg_storeRow zb #[zf, zt] 97 _ _ _ 15 ⟨⟨15, .data⟩, by simp, rfl, rfl⟩ rfl rfl rfl rfl (by kernel_rfl) (by simp [Value.oneCell']) hzb rfl rfl rfl ?_ rfl
    simp only [zA, zB, zC, zD, zX]
    rintro wz hqz hf -
    have ZB := zH (isRow.out (v := undef) (hf 16))
    have GZ := zH (gb_trans GR.out hqz); have AZ := zH (block_kept hqz AR.out rfl); have BZ := zH (block_kept hqz BR.out rfl); have HGZ := zH (gb_trans HGR.out hqz)
    clear hf hqz hne u0_ u1_ u2_ hpb_ p0_ p1_ p2_ p3_ p4_ p5_ hz_ hz2_ 
    clear c0_ c1_ c2_ c3_ c4_ c5_ c6_ c7_ c8_ c9_ c10_ c11_ c12_ c13_
    clear g0_ g1_ g2_ g3_ g4_
    by_cases hze : ze = 0
    rotate_left
    ·have hze' : (ze != 0) = true := by simpa using hze
     have HE : Hid (E = false) := zH (by rw [← HX.out, EXFK.out (by rw [EK2.out, show (ze == 0) = false by simpa using hze]; rfl)]; simp)
     clear hze
     go_wp2_with fail
     (refine wp_region_grown (by kernel_rfl) (by kernel_rfl) ?_; (repeat (go_big_quiet_step (fail))); refine wpQuiet_nil ?_; intro wq hq)
     have GE := zH (gb_trans GZ.out hq)
     clear hq
     go_wp2_with fail
     exact bodyPost_ret (v := .bool false) (by simp [results, Tryz.results27, go_sem]) rfl ⟨by rw [HE.out], GE.out⟩
    have hze' : (ze != 0) = false := by rw [hze]; rfl
    have EK3 : Hid (ek k = !decide (lim < rz)) := zH (by rw [EK2.out, show (ze == 0) = true by rw [hze]; rfl]; rfl)
    clear hze EK2 EKK
    have s12_ : wz.cell? ⟨z, 12, none⟩ = some (.int .i64 lim) := cell_of AZ.out 12 _ rfl
    have t4_ : wz.cell? ⟨z + 1, 4, none⟩ = some (.int .i64 pt) := cell_of BZ.out 4 _ rfl
    obtain ⟨zc0_, zc1_⟩ := cells2 ZB.out
    have hz_ := block_lt' AZ.out
    have hz2_ := block_lt' BZ.out
    have hzb_ := block_lt' ZB.out
    have u0_ := fun (q : Up wz) => (ever_cell q (o := 12) hz_).trans s12_
    have u1_ := fun (q : Up wz) => (ever_cell q (o := 4) hz2_).trans t4_
    have u2_ := fun (q : Up wz) => (ever_cell q (o := 0) hzb_).trans zc0_
    have u3_ := fun (q : Up wz) => (ever_cell q (o := 1) hzb_).trans zc1_
    by_cases hrl : lim < rz
    ·have hrl' : decide (rz > lim) = true := decide_eq_true hrl
     have HE : Hid (E = false) := zH (by rw [← HX.out, EXFK.out (by rw [EK3.out, decide_eq_true hrl]; rfl)]; simp)
     clear hrl
     go_wp2_with fail
     (refine wp_region_grown (by kernel_rfl) (by kernel_rfl) ?_; (repeat (go_big_quiet_step (first | (go_at_call 66; exact Calls.grown_of (RSD.out _))))); refine wpQuiet_nil ?_; intro wq hq)
     have GE := zH (gb_trans GZ.out hq)
     clear hq
     go_wp2_with fail
     exact bodyPost_ret (v := .bool false) (by simp [results, Tryz.results27, go_sem]) rfl ⟨by rw [HE.out], GE.out⟩
    have hrl' : decide (rz > lim) = false := decide_eq_false (by omega)
    have EK4 : Hid (ek k = true) := zH (by rw [EK3.out, decide_eq_false hrl]; rfl)
    clear hrl
    go_wp2_with fail
    (refine wp_region_grown (by kernel_rfl) (by kernel_rfl) ?_; (repeat (go_big_quiet_step (first | (go_at_call 66; exact Calls.grown_of (RSD.out _))))); refine wpQuiet_nil ?_; intro wq hq)
    have HGE := zH (gb_trans HGZ.out hq)
    clear hq s12_ t4_ zc0_ zc1_ hz_ hz2_ hzb_ u0_ u1_ u2_ u3_
    go_wp2_with fail
    go_roundw
    case rel => exact ⟨k + 1, by omega, by go_num, fun j hj => by
     by_cases e : j = k
     ·rw [e]; exact EK4.out
     ·exact HEK.out j (by omega), HGE.out⟩
    case measure => simp [intOf]; omega
   have hk0' : decide ((k : Int) > 0) = true := decide_eq_true (by omega)
   have hk0n : 0 < k := by omega
   obtain ⟨k1, hk1⟩ : ∃ k1, k = k1 + 1 := ⟨k - 1, by omega⟩
   have p0_ := PREV.out k1 hk1
   have hkw : (k : Int) - 1 = (k1 : Int) := by omega
   have hk1m : k1 < ml := by omega
   by_cases hvv : (j : Int) ≤ vp
   ·have hvv' : decide (vp ≥ (j : Int)) = true := decide_eq_true (by omega)
    have HE : Hid (E = false) := zH (by rw [← HX.out, EXFK.out (by rw [EKK.out]; simp [hk0n, hvv])]; simp)
    clear hvv hk0 hk1
    go_wp2_with fail
    exact bodyPost_ret (v := .bool false) (by simp [results, Tryz.results27, go_sem]) rfl ⟨by rw [HE.out], GR.out⟩
   have hvv' : decide (vp ≥ (j : Int)) = false := decide_eq_false (by omega)
   have EK2 : Hid (ek k = ((ze == 0) && !decide (lim < rz))) := zH (by rw [EKK.out]; simp [hvv])
   clear hvv hk0 hk1
   go_wp2_with fail
   clear hk0' hk0n hwn c0_ g0_ g1_ g2_ g3_ g4_ hz2_ hkw hk1m hvv'
   obtain ⟨hpb_, p0_, p1_, p2_, p3_, p4_, p5_⟩ := PHC.out wr GR.out
   obtain ⟨c0_, c1_, c2_, c3_, c4_, c5_, c6_, c7_, c8_, c9_, c10_, c11_, c12_, c13_⟩ := cells14 AR.out
   obtain ⟨g0_, g1_, g2_, g3_, g4_⟩ := cells5 BR.out
   have hz_ := block_lt' AR.out
   have hz2_ := block_lt' BR.out
   have u0_ := Made.cells hz_; have u1_ := Made.cells hz2_; have u2_ := Made.cells hpb_
   refine Rg.rR (Made wr) (MakesS 16) (fun k_ => if k_ = 11 then some (isV (.tuple #[.agg #[zf, zt], ze])) else if k_ = 15 then some (isVar wr 2 97) else if k_ = 16 then some (isRow #[zf, zt] 97) else none)
    (fun k_ => k_ == 15) 0 17 (MakesS.size 16) (Made.start wr) (fun hne => ?_)
   (repeat (refine rQ ?_; go_big_quiet_step (fail); refine wpQuiet_nil ?_))
   refine rg_fixG Made.grown (MakesS.none (by decide)) (.tuple #[.agg #[zf, zt], ze]) 55 #[.agg #[st, .slice la ln lc, .slice ha hm hc], .agg #[px, py, pz, px, py, pz], .agg #[ax, ay, az, ae, al, an]] rfl rfl rfl (fun _ => by go_simp) (fun u hu => ZK.out u (gb_trans GR.out hu)) ?_
   simp only [zA, zB, zC, zD, zX]
   (repeat (refine rQ ?_; go_big_quiet_step (fail); refine wpQuiet_nil ?_))
   refine rg_var #[(0:Int), (0:Int)] 97 (by decide) rfl rfl (fun _ => by go_simp) (fun zb hzb => ?_)
   simp only [zA, zB, zC, zD, zX]
   refine rg_storeRow zb #[zf, zt] 97 _ _ _ 15 ⟨⟨15, .data⟩, by simp, rfl, rfl⟩ rfl rfl rfl rfl (by kernel_rfl) (by simp [Value.oneCell']) hzb rfl rfl rfl ?_ rfl
   simp only [zA, zB, zC, zD, zX]
   rintro wz hqz hf -
   have ZB := zH (isRow.out (v := undef) (hf 16))
   have GZ := zH (gb_trans GR.out hqz); have AZ := zH (block_kept hqz AR.out rfl); have BZ := zH (block_kept hqz BR.out rfl); have HGZ := zH (gb_trans HGR.out hqz)
   clear hf hqz hne u0_ u1_ u2_ hpb_ p0_ p1_ p2_ p3_ p4_ p5_ hz_ hz2_ 
   clear c0_ c1_ c2_ c3_ c4_ c5_ c6_ c7_ c8_ c9_ c10_ c11_ c12_ c13_
   clear g0_ g1_ g2_ g3_ g4_
   by_cases hze : ze = 0
   rotate_left
   ·have hze' : (ze != 0) = true := by simpa using hze
    have HE : Hid (E = false) := zH (by rw [← HX.out, EXFK.out (by rw [EK2.out, show (ze == 0) = false by simpa using hze]; rfl)]; simp)
    clear hze
    go_wp2_with fail
    (refine wp_region_grown (by kernel_rfl) (by kernel_rfl) ?_; (repeat (go_big_quiet_step (fail))); refine wpQuiet_nil ?_; intro wq hq)
    have GE := zH (gb_trans GZ.out hq)
    clear hq
    go_wp2_with fail
    exact bodyPost_ret (v := .bool false) (by simp [results, Tryz.results27, go_sem]) rfl ⟨by rw [HE.out], GE.out⟩
   have hze' : (ze != 0) = false := by rw [hze]; rfl
   have EK3 : Hid (ek k = !decide (lim < rz)) := zH (by rw [EK2.out, show (ze == 0) = true by rw [hze]; rfl]; rfl)
   clear hze EK2 EKK
   have s12_ : wz.cell? ⟨z, 12, none⟩ = some (.int .i64 lim) := cell_of AZ.out 12 _ rfl
   have t4_ : wz.cell? ⟨z + 1, 4, none⟩ = some (.int .i64 pt) := cell_of BZ.out 4 _ rfl
   obtain ⟨zc0_, zc1_⟩ := cells2 ZB.out
   have hz_ := block_lt' AZ.out
   have hz2_ := block_lt' BZ.out
   have hzb_ := block_lt' ZB.out
   have u0_ := fun (q : Up wz) => (ever_cell q (o := 12) hz_).trans s12_
   have u1_ := fun (q : Up wz) => (ever_cell q (o := 4) hz2_).trans t4_
   have u2_ := fun (q : Up wz) => (ever_cell q (o := 0) hzb_).trans zc0_
   have u3_ := fun (q : Up wz) => (ever_cell q (o := 1) hzb_).trans zc1_
   by_cases hrl : lim < rz
   ·have hrl' : decide (rz > lim) = true := decide_eq_true hrl
    have HE : Hid (E = false) := zH (by rw [← HX.out, EXFK.out (by rw [EK3.out, decide_eq_true hrl]; rfl)]; simp)
    clear hrl
    go_wp2_with fail
    (refine wp_region_grown (by kernel_rfl) (by kernel_rfl) ?_; (repeat (go_big_quiet_step (first | (go_at_call 66; exact Calls.grown_of (RSD.out _))))); refine wpQuiet_nil ?_; intro wq hq)
    have GE := zH (gb_trans GZ.out hq)
    clear hq
    go_wp2_with fail
    exact bodyPost_ret (v := .bool false) (by simp [results, Tryz.results27, go_sem]) rfl ⟨by rw [HE.out], GE.out⟩
   have hrl' : decide (rz > lim) = false := decide_eq_false (by omega)
   have EK4 : Hid (ek k = true) := zH (by rw [EK3.out, decide_eq_false hrl]; rfl)
   clear hrl
   go_wp2_with fail
   (refine wp_region_grown (by kernel_rfl) (by kernel_rfl) ?_; (repeat (go_big_quiet_step (first | (go_at_call 66; exact Calls.grown_of (RSD.out _))))); refine wpQuiet_nil ?_; intro wq hq)
   have HGE := zH (gb_trans HGZ.out hq)
   clear hq s12_ t4_ zc0_ zc1_ hz_ hz2_ hzb_ u0_ u1_ u2_ u3_
   go_wp2_with fail
   go_roundw
   case rel => exact ⟨k + 1, by omega, by go_num, fun j hj => by
    by_cases e : j = k
    ·rw [e]; exact EK4.out
    ·exact HEK.out j (by omega), HGE.out⟩
   case measure => simp [intOf]; omega
  ·have hkd : decide ((k : Int) < (ml : Int)) = false := decide_eq_false (by omega)
   have HE : Hid (E = true) := zH (by
    rw [← HX.out, EXT.out (fun j hj => HEK.out j (by omega))]; rfl)
   go_wp2_with fail
   exact bodyPost_ret (v := .bool true) (by simp [results, Tryz.results27, go_sem]) rfl ⟨by rw [HE.out], GR.out⟩
end Go.Proofs.YtiebljanpnadjaaGreat
