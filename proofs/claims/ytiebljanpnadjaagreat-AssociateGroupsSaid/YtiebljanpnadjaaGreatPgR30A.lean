import Derived.Test.YtiebljanpnadjaaGreatPgSwpA
namespace Go.Proofs.YtiebljanpnadjaaGreat
set_option linter.all false
open Go.RowKit Rg
set_option maxRecDepth 100000 in
set_option maxHeartbeats 8000000 in
theorem rsettings_any (A : Asc) (vl vh : Value) (w : World) (hi : AscIn A vl vh w) :
  Calls Tryz.prog 56 #[.agg (A.val vl vh)] w fun e w' => e = .returned (.bool A.ok) ∧ w.grownBy w' none := by
 obtain ⟨x0, y0, z0, x1, y1, z1, st, ls, hs, cap, tol, span, lim, least⟩ := A
 obtain ⟨h1, h2⟩ := hi
 simp only [] at h1 h2
 obtain ⟨la, ln, lc, rfl⟩ := sl_slice h1; obtain ⟨ha, hm, hc, rfl⟩ := sl_slice h2
 have G1 := zH (gb_alloc (gb_refl w none) (.cells #[x0, y0, z0, x1, y1, z1, st, .slice la ln lc, .slice ha hm hc, cap, tol, span, lim, least] 30))
 have B1 := zH (heap_alloc_new w (.cells #[x0, y0, z0, x1, y1, z1, st, .slice la ln lc, .slice ha hm hc, cap, tol, span, lim, least] 30))
 have VT := zH (fun (u : World) (hu : w.grownBy u none) => rvalidate_any st _ _ ls hs u (h1.after hu) (h2.after hu))
 have VB := zH (fun u => rvalidBox_any x0 y0 z0 x1 y1 z1 u)
 obtain ⟨vb, hvb⟩ : ∃ b, bP x0 y0 z0 x1 y1 z1 = b := ⟨_, rfl⟩
 obtain ⟨te, hte⟩ : ∃ b, tE st ls hs = b := ⟨_, rfl⟩
 obtain ⟨b, hb⟩ : ∃ b, Asc.ok ⟨x0, y0, z0, x1, y1, z1, st, ls, hs, cap, tol, span, lim, least⟩ = b := ⟨_, rfl⟩
 have HV : Hid (b = (vb && (te == 0) && decide (1 ≤ cap) && decide (cap ≤ 1099511627776) && decide (0 ≤ tol) && decide (tol ≤ 1099511627776) && decide (0 ≤ lim) && decide (lim ≤ 1099511627776) && decide (0 ≤ span) && decide (span ≤ 1099511627776) && decide (2 ≤ least) && decide (least ≤ 16))) := zH (by
  rw [← hb]
  unfold Asc.ok inI
  simp only [hvb, hte, Bool.decide_and, Bool.and_assoc])
 rw [hvb] at VB; rw [hte] at VT; rw [hb]
 clear hvb hte hb h1 h2
 simp only [Asc.val]
 obtain ⟨c0_, c1_, c2_, c3_, c4_, c5_, c6_, c7_, c8_, c9_, c10_, c11_, c12_, c13_⟩ := cells14 B1.out
 have hz := block_lt' B1.out
 go_enter Tryz.func56, Tryz.ntmps56
 go_wp2_with fail
 clear c0_ c1_ c2_ c3_ c4_ c5_ c6_ c7_ c8_ c9_ c10_ c11_ c12_ c13_ hz
 generalize w.alloc (.cells #[x0, y0, z0, x1, y1, z1, st, .slice la ln lc, .slice ha hm hc, cap, tol, span, lim, least] 30) = w1 at *
 generalize w.heap.size = z at *
 (with_reducible refine (VB.out w1).mono ?_)
 rintro e w2 ⟨rfl, hg⟩
 have G2 := zH (gb_trans G1.out hg); have B2 := zH (block_kept hg B1.out rfl)
 clear hg G1 B1 VB
 cases vb
 ·have HE : Hid (b = false) := zH (by rw [HV.out]; rfl)
  clear HV
  go_wp2_with fail
  go_ret
  exact ⟨by rw [HE.out]; rfl, G2.out⟩
 obtain ⟨c0_, c1_, c2_, c3_, c4_, c5_, c6_, c7_, c8_, c9_, c10_, c11_, c12_, c13_⟩ := cells14 B2.out
 have hz := block_lt' B2.out
 go_wp2_with fail
 clear c0_ c1_ c2_ c3_ c4_ c5_ c6_ c7_ c8_ c9_ c10_ c11_ c12_ c13_ hz
 (with_reducible refine (VT.out w2 G2.out).mono ?_)
 rintro e w3 ⟨rfl, hg⟩
 have G3 := zH (gb_trans G2.out hg); have B3 := zH (block_kept hg B2.out rfl)
 clear hg G2 B2 VT
 by_cases ht : te = 0
 rotate_left
 ·have ht' : (te == 0) = false := by simpa using ht
  have HE : Hid (b = false) := zH (by rw [HV.out, ht']; rfl)
  clear ht HV
  go_wp2_with fail
  go_ret
  exact ⟨by rw [HE.out]; rfl, G3.out⟩
 subst ht
 obtain ⟨c0_, c1_, c2_, c3_, c4_, c5_, c6_, c7_, c8_, c9_, c10_, c11_, c12_, c13_⟩ := cells14 B3.out
 have hz := block_lt' B3.out
 by_cases k0 : 1 ≤ cap
 rotate_left
 ·have e0_ : decide (1 ≤ cap) = false := decide_eq_false k0
  have HE : Hid (b = false) := zH (by rw [HV.out]; simp [k0])
  clear HV
  go_wp2_with fail
  go_ret
  exact ⟨by rw [HE.out]; rfl, G3.out⟩
 have e0_ : decide (1 ≤ cap) = true := decide_eq_true k0
 by_cases k1 : cap ≤ 1099511627776
 rotate_left
 ·have e1_ : decide (cap ≤ 1099511627776) = false := decide_eq_false k1
  have HE : Hid (b = false) := zH (by rw [HV.out]; simp [k1])
  clear HV
  go_wp2_with fail
  go_ret
  exact ⟨by rw [HE.out]; rfl, G3.out⟩
 have e1_ : decide (cap ≤ 1099511627776) = true := decide_eq_true k1
 by_cases k2 : 0 ≤ tol
 rotate_left
 ·have e2_ : decide (0 ≤ tol) = false := decide_eq_false k2
  have HE : Hid (b = false) := zH (by rw [HV.out]; simp [k2])
  clear HV
  go_wp2_with fail
  go_ret
  exact ⟨by rw [HE.out]; rfl, G3.out⟩
 have e2_ : decide (0 ≤ tol) = true := decide_eq_true k2
 by_cases k3 : tol ≤ 1099511627776
 rotate_left
 ·have e3_ : decide (tol ≤ 1099511627776) = false := decide_eq_false k3
  have HE : Hid (b = false) := zH (by rw [HV.out]; simp [k3])
  clear HV
  go_wp2_with fail
  go_ret
  exact ⟨by rw [HE.out]; rfl, G3.out⟩
 have e3_ : decide (tol ≤ 1099511627776) = true := decide_eq_true k3
 by_cases k4 : 0 ≤ lim
 rotate_left
 ·have e4_ : decide (0 ≤ lim) = false := decide_eq_false k4
  have HE : Hid (b = false) := zH (by rw [HV.out]; simp [k4])
  clear HV
  go_wp2_with fail
  go_ret
  exact ⟨by rw [HE.out]; rfl, G3.out⟩
 have e4_ : decide (0 ≤ lim) = true := decide_eq_true k4
 by_cases k5 : lim ≤ 1099511627776
 rotate_left
 ·have e5_ : decide (lim ≤ 1099511627776) = false := decide_eq_false k5
  have HE : Hid (b = false) := zH (by rw [HV.out]; simp [k5])
  clear HV
  go_wp2_with fail
  go_ret
  exact ⟨by rw [HE.out]; rfl, G3.out⟩
 have e5_ : decide (lim ≤ 1099511627776) = true := decide_eq_true k5
 by_cases k6 : 0 ≤ span
 rotate_left
 ·have e6_ : decide (0 ≤ span) = false := decide_eq_false k6
  have HE : Hid (b = false) := zH (by rw [HV.out]; simp [k6])
  clear HV
  go_wp2_with fail
  go_ret
  exact ⟨by rw [HE.out]; rfl, G3.out⟩
 have e6_ : decide (0 ≤ span) = true := decide_eq_true k6
 by_cases k7 : span ≤ 1099511627776
 rotate_left
 ·have e7_ : decide (span ≤ 1099511627776) = false := decide_eq_false k7
  have HE : Hid (b = false) := zH (by rw [HV.out]; simp [k7])
  clear HV
  go_wp2_with fail
  go_ret
  exact ⟨by rw [HE.out]; rfl, G3.out⟩
 have e7_ : decide (span ≤ 1099511627776) = true := decide_eq_true k7
 by_cases k8 : 2 ≤ least
 rotate_left
 ·have e8_ : decide (2 ≤ least) = false := decide_eq_false k8
  have HE : Hid (b = false) := zH (by rw [HV.out]; simp [k8])
  clear HV
  go_wp2_with fail
  go_ret
  exact ⟨by rw [HE.out]; rfl, G3.out⟩
 have e8_ : decide (2 ≤ least) = true := decide_eq_true k8
 by_cases k9 : least ≤ 16
 rotate_left
 ·have e9_ : decide (least ≤ 16) = false := decide_eq_false k9
  have HE : Hid (b = false) := zH (by rw [HV.out]; simp [k9])
  clear HV
  go_wp2_with fail
  go_ret
  exact ⟨by rw [HE.out]; rfl, G3.out⟩
 have e9_ : decide (least ≤ 16) = true := decide_eq_true k9
 have HE : Hid (b = true) := zH (by rw [HV.out]; simp [k0, k1, k2, k3, k4, k5, k6, k7, k8, k9])
 clear HV
 go_wp2_with fail
 go_ret
 exact ⟨by rw [HE.out]; rfl, G3.out⟩
set_option maxRecDepth 100000 in
set_option maxHeartbeats 8000000 in
theorem rvalid30_any (A : Asc) (vl vh v : Value) (P : List Ph) (w : World) (hi : AscIn A vl vh w) (hp : SlC 6 w v P.length (flatP P)) :
  Calls Tryz.prog 18 #[.agg (A.val vl vh), v] w fun e w' => e = .returned (.int .i64 (avE A P)) ∧ w.grownBy w' none := by
 have ST := zH (fun (u : World) (hu : w.grownBy u none) => rsettings_any A vl vh u (hi.after hu))
 have HOKT : Hid (A.ok = true → tOk A.st A.ls A.hs ∧ bP A.x0 A.y0 A.z0 A.x1 A.y1 A.z1 = true) := zH (fun h => by
  unfold Asc.ok at h
  simp only [Bool.and_eq_true, beq_iff_eq] at h
  refine ⟨?_, h.1.1.1.1.1.1⟩
  have h2 := h.1.1.1.1.1.2
  unfold tE at h2
  split at h2
  ·assumption
  ·cases h2)
 obtain ⟨x0, y0, z0, x1, y1, z1, st, ls, hs, cap, tol, span, lim, least⟩ := A
 obtain ⟨h1, h2⟩ := hi
 simp only [] at h1 h2 HOKT
 obtain ⟨la, ln, lc, rfl⟩ := sl_slice h1; obtain ⟨ha, hm, hc, rfl⟩ := sl_slice h2
 obtain ⟨pa, pc, rfl⟩ := hp.slice
 have G1 := zH (gb_alloc (gb_refl w none) (.cells #[x0, y0, z0, x1, y1, z1, st, .slice la ln lc, .slice ha hm hc, cap, tol, span, lim, least] 30))
 have B1 := zH (heap_alloc_new w (.cells #[x0, y0, z0, x1, y1, z1, st, .slice la ln lc, .slice ha hm hc, cap, tol, span, lim, least] 30))
 have IV := zH (fun (px py pz : Int) (u : World) (hu : w.grownBy u none) => rbinterval_any st _ _ ls hs x0 y0 z0 x1 y1 z1 px py pz u (h1.after hu) (h2.after hu))
 have HP := zH (fun (u : World) (hu : w.grownBy u none) => hp.after hu)
 obtain ⟨ok, hok⟩ : ∃ b, Asc.ok ⟨x0, y0, z0, x1, y1, z1, st, ls, hs, cap, tol, span, lim, least⟩ = b := ⟨_, rfl⟩
 obtain ⟨E, hE⟩ : ∃ E, avE ⟨x0, y0, z0, x1, y1, z1, st, ls, hs, cap, tol, span, lim, least⟩ P = E := ⟨_, rfl⟩
 obtain ⟨g, hg⟩ : ∃ g, zoneE st ls hs x0 y0 z0 x1 y1 z1 = g := ⟨_, rfl⟩
 have HV : Hid (E = if ok = false then 27 else if 256 < P.length then 8 else errOf g P) := zH (by rw [← hE]; unfold avE; simp only [hok, hg])
 rw [hok] at ST HOKT
 rw [hE]
 have HZE : Hid (ok = true → ∀ a : Ph, g a = if phP a.x a.y a.z a.e a.l a.n = true then bndE st ls hs x0 y0 z0 x1 y1 z1 a.x a.y a.z else 23) := zH (fun h a => by
  obtain ⟨t1, t2⟩ := HOKT.out h
  rw [← hg]
  unfold zoneE znE
  rw [if_pos t1, if_pos t2])
 clear hok hE hg h1 h2 hp HOKT
 simp only [Asc.val] at ST ⊢
 generalize hn : P.length = n at *
 have HN := zH hn; clear hn
 go_enter Tryz.func18, Tryz.ntmps18
 go_wp2_with (with_reducible refine wpList_load14 rfl _ rfl w.heap.size rfl _ _ B1.out rfl ?_)
 generalize w.alloc (.cells #[x0, y0, z0, x1, y1, z1, st, .slice la ln lc, .slice ha hm hc, cap, tol, span, lim, least] 30) = w1 at *
 generalize w.heap.size = z at *
 (with_reducible refine (ST.out w1 G1.out).mono ?_)
 rintro e w2 ⟨rfl, hg⟩
 have G2 := zH (gb_trans G1.out hg); have B2 := zH (block_kept hg B1.out rfl)
 clear hg G1 B1 ST
 cases ok
 ·have HE : Hid (E = 27) := zH (by rw [HV.out]; rfl)
  clear HV
  go_wp2_with fail
  go_ret
  exact ⟨ret_int HE.out.symm, G2.out⟩
 by_cases hbig : 256 < n
 ·have hb' : decide ((256 : Int) < (n : Int)) = true := decide_eq_true (by omega)
  have HE : Hid (E = 8) := zH (by rw [HV.out]; simp [hbig])
  clear HV
  go_wp2_with fail
  go_ret
  exact ⟨ret_int HE.out.symm, G2.out⟩
 have hb' : decide ((256 : Int) < (n : Int)) = false := decide_eq_false (by omega)
 have HE : Hid (errOf g (P.drop 0) = E) := zH (by rw [HV.out]; simp [hbig])
 have hn256 : n ≤ 256 := by omega
 have HZ := zH (HZE.out rfl)
 clear hbig HV HZE
 go_wp2_with fail
 clear hb'
 go_loopw [5] (fun i wr => ∃ k : Nat, k ≤ n ∧ i = .int .i64 k ∧ errOf g (P.drop k) = E ∧ w2.grownBy wr none) (fun i _ => n - (intOf i).toNat)
 case atStart => exact ⟨0, by omega, rfl, HE.out, gb_refl _ _⟩
 case round =>
  obtain ⟨k, hk, rfl, hp, hgr⟩ := hrel
  have GR := zH (gb_trans G2.out hgr); have GW := zH hgr
  by_cases hlt : k < n
  ·have hkd : decide ((k : Int) < (n : Int)) = true := decide_eq_true (by omega)
   have hkL : k < P.length := by have := HN.out; omega
   have hS := HP.out wr GR.out
   obtain ⟨b, off, cap', e, hbl, -, -, hcc⟩ := hS.block (by omega)
   simp only [Value.slice.injEq, true_and] at e
   obtain ⟨rfl, rfl⟩ := e
   obtain ⟨p0_, p1_, p2_, p3_, p4_, p5_⟩ := SlC.ph hcc k hkL
   rw [List.drop_eq_getElem_cons hkL] at hp
   have HPP : Hid ((if g P[k] = 0 then errOf g (P.drop (k + 1)) else g P[k]) = E) := zH hp
   have hz1 := HZ.out P[k]
   generalize g P[k] = gk at *
   generalize hak : P[k] = a at *
   obtain ⟨ax, ay, az, ae, al, an⟩ := a
   have HAK := zH hak
   clear hak
   simp only [] at hz1 p0_ p1_ p2_ p3_ p4_ p5_
   have VP := zH (fun (u : World) => rvalidPhase_any ax ay az ae al an u)
   have IK := zH (fun (u : World) (hu : w.grownBy u none) => IV.out ax ay az u hu)
   clear hp hgr hS hcc
   generalize phP ax ay az ae al an = vp at *
   unfold bndV at IK
   generalize bndE st ls hs x0 y0 z0 x1 y1 z1 ax ay az = be at *
   generalize bndA st ls hs x0 y0 z0 x1 y1 z1 ax ay az = ba at *
   generalize bndB st ls hs x0 y0 z0 x1 y1 z1 ax ay az = bb at *
   have HZK := zH hz1
   clear hz1
   go_wp2_with fail
   clear p0_ p1_ p2_ p3_ p4_ p5_
   (with_reducible refine (VP.out wr).mono ?_)
   rintro e w5 ⟨rfl, hg⟩
   have GR5 := zH (gb_trans GR.out hg); have GW5 := zH (gb_trans GW.out hg); have B5 := zH (block_kept (gb_trans GW.out hg) B2.out rfl)
   clear hg VP
   cases vp
   ·have HE : Hid (E = 23) := zH (by
     have h1 := HPP.out; have h2 := HZK.out
     simp only [Bool.false_eq_true, if_false] at h2
     rw [h2] at h1; simpa using h1.symm)
    clear HPP HZK
    go_wp2_with fail
    go_ret
    exact ⟨ret_int HE.out.symm, GR5.out⟩
   have hS := HP.out w5 GR5.out
   obtain ⟨b', off', cap'', e, hbl5, -, -, hcc⟩ := hS.block (by omega)
   simp only [Value.slice.injEq, Option.some.injEq, Addr.mk.injEq, and_true, true_and] at e
   obtain ⟨⟨rfl, rfl⟩, rfl⟩ := e
   have HP5 : Hid (w5.cell? ⟨b, off + k * 6, none⟩ = some (.int .i64 ax) ∧ w5.cell? ⟨b, off + k * 6 + 1, none⟩ = some (.int .i64 ay) ∧ w5.cell? ⟨b, off + k * 6 + 2, none⟩ = some (.int .i64 az)) := zH (by
    obtain ⟨q0, q1, q2, -⟩ := SlC.ph hcc k hkL
    rw [HAK.out] at q0 q1 q2
    exact ⟨q0, q1, q2⟩)
   clear hS hcc
   obtain ⟨p0_, p1_, p2_⟩ := HP5.out
   obtain ⟨c0_, c1_, c2_, c3_, c4_, c5_, c6_, c7_, c8_, c9_, c10_, c11_, c12_, c13_⟩ := cells14 B5.out
   have hz := block_lt' B5.out
   have u0_ := Made.cell p0_ hbl5; have u1_ := Made.cell p1_ hbl5; have u2_ := Made.cell p2_ hbl5
   have uc_ := Made.cells hz
   go_wp2_with fail
   refine Rg.rR (Made w5) Makes (fun k_ => if k_ = 9 then some (isV (.tuple #[ba, bb, be])) else none) (fun _ => false) 0 17 Makes.size (Made.start w5) (fun hne => ?_)
   (repeat (refine rQ ?_; go_big_quiet_step (fail); refine wpQuiet_nil ?_))
   refine rg_fix (.tuple #[ba, bb, be]) 58 #[.agg #[st, .slice la ln lc, .slice ha hm hc], .agg #[x0, y0, z0, x1, y1, z1], .agg #[ax, ay, az]] rfl rfl rfl (fun _ => by go_simp) (fun u hu => IK.out u (gb_trans GR5.out hu)) ?_
   simp only [zA, zB, zC, zD, zX]
   (repeat (refine rQ ?_; go_big_quiet_step (fail); refine wpQuiet_nil ?_))
   rintro w6 hg6 - -
   refine wpList_nil ?_
   have GR6 := zH (gb_trans GR5.out hg6); have GW6 := zH (gb_trans GW5.out hg6)
   clear hg6 hne u0_ u1_ u2_ uc_ c0_ c1_ c2_ c3_ c4_ c5_ c6_ c7_ c8_ c9_ c10_ c11_ c12_ c13_ hz p0_ p1_ p2_ hbl5
   by_cases hbe : be = 0
   ·have hb' : (be != 0) = false := by simp [hbe]
    have HN2 : Hid (errOf g (P.drop (k + 1)) = E) := zH (by
     have h1 := HPP.out; have h2 := HZK.out
     simp only [if_true] at h2
     rw [h2, if_pos hbe] at h1; exact h1)
    clear hbe HPP HZK
    go_wp2_with fail
    go_roundw
    case rel => exact ⟨k + 1, by omega, by go_num, HN2.out, GW6.out⟩
    case measure => simp [intOf]; omega
   ·have hb' : (be != 0) = true := by simpa using hbe
    have HE : Hid (E = be) := zH (by
     have h1 := HPP.out; have h2 := HZK.out
     simp only [if_true] at h2
     rw [h2, if_neg hbe] at h1; exact h1.symm)
    clear hbe HPP HZK
    go_wp2_with fail
    go_ret
    exact ⟨ret_int HE.out.symm, GR6.out⟩
  ·have hkd : decide ((k : Int) < (n : Int)) = false := decide_eq_false (by omega)
   have HE : Hid (E = 0) := zH (by rw [← hp, List.drop_eq_nil_of_le (by have := HN.out; omega)]; rfl)
   clear hp
   go_wp2_with fail
   go_ret
   exact ⟨ret_int HE.out.symm, GR.out⟩
def lessB (a b : Ph) (i k : Nat) : Bool := decide (cmpA a b < 0) || (decide (cmpA a b = 0) && decide (i < k))
theorem cmpA_zero {a b : Ph} : cmpA a b = 0 ↔ a.key = b.key := by
 constructor
 ·intro h
  unfold cmpA cmpP at h
  by_cases h1 : sgn a.e b.e = 0
  ·rw [if_neg (by simpa using h1)] at h
   by_cases h2 : sgn a.l b.l = 0
   ·rw [if_neg (by simpa using h2)] at h
    by_cases h3 : sgn a.x b.x = 0
    ·by_cases h4 : sgn a.y b.y = 0
     ·by_cases h5 : sgn a.z b.z = 0
      ·simp only [h3, h4, h5, ne_eq, not_true_eq_false, if_false] at h
       have := sgn_zero.1 h1; have := sgn_zero.1 h2; have := sgn_zero.1 h3; have := sgn_zero.1 h4; have := sgn_zero.1 h5; have := sgn_zero.1 h
       unfold Ph.key
       simp_all
      ·simp only [h3, h4, ne_eq, not_true_eq_false, if_false, h5, not_false_eq_true, if_true] at h
       all_goals exact absurd h h5
     ·simp only [h3, ne_eq, not_true_eq_false, if_false, h4, not_false_eq_true, if_true] at h
      all_goals exact absurd h h4
    ·simp only [ne_eq, h3, not_false_eq_true, if_true] at h
     all_goals exact absurd h h3
   ·rw [if_pos h2] at h; exact absurd h h2
  ·rw [if_pos h1] at h; exact absurd h h1
 ·intro h
  simp only [Ph.key, List.cons.injEq, and_true] at h
  obtain ⟨h1, h2, h3, h4, h5, h6⟩ := h
  unfold cmpA cmpP sgn
  simp [h1, h2, h3, h4, h5, h6]
theorem lessB_iff {P : List Ph} {i k : Nat} : lessB (phA P i) (phA P k) i k = true ↔ lessA P i k := by
 unfold lessB lessA
 rw [Bool.or_eq_true, Bool.and_eq_true, decide_eq_true_eq, decide_eq_true_eq, decide_eq_true_eq, cmpA_neg, cmpA_zero]
set_option maxRecDepth 100000 in
set_option maxHeartbeats 8000000 in
theorem rless_any (P : List Ph) (v : Value) (w : World) (i k : Nat) (hp : SlC 6 w v P.length (flatP P)) (hi : i < P.length) (hk : k < P.length) :
  Calls Tryz.prog 62 #[v, (i : Int), (k : Int)] w fun e w' => e = .returned (.bool (lessB (phA P i) (phA P k) i k)) ∧ w.grownBy w' none := by
 obtain ⟨b, off, cap, rfl, hb, -, -, hc⟩ := hp.block (by omega)
 obtain ⟨p0_, p1_, p2_, p3_, p4_, p5_⟩ := SlC.ph hc i hi
 obtain ⟨q0_, q1_, q2_, q3_, q4_, q5_⟩ := SlC.ph hc k hk
 rw [phA_eq hi, phA_eq hk]
 generalize P[i] = pa at *
 generalize P[k] = pb at *
 obtain ⟨a0, a1, a2, a3, a4, a5⟩ := pa
 obtain ⟨b0, b1, b2, b3, b4, b5⟩ := pb
 simp only [] at p0_ p1_ p2_ p3_ p4_ p5_ q0_ q1_ q2_ q3_ q4_ q5_
 generalize hn : P.length = n at *
 clear hn hp hc
 obtain ⟨c, hcc⟩ : ∃ c, cmpP a0 a1 a2 b0 b1 b2 = c := ⟨_, rfl⟩
 have CM := zH (fun (u : World) => rcompare_any a0 a1 a2 b0 b1 b2 u)
 rw [hcc] at CM
 obtain ⟨r, hr⟩ : ∃ r, lessB ⟨a0, a1, a2, a3, a4, a5⟩ ⟨b0, b1, b2, b3, b4, b5⟩ i k = r := ⟨_, rfl⟩
 have HV : Hid (r = if a3 ≠ b3 then decide (a3 < b3) else if a4 ≠ b4 then decide (a4 < b4) else if c ≠ 0 then decide (c < 0) else if a5 ≠ b5 then decide (a5 < b5) else decide ((i : Int) < (k : Int))) := zH (by
  rw [← hr]
  unfold lessB cmpA
  simp only [hcc]
  by_cases h1 : a3 = b3 <;> by_cases h2 : a4 = b4 <;> by_cases h3 : c = 0 <;> by_cases h4 : a5 = b5 <;> simp [sgn_zero, sgn_neg, h1, h2, h3, h4])
 rw [hr]
 clear hcc hr
 have u1_ := Made.cell p0_ hb; have u2_ := Made.cell p1_ hb; have u3_ := Made.cell p2_ hb; have u4_ := Made.cell p3_ hb; have u5_ := Made.cell p4_ hb; have u6_ := Made.cell p5_ hb
 have v1_ := Made.cell q0_ hb; have v2_ := Made.cell q1_ hb; have v3_ := Made.cell q2_ hb; have v4_ := Made.cell q3_ hb; have v5_ := Made.cell q4_ hb; have v6_ := Made.cell q5_ hb
 go_enter Tryz.func62, Tryz.ntmps62
 go_wp2_with fail
 refine Rg.rR (Made w) (MakesS 10) (fun k_ => if k_ = 8 then some (isVar w 6 51) else if k_ = 9 then some (isVar w 6 51) else if k_ = 10 then some (isRow #[a0, a1, a2, a3, a4, a5] 51) else none) (fun k_ => k_ == 8 || k_ == 9) 0 11 (MakesS.size 10) (Made.start w) (fun hne => ?_)
 (repeat (refine rQ ?_; go_big_quiet_step (fail); refine wpQuiet_nil ?_))
 refine rg_var #[(0:Int), (0:Int), (0:Int), (0:Int), (0:Int), (0:Int)] 51 (by decide) rfl rfl (fun _ => by go_simp) (fun za hza => ?_)
 simp only [zA, zB, zC, zD, zX]
 refine rg_var #[(0:Int), (0:Int), (0:Int), (0:Int), (0:Int), (0:Int)] 51 (by decide) rfl rfl (fun _ => by go_simp) (fun zb hzb => ?_)
 simp only [zA, zB, zC, zD, zX]
 refine rg_storeRow za #[a0, a1, a2, a3, a4, a5] 51 _ _ _ 8 ⟨⟨8, .data⟩, by simp, rfl, rfl⟩ rfl rfl rfl rfl (by kernel_rfl) (by simp [Value.oneCell']) hza rfl rfl rfl ?_ rfl
 simp only [zA, zB, zC, zD, zX]
 rintro wq hq hf hD
 have hc6 := isRow.out (v := undef) (hf 10)
 obtain ⟨dcs, hdcs, hd6⟩ := isVar.out (hf 9)
 have hcd : za ≠ zb := (hD 8 _ _ rfl (by kernel_rfl) rfl rfl za rfl (Nat.zero_le _)).2 9 _ _ rfl (by decide) (by kernel_rfl) rfl rfl zb rfl (Nat.zero_le _)
 refine wpList_store_row rfl _ _ _ rfl zb #[b0, b1, b2, b3, b4, b5] rfl rfl _ _ hd6 (by kernel_rfl) hdcs (by simp [Value.oneCell']) ?_
 have hg8 : w.grownBy (wq.setRow zb #[b0, b1, b2, b3, b4, b5]) none := gb_setRow hq (.inl hzb)
 have A8 := zH ((setRow_far (cs := #[b0, b1, b2, b3, b4, b5]) hcd).trans hc6)
 have B8 := zH (setRow_at (cs := #[b0, b1, b2, b3, b4, b5]) hd6)
 have G8 := zH hg8
 generalize wq.setRow zb #[b0, b1, b2, b3, b4, b5] = w8 at *
 clear hf hD hc6 hd6 hdcs hcd hg8 hq hza hzb hne u1_ u2_ u3_ u4_ u5_ u6_ v1_ v2_ v3_ v4_ v5_ v6_ p0_ p1_ p2_ p3_ p4_ p5_ q0_ q1_ q2_ q3_ q4_ q5_ hb
 refine wpList_nil ?_
 obtain ⟨c0_, c1_, c2_, c3_, c4_, c5_⟩ := six A8.out
 obtain ⟨d0_, d1_, d2_, d3_, d4_, d5_⟩ := six B8.out
 have ha_ := block_lt' A8.out; have hb_ := block_lt' B8.out
 by_cases h1 : a3 = b3
 rotate_left
 ·have e1_ : (a3 != b3) = true := by simpa using h1
  have HE : Hid (r = decide (a3 < b3)) := zH (by rw [HV.out]; simp [h1])
  clear HV
  go_wp2_with fail
  go_ret
  exact ⟨by rw [HE.out]; rfl, G8.out⟩
 have e1_ : (a3 != b3) = false := by simpa using h1
 by_cases h2 : a4 = b4
 rotate_left
 ·have e2_ : (a4 != b4) = true := by simpa using h2
  have HE : Hid (r = decide (a4 < b4)) := zH (by rw [HV.out]; simp [h1, h2])
  clear HV h1
  go_wp2_with fail
  go_ret
  exact ⟨by rw [HE.out]; rfl, G8.out⟩
 have e2_ : (a4 != b4) = false := by simpa using h2
 have HV : Hid (r = if c ≠ 0 then decide (c < 0) else if a5 ≠ b5 then decide (a5 < b5) else decide ((i : Int) < (k : Int))) := zH (by rw [HV.out, if_neg (by simpa using h1), if_neg (by simpa using h2)])
 clear h1 h2
 go_wp2_with fail
 clear c0_ c1_ c2_ c3_ c4_ c5_ d0_ d1_ d2_ d3_ d4_ d5_ ha_ hb_
 (with_reducible refine (CM.out w8).mono ?_)
 rintro e w9 ⟨rfl, hg⟩
 have G9 := zH (gb_trans G8.out hg); have A9 := zH (block_kept hg A8.out rfl); have B9 := zH (block_kept hg B8.out rfl)
 clear hg CM A8 B8 G8
 obtain ⟨c0_, c1_, c2_, c3_, c4_, c5_⟩ := six A9.out
 obtain ⟨d0_, d1_, d2_, d3_, d4_, d5_⟩ := six B9.out
 have ha_ := block_lt' A9.out; have hb_ := block_lt' B9.out
 by_cases h3 : c = 0
 rotate_left
 ·have e3_ : (c != 0) = true := by simpa using h3
  have HE : Hid (r = decide (c < 0)) := zH (by rw [HV.out]; simp [h3])
  clear HV
  go_wp2_with fail
  go_ret
  exact ⟨by rw [HE.out]; rfl, G9.out⟩
 have e3_ : (c != 0) = false := by simpa using h3
 have HV : Hid (r = if a5 ≠ b5 then decide (a5 < b5) else decide ((i : Int) < (k : Int))) := zH (by rw [HV.out, if_neg (by simpa using h3)])
 clear h3
 by_cases h4 : a5 = b5
 rotate_left
 ·have e4_ : (a5 != b5) = true := by simpa using h4
  have HE : Hid (r = decide (a5 < b5)) := zH (by rw [HV.out]; simp [h4])
  clear HV
  go_wp2_with fail
  go_ret
  exact ⟨by rw [HE.out]; rfl, G9.out⟩
 have e4_ : (a5 != b5) = false := by simpa using h4
 have HE : Hid (r = decide ((i : Int) < (k : Int))) := zH (by rw [HV.out]; simp [h4])
 clear h4 HV
 go_wp2_with fail
 go_ret
 exact ⟨by rw [HE.out]; simp, G9.out⟩
end Go.Proofs.YtiebljanpnadjaaGreat
