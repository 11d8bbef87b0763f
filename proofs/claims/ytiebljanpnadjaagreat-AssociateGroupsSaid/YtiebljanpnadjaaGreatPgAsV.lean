import Derived.Test.YtiebljanpnadjaaGreatPgMis
namespace Go.Proofs.YtiebljanpnadjaaGreat
set_option linter.all false
open Go.RowKit
structure Asc where
 x0 : Int
 y0 : Int
 z0 : Int
 x1 : Int
 y1 : Int
 z1 : Int
 st : Int
 ls : List Int
 hs : List Int
 cap : Int
 tol : Int
 span : Int
 lim : Int
 least : Int
def Asc.val (A : Asc) (vl vh : Value) : Array Value := #[.int .i64 A.x0, .int .i64 A.y0, .int .i64 A.z0, .int .i64 A.x1, .int .i64 A.y1, .int .i64 A.z1, .int .i64 A.st, vl, vh, .int .i64 A.cap, .int .i64 A.tol, .int .i64 A.span, .int .i64 A.lim, .int .i64 A.least]
def inI (n lo hi : Int) : Bool := decide (lo ≤ n) && decide (n ≤ hi)
theorem inI_iff {n lo hi : Int} : inI n lo hi = true ↔ lo ≤ n ∧ n ≤ hi := by simp [inI]
def Asc.ok (A : Asc) : Bool := bP A.x0 A.y0 A.z0 A.x1 A.y1 A.z1 && (tE A.st A.ls A.hs == 0) && inI A.cap 1 1099511627776 && inI A.tol 0 1099511627776 && inI A.lim 0 1099511627776 && inI A.span 0 1099511627776 && inI A.least 2 16
def avE (A : Asc) (P : List Ph) : Int := if A.ok = false then 27 else if 256 < P.length then 8 else errOf (zoneE A.st A.ls A.hs A.x0 A.y0 A.z0 A.x1 A.y1 A.z1) P
structure AscIn (A : Asc) (vl vh : Value) (w : World) : Prop where
 l : Sl w vl A.ls
 h : Sl w vh A.hs
theorem AscIn.after {A : Asc} {vl vh : Value} {w w' : World} (h : AscIn A vl vh w) (hg : w.grownBy w' none) : AscIn A vl vh w' := ⟨h.l.after hg, h.h.after hg⟩
theorem cells14 {w : World} {b : Nat} {a0 a1 a2 a3 a4 a5 a6 a7 a8 a9 a10 a11 a12 a13 : Value} {t : TypeId} {fr : Nat × Nat} (h : w.heap[b]? = some (.cells #[a0, a1, a2, a3, a4, a5, a6, a7, a8, a9, a10, a11, a12, a13] t fr)) :
  w.cell? ⟨b, 0, none⟩ = some a0 ∧ w.cell? ⟨b, 1, none⟩ = some a1 ∧ w.cell? ⟨b, 2, none⟩ = some a2 ∧ w.cell? ⟨b, 3, none⟩ = some a3 ∧ w.cell? ⟨b, 4, none⟩ = some a4 ∧ w.cell? ⟨b, 5, none⟩ = some a5 ∧ w.cell? ⟨b, 6, none⟩ = some a6 ∧ w.cell? ⟨b, 7, none⟩ = some a7 ∧ w.cell? ⟨b, 8, none⟩ = some a8 ∧ w.cell? ⟨b, 9, none⟩ = some a9 ∧ w.cell? ⟨b, 10, none⟩ = some a10 ∧ w.cell? ⟨b, 11, none⟩ = some a11 ∧ w.cell? ⟨b, 12, none⟩ = some a12 ∧ w.cell? ⟨b, 13, none⟩ = some a13 := by simp [World.cell?, h]
theorem ain_any (n lo hi : Int) (w : World) :
  Calls Tryz.prog 54 #[n, lo, hi] w fun e w' => e = .returned (.bool (inI n lo hi)) ∧ w = w' := by
 by_cases h1 : lo ≤ n
 ·go_enter Tryz.func54, Tryz.ntmps54
  go_wp2
  go_ret
  exact ⟨by simp [inI, h1], rfl⟩
 ·go_enter Tryz.func54, Tryz.ntmps54
  go_wp2
  go_ret
  exact ⟨by simp [inI]; omega, rfl⟩
set_option maxRecDepth 100000 in
set_option maxHeartbeats 4000000 in
theorem avalidate_any (A : Asc) (vl vh v : Value) (P : List Ph) (w : World) (hi : AscIn A vl vh w) (hp : SlC 6 w v P.length (flatP P)) :
  Calls Tryz.prog 17 #[.agg (A.val vl vh), v] w fun e w' => e = .returned (.int .i64 (avE A P)) ∧ w.grownBy w' none := by
 obtain ⟨x0, y0, z0, x1, y1, z1, st, ls, hs, cap, tol, span, lim, least⟩ := A
 obtain ⟨h1, h2⟩ := hi
 simp only [] at h1 h2
 obtain ⟨la, ln, lc, rfl⟩ := sl_slice h1; obtain ⟨ha, hn, hc, rfl⟩ := sl_slice h2
 obtain ⟨pa, pc, rfl⟩ := hp.slice
 have G1 := zH (gb_alloc (gb_refl w none) (.cells #[x0, y0, z0, x1, y1, z1, st, .slice la ln lc, .slice ha hn hc, cap, tol, span, lim, least] 30))
 have B1 := zH (heap_alloc_new w (.cells #[x0, y0, z0, x1, y1, z1, st, .slice la ln lc, .slice ha hn hc, cap, tol, span, lim, least] 30))
 have VT := zH (fun (u : World) (hu : w.grownBy u none) => validate_any st _ _ ls hs u (h1.after hu) (h2.after hu))
 have ZA := zH (fun (a : Ph) (u : World) (hu : w.grownBy u none) => zone_any st _ _ ls hs x0 y0 z0 x1 y1 z1 a.x a.y a.z a.e a.l a.n u (h1.after hu) (h2.after hu))
 have HP := zH (fun (u : World) (hu : w.grownBy u none) => hp.after hu)
 have hlen : P.length ≤ 256 → P.length ≤ 256 := fun h => h
 obtain ⟨vb, hvb⟩ : ∃ b, bP x0 y0 z0 x1 y1 z1 = b := ⟨_, rfl⟩
 obtain ⟨te, hte⟩ : ∃ b, tE st ls hs = b := ⟨_, rfl⟩
 obtain ⟨i1, hi1⟩ : ∃ b, inI cap 1 1099511627776 = b := ⟨_, rfl⟩
 obtain ⟨i2, hi2⟩ : ∃ b, inI tol 0 1099511627776 = b := ⟨_, rfl⟩
 obtain ⟨i3, hi3⟩ : ∃ b, inI lim 0 1099511627776 = b := ⟨_, rfl⟩
 obtain ⟨i4, hi4⟩ : ∃ b, inI span 0 1099511627776 = b := ⟨_, rfl⟩
 obtain ⟨i5, hi5⟩ : ∃ b, inI least 2 16 = b := ⟨_, rfl⟩
 have HV : Hid (avE ⟨x0, y0, z0, x1, y1, z1, st, ls, hs, cap, tol, span, lim, least⟩ P = if (vb && (te == 0) && i1 && i2 && i3 && i4 && i5) = false then 27 else if 256 < P.length then 8 else errOf (zoneE st ls hs x0 y0 z0 x1 y1 z1) P) := zH (by
  unfold avE Asc.ok; simp only [hvb, hte, hi1, hi2, hi3, hi4, hi5])
 have VB := zH (fun u => validBox_any x0 y0 z0 x1 y1 z1 u)
 have C1 := zH (fun u => ain_any cap 1 1099511627776 u); have C2 := zH (fun u => ain_any tol 0 1099511627776 u); have C3 := zH (fun u => ain_any lim 0 1099511627776 u); have C4 := zH (fun u => ain_any span 0 1099511627776 u); have C5 := zH (fun u => ain_any least 2 16 u)
 rw [hvb] at VB; rw [hte] at VT; rw [hi1] at C1; rw [hi2] at C2; rw [hi3] at C3; rw [hi4] at C4; rw [hi5] at C5
 clear hvb hte hi1 hi2 hi3 hi4 hi5 h1 h2 hp hlen
 generalize avE ⟨x0, y0, z0, x1, y1, z1, st, ls, hs, cap, tol, span, lim, least⟩ P = E at *
 obtain ⟨g, hg⟩ : ∃ g, zoneE st ls hs x0 y0 z0 x1 y1 z1 = g := ⟨_, rfl⟩
 have ZA := zH (fun (a : Ph) (u : World) (hu : w.grownBy u none) => (by have := ZA.out a u hu; rw [znV_is, hg] at this; exact this : Calls Tryz.prog 55 #[.agg #[st, .slice la ln lc, .slice ha hn hc], .agg #[x0, y0, z0, x1, y1, z1], .agg #[.int .i64 a.x, .int .i64 a.y, .int .i64 a.z, .int .i64 a.e, .int .i64 a.l, .int .i64 a.n]] u fun r w' =>
   r = .returned (.tuple #[.agg #[.int .i64 (zoneOf st ls hs x0 y0 z0 x1 y1 z1 a).f, .int .i64 (zoneOf st ls hs x0 y0 z0 x1 y1 z1 a).t], .int .i64 (g a)]) ∧ u.grownBy w' none))
 rw [hg] at HV
 clear hg
 generalize zoneOf st ls hs x0 y0 z0 x1 y1 z1 = zo at *
 generalize hn : P.length = n at *
 have HN := zH hn; clear hn
 simp only [Asc.val]
 obtain ⟨c0_, c1_, c2_, c3_, c4_, c5_, c6_, c7_, c8_, c9_, c10_, c11_, c12_, c13_⟩ := cells14 B1.out
 go_enter Tryz.func17, Tryz.ntmps17
 go_wp2_with fail
 clear c0_ c1_ c2_ c3_ c4_ c5_ c6_ c7_ c8_ c9_ c10_ c11_ c12_ c13_
 generalize w.alloc (.cells #[x0, y0, z0, x1, y1, z1, st, .slice la ln lc, .slice ha hn hc, cap, tol, span, lim, least] 30) = w1 at *
 generalize w.heap.size = z at *
 (with_reducible refine (VB.out w1).mono ?_)
 rintro e w2 ⟨rfl, hg⟩
 have G2 := zH (gb_trans G1.out hg); have B2 := zH (block_kept hg B1.out rfl)
 clear hg G1 B1 VB
 cases vb
 ·have HE : Hid (E = 27) := zH (by rw [HV.out]; rfl)
  go_wp2
  go_ret
  exact ⟨ret_int HE.out.symm, G2.out⟩
 obtain ⟨c0_, c1_, c2_, c3_, c4_, c5_, c6_, c7_, c8_, c9_, c10_, c11_, c12_, c13_⟩ := cells14 B2.out
 have hz := block_lt' B2.out
 go_wp2_with fail
 clear c0_ c1_ c2_ c3_ c4_ c5_ c6_ c7_ c8_ c9_ c10_ c11_ c12_ c13_
 clear hz
 (with_reducible refine (VT.out w2 G2.out).mono ?_)
 rintro e w3 ⟨rfl, hg⟩
 have G3 := zH (gb_trans G2.out hg); have B3 := zH (block_kept hg B2.out rfl)
 clear hg G2 B2 VT
 by_cases ht : te = 0
 rotate_left
 ·have ht' : (te != 0) = true := by simpa using ht
  have HE : Hid (E = 27) := zH (by rw [HV.out, show (te == 0) = false by simpa using ht]; rfl)
  clear ht
  go_wp2
  go_ret
  exact ⟨ret_int HE.out.symm, G3.out⟩
 subst ht
 obtain ⟨c0_, c1_, c2_, c3_, c4_, c5_, c6_, c7_, c8_, c9_, c10_, c11_, c12_, c13_⟩ := cells14 B3.out
 have hz := block_lt' B3.out
 cases i1
 ·have HE : Hid (E = 27) := zH (by rw [HV.out]; simp)
  go_wp2_with (go_at_call 54; (first | (with_reducible refine (C1.out _).mono ?_) | (with_reducible refine (C2.out _).mono ?_) | (with_reducible refine (C3.out _).mono ?_) | (with_reducible refine (C4.out _).mono ?_) | (with_reducible refine (C5.out _).mono ?_)); rintro e w' ⟨rfl, rfl⟩)
  go_ret
  exact ⟨ret_int HE.out.symm, G3.out⟩
 cases i2
 ·have HE : Hid (E = 27) := zH (by rw [HV.out]; simp)
  go_wp2_with (go_at_call 54; (first | (with_reducible refine (C1.out _).mono ?_) | (with_reducible refine (C2.out _).mono ?_) | (with_reducible refine (C3.out _).mono ?_) | (with_reducible refine (C4.out _).mono ?_) | (with_reducible refine (C5.out _).mono ?_)); rintro e w' ⟨rfl, rfl⟩)
  go_ret
  exact ⟨ret_int HE.out.symm, G3.out⟩
 cases i3
 ·have HE : Hid (E = 27) := zH (by rw [HV.out]; simp)
  go_wp2_with (go_at_call 54; (first | (with_reducible refine (C1.out _).mono ?_) | (with_reducible refine (C2.out _).mono ?_) | (with_reducible refine (C3.out _).mono ?_) | (with_reducible refine (C4.out _).mono ?_) | (with_reducible refine (C5.out _).mono ?_)); rintro e w' ⟨rfl, rfl⟩)
  go_ret
  exact ⟨ret_int HE.out.symm, G3.out⟩
 cases i4
 ·have HE : Hid (E = 27) := zH (by rw [HV.out]; simp)
  go_wp2_with (go_at_call 54; (first | (with_reducible refine (C1.out _).mono ?_) | (with_reducible refine (C2.out _).mono ?_) | (with_reducible refine (C3.out _).mono ?_) | (with_reducible refine (C4.out _).mono ?_) | (with_reducible refine (C5.out _).mono ?_)); rintro e w' ⟨rfl, rfl⟩)
  go_ret
  exact ⟨ret_int HE.out.symm, G3.out⟩
 cases i5
 ·have HE : Hid (E = 27) := zH (by rw [HV.out]; simp)
  go_wp2_with (go_at_call 54; (first | (with_reducible refine (C1.out _).mono ?_) | (with_reducible refine (C2.out _).mono ?_) | (with_reducible refine (C3.out _).mono ?_) | (with_reducible refine (C4.out _).mono ?_) | (with_reducible refine (C5.out _).mono ?_)); rintro e w' ⟨rfl, rfl⟩)
  go_ret
  exact ⟨ret_int HE.out.symm, G3.out⟩
 by_cases hbig : 256 < n
 ·have hb' : decide ((n : Int) > 256) = true := decide_eq_true (by omega)
  have HE : Hid (E = 8) := zH (by rw [HV.out]; simp [hbig])
  clear hbig
  go_wp2_with (go_at_call 54; (first | (with_reducible refine (C1.out _).mono ?_) | (with_reducible refine (C2.out _).mono ?_) | (with_reducible refine (C3.out _).mono ?_) | (with_reducible refine (C4.out _).mono ?_) | (with_reducible refine (C5.out _).mono ?_)); rintro e w' ⟨rfl, rfl⟩)
  go_ret
  exact ⟨ret_int HE.out.symm, G3.out⟩
 have hb' : decide ((n : Int) > 256) = false := decide_eq_false (by omega)
 have HE : Hid (errOf g (P.drop 0) = E) := zH (by rw [HV.out]; simp [hbig])
 have hn256 : n ≤ 256 := by omega
 clear hbig HV
 go_wp2_with (go_at_call 54; (first | (with_reducible refine (C1.out _).mono ?_) | (with_reducible refine (C2.out _).mono ?_) | (with_reducible refine (C3.out _).mono ?_) | (with_reducible refine (C4.out _).mono ?_) | (with_reducible refine (C5.out _).mono ?_)); rintro e w' ⟨rfl, rfl⟩)
 clear c0_ c1_ c2_ c3_ c4_ c5_ c6_ c7_ c8_ c9_ c10_ c11_ c12_ c13_
 clear hz hb' C1 C2 C3 C4 C5
 go_loopw [54] (fun i wr => ∃ k : Nat, k ≤ n ∧ i = .int .i64 k ∧ errOf g (P.drop k) = E ∧ w3.grownBy wr none) (fun i _ => n - (intOf i).toNat)
 case atStart => exact ⟨0, by omega, rfl, HE.out, gb_refl _ _⟩
 case round =>
  obtain ⟨k, hk, rfl, hp, hgr⟩ := hrel
  have GR := zH (gb_trans G3.out hgr); have GW := zH hgr
  by_cases hlt : k < n
  ·have hkL : k < P.length := by have := HN.out; omega
   have hS := HP.out wr GR.out
   obtain ⟨b, off, cap', e, hbl, -, -, hcc⟩ := hS.block (by omega)
   simp only [Value.slice.injEq, true_and] at e
   obtain ⟨rfl, rfl⟩ := e
   obtain ⟨p0_, p1_, p2_, p3_, p4_, p5_⟩ := SlC.ph hcc k hkL
   rw [List.drop_eq_getElem_cons hkL] at hp
   have HPP : Hid ((if g P[k] = 0 then errOf g (P.drop (k + 1)) else g P[k]) = E) := zH hp
   have ZK := zH (fun u hu => ZA.out P[k] u hu)
   clear hp hgr hS hcc
   obtain ⟨c0_, c1_, c2_, c3_, c4_, c5_, c6_, c7_, c8_, c9_, c10_, c11_, c12_, c13_⟩ := cells14 (block_kept GW.out B3.out rfl)
   have hz := block_lt' (block_kept GW.out B3.out rfl)
   generalize P[k] = a at *
   obtain ⟨px, py, pz, pe, pl, pn⟩ := a
   simp only [] at p0_ p1_ p2_ p3_ p4_ p5_ ZK
   generalize g ⟨px, py, pz, pe, pl, pn⟩ = ga at *
   generalize zo ⟨px, py, pz, pe, pl, pn⟩ = zz at *
   obtain ⟨zf, zt⟩ := zz
   simp only [] at ZK
   have ha := gb_alloc (gb_refl wr none) (.cells #[px, py, pz, pe, pl, pn] 51)
   have GA := zH (gb_trans GR.out ha); have GWA := zH (gb_trans GW.out ha)
   clear ha
   go_wp2_with fail
   clear c0_ c1_ c2_ c3_ c4_ c5_ c6_ c7_ c8_ c9_ c10_ c11_ c12_ c13_
   clear hz p0_ p1_ p2_ p3_ p4_ p5_ hbl
   (with_reducible refine (ZK.out _ GA.out).mono ?_)
   rintro e w4 ⟨rfl, hg⟩
   have hga := gb_alloc hg (.cells #[zf, zt] 97)
   have GE := zH (gb_trans GA.out hga); have GWE := zH (gb_trans GWA.out hga)
   clear hg hga ZK
   by_cases h0 : ga = 0
   ·have h0' : (ga != 0) = false := by simpa using h0
    have HP2 : Hid (errOf g (P.drop (k + 1)) = E) := zH (by have := HPP.out; rwa [if_pos h0] at this)
    clear h0
    go_wp2
    go_roundw
    case rel => exact ⟨k + 1, by omega, by go_num, HP2.out, GWE.out⟩
    case measure => simp [intOf]; omega
   ·have h0' : (ga != 0) = true := by simpa using h0
    have HP2 : Hid (ga = E) := zH (by have := HPP.out; rwa [if_neg h0] at this)
    clear h0
    go_wp2
    go_ret
    exact ⟨ret_int HP2.out, GE.out⟩
  ·have hd_ : decide ((k : Int) < (n : Int)) = false := decide_eq_false (by omega)
   have HE2 : Hid (E = 0) := zH (by
    have h2 := HN.out
    rw [List.drop_of_length_le (by omega)] at hp
    exact hp.symm)
   clear hgr hp
   go_wp2
   go_ret
   exact ⟨ret_int HE2.out.symm, GR.out⟩
end Go.Proofs.YtiebljanpnadjaaGreat
