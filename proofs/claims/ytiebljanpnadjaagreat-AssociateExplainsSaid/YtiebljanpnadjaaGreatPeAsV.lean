import Derived.Test.YtiebljanpnadjaaGreatPeMisP
namespace Go.Proofs.YtiebljanpnadjaaGreat
set_option linter.all false
open Go.RowKit
structure Asc where
 x0 : Int
 y0 : Int
 z0 : Int
 x1 : Int
 y1 : Int
 z1 : Int
 st : Int
 ls : List Int
 hs : List Int
 cap : Int
 tol : Int
 span : Int
 lim : Int
 least : Int
def Asc.val (A : Asc) (vl vh : Value) : Array Value := #[.int .i64 A.x0, .int .i64 A.y0, .int .i64 A.z0, .int .i64 A.x1, .int .i64 A.y1, .int .i64 A.z1, .int .i64 A.st, vl, vh, .int .i64 A.cap, .int .i64 A.tol, .int .i64 A.span, .int .i64 A.lim, .int .i64 A.least]
def inI (n lo hi : Int) : Bool := decide (lo ≤ n) && decide (n ≤ hi)
theorem inI_iff {n lo hi : Int} : inI n lo hi = true ↔ lo ≤ n ∧ n ≤ hi := by simp [inI]
def Asc.ok (A : Asc) : Bool := bP A.x0 A.y0 A.z0 A.x1 A.y1 A.z1 && (tE A.st A.ls A.hs == 0) && inI A.cap 1 1099511627776 && inI A.tol 0 1099511627776 && inI A.lim 0 1099511627776 && inI A.span 0 1099511627776 && inI A.least 2 16
def avE (A : Asc) (P : List Ph) : Int := if A.ok = false then 27 else if 256 < P.length then 8 else errOf (zoneE A.st A.ls A.hs A.x0 A.y0 A.z0 A.x1 A.y1 A.z1) P
structure AscIn (A : Asc) (vl vh : Value) (w : World) : Prop where
 l : Sl w vl A.ls
 h : Sl w vh A.hs
theorem AscIn.after {A : Asc} {vl vh : Value} {w w' : World} (h : AscIn A vl vh w) (hg : w.grownBy w' none) : AscIn A vl vh w' := ⟨h.l.after hg, h.h.after hg⟩
theorem cells14 {w : World} {b : Nat} {a0 a1 a2 a3 a4 a5 a6 a7 a8 a9 a10 a11 a12 a13 : Value} {t : TypeId} {fr : Nat × Nat} (h : w.heap[b]? = some (.cells #[a0, a1, a2, a3, a4, a5, a6, a7, a8, a9, a10, a11, a12, a13] t fr)) :
  w.cell? ⟨b, 0, none⟩ = some a0 ∧ w.cell? ⟨b, 1, none⟩ = some a1 ∧ w.cell? ⟨b, 2, none⟩ = some a2 ∧ w.cell? ⟨b, 3, none⟩ = some a3 ∧ w.cell? ⟨b, 4, none⟩ = some a4 ∧ w.cell? ⟨b, 5, none⟩ = some a5 ∧ w.cell? ⟨b, 6, none⟩ = some a6 ∧ w.cell? ⟨b, 7, none⟩ = some a7 ∧ w.cell? ⟨b, 8, none⟩ = some a8 ∧ w.cell? ⟨b, 9, none⟩ = some a9 ∧ w.cell? ⟨b, 10, none⟩ = some a10 ∧ w.cell? ⟨b, 11, none⟩ = some a11 ∧ w.cell? ⟨b, 12, none⟩ = some a12 ∧ w.cell? ⟨b, 13, none⟩ = some a13 := by simp [World.cell?, h]
theorem ain_any (n lo hi : Int) (w : World) :
  Calls Tryz.prog 54 #[n, lo, hi] w fun e w' => e = .returned (.bool (inI n lo hi)) ∧ w = w' := by
 by_cases h1 : lo ≤ n
 ·go_enter Tryz.func54, Tryz.ntmps54
  go_wp2
  go_ret
  exact ⟨by simp [inI, h1], rfl⟩
 ·go_enter Tryz.func54, Tryz.ntmps54
  go_wp2
  go_ret
  exact ⟨by simp [inI]; omega, rfl⟩
set_option maxRecDepth 100000 in
set_option maxHeartbeats 4000000 in
theorem avalidate_any (A : Asc) (vl vh v : Value) (P : List Ph) (w : World) (hi : AscIn A vl vh w) (hp : SlC 6 w v P.length (flatP P)) :
  Calls Tryz.prog 17 #[.agg (A.val vl vh), v] w fun e w' => e = .returned (.int .i64 (avE A P)) ∧ w.grownBy w' none := by
 obtain ⟨x0, y0, z0, x1, y1, z1, st, ls, hs, cap, tol, span, lim, least⟩ := A
 obtain ⟨h1, h2⟩ := hi
 simp only [] at h1 h2
 obtain ⟨la, ln, lc, rfl⟩ := sl_slice h1; obtain ⟨ha, hn, hc, rfl⟩ := sl_slice h2
 obtain ⟨pa, pc, rfl⟩ := hp.slice
 have G1 := zH (gb_alloc (gb_refl w none) (.cells #[x0, y0, z0, x1, y1, z1, st, .slice la ln lc, .slice ha hn hc, cap, tol, span, lim, least] 30))
 have B1 := zH (heap_alloc_new w (.cells #[x0, y0, z0, x1, y1, z1, st, .slice la ln lc, .slice ha hn hc, cap, tol, span, lim, least] 30))
 have VT := zH (fun (u : World) (hu : w.grownBy u none) => validate_any st _ _ ls hs u (h1.after hu) (h2.after hu))
 have ZA := zH (fun (a : Ph) (u : World) (hu : w.grownBy u none) => zone_any st _ _ ls hs x0 y0 z0 x1 y1 z1 a.x a.y a.z a.e a.l a.n u (h1.after hu) (h2.after hu))
 have HP := zH (fun (u : World) (hu : w.grownBy u none) => hp.after hu)
 have hlen : P.length ≤ 256 → P.length ≤ 256 := fun h => h
 obtain ⟨vb, hvb⟩ : ∃ b, bP x0 y0 z0 x1 y1 z1 = b := ⟨_, rfl⟩
 obtain ⟨te, hte⟩ : ∃ b, tE st ls hs = b := ⟨_, rfl⟩
 obtain ⟨i1, hi1⟩ : ∃ b, inI cap 1 1099511627776 = b := ⟨_, rfl⟩
 obtain ⟨i2, hi2⟩ : ∃ b, inI tol 0 1099511627776 = b := ⟨_, rfl⟩
 obtain ⟨i3, hi3⟩ : ∃ b, inI lim 0 1099511627776 = b := ⟨_, rfl⟩
 obtain ⟨i4, hi4⟩ : ∃ b, inI span 0 1099511627776 = b := ⟨_, rfl⟩
 obtain ⟨i5, hi5⟩ : ∃ b, inI least 2 16 = b := ⟨_, rfl⟩
 have HV : Hid (avE ⟨x0, y0, z0, x1, y1, z1, st, ls, hs, cap, tol, span, lim, least⟩ P = if (vb && (te == 0) && i1 && i2 && i3 && i4 && i5) = false then 27 else if 256 < P.length then 8 else errOf (zoneE st ls hs x0 y0 z0 x1 y1 z1) P) := zH (by
  unfold avE Asc.ok; simp only [hvb, hte, hi1, hi2, hi3, hi4, hi5])
 have VB := zH (fun u => validBox_any x0 y0 z0 x1 y1 z1 u)
 have C1 := zH (fun u => ain_any cap 1 1099511627776 u); have C2 := zH (fun u => ain_any tol 0 1099511627776 u); have C3 := zH (fun u => ain_any lim 0 1099511627776 u); have C4 := zH (fun u => ain_any span 0 1099511627776 u); have C5 := zH (fun u => ain_any least 2 16 u)
 rw [hvb] at VB; rw [hte] at VT; rw [hi1] at C1; rw [hi2] at C2; rw [hi3] at C3; rw [hi4] at C4; rw [hi5] at C5
 clear hvb hte hi1 hi2 hi3 hi4 hi5 h1 h2 hp hlen
 generalize avE ⟨x0, y0, z0, x1, y1, z1, st, ls, hs, cap, tol, span, lim, least⟩ P = E at *
 obtain ⟨g, hg⟩ : ∃ g, zoneE st ls hs x0 y0 z0 x1 y1 z1 = g := ⟨_, rfl⟩
 have ZA := zH (fun (a : Ph) (u : World) (hu : w.grownBy u none) => (by have := ZA.out a u hu; rw [znV_is, hg] at this; exact this : Calls Tryz.prog 55 #[.agg #[st, .slice la ln lc, .slice ha hn hc], .agg #[x0, y0, z0, x1, y1, z1], .agg #[.int .i64 a.x, .int .i64 a.y, .int .i64 a.z, .int .i64 a.e, .int .i64 a.l, .int .i64 a.n]] u fun r w' =>
   r = .returned (.tuple #[.agg #[.int .i64 (zoneOf st ls hs x0 y0 z0 x1 y1 z1 a).f, .int .i64 (zoneOf st ls hs x0 y0 z0 x1 y1 z1 a).t], .int .i64 (g a)]) ∧ u.grownBy w' none))
 rw [hg] at HV
 clear hg
 generalize zoneOf st ls hs x0 y0 z0 x1 y1 z1 = zo at *
 generalize hn : P.length = n at *
 have HN := zH hn; clear hn
 simp only [Asc.val]
 obtain ⟨c0_, c1_, c2_, c3_, c4_, c5_, c6_, c7_, c8_, c9_, c10_, c11_, c12_, c13_⟩ := cells14 B1.out
 go_enter Tryz.func17, Tryz.ntmps17
 go_wp2_with fail
 clear c0_ c1_ c2_ c3_ c4_ c5_ c6_ c7_ c8_ c9_ c10_ c11_ c12_ c13_
 generalize w.alloc (.cells #[x0, y0, z0, x1, y1, z1, st, .slice la ln lc, .slice ha hn hc, cap, tol, span, lim, least] 30) = w1 at *
 generalize w.heap.size = z at *
 (with_reducible refine (VB.out w1).mono ?_)
 rintro e w2 ⟨rfl, hg⟩
 have G2 := zH (gb_trans G1.out hg); have B2 := zH (block_kept hg B1.out rfl)
 clear hg G1 B1 VB
 cases vb
 ·have HE : Hid (E = 27) := zH (by rw [HV.out]; rfl)
  go_wp2
  go_ret
  exact ⟨ret_int HE.out.symm, G2.out⟩
 obtain ⟨c0_, c1_, c2_, c3_, c4_, c5_, c6_, c7_, c8_, c9_, c10_, c11_, c12_, c13_⟩ := cells14 B2.out
 have hz := block_lt' B2.out
 go_wp2_with fail
 clear c0_ c1_ c2_ c3_ c4_ c5_ c6_ c7_ c8_ c9_ c10_ c11_ c12_ c13_
 clear hz
 (with_reducible refine (VT.out w2 G2.out).mono ?_)
 rintro e w3 ⟨rfl, hg⟩
 have G3 := zH (gb_trans G2.out hg); have B3 := zH (block_kept hg B2.out rfl)
 clear hg G2 B2 VT
 by_cases ht : te = 0
 rotate_left
 ·have ht' : (te != 0) = true := by simpa using ht
  have HE : Hid (E = 27) := zH (by rw [HV.out, show (te == 0) = false by simpa using ht]; rfl)
  clear ht
  go_wp2
  go_ret
  exact ⟨ret_int HE.out.symm, G3.out⟩
 subst ht
 obtain ⟨c0_, c1_, c2_, c3_, c4_, c5_, c6_, c7_, c8_, c9_, c10_, c11_, c12_, c13_⟩ := cells14 B3.out
 have hz := block_lt' B3.out
 cases i1
 ·have HE : Hid (E = 27) := zH (by rw [HV.out]; simp)
  go_wp2_with (go_at_call 54; (first | (with_reducible refine (C1.out _).mono ?_) | (with_reducible refine (C2.out _).mono ?_) | (with_reducible refine (C3.out _).mono ?_) | (with_reducible refine (C4.out _).mono ?_) | (with_reducible refine (C5.out _).mono ?_)); rintro e w' ⟨rfl, rfl⟩)
  go_ret
  exact ⟨ret_int HE.out.symm, G3.out⟩
 cases i2
 ·have HE : Hid (E = 27) := zH (by rw [HV.out]; simp)
  go_wp2_with (go_at_call 54; (first | (with_reducible refine (C1.out _).mono ?_) | (with_reducible refine (C2.out _).mono ?_) | (with_reducible refine (C3.out _).mono ?_) | (with_reducible refine (C4.out _).mono ?_) | (with_reducible refine (C5.out _).mono ?_)); rintro e w' ⟨rfl, rfl⟩)
  go_ret
  exact ⟨ret_int HE.out.symm, G3.out⟩
 cases i3
 ·have HE : Hid (E = 27) := zH (by rw [HV.out]; simp)
  go_wp2_with (go_at_call 54; (first | (with_reducible refine (C1.out _).mono ?_) | (with_reducible refine (C2.out _).mono ?_) | (with_reducible refine (C3.out _).mono ?_) | (with_reducible refine (C4.out _).mono ?_) | (with_reducible refine (C5.out _).mono ?_)); rintro e w' ⟨rfl, rfl⟩)
  go_ret
  exact ⟨ret_int HE.out.symm, G3.out⟩
 cases i4
 ·have HE : Hid (E = 27) := zH (by rw [HV.out]; simp)
  go_wp2_with (go_at_call 54; (first | (with_reducible refine (C1.out _).mono ?_) | (with_reducible refine (C2.out _).mono ?_) | (with_reducible refine (C3.out _).mono ?_) | (with_reducible refine (C4.out _).mono ?_) | (with_reducible refine (C5.out _).mono ?_)); rintro e w' ⟨rfl, rfl⟩)
  go_ret
  exact ⟨ret_int HE.out.symm, G3.out⟩
 cases i5
 ·have HE : Hid (E = 27) := zH (by rw [HV.out]; simp)
  go_wp2_with (go_at_call 54; (first | (with_reducible refine (C1.out _).mono ?_) | (with_reducible refine (C2.out _).mono ?_) | (with_reducible refine (C3.out _).mono ?_) | (with_reducible refine (C4.out _).mono ?_) | (with_reducible refine (C5.out _).mono ?_)); rintro e w' ⟨rfl, rfl⟩)
  go_ret
  exact ⟨ret_int HE.out.symm, G3.out⟩
 by_cases hbig : 256 < n
 ·have hb' : decide ((n : Int) > 256) = true := decide_eq_true (by omega)
  have HE : Hid (E = 8) := zH (by rw [HV.out]; simp [hbig])
  clear hbig
  go_wp2_with (go_at_call 54; (first | (with_reducible refine (C1.out _).mono ?_) | (with_reducible refine (C2.out _).mono ?_) | (with_reducible refine (C3.out _).mono ?_) | (with_reducible refine (C4.out _).mono ?_) | (with_reducible refine (C5.out _).mono ?_)); rintro e w' ⟨rfl, rfl⟩)
  go_ret
  exact ⟨ret_int HE.out.symm, G3.out⟩
 have hb' : decide ((n : Int) > 256) = false := decide_eq_false (by omega)
 have HE : Hid (errOf g (P.drop 0) = E) := zH (by rw [HV.out]; simp [hbig])
 have hn256 : n ≤ 256 := by omega
 clear hbig HV
 go_wp2_with (go_at_call 54; (first | (with_reducible refine (C1.out _).mono ?_) | (with_reducible refine (C2.out _).mono ?_) | (with_reducible refine (C3.out _).mono ?_) | (with_reducible refine (C4.out _).mono ?_) | (with_reducible refine (C5.out _).mono ?_)); rintro e w' ⟨rfl, rfl⟩)
 clear c0_ c1_ c2_ c3_ c4_ c5_ c6_ c7_ c8_ c9_ c10_ c11_ c12_ c13_
 clear hz hb' C1 C2 C3 C4 C5
 go_loopw [54] (fun i wr => ∃ k : Nat, k ≤ n ∧ i = .int .i64 k ∧ errOf g (P.drop k) = E ∧ w3.grownBy wr none) (fun i _ => n - (intOf i).toNat)
 case atStart => exact ⟨0, by omega, rfl, HE.out, gb_refl _ _⟩
 case round =>
  obtain ⟨k, hk, rfl, hp, hgr⟩ := hrel
  have GR := zH (gb_trans G3.out hgr); have GW := zH hgr
  by_cases hlt : k < n
  ·have hkL : k < P.length := by have := HN.out; omega
   have hS := HP.out wr GR.out
   obtain ⟨b, off, cap', e, hbl, -, -, hcc⟩ := hS.block (by omega)
   simp only [Value.slice.injEq, true_and] at e
   obtain ⟨rfl, rfl⟩ := e
   obtain ⟨p0_, p1_, p2_, p3_, p4_, p5_⟩ := SlC.ph hcc k hkL
   rw [List.drop_eq_getElem_cons hkL] at hp
   have HPP : Hid ((if g P[k] = 0 then errOf g (P.drop (k + 1)) else g P[k]) = E) := zH hp
   have ZK := zH (fun u hu => ZA.out P[k] u hu)
   clear hp hgr hS hcc
   obtain ⟨c0_, c1_, c2_, c3_, c4_, c5_, c6_, c7_, c8_, c9_, c10_, c11_, c12_, c13_⟩ := cells14 (block_kept GW.out B3.out rfl)
   have hz := block_lt' (block_kept GW.out B3.out rfl)
   generalize P[k] = a at *
   obtain ⟨px, py, pz, pe, pl, pn⟩ := a
   simp only [] at p0_ p1_ p2_ p3_ p4_ p5_ ZK
   generalize g ⟨px, py, pz, pe, pl, pn⟩ = ga at *
   generalize zo ⟨px, py, pz, pe, pl, pn⟩ = zz at *
   obtain ⟨zf, zt⟩ := zz
   simp only [] at ZK
   have ha := gb_alloc (gb_refl wr none) (.cells #[px, py, pz, pe, pl, pn] 51)
   have GA := zH (gb_trans GR.out ha); have GWA := zH (gb_trans GW.out ha)
   clear ha
   go_wp2_with fail
   clear c0_ c1_ c2_ c3_ c4_ c5_ c6_ c7_ c8_ c9_ c10_ c11_ c12_ c13_
   clear hz p0_ p1_ p2_ p3_ p4_ p5_ hbl
   (with_reducible refine (ZK.out _ GA.out).mono ?_)
   rintro e w4 ⟨rfl, hg⟩
   have hga := gb_alloc hg (.cells #[zf, zt] 97)
   have GE := zH (gb_trans GA.out hga); have GWE := zH (gb_trans GWA.out hga)
   clear hg hga ZK
   by_cases h0 : ga = 0
   ·have h0' : (ga != 0) = false := by simpa using h0
    have HP2 : Hid (errOf g (P.drop (k + 1)) = E) := zH (by have := HPP.out; rwa [if_pos h0] at this)
    clear h0
    go_wp2
    go_roundw
    case rel => exact ⟨k + 1, by omega, by go_num, HP2.out, GWE.out⟩
    case measure => simp [intOf]; omega
   ·have h0' : (ga != 0) = true := by simpa using h0
    have HP2 : Hid (ga = E) := zH (by have := HPP.out; rwa [if_neg h0] at this)
    clear h0
    go_wp2
    go_ret
    exact ⟨ret_int HP2.out, GE.out⟩
  ·have hd_ : decide ((k : Int) < (n : Int)) = false := decide_eq_false (by omega)
   have HE2 : Hid (E = 0) := zH (by
    have h2 := HN.out
    rw [List.drop_of_length_le (by omega)] at hp
    exact hp.symm)
   clear hgr hp
   go_wp2
   go_ret
   exact ⟨ret_int HE2.out.symm, GR.out⟩
open Go.RowKit Rg
structure AscGood (side : Int) (A : Asc) : Prop where
 box : boxIn 20 side A.x0 A.y0 A.z0 A.x1 A.y1 A.z1
 tab : tOk A.st A.ls A.hs
 st : A.st ≤ 100
 rea : 400 ≤ A.st * ((A.ls.length : Int) - 1)
 len : A.ls.length ≤ 23
 low : ∀ i, at0 A.ls i ≤ 2000
 cap : A.cap = 10 ∨ A.cap = 50 ∨ A.cap = 200
 tol : A.tol = 0 ∨ A.tol = 0 ∨ A.tol = 10 ∨ A.tol = 40
 span : A.span = 0 ∨ A.span = 50 ∨ A.span = 200 ∨ A.span = 400
 lim : A.lim = 0 ∨ A.lim = 5 ∨ A.lim = 20
 least : 2 ≤ A.least ∧ A.least ≤ 3
def NewAsc (B p : Nat) (side : Int) (w : World) (e : Ending) (w' : World) : Prop :=
 ∃ (A : Asc) (la : Option Addr) (lc : Nat) (ha : Option Addr) (hc : Nat), e = .returned (.agg (A.val (.slice la A.ls.length lc) (.slice ha A.hs.length hc))) ∧ AscGood side A ∧ AscIn A (.slice la A.ls.length lc) (.slice ha A.hs.length hc) w' ∧
  (∀ b off, la = some ⟨b, off, none⟩ ∨ ha = some ⟨b, off, none⟩ → w.heap.size ≤ b) ∧ Src B w' p ∧ w.grownBy w' (some p)
structure DaAt (B p : Nat) (w : World) (la : Option Addr) (lc : Nat) (ls : List Int) (ha : Option Addr) (hc : Nat) (hs : List Int) (u : World) : Prop where
 res : u.heap[w.heap.size]? = some (.cells #[(0:Int), (0:Int), (0:Int), (0:Int), (0:Int), (0:Int), (0:Int), .slice none 0 0, .slice none 0 0, (0:Int), (0:Int), (0:Int), (0:Int), (0:Int)] 30 (0, 0))
 lo : Sl u (.slice la ls.length lc) ls
 hi : Sl u (.slice ha hs.length hc) hs
 la : ∀ b off, la = some ⟨b, off, none⟩ → w.heap.size < b
 ha : ∀ b off, ha = some ⟨b, off, none⟩ → w.heap.size < b
 src : Src B u p
 gr : w.grownBy u (some p)
 lt : p < w.heap.size
section
variable {B p : Nat} {w u u' : World} {la : Option Addr} {lc : Nat} {ls : List Int} {ha : Option Addr} {hc : Nat} {hs : List Int}
theorem DaAt.draw (h : DaAt B p w la lc ls ha hc hs u) (hg : u.grownBy u' (some p)) (hS : Src B u' p) : DaAt B p w la lc ls ha hc hs u' :=
 ⟨block_keptp hg h.res (by have := h.lt; omega), h.lo.later hg (fun b off len cap e _ => by simp only [Value.slice.injEq] at e; have := h.la b off e.1; have := h.lt; simp; omega), h.hi.later hg (fun b off len cap e _ => by simp only [Value.slice.injEq] at e; have := h.ha b off e.1; have := h.lt; simp; omega), h.la, h.ha, hS, gb_trans h.gr hg, h.lt⟩
theorem DaAt.made (h : DaAt B p w la lc ls ha hc hs u) (hg : u.grownBy u' none) : DaAt B p w la lc ls ha hc hs u' :=
 ⟨block_kept hg h.res rfl, h.lo.after hg, h.hi.after hg, h.la, h.ha, h.src.later hg (by simp), gb_trans h.gr (gb_none hg), h.lt⟩
end
set_option maxRecDepth 100000 in
set_option maxHeartbeats 4000000 in
theorem association_any (B : Nat) (w : World) (p : Nat) (side : Int) (h : Src B w p) (hs0 : 0 ≤ side) (hs1 : side ≤ 40) :
  Calls Tryz.prog 12 #[.pointer (some ⟨p, 0, none⟩), side] w (NewAsc B p side w) := by
 have hp := h.lt
 have hg0 := gb_alloc (gb_refl w none) (.cells #[(0:Int), (0:Int), (0:Int), (0:Int), (0:Int), (0:Int), (0:Int), .slice none 0 0, .slice none 0 0, (0:Int), (0:Int), (0:Int), (0:Int), (0:Int)] 30)
 have S0 := zH (h.later hg0 (by simp))
 have G0 := zH (gb_none (row := some p) hg0)
 have R0 := zH (heap_alloc_new w (.cells #[(0:Int), (0:Int), (0:Int), (0:Int), (0:Int), (0:Int), (0:Int), .slice none 0 0, .slice none 0 0, (0:Int), (0:Int), (0:Int), (0:Int), (0:Int)] 30))
 clear h hg0
 go_enter Tryz.func12, Tryz.ntmps12
 go_wp2_with fail
 (with_reducible refine (box_any B _ p 20 side S0.out (by omega) (by omega) (by omega) (by omega)).mono ?_)
 rintro e w1 ⟨x0, y0, z0, x1, y1, z1, rfl, hB, hS, hg⟩
 have HB := zH hB; have S1 := zH hS; have R1 := zH (block_keptp hg R0.out (by omega)); have G1 := zH (gb_trans G0.out hg)
 clear hS hg hB S0 R0 G0
 go_wp2_with fail
 (with_reducible refine (tableL_any B w1 p S1.out).mono ?_)
 rintro e w2 ⟨step, vl, vh, ls, hs, rfl, hT, hst, hre, hln, hlo, ol, oh, -, hS, hg⟩
 have hsz1 : w.heap.size < w1.heap.size := block_lt' R1.out
 obtain ⟨la, lc, rfl⟩ := owns_slice ol
 obtain ⟨ha, hc, rfl⟩ := owns_slice oh
 have D2 : Hid (DaAt B p w la lc ls ha hc hs w2) := zH ⟨block_keptp hg R1.out (by omega), Sl_of_owns ol rfl, Sl_of_owns oh rfl, fun b off e => by subst e; have := (ol.lt b rfl).1; omega, fun b off e => by subst e; have := (oh.lt b rfl).1; omega, hS, gb_trans G1.out hg, hp.2⟩
 have HT := zH (And.intro hT (And.intro hst (And.intro hre (And.intro hln hlo))))
 clear hS hg ol oh hT hst hre hln hlo S1 R1 G1
 go_wp2_with fail
 (with_reducible refine (pick3_any B w2 p 10 50 200 3 D2.out.src w2.heap.size rfl).mono ?_)
 rintro e w3 ⟨cap, rfl, hcap, hS, hg⟩
 have Hcap := zH hcap
 have D3 := zH ((D2.out.made (gb_alloc (gb_refl w2 none) (.cells #[(10:Int), (50:Int), (200:Int)] 3))).draw hg hS)
 clear hcap hS hg D2
 go_wp2_with fail
 (with_reducible refine (pick4_any B w3 p 0 0 10 40 3 D3.out.src w3.heap.size rfl).mono ?_)
 rintro e w4 ⟨tol, rfl, htol, hS, hg⟩
 have Htol := zH htol
 have D4 := zH ((D3.out.made (gb_alloc (gb_refl w3 none) (.cells #[(0:Int), (0:Int), (10:Int), (40:Int)] 3))).draw hg hS)
 clear htol hS hg D3
 go_wp2_with fail
 (with_reducible refine (pick4_any B w4 p 0 50 200 400 3 D4.out.src w4.heap.size rfl).mono ?_)
 rintro e w5 ⟨span, rfl, hspan, hS, hg⟩
 have Hspan := zH hspan
 have D5 := zH ((D4.out.made (gb_alloc (gb_refl w4 none) (.cells #[(0:Int), (50:Int), (200:Int), (400:Int)] 3))).draw hg hS)
 clear hspan hS hg D4
 go_wp2_with fail
 (with_reducible refine (pick3_any B w5 p 0 5 20 3 D5.out.src w5.heap.size rfl).mono ?_)
 rintro e w6 ⟨lim, rfl, hlim, hS, hg⟩
 have Hlim := zH hlim
 have D6 := zH ((D5.out.made (gb_alloc (gb_refl w5 none) (.cells #[(0:Int), (5:Int), (20:Int)] 3))).draw hg hS)
 clear hlim hS hg D5
 go_wp2_with fail
 (with_reducible refine (n_any B w6 p 2 D6.out.src (by omega) (by omega)).mono ?_)
 rintro e w7 ⟨nl, rfl, hnl, hS, hg⟩
 have D7 := zH (D6.out.draw hg hS)
 clear hS hg D6
 have HN := zH (setRow_at (cs := #[x0, y0, z0, x1, y1, z1, step, .slice la ls.length lc, .slice ha hs.length hc, cap, tol, span, lim, .int .i64 (2 + nl)]) D7.out.res)
 have hgs : w7.grownBy (w7.setRow w.heap.size #[x0, y0, z0, x1, y1, z1, step, .slice la ls.length lc, .slice ha hs.length hc, cap, tol, span, lim, .int .i64 (2 + nl)]) (some w.heap.size) := gb_setRow (gb_refl _ _) (.inr rfl)
 have FIN : Hid (AscIn ⟨x0, y0, z0, x1, y1, z1, step, ls, hs, cap, tol, span, lim, 2 + nl⟩ (.slice la ls.length lc) (.slice ha hs.length hc) (w7.setRow w.heap.size #[x0, y0, z0, x1, y1, z1, step, .slice la ls.length lc, .slice ha hs.length hc, cap, tol, span, lim, .int .i64 (2 + nl)]) ∧ Src B (w7.setRow w.heap.size #[x0, y0, z0, x1, y1, z1, step, .slice la ls.length lc, .slice ha hs.length hc, cap, tol, span, lim, .int .i64 (2 + nl)]) p ∧ w.grownBy (w7.setRow w.heap.size #[x0, y0, z0, x1, y1, z1, step, .slice la ls.length lc, .slice ha hs.length hc, cap, tol, span, lim, .int .i64 (2 + nl)]) (some p)) := Lib.hid
  ⟨⟨D7.out.lo.later hgs (fun b off len cap e _ => by simp only [Value.slice.injEq] at e; have := D7.out.la b off e.1; simp; omega), D7.out.hi.later hgs (fun b off len cap e _ => by simp only [Value.slice.injEq] at e; have := D7.out.ha b off e.1; simp; omega)⟩, D7.out.src.later hgs (by simp; omega), gb_setRow D7.out.gr (.inl (Nat.le_refl _))⟩
 clear hgs
 go_wp2_with (with_reducible refine wpList_store_row rfl _ _ _ rfl w.heap.size #[x0, y0, z0, x1, y1, z1, step, .slice la ls.length lc, .slice ha hs.length hc, cap, tol, span, lim, .int .i64 (2 + nl)] rfl rfl _ _ D7.out.res (by kernel_rfl) rfl (by simp [Value.oneCell']) ?_)
 obtain ⟨c0_, c1_, c2_, c3_, c4_, c5_, c6_, c7_, c8_, c9_, c10_, c11_, c12_, c13_⟩ := cells14 HN.out
 exact bodyPost_ret (v := .agg #[x0, y0, z0, x1, y1, z1, step, .slice la ls.length lc, .slice ha hs.length hc, cap, tol, span, lim, .int .i64 (2 + nl)]) (by simp [results, Tryz.results12, go_sem, c0_, c1_, c2_, c3_, c4_, c5_, c6_, c7_, c8_, c9_, c10_, c11_, c12_, c13_]) rfl
  ⟨⟨x0, y0, z0, x1, y1, z1, step, ls, hs, cap, tol, span, lim, 2 + nl⟩, la, lc, ha, hc, rfl, ⟨HB.out, HT.out.1, HT.out.2.1, HT.out.2.2.1, HT.out.2.2.2.1, HT.out.2.2.2.2, Hcap.out, Htol.out, Hspan.out, Hlim.out, ⟨by show 2 ≤ 2 + nl; omega, by show 2 + nl ≤ 3; omega⟩⟩, FIN.out.1, fun b off e => by
   rcases e with e | e
   ·have := D7.out.la b off e; omega
   ·have := D7.out.ha b off e; omega, FIN.out.2.1, FIN.out.2.2⟩
theorem gb_newp {w u u' : World} {r row : Option Nat} (h : w.grownBy u r) (hg : u.grownBy u' row) (hq : ∀ q, row = some q → w.heap.size ≤ q) : w.grownBy u' r :=
 ⟨hg.os.trans h.os, hg.tape.trans h.tape, hg.output.trans h.output, Nat.le_trans h.size hg.size, fun i hi hr => (hg.block i (Nat.lt_of_lt_of_le hi h.size) (fun e => by have := hq i e.symm; omega)).trans (h.block i hi hr)⟩
structure PsAt (w : World) (B p X : Nat) (cs : Array Value) (px py pz : Int) (l : List Ph) (vp vl : Value) (ls : List Int) (u : World) : Prop where
 arg : u.heap[w.heap.size]? = some (.cells cs 30 (0, 0))
 pos : u.heap[X]? = some (.cells #[px, py, pz] 23 (0, 0))
 own : u.ownsRow (X + 1) 51 6 vp l.length (flatP l)
 low : Sl u vl ls
 lowAt : ∀ b off len cap, vl = .slice (some ⟨b, off, none⟩) len cap → b < w.heap.size ∧ b ≠ p
 order : p < w.heap.size ∧ w.heap.size < X
 src : Src B u p
 grown : w.grownBy u (some p)
section
variable {w u u' : World} {B p X : Nat} {cs : Array Value} {px py pz : Int} {l : List Ph} {vp vl : Value} {ls : List Int}
theorem PsAt.later (h : PsAt w B p X cs px py pz l vp vl ls u) (hg : u.grownBy u' none) : PsAt w B p X cs px py pz l vp vl ls u' :=
 ⟨block_kept hg h.arg rfl, block_kept hg h.pos rfl, owns_keep h.own hg, h.low.after hg, h.lowAt, h.order, h.src.later hg (by simp), gb_trans h.grown (gb_none hg)⟩
theorem PsAt.draw (h : PsAt w B p X cs px py pz l vp vl ls u) (hg : u.grownBy u' (some p)) (hs' : Src B u' p) : PsAt w B p X cs px py pz l vp vl ls u' := by
 obtain ⟨o1, o2⟩ := h.order
 exact ⟨block_keptp hg h.arg (by omega), block_keptp hg h.pos (by omega), owns_keepp h.own hg (by omega), h.low.later hg (fun b off len cap e _ => by have := (h.lowAt b off len cap e).2; simpa using this), h.lowAt, h.order, hs', gb_trans h.grown hg⟩
theorem PsAt.other {a : Nat} (h : PsAt w B p X cs px py pz l vp vl ls u) (hg : u.grownBy u' (some a)) (ha : X < a) (hv : vp.ownBlock ≠ some a) : PsAt w B p X cs px py pz l vp vl ls u' := by
 obtain ⟨o1, o2⟩ := h.order
 exact ⟨block_keptp hg h.arg (by omega), block_keptp hg h.pos (by omega), h.own.kept hg (.inr hv), h.low.later hg (fun b off len cap e _ => by have := (h.lowAt b off len cap e).1; simp; omega), h.lowAt, h.order, h.src.later hg (fun q hq => by simp at hq; have := h.src.lt; omega), gb_newp h.grown hg (fun q hq => by simp at hq; omega)⟩
theorem PsAt.move {qx qy qz : Int} (h : PsAt w B p X cs px py pz l vp vl ls u) (hg : u.grownBy u' (some X)) (hx : u'.heap[X]? = some (.cells #[qx, qy, qz] 23 (0, 0))) : PsAt w B p X cs qx qy qz l vp vl ls u' := by
 obtain ⟨o1, o2⟩ := h.order
 exact ⟨block_keptp hg h.arg (by omega), hx, owns_keepp h.own hg (by omega), h.low.later hg (fun b off len cap e _ => by have := (h.lowAt b off len cap e).1; simp; omega), h.lowAt, h.order, h.src.later hg (fun q hq => by simp at hq; have := h.src.lt; omega), gb_newp h.grown hg (fun q hq => by simp at hq; omega)⟩
theorem PsAt.push {a : Ph} {vp' : Value} (h : PsAt w B p X cs px py pz l vp vl ls u) (hg : u.grownBy u' vp.ownBlock) (ho : u'.ownsRow (X + 1) 51 6 vp' (l.length + 1) (flatP l ++ a.cells)) : PsAt w B p X cs px py pz (l ++ [a]) vp' vl ls u' := by
 obtain ⟨o1, o2⟩ := h.order
 have hne : ∀ b, vp.ownBlock = some b → X + 1 ≤ b := fun b hb => (h.own.lt b hb).1
 have far : ∀ {b : Nat} {o : Obj}, u.heap[b]? = some o → b ≤ X → u'.heap[b]? = some o := fun {b} {o} hb hX => by
  rw [hg.block b (Array.getElem?_eq_some_iff.1 hb).1 (fun e => by have := hne b e.symm; omega)]; exact hb
 refine ⟨far h.arg (by omega), far h.pos (Nat.le_refl _), ?_, h.low.later hg (fun b off len cap e _ he => by have := hne b he.symm; have := (h.lowAt b off len cap e).1; omega), h.lowAt, h.order, h.src.later hg (fun q hq => by have := hne q hq; have := h.src.lt; omega), gb_newp h.grown hg (fun q hq => by have := hne q hq; omega)⟩
 rw [List.length_append, show flatP (l ++ [a]) = flatP l ++ a.cells by simp [flatP]]
 exact ho
end
def soonPh (a : Ph) : Prop := goodPh a ∧ a.e ≤ 40000 ∧ a.l ≤ 50000
def NewPhs (B p : Nat) (most : Int) (w : World) (e : Ending) (w' : World) : Prop :=
 ∃ (l : List Ph) (va : Option Addr) (vc : Nat), e = .returned (.slice va l.length vc) ∧ (l.length : Int) ≤ most ∧ (∀ a ∈ l, soonPh a) ∧ w'.ownsRow w.heap.size 51 6 (.slice va l.length vc) l.length (flatP l) ∧ (∀ b off, va = some ⟨b, off, none⟩ → w.heap.size ≤ b) ∧ Src B w' p ∧ w.grownBy w' (some p)
end Go.Proofs.YtiebljanpnadjaaGreat
