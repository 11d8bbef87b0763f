/- Mov -/
import Derived.Test.YtgaglgopbdfemaaGreatDoorTmSrP
namespace Go.Proofs.YtgaglgopbdfemaaGreatDoor
set_option linter.all false
open Go.RowKit Rg
/-- A way and a time. -/
structure Way where
  x : Int
  y : Int
  z : Int
  t : Int
def Bx.mv (d : Way) (b : Bx) : Bx := ⟨b.a + d.x, b.b + d.y, b.c + d.z, b.d + d.x, b.e + d.y, b.f + d.z⟩
def Hi.mv (d : Way) (i : Hi) : Hi := ⟨i.b.mv d, i.c, i.n⟩
def Ph.mv (d : Way) (a : Ph) : Ph := ⟨a.x + d.x, a.y + d.y, a.z + d.z, a.e + d.t, a.l + d.t, a.n⟩
def Prob.mv (d : Way) (P : Prob) : Prob := ⟨P.x0 + d.x, P.y0 + d.y, P.z0 + d.z, P.x1 + d.x, P.y1 + d.y, P.z1 + d.z, P.step, P.ls, P.hs, P.phs.map (Ph.mv d), P.cap⟩
def Loc.mv (d : Way) (x : Loc) : Loc := ⟨x.px + d.x, x.py + d.y, x.pz + d.z, x.t + d.t, x.m, x.l, x.a0 + d.x, x.a1 + d.y, x.a2 + d.z, x.a3 + d.x, x.a4 + d.y, x.a5 + d.z⟩
def Zn.mv (t : Int) (z : Zn) : Zn := ⟨z.f + t, z.t + t⟩
section
variable {d : Way}
theorem nearD_mv (a b c e f g p q r : Int) (x y z : Int) : nearD (a + x) (b + y) (c + z) (e + x) (f + y) (g + z) (p + x) (q + y) (r + z) = nearD a b c e f g p q r := by
  have h : ∀ p a e x : Int, nearS (p + x) (a + x) (e + x) = nearS p a e := fun p a e x => by unfold nearS; omega
  unfold nearD; rw [h, h, h]
theorem farD_mv (a b c e f g p q r : Int) (x y z : Int) : farD (a + x) (b + y) (c + z) (e + x) (f + y) (g + z) (p + x) (q + y) (r + z) = farD a b c e f g p q r := by
  have h : ∀ p a e x : Int, farS (p + x) (a + x) (e + x) = farS p a e := fun p a e x => by unfold farS; omega
  unfold farD; rw [h, h, h]
theorem ptsD_mv (b : Bx) : ptsD (b.a + d.x) (b.b + d.y) (b.c + d.z) (b.d + d.x) (b.e + d.y) (b.f + d.z) = ptsD b.a b.b b.c b.d b.e b.f := by
  unfold ptsD
  rw [show b.d + d.x - (b.a + d.x) + 1 = b.d - b.a + 1 by omega, show b.e + d.y - (b.b + d.y) + 1 = b.e - b.b + 1 by omega, show b.f + d.z - (b.c + d.z) + 1 = b.f - b.c + 1 by omega]
/-- A box of a region that stays a region. -/
theorem Bx.mv_v {P : Prob} (hS : Sound (P.mv d)) {b : Bx} (hv : b.v = true) (hw : b.wi P.reg) : (b.mv d).v = true := by
  obtain ⟨v0, v1, o0, o1, o2⟩ := bP_iff hS.vb
  obtain ⟨w0, w1, p0, p1, p2⟩ := bP_iff hv
  have a0 := vP_iff v0; have a1 := vP_iff v1
  have hw := hw
  unfold Bx.wi at hw
  simp only [Prob.mv, Prob.reg] at *
  exact bP_mk (vP_mk (by simp only [Bx.mv]; omega)) (vP_mk (by simp only [Bx.mv]; omega)) (by simp only [Bx.mv]; omega) (by simp only [Bx.mv]; omega) (by simp only [Bx.mv]; omega)
theorem Bx.mv_wi {P : Prob} {b : Bx} (hw : b.wi P.reg) : (b.mv d).wi (P.mv d).reg := by
  unfold Bx.wi at *
  simp only [Prob.mv, Prob.reg, Bx.mv] at *
  omega
theorem Bx.mv_ok {b : Bx} (hv : b.v = true) (hv' : (b.mv d).v = true) : (b.mv d).ok = b.ok := by
  unfold Bx.ok splOk ptsP
  unfold Bx.v at hv hv'
  rw [hv, hv']
  simp only [Bx.mv, if_true, ptsD_mv]
theorem Bx.mv_ax (b : Bx) : (b.mv d).ax = b.ax := by
  unfold Bx.ax
  simp only [Bx.mv]
  rw [show b.d + d.x - (b.a + d.x) = b.d - b.a by omega, show b.e + d.y - (b.b + d.y) = b.e - b.b by omega, show b.f + d.z - (b.c + d.z) = b.f - b.c by omega]
theorem midI_mv (a b x : Int) : midI (a + x) (b + x) = midI a b + x := by
  unfold midI
  rw [show b + x - (a + x) = b - a by omega]; omega
theorem Bx.mv_fst {b : Bx} (h : b.ok = true) (h' : (b.mv d).ok = true) : (b.mv d).fst = b.fst.mv d := by
  unfold Bx.fst
  rw [h, h', Bx.mv_ax]
  simp only [keepI, spE, if_true, Bx.mv, midI_mv]
  congr 1 <;> split <;> rfl
theorem Bx.mv_snd {b : Bx} (h : b.ok = true) (h' : (b.mv d).ok = true) : (b.mv d).snd = b.snd.mv d := by
  unfold Bx.snd
  rw [h, h', Bx.mv_ax]
  simp only [keepI, spB, if_true, Bx.mv, midI_mv]
  congr 1 <;> split <;> omega
theorem Bx.mv_c {b : Bx} (hv : b.v = true) (hv' : (b.mv d).v = true) : (b.mv d).c0 = b.c0 + d.x ∧ (b.mv d).c1 = b.c1 + d.y ∧ (b.mv d).c2 = b.c2 + d.z := by
  unfold Bx.c0 Bx.c1 Bx.c2 cen
  rw [hv, hv']
  simp only [if_true, Bx.mv, midI_mv]
  exact ⟨trivial, trivial, trivial⟩
theorem resid_mv (z : Zn) (t s : Int) : resid (z.mv s) (t + s) = resid z t := by
  unfold resid Zn.mv; simp only []; omega
theorem term_mv (cap : Int) (phs : List Ph) (zs : List Zn) (t : Int) (i : Nat) : term cap (phs.map (Ph.mv d)) (zs.map (Zn.mv d.t)) (t + d.t) i = term cap phs zs t i := by
  unfold term
  simp only [List.length_map, List.getElem?_map]
  by_cases h : i < zs.length
  · rw [if_pos h, if_pos h, List.getElem?_eq_getElem h]
    simp only [Option.map_some, Option.getD_some, resid_mv]
    congr 1
    cases phs[i]? <;> rfl
  · rw [if_neg h, if_neg h]
theorem costN_mv (cap : Int) (phs : List Ph) (zs : List Zn) (t : Int) : ∀ k, costN cap (phs.map (Ph.mv d)) (zs.map (Zn.mv d.t)) (t + d.t) k = costN cap phs zs t k
  | 0 => rfl
  | k + 1 => by
    show costN _ _ _ _ k + term _ _ _ _ k = costN _ _ _ _ k + term _ _ _ _ k
    rw [costN_mv cap phs zs t k, term_mv]
theorem cost_mv (cap : Int) (phs : List Ph) (zs : List Zn) (t : Int) : cost cap (phs.map (Ph.mv d)) (zs.map (Zn.mv d.t)) (t + d.t) = cost cap phs zs t := by
  unfold cost; rw [List.length_map, costN_mv]
theorem timesOf_mv (zs : List Zn) (s : Int) : timesOf (zs.map (Zn.mv s)) = (timesOf zs).map (· + s) := by
  induction zs with
  | nil => rfl
  | cons z zs ih => unfold timesOf at *; simp only [List.map_cons, List.flatMap_cons, List.map_append, ih, List.map_nil]; rfl
theorem better_mv (cap : Int) (phs : List Ph) (zs : List Zn) (b : Int × Int) (t : Int) : better cap (phs.map (Ph.mv d)) (zs.map (Zn.mv d.t)) (b.1 + d.t, b.2) (t + d.t) = ((better cap phs zs b t).1 + d.t, (better cap phs zs b t).2) := by
  unfold better
  rw [cost_mv]
  by_cases h : cost cap phs zs t < b.2 ∨ (cost cap phs zs t = b.2 ∧ t < b.1)
  · rw [if_pos h, if_pos (by simp only []; omega)]
  · rw [if_neg h, if_neg (by simp only []; omega)]
theorem fold_mv (cap : Int) (phs : List Ph) (zs : List Zn) : ∀ (ts : List Int) (b : Int × Int), (ts.map (· + d.t)).foldl (better cap (phs.map (Ph.mv d)) (zs.map (Zn.mv d.t))) (b.1 + d.t, b.2) = ((ts.foldl (better cap phs zs) b).1 + d.t, (ts.foldl (better cap phs zs) b).2)
  | [], _ => rfl
  | t :: ts, b => by
    rw [List.map_cons, List.foldl_cons, List.foldl_cons, better_mv, fold_mv cap phs zs ts (better cap phs zs b t)]
theorem best_mv {cap : Int} {phs : List Ph} {zs : List Zn} (h0 : 0 < zs.length) : best cap (phs.map (Ph.mv d)) (zs.map (Zn.mv d.t)) = ((best cap phs zs).1 + d.t, (best cap phs zs).2) := by
  unfold best
  rw [timesOf_mv]
  cases e : timesOf zs with
  | nil => have := timesOf_length zs; rw [e] at this; simp at this; omega
  | cons t ts =>
    show List.foldl _ (t + d.t, cost cap (phs.map (Ph.mv d)) (zs.map (Zn.mv d.t)) (t + d.t)) (ts.map (· + d.t)) = _
    rw [cost_mv]
    exact fold_mv cap phs zs ts (t, cost cap phs zs t)
theorem bndE_zero {step : Int} {ls hs : List Int} {b0 b1 b2 b3 b4 b5 : Int} {a : Ph} (h : zoneE step ls hs b0 b1 b2 b3 b4 b5 a = 0) : bndE step ls hs b0 b1 b2 b3 b4 b5 a.x a.y a.z = 0 ∧ (bP b0 b1 b2 b3 b4 b5 && vP a.x a.y a.z) = true := by
  unfold zoneE znE at h
  split at h
  · split at h
    · split at h
      · refine ⟨h, ?_⟩
        unfold bndE at h
        by_cases c1 : tOk step ls hs
        · rw [if_pos c1] at h
          by_cases c2 : (bP b0 b1 b2 b3 b4 b5 && vP a.x a.y a.z) = true
          · exact c2
          · rw [if_neg c2] at h; exact absurd h (by decide)
        · rw [if_neg c1] at h; exact absurd h (by decide)
      · cases h
    · cases h
  · cases h
theorem zoneOf_mv {P : Prob} {b : Bx} {a : Ph} (h : zoneE P.step P.ls P.hs b.a b.b b.c b.d b.e b.f a = 0) (h' : zoneE P.step P.ls P.hs (b.mv d).a (b.mv d).b (b.mv d).c (b.mv d).d (b.mv d).e (b.mv d).f (a.mv d) = 0) :
    zoneOf P.step P.ls P.hs (b.mv d).a (b.mv d).b (b.mv d).c (b.mv d).d (b.mv d).e (b.mv d).f (a.mv d) = (zoneOf P.step P.ls P.hs b.a b.b b.c b.d b.e b.f a).mv d.t := by
  obtain ⟨e1, e2⟩ := bndE_zero h
  obtain ⟨f1, f2⟩ := bndE_zero h'
  have hn : nearP (b.mv d).a (b.mv d).b (b.mv d).c (b.mv d).d (b.mv d).e (b.mv d).f (a.mv d).x (a.mv d).y (a.mv d).z = nearP b.a b.b b.c b.d b.e b.f a.x a.y a.z := by
    unfold nearP; rw [if_pos e2, if_pos f2]; exact nearD_mv ..
  have hf : farP (b.mv d).a (b.mv d).b (b.mv d).c (b.mv d).d (b.mv d).e (b.mv d).f (a.mv d).x (a.mv d).y (a.mv d).z = farP b.a b.b b.c b.d b.e b.f a.x a.y a.z := by
    unfold farP; rw [if_pos e2, if_pos f2]; exact farD_mv ..
  have hA : bndA P.step P.ls P.hs (b.mv d).a (b.mv d).b (b.mv d).c (b.mv d).d (b.mv d).e (b.mv d).f (a.mv d).x (a.mv d).y (a.mv d).z = bndA P.step P.ls P.hs b.a b.b b.c b.d b.e b.f a.x a.y a.z := by
    unfold bndA; rw [if_pos f1, if_pos e1, hn]
  have hB : bndB P.step P.ls P.hs (b.mv d).a (b.mv d).b (b.mv d).c (b.mv d).d (b.mv d).e (b.mv d).f (a.mv d).x (a.mv d).y (a.mv d).z = bndB P.step P.ls P.hs b.a b.b b.c b.d b.e b.f a.x a.y a.z := by
    unfold bndB; rw [if_pos f1, if_pos e1, hf]
  have g1 : zoneOf P.step P.ls P.hs b.a b.b b.c b.d b.e b.f a = ⟨a.e - bndB P.step P.ls P.hs b.a b.b b.c b.d b.e b.f a.x a.y a.z, a.l - bndA P.step P.ls P.hs b.a b.b b.c b.d b.e b.f a.x a.y a.z⟩ := by
    unfold zoneOf znF znT
    exact congr (congrArg Zn.mk (if_pos h)) (if_pos h)
  have g2 : zoneOf P.step P.ls P.hs (b.mv d).a (b.mv d).b (b.mv d).c (b.mv d).d (b.mv d).e (b.mv d).f (a.mv d) = ⟨(a.mv d).e - bndB P.step P.ls P.hs (b.mv d).a (b.mv d).b (b.mv d).c (b.mv d).d (b.mv d).e (b.mv d).f (a.mv d).x (a.mv d).y (a.mv d).z, (a.mv d).l - bndA P.step P.ls P.hs (b.mv d).a (b.mv d).b (b.mv d).c (b.mv d).d (b.mv d).e (b.mv d).f (a.mv d).x (a.mv d).y (a.mv d).z⟩ := by
    unfold zoneOf znF znT
    exact congr (congrArg Zn.mk (if_pos h')) (if_pos h')
  rw [g1, g2, hA, hB]
  generalize bndA P.step P.ls P.hs b.a b.b b.c b.d b.e b.f a.x a.y a.z = A
  generalize bndB P.step P.ls P.hs b.a b.b b.c b.d b.e b.f a.x a.y a.z = B
  show Zn.mk (a.e + d.t - B) (a.l + d.t - A) = Zn.mk (a.e - B + d.t) (a.l - A + d.t)
  rw [show a.e + d.t - B = a.e - B + d.t by omega, show a.l + d.t - A = a.l - A + d.t by omega]
theorem box_mv {P : Prob} (hP : Sound P) (hP' : Sound (P.mv d)) {b : Bx} (hv : b.v = true) (hw : b.wi P.reg) :
    zonesE P b.a b.b b.c b.d b.e b.f = 0 ∧ zonesE (P.mv d) (b.mv d).a (b.mv d).b (b.mv d).c (b.mv d).d (b.mv d).e (b.mv d).f = 0 ∧ zonesL (P.mv d) (b.mv d).a (b.mv d).b (b.mv d).c (b.mv d).d (b.mv d).e (b.mv d).f = (zonesL P b.a b.b b.c b.d b.e b.f).map (Zn.mv d.t) := by
  have w1 : wiP b.a b.b b.c b.d b.e b.f P.x0 P.y0 P.z0 P.x1 P.y1 P.z1 = true := wiP_of (c := b) (b := P.reg) hv hP.vb hw
  have w2 : wiP (b.mv d).a (b.mv d).b (b.mv d).c (b.mv d).d (b.mv d).e (b.mv d).f (P.mv d).x0 (P.mv d).y0 (P.mv d).z0 (P.mv d).x1 (P.mv d).y1 (P.mv d).z1 = true := wiP_of (c := b.mv d) (b := (P.mv d).reg) (Bx.mv_v hP' hv hw) hP'.vb (Bx.mv_wi hw)
  have z1 : ∀ a ∈ P.phs, zoneE P.step P.ls P.hs b.a b.b b.c b.d b.e b.f a = 0 := fun a ha => hP.zone0 w1 ha
  have z2 : ∀ a ∈ P.phs, zoneE P.step P.ls P.hs (b.mv d).a (b.mv d).b (b.mv d).c (b.mv d).d (b.mv d).e (b.mv d).f (a.mv d) = 0 := fun a ha => hP'.zone0 w2 (List.mem_map.2 ⟨a, ha, rfl⟩)
  refine ⟨?_, ?_, ?_⟩
  · unfold zonesE; rw [if_pos (sound_iff.2 hP)]; exact (if_pos w1).trans (errOf_zero.2 z1)
  · unfold zonesE; rw [if_pos (sound_iff.2 hP')]; exact (if_pos w2).trans (errOf_zero.2 fun a ha => by
      obtain ⟨q, hq, rfl⟩ := List.mem_map.1 ha
      exact z2 q hq)
  · unfold zonesL
    show (P.phs.map (Ph.mv d)).map _ = _
    rw [List.map_map, List.map_map]
    exact List.map_congr_left fun a ha => zoneOf_mv (z1 a ha) (z2 a ha)
theorem bxC_mv {P : Prob} (hP : Sound P) (hP' : Sound (P.mv d)) {b : Bx} (hv : b.v = true) (hw : b.wi P.reg) : bxC (P.mv d) (b.mv d) = bxC P b := by
  obtain ⟨e1, e2, e3⟩ := box_mv hP hP' hv hw
  unfold bxC bdC
  rw [if_pos e1, if_pos e2, e3]
  show (best P.cap (P.phs.map (Ph.mv d)) _).2 = _
  rw [best_mv (by rw [zonesL_length]; exact hP.some.1)]
/-- A point of a box of the region. -/
theorem at_mv {P : Prob} (hP : Sound P) (hP' : Sound (P.mv d)) {x y z : Int} (hx : P.reg.has x y z) : bdC (P.mv d) (x + d.x) (y + d.y) (z + d.z) (x + d.x) (y + d.y) (z + d.z) = bdC P x y z x y z ∧ atT (P.mv d) (x + d.x) (y + d.y) (z + d.z) = atT P x y z + d.t := by
  obtain ⟨v0, v1, o0, o1, o2⟩ := bP_iff hP.vb
  have a0 := vP_iff v0; have a1 := vP_iff v1
  have hh := hx
  unfold Bx.has at hh
  simp only [Prob.reg] at hh
  have hv : Bx.v ⟨x, y, z, x, y, z⟩ = true := by
    show bP x y z x y z = true
    exact bP_mk (vP_mk (by omega)) (vP_mk (by omega)) (by simp) (by simp) (by simp)
  have hw : Bx.wi ⟨x, y, z, x, y, z⟩ P.reg := by show P.x0 ≤ x ∧ x ≤ P.x1 ∧ P.y0 ≤ y ∧ y ≤ P.y1 ∧ P.z0 ≤ z ∧ z ≤ P.z1; omega
  refine ⟨bxC_mv (b := ⟨x, y, z, x, y, z⟩) hP hP' hv hw, ?_⟩
  obtain ⟨e1, e2, e3⟩ := box_mv (b := ⟨x, y, z, x, y, z⟩) hP hP' hv hw
  dsimp only [Bx.mv] at e1 e2 e3
  unfold atT
  rw [if_pos e1, if_pos e2, e3]
  show (best P.cap (P.phs.map (Ph.mv d)) _).1 = _
  rw [best_mv (by rw [zonesL_length]; exact hP.some.1)]
end
end Go.Proofs.YtgaglgopbdfemaaGreatDoor
