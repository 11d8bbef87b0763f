/- proof.Check's reader, and Check. Written by gen_prfc.py. -/
import Derived.Test.YtdkckhihleffeaaGreatPrf
import Derived.Test.YtdkckhihleffeaaGreatBx
import Derived.Test.YtdkckhihleffeaaGreatPrf2
import Derived.Laws.EntriesVeiled
import Derived.Test.YtdkckhihleffeaaGreatFr
namespace Go.Proofs.YtdkckhihleffeaaGreat
set_option linter.all false
section LPrfC
open Go.RowKit Rg

/-- What a certificate says of a box; what is left of it. -/
def rd (V : Bx → Bool) : Nat → Bx → List Int → Bool × List Int
  | 0, _, l => (false, l)
  | _ + 1, _, [] => (false, [])
  | f + 1, b, n :: l => if n = 0 then (V b, l) else if n = 1 then (if b.ok then (if (rd V f b.fst l).1 then rd V f b.snd (rd V f b.fst l).2 else (false, (rd V f b.fst l).2)) else (false, l)) else (false, l)
def prV (P : Prob) (x : Loc) (tol : Int) (b : Bx) : Bool := prB P x tol b.a b.b b.c b.d b.e b.f

/-- The reader's own variables. -/
structure ChkAt (P : Prob) (vl vh vp : Value) (x : Loc) (tol : Int) (lst : List Int) (vs : Value) (A R Pp X T F : Nat) (u : World) : Prop where
  r : u.heap[R]? = some (.cells #[vs] 28 (0, 0))
  p : u.heap[Pp]? = some (.cells (P.val vl vh vp) 36 (0, 0))
  x : u.heap[X]? = some (.cells x.val 27 (0, 0))
  t : u.heap[T]? = some (.cells #[.int .i64 tol] 3 (0, 0))
  f : u.heap[F]? = some (.cells #[.func (.func 38) #[] #[.pointer (some ⟨A, 0, none⟩), .pointer (some ⟨R, 0, none⟩), .pointer (some ⟨Pp, 0, none⟩), .pointer (some ⟨X, 0, none⟩), .pointer (some ⟨T, 0, none⟩), .pointer (some ⟨F, 0, none⟩)]] 72 (0, 0))
  ne : R ≠ A ∧ Pp ≠ A ∧ X ≠ A ∧ T ≠ A ∧ F ≠ A
  pi : PrIn A u ⟨P, vl, vh, vp⟩
  sl : Sl u vs lst
  sa : Apart A vs
theorem ChkAt.draw {P : Prob} {vl vh vp : Value} {x : Loc} {tol : Int} {lst : List Int} {vs : Value} {A R Pp X T F : Nat} {u u' : World} (h : ChkAt P vl vh vp x tol lst vs A R Pp X T F u) (hg : u.grownBy u' (some A)) : ChkAt P vl vh vp x tol lst vs A R Pp X T F u' :=
  ⟨block_keptp hg h.r h.ne.1, block_keptp hg h.p h.ne.2.1, block_keptp hg h.x h.ne.2.2.1, block_keptp hg h.t h.ne.2.2.2.1, block_keptp hg h.f h.ne.2.2.2.2, h.ne, h.pi.draw hg, h.sl.later hg (fun b off len cap e hl => by have := h.sa b off len cap e hl; simp; omega), h.sa⟩

/-- What a call of the reader does. -/
def Read1 (A : Nat) (lst : List Int) (k : Nat) (r : Bool × List Int) (w : World) (e : Ending) (w' : World) : Prop :=
  ∃ k' : Nat, e = .returned (.bool r.1) ∧ lst.drop k' = r.2 ∧ k' ≤ lst.length ∧ k ≤ k' ∧ (k < lst.length → k < k') ∧ w'.heap[A]? = some (.cells #[.int .i64 k'] 3 (0, 0)) ∧ w.grownBy w' (some A)

set_option maxRecDepth 100000 in
set_option maxHeartbeats 4000000 in
theorem check1_any (P : Prob) (vl vh vp : Value) (x : Loc) (tol : Int) (lst : List Int) (vs : Value) (A R Pp X T F : Nat) (hbig : lst.length ≤ 1000000) : ∀ (fuel : Nat) (w : World) (b : Bx) (k : Nat), ChkAt P vl vh vp x tol lst vs A R Pp X T F w → w.heap[A]? = some (.cells #[.int .i64 k] 3 (0, 0)) → k ≤ lst.length → lst.length - k < fuel →
    Calls Tryz.prog 38 #[.agg b.val, .pointer (some ⟨A, 0, none⟩), .pointer (some ⟨R, 0, none⟩), .pointer (some ⟨Pp, 0, none⟩), .pointer (some ⟨X, 0, none⟩), .pointer (some ⟨T, 0, none⟩), .pointer (some ⟨F, 0, none⟩)] w (Read1 A lst k (rd (prV P x tol) fuel b (lst.drop k)) w) := by
  intro fuel
  induction fuel with
  | zero => intro w b k h ha hk hf; omega
  | succ f ih =>
    intro w b k h ha hk hf
    have hAl := block_lt' ha
    have IH := Lib.hid ih
    clear ih
    have PV := Lib.hid (fun (u : World) (hu : ChkAt P vl vh vp x tol lst vs A R Pp X T F u) => proves_any P vl vh vp x tol b.a b.b b.c b.d b.e b.f u hu.pi.1 (by have := hu.pi.2.2.2.2; simp only [] at this; omega))
    have SPL := Lib.hid b.split
    have hpB : prB P x tol b.a b.b b.c b.d b.e b.f = prV P x tol b := rfl
    rw [hpB] at PV
    have hg1 := gb_alloc (gb_refl w none) (.cells b.val 25)
    have H1 := Lib.hid (h.draw (gb_none hg1)); have A1 := Lib.hid (block_kept hg1 ha rfl); have G1 := Lib.hid (gb_none (row := some A) hg1)
    have B1 := Lib.hid (heap_alloc_new w (.cells b.val 25))
    have hB1 : w.heap.size ≠ A := by omega
    obtain ⟨⟨pa, pc, rfl⟩, ⟨la, ln, lc, rfl⟩, ⟨ha_, hn_, hc_, rfl⟩, -⟩ := h.pi.sl
    obtain ⟨sa, scap, rfl⟩ := h.sl.shape
    have H0 := Lib.hid h; have A0 := Lib.hid ha
    clear hg1 h ha hpB
    generalize hV : prV P x tol = V at *
    clear hV
    by_cases hkl : k = lst.length
    · have HR : Hid (rd V (f + 1) b (lst.drop k) = (false, [])) := Lib.hid (by rw [hkl, List.drop_length]; rfl)
      have hkl' : ((k : Int) == (lst.length : Int)) = true := by simp; omega
      rw [HR.out]
      have r0_ := cell_of H1.out.r 0 _ rfl; have a0_ := cell_of A1.out 0 _ rfl
      have HK := Lib.hid hkl
      simp only [Bx.val] at *
      go_enter Tryz.func38, Tryz.ntmps38
      go_wp2
      go_ret
      exact ⟨k, rfl, by rw [HK.out, List.drop_length], hk, Nat.le_refl _, fun h => by have := HK.out; omega, A1.out, G1.out⟩
    have hkk : k < lst.length := by omega
    have hkl' : ((k : Int) == (lst.length : Int)) = false := by simp; omega
    obtain ⟨sb, soff, scap', hse, hsb, -, -, hsc⟩ := H1.out.sl.block (by omega)
    simp only [Value.slice.injEq, true_and] at hse
    obtain ⟨rfl, rfl⟩ := hse
    have s_ := hsc k hkk
    have hd : lst.drop k = lst[k] :: lst.drop (k + 1) := List.drop_eq_getElem_cons hkk
    have hat : at0 lst k = lst[k] := by simp [at0, hkk]
    rw [hat] at s_
    rw [hd]
    have hAw := block_lt' A1.out
    have hsA : sb ≠ A := by have := H1.out.sa; exact this _ _ _ _ rfl (by omega)
    have hcast : ((k : Int) + 1) = ((k + 1 : Nat) : Int) := by omega
    have hgs : w.grownBy ((w.setCell ⟨A, 0, none⟩ (.int .i64 ((k : Int) + 1))).alloc (.cells b.val 25)) (some A) := gb_alloc (gb_setCell (gb_refl _ _) (.inr rfl) _) _
    have A2 : Hid (((w.setCell ⟨A, 0, none⟩ (.int .i64 ((k : Int) + 1))).alloc (.cells b.val 25)).heap[A]? = some (.cells #[.int .i64 ((k + 1 : Nat) : Int)] 3 (0, 0))) := Lib.hid (by rw [← hcast]; exact block_kept (gb_alloc (gb_refl _ _) _) (set_block A0.out 0 _) rfl)
    have H2 := Lib.hid (H0.out.draw hgs); have G2 := Lib.hid hgs
    have B2 : Hid (((w.setCell ⟨A, 0, none⟩ (.int .i64 ((k : Int) + 1))).alloc (.cells b.val 25)).heap[w.heap.size]? = some (.cells b.val 25 (0, 0))) := Lib.hid (by simpa using heap_alloc_new (w.setCell ⟨A, 0, none⟩ (.int .i64 ((k : Int) + 1))) (.cells b.val 25))
    have hF := frozen3 A1.out (o := 0)
    have r0_ := cell_of H1.out.r 0 _ rfl; have a0_ := cell_of A1.out 0 _ rfl
    have hwk : IntKind.i64.wrap ((k : Int) + 1) = (k : Int) + 1 := by rw [IntKind.wrap_i64]; omega
    clear hsc hat hd hgs hcast
    generalize hc : lst[k] = c at *
    clear hc
    by_cases c0 : c = 0
    · subst c0
      rw [show rd V (f + 1) b (0 :: lst.drop (k + 1)) = (V b, lst.drop (k + 1)) from by simp [rd]]
      have p_ := H2.out.p; have x_ := H2.out.x; have t0_ := cell_of H2.out.t 0 _ rfl
      have PVw := Lib.hid (PV.out _ H2.out)
      obtain ⟨X0, Y0, Z0, X1, Y1, Z1, step, ls, hs, phs, cap⟩ := P
      obtain ⟨px, py, pz, xt, xm, xl, a0, a1, a2, a3, a4, a5⟩ := x
      simp only [Prob.val, Loc.val] at *
      have P_ := Lib.hid p_; have X_ := Lib.hid x_
      clear p_ x_
      obtain ⟨e0_, e1_, e2_, e3_, e4_, e5_, e6_, e7_, e8_, e9_, e10_⟩ := cells11 P_.out
      obtain ⟨d0_, d1_, d2_, d3_, d4_, d5_, d6_, d7_, d8_, d9_, d10_, d11_⟩ := cells12 X_.out
      generalize hVb : V b = vb at *
      clear hVb
      obtain ⟨b0, b1, b2, b3, b4, b5⟩ := b
      simp only [Bx.val] at *
      obtain ⟨f0_, f1_, f2_, f3_, f4_, f5_⟩ := six B2.out
      go_enter Tryz.func38, Tryz.ntmps38
      go_wp2_with fail
      (with_reducible refine PVw.out.mono ?_)
      rintro r w5 ⟨rfl, hg⟩
      have G5 := Lib.hid (gb_trans G2.out (gb_none hg)); have A5 := Lib.hid (block_kept hg A2.out rfl)
      clear hg
      go_wp2
      go_ret
      exact ⟨k + 1, rfl, rfl, by omega, by omega, fun _ => by omega, A5.out, G5.out⟩
    have c0' : (c == 0) = false := by simpa using c0
    by_cases c1 : c = 1
    rotate_left
    · have c1' : (c == 1) = false := by simpa using c1
      rw [show rd V (f + 1) b (c :: lst.drop (k + 1)) = (false, lst.drop (k + 1)) from by simp [rd, c0, c1]]
      clear c0 c1
      simp only [Bx.val] at *
      go_enter Tryz.func38, Tryz.ntmps38
      go_wp2
      go_ret
      exact ⟨k + 1, rfl, rfl, by omega, by omega, fun _ => by omega, A2.out, G2.out⟩
    subst c1
    clear c0
    have IHf := Lib.hid (fun (w' : World) (k' : Nat) (h' : ChkAt P (.slice la ln lc) (.slice ha_ hn_ hc_) (.slice pa P.phs.length pc) x tol lst (.slice (some ⟨sb, soff, none⟩) lst.length scap) A R Pp X T F w') (ha' : w'.heap[A]? = some (.cells #[.int .i64 k'] 3 (0, 0))) (hk' : k' ≤ lst.length) (hf' : lst.length - k' < f) => IH.out w' b.fst k' h' ha' hk' hf')
    have IHs := Lib.hid (fun (w' : World) (k' : Nat) (h' : ChkAt P (.slice la ln lc) (.slice ha_ hn_ hc_) (.slice pa P.phs.length pc) x tol lst (.slice (some ⟨sb, soff, none⟩) lst.length scap) A R Pp X T F w') (ha' : w'.heap[A]? = some (.cells #[.int .i64 k'] 3 (0, 0))) (hk' : k' ≤ lst.length) (hf' : lst.length - k' < f) => IH.out w' b.snd k' h' ha' hk' hf')
    have HR : Hid (rd V (f + 1) b (1 :: lst.drop (k + 1)) = (if b.ok then (if (rd V f b.fst (lst.drop (k + 1))).1 then rd V f b.snd (rd V f b.fst (lst.drop (k + 1))).2 else (false, (rd V f b.fst (lst.drop (k + 1))).2)) else (false, lst.drop (k + 1)))) := Lib.hid (by simp [rd])
    clear IH PV
    generalize rd V (f + 1) b (1 :: lst.drop (k + 1)) = rr at *
    generalize b.fst = bf at *
    generalize b.snd = bs at *
    generalize b.ok = ok at *
    obtain ⟨b0, b1, b2, b3, b4, b5⟩ := b
    obtain ⟨g0, g1, g2, g3, g4, g5⟩ := bf
    obtain ⟨k0, k1, k2, k3, k4, k5⟩ := bs
    simp only [Bx.val] at *
    obtain ⟨f0_, f1_, f2_, f3_, f4_, f5_⟩ := six B2.out
    go_enter Tryz.func38, Tryz.ntmps38
    go_wp2_with fail
    (with_reducible refine (SPL.out _).mono ?_)
    rintro r w5 ⟨rfl, hg⟩
    have H5 := Lib.hid (H2.out.draw (gb_none hg)); have A5 := Lib.hid (block_kept hg A2.out rfl); have G5 := Lib.hid (gb_trans G2.out (gb_none hg))
    clear hg H2 A2 G2 B2 f0_ f1_ f2_ f3_ f4_ f5_ hF H1 A1 G1 B1 r0_ a0_ s_
    have hg6 : w5.grownBy ((w5.alloc (.cells #[.int .i64 g0, .int .i64 g1, .int .i64 g2, .int .i64 g3, .int .i64 g4, .int .i64 g5] 25)).alloc (.cells #[.int .i64 k0, .int .i64 k1, .int .i64 k2, .int .i64 k3, .int .i64 k4, .int .i64 k5] 25)) none := gb_alloc (gb_alloc (gb_refl _ _) _) _
    have U6 : Hid (((w5.alloc (.cells #[.int .i64 g0, .int .i64 g1, .int .i64 g2, .int .i64 g3, .int .i64 g4, .int .i64 g5] 25)).alloc (.cells #[.int .i64 k0, .int .i64 k1, .int .i64 k2, .int .i64 k3, .int .i64 k4, .int .i64 k5] 25)).heap[w5.heap.size]? = some (.cells #[.int .i64 g0, .int .i64 g1, .int .i64 g2, .int .i64 g3, .int .i64 g4, .int .i64 g5] 25 (0, 0))) := Lib.hid (by rw [heap_alloc_old _ _ (by simp), heap_alloc_new])
    have V6 : Hid (((w5.alloc (.cells #[.int .i64 g0, .int .i64 g1, .int .i64 g2, .int .i64 g3, .int .i64 g4, .int .i64 g5] 25)).alloc (.cells #[.int .i64 k0, .int .i64 k1, .int .i64 k2, .int .i64 k3, .int .i64 k4, .int .i64 k5] 25)).heap[w5.heap.size + 1]? = some (.cells #[.int .i64 k0, .int .i64 k1, .int .i64 k2, .int .i64 k3, .int .i64 k4, .int .i64 k5] 25 (0, 0))) := Lib.hid (by simpa using heap_alloc_new (w5.alloc _) (.cells #[.int .i64 k0, .int .i64 k1, .int .i64 k2, .int .i64 k3, .int .i64 k4, .int .i64 k5] 25))
    have H6 := Lib.hid (H5.out.draw (gb_none hg6)); have A6 := Lib.hid (block_kept hg6 A5.out rfl); have G6 := Lib.hid (gb_trans G5.out (gb_none hg6))
    have hA5 := block_lt' A5.out
    clear hg6 H5 A5 G5
    have f_ := cell_of H6.out.f 0 _ rfl
    obtain ⟨u0_, u1_, u2_, u3_, u4_, u5_⟩ := six U6.out
    obtain ⟨v0_, v1_, v2_, v3_, v4_, v5_⟩ := six V6.out
    cases ok
    · go_wp2_with fail
      go_ret
      exact ⟨k + 1, by simp [HR.out], by simp [HR.out], by omega, by omega, fun _ => by omega, A6.out, G6.out⟩
    go_wp2_with fail
    generalize (w5.alloc (.cells #[.int .i64 g0, .int .i64 g1, .int .i64 g2, .int .i64 g3, .int .i64 g4, .int .i64 g5] 25)).alloc (.cells #[.int .i64 k0, .int .i64 k1, .int .i64 k2, .int .i64 k3, .int .i64 k4, .int .i64 k5] 25) = w6 at *
    (with_reducible refine (IHf.out w6 (k + 1) H6.out A6.out (by omega) (by omega)).mono ?_)
    rintro r w7 ⟨k', rfl, hd', hk', hkk', -, ha7, hg⟩
    clear f_ u0_ u1_ u2_ u3_ u4_ u5_ v0_ v1_ v2_ v3_ v4_ v5_
    have H7 := Lib.hid (H6.out.draw hg); have A7 := Lib.hid ha7; have G7 := Lib.hid (gb_trans G6.out hg); have V7 := Lib.hid (block_keptp hg V6.out (by omega))
    have HD7 := Lib.hid hd'
    clear hd' ha7 hg H6 A6 G6 U6 V6
    cases hr1 : (rd V f ⟨g0, g1, g2, g3, g4, g5⟩ (lst.drop (k + 1))).1
    · have HR1 := Lib.hid hr1
      clear hr1
      go_wp2
      go_ret
      exact ⟨k', by simp [HR.out, HR1.out], by simp [HR.out, HR1.out]; exact HD7.out, hk', by omega, fun _ => by omega, A7.out, G7.out⟩
    have HR1 := Lib.hid hr1
    clear hr1
    have f_ := cell_of H7.out.f 0 _ rfl
    obtain ⟨u0_, u1_, u2_, u3_, u4_, u5_⟩ := six V7.out
    go_wp2_with fail
    (with_reducible refine (IHs.out w7 k' H7.out A7.out hk' (by omega)).mono ?_)
    rintro r w8 ⟨k'', rfl, hd', hk'', hkk'', -, ha8, hg⟩
    have A8 := Lib.hid ha8; have G8 := Lib.hid (gb_trans G7.out hg); have HD8 := Lib.hid hd'
    clear ha8 hg hd'
    go_wp2
    go_ret
    exact ⟨k'', by simp [HR.out, HR1.out, ← HD7.out], by simp [HR.out, HR1.out, ← HD7.out]; exact HD8.out, hk'', by omega, fun _ => by omega, A8.out, G8.out⟩
end LPrfC
section LPrfD
open Go.RowKit Rg

def Prob.reg (P : Prob) : Bx := ⟨P.x0, P.y0, P.z0, P.x1, P.y1, P.z1⟩
def chkE (P : Prob) (x : Loc) (tol : Int) (lst : List Int) : Int := if askE P x tol ≠ 0 then askE P x tol else if 6001 < lst.length then 8 else if x.m < x.l then 26 else if rd (prV P x tol) (lst.length + 1) P.reg lst = (true, []) then 0 else 26

set_option maxRecDepth 100000 in
set_option maxHeartbeats 4000000 in
theorem check_any (P : Prob) (vl vh vp : Value) (x : Loc) (tol : Int) (lst : List Int) (vs : Value) (w : World) (hi : ProbIn P vl vh vp w) (hs' : Sl w vs lst) (hbig : P.phs.length ≤ 100) (hlb : lst.length ≤ 1000000) :
    Calls Tryz.prog 16 #[.agg (P.val vl vh vp), .agg x.val, .int .i64 tol, vs] w fun e w' => e = .returned (.int .i64 (chkE P x tol lst)) ∧ w.grownBy w' none := by
  have AS := Lib.hid (fun (u : World) (h : w.grownBy u none) => asked_any P vl vh vp x tol u (hi.after h) (by omega))
  have HI := Lib.hid hi; have HS := Lib.hid hs'
  obtain ⟨pa, pc, rfl⟩ := hi.p.slice
  obtain ⟨la, ln, lc, rfl⟩ := sl_slice hi.l
  obtain ⟨ha, hn, hc, rfl⟩ := sl_slice hi.h
  obtain ⟨sa, scap, rfl⟩ := hs'.shape
  have HC := Lib.hid (fun (A R Pp X T F : Nat) (u : World) => check1_any P (.slice la ln lc) (.slice ha hn hc) (.slice pa P.phs.length pc) x tol lst (.slice sa lst.length scap) A R Pp X T F hlb (lst.length + 1) u P.reg 0)
  have HQ := Lib.hid (show ∀ (u : World) (_ : w.grownBy u none) (q : Nat) (_ : w.heap.size ≤ q), PrIn q u ⟨P, .slice la ln lc, .slice ha hn hc, .slice pa P.phs.length pc⟩ from fun u h q hq => ⟨HI.out.after h, Sl.apart_lt HI.out.l hq, Sl.apart_lt HI.out.h hq, SlC.apart_lt HI.out.p hq, hbig⟩)
  generalize hpr : chkE P x tol lst = pr
  have HP := Lib.hid hpr.symm
  clear hpr
  unfold chkE at HP
  generalize askE P x tol = E at *
  generalize prV P x tol = V at *
  clear hi hs'
  obtain ⟨x0, y0, z0, x1, y1, z1, step, ls, hs, phs, cap⟩ := P
  obtain ⟨px, py, pz, xt, xm, xl, a0, a1, a2, a3, a4, a5⟩ := x
  simp only [Prob.reg] at *
  generalize hpn : phs.length = pn at *
  have hPV : Prob.val ⟨x0, y0, z0, x1, y1, z1, step, ls, hs, phs, cap⟩ (.slice la ln lc) (.slice ha hn hc) (.slice pa pn pc) = #[.int .i64 x0, .int .i64 y0, .int .i64 z0, .int .i64 x1, .int .i64 y1, .int .i64 z1, .int .i64 step, .slice la ln lc, .slice ha hn hc, .slice pa pn pc, .int .i64 cap] := rfl
  have hXV : Loc.val ⟨px, py, pz, xt, xm, xl, a0, a1, a2, a3, a4, a5⟩ = #[.int .i64 px, .int .i64 py, .int .i64 pz, .int .i64 xt, .int .i64 xm, .int .i64 xl, .int .i64 a0, .int .i64 a1, .int .i64 a2, .int .i64 a3, .int .i64 a4, .int .i64 a5] := rfl
  rw [hPV, hXV] at AS ⊢
  have k0_0 : (w.alloc (.cells #[.int .i64 x0, .int .i64 y0, .int .i64 z0, .int .i64 x1, .int .i64 y1, .int .i64 z1, .int .i64 step, .slice la ln lc, .slice ha hn hc, .slice pa pn pc, .int .i64 cap] 36)).heap[w.heap.size]? = some (.cells #[.int .i64 x0, .int .i64 y0, .int .i64 z0, .int .i64 x1, .int .i64 y1, .int .i64 z1, .int .i64 step, .slice la ln lc, .slice ha hn hc, .slice pa pn pc, .int .i64 cap] 36 (0, 0)) := by exact heap_alloc_new _ _
  have k0_1 := block_kept (gb_alloc (gb_refl (w.alloc (.cells #[.int .i64 x0, .int .i64 y0, .int .i64 z0, .int .i64 x1, .int .i64 y1, .int .i64 z1, .int .i64 step, .slice la ln lc, .slice ha hn hc, .slice pa pn pc, .int .i64 cap] 36)) none) (.cells #[.int .i64 px, .int .i64 py, .int .i64 pz, .int .i64 xt, .int .i64 xm, .int .i64 xl, .int .i64 a0, .int .i64 a1, .int .i64 a2, .int .i64 a3, .int .i64 a4, .int .i64 a5] 27)) k0_0 rfl
  have k1_1 : ((w.alloc (.cells #[.int .i64 x0, .int .i64 y0, .int .i64 z0, .int .i64 x1, .int .i64 y1, .int .i64 z1, .int .i64 step, .slice la ln lc, .slice ha hn hc, .slice pa pn pc, .int .i64 cap] 36)).alloc (.cells #[.int .i64 px, .int .i64 py, .int .i64 pz, .int .i64 xt, .int .i64 xm, .int .i64 xl, .int .i64 a0, .int .i64 a1, .int .i64 a2, .int .i64 a3, .int .i64 a4, .int .i64 a5] 27)).heap[w.heap.size + 1]? = some (.cells #[.int .i64 px, .int .i64 py, .int .i64 pz, .int .i64 xt, .int .i64 xm, .int .i64 xl, .int .i64 a0, .int .i64 a1, .int .i64 a2, .int .i64 a3, .int .i64 a4, .int .i64 a5] 27 (0, 0)) := by simpa using heap_alloc_new (w.alloc (.cells #[.int .i64 x0, .int .i64 y0, .int .i64 z0, .int .i64 x1, .int .i64 y1, .int .i64 z1, .int .i64 step, .slice la ln lc, .slice ha hn hc, .slice pa pn pc, .int .i64 cap] 36)) (.cells #[.int .i64 px, .int .i64 py, .int .i64 pz, .int .i64 xt, .int .i64 xm, .int .i64 xl, .int .i64 a0, .int .i64 a1, .int .i64 a2, .int .i64 a3, .int .i64 a4, .int .i64 a5] 27)
  clear k0_0
  have k0_2 := block_kept (gb_alloc (gb_refl ((w.alloc (.cells #[.int .i64 x0, .int .i64 y0, .int .i64 z0, .int .i64 x1, .int .i64 y1, .int .i64 z1, .int .i64 step, .slice la ln lc, .slice ha hn hc, .slice pa pn pc, .int .i64 cap] 36)).alloc (.cells #[.int .i64 px, .int .i64 py, .int .i64 pz, .int .i64 xt, .int .i64 xm, .int .i64 xl, .int .i64 a0, .int .i64 a1, .int .i64 a2, .int .i64 a3, .int .i64 a4, .int .i64 a5] 27)) none) (.cells #[.int .i64 tol] 3)) k0_1 rfl
  have k1_2 := block_kept (gb_alloc (gb_refl ((w.alloc (.cells #[.int .i64 x0, .int .i64 y0, .int .i64 z0, .int .i64 x1, .int .i64 y1, .int .i64 z1, .int .i64 step, .slice la ln lc, .slice ha hn hc, .slice pa pn pc, .int .i64 cap] 36)).alloc (.cells #[.int .i64 px, .int .i64 py, .int .i64 pz, .int .i64 xt, .int .i64 xm, .int .i64 xl, .int .i64 a0, .int .i64 a1, .int .i64 a2, .int .i64 a3, .int .i64 a4, .int .i64 a5] 27)) none) (.cells #[.int .i64 tol] 3)) k1_1 rfl
  have k2_2 : (((w.alloc (.cells #[.int .i64 x0, .int .i64 y0, .int .i64 z0, .int .i64 x1, .int .i64 y1, .int .i64 z1, .int .i64 step, .slice la ln lc, .slice ha hn hc, .slice pa pn pc, .int .i64 cap] 36)).alloc (.cells #[.int .i64 px, .int .i64 py, .int .i64 pz, .int .i64 xt, .int .i64 xm, .int .i64 xl, .int .i64 a0, .int .i64 a1, .int .i64 a2, .int .i64 a3, .int .i64 a4, .int .i64 a5] 27)).alloc (.cells #[.int .i64 tol] 3)).heap[w.heap.size + 1 + 1]? = some (.cells #[.int .i64 tol] 3 (0, 0)) := by simpa using heap_alloc_new ((w.alloc (.cells #[.int .i64 x0, .int .i64 y0, .int .i64 z0, .int .i64 x1, .int .i64 y1, .int .i64 z1, .int .i64 step, .slice la ln lc, .slice ha hn hc, .slice pa pn pc, .int .i64 cap] 36)).alloc (.cells #[.int .i64 px, .int .i64 py, .int .i64 pz, .int .i64 xt, .int .i64 xm, .int .i64 xl, .int .i64 a0, .int .i64 a1, .int .i64 a2, .int .i64 a3, .int .i64 a4, .int .i64 a5] 27)) (.cells #[.int .i64 tol] 3)
  clear k0_1 k1_1
  have k0_3 := block_kept (gb_alloc (gb_refl (((w.alloc (.cells #[.int .i64 x0, .int .i64 y0, .int .i64 z0, .int .i64 x1, .int .i64 y1, .int .i64 z1, .int .i64 step, .slice la ln lc, .slice ha hn hc, .slice pa pn pc, .int .i64 cap] 36)).alloc (.cells #[.int .i64 px, .int .i64 py, .int .i64 pz, .int .i64 xt, .int .i64 xm, .int .i64 xl, .int .i64 a0, .int .i64 a1, .int .i64 a2, .int .i64 a3, .int .i64 a4, .int .i64 a5] 27)).alloc (.cells #[.int .i64 tol] 3)) none) (.cells #[.slice sa lst.length scap] 28)) k0_2 rfl
  have k1_3 := block_kept (gb_alloc (gb_refl (((w.alloc (.cells #[.int .i64 x0, .int .i64 y0, .int .i64 z0, .int .i64 x1, .int .i64 y1, .int .i64 z1, .int .i64 step, .slice la ln lc, .slice ha hn hc, .slice pa pn pc, .int .i64 cap] 36)).alloc (.cells #[.int .i64 px, .int .i64 py, .int .i64 pz, .int .i64 xt, .int .i64 xm, .int .i64 xl, .int .i64 a0, .int .i64 a1, .int .i64 a2, .int .i64 a3, .int .i64 a4, .int .i64 a5] 27)).alloc (.cells #[.int .i64 tol] 3)) none) (.cells #[.slice sa lst.length scap] 28)) k1_2 rfl
  have k2_3 := block_kept (gb_alloc (gb_refl (((w.alloc (.cells #[.int .i64 x0, .int .i64 y0, .int .i64 z0, .int .i64 x1, .int .i64 y1, .int .i64 z1, .int .i64 step, .slice la ln lc, .slice ha hn hc, .slice pa pn pc, .int .i64 cap] 36)).alloc (.cells #[.int .i64 px, .int .i64 py, .int .i64 pz, .int .i64 xt, .int .i64 xm, .int .i64 xl, .int .i64 a0, .int .i64 a1, .int .i64 a2, .int .i64 a3, .int .i64 a4, .int .i64 a5] 27)).alloc (.cells #[.int .i64 tol] 3)) none) (.cells #[.slice sa lst.length scap] 28)) k2_2 rfl
  have k3_3 : ((((w.alloc (.cells #[.int .i64 x0, .int .i64 y0, .int .i64 z0, .int .i64 x1, .int .i64 y1, .int .i64 z1, .int .i64 step, .slice la ln lc, .slice ha hn hc, .slice pa pn pc, .int .i64 cap] 36)).alloc (.cells #[.int .i64 px, .int .i64 py, .int .i64 pz, .int .i64 xt, .int .i64 xm, .int .i64 xl, .int .i64 a0, .int .i64 a1, .int .i64 a2, .int .i64 a3, .int .i64 a4, .int .i64 a5] 27)).alloc (.cells #[.int .i64 tol] 3)).alloc (.cells #[.slice sa lst.length scap] 28)).heap[w.heap.size + 1 + 1 + 1]? = some (.cells #[.slice sa lst.length scap] 28 (0, 0)) := by simpa using heap_alloc_new (((w.alloc (.cells #[.int .i64 x0, .int .i64 y0, .int .i64 z0, .int .i64 x1, .int .i64 y1, .int .i64 z1, .int .i64 step, .slice la ln lc, .slice ha hn hc, .slice pa pn pc, .int .i64 cap] 36)).alloc (.cells #[.int .i64 px, .int .i64 py, .int .i64 pz, .int .i64 xt, .int .i64 xm, .int .i64 xl, .int .i64 a0, .int .i64 a1, .int .i64 a2, .int .i64 a3, .int .i64 a4, .int .i64 a5] 27)).alloc (.cells #[.int .i64 tol] 3)) (.cells #[.slice sa lst.length scap] 28)
  clear k0_2 k1_2 k2_2
  have G0 := Lib.hid (gb_alloc (gb_alloc (gb_alloc (gb_alloc (gb_refl w none) _) _) _) _ : w.grownBy ((((w.alloc (.cells #[.int .i64 x0, .int .i64 y0, .int .i64 z0, .int .i64 x1, .int .i64 y1, .int .i64 z1, .int .i64 step, .slice la ln lc, .slice ha hn hc, .slice pa pn pc, .int .i64 cap] 36)).alloc (.cells #[.int .i64 px, .int .i64 py, .int .i64 pz, .int .i64 xt, .int .i64 xm, .int .i64 xl, .int .i64 a0, .int .i64 a1, .int .i64 a2, .int .i64 a3, .int .i64 a4, .int .i64 a5] 27)).alloc (.cells #[.int .i64 tol] 3)).alloc (.cells #[.slice sa lst.length scap] 28)) none)
  have K0 := Lib.hid k0_3
  have K1 := Lib.hid k1_3
  have K2 := Lib.hid k2_3
  have K3 := Lib.hid k3_3
  clear k0_3 k1_3 k2_3 k3_3
  obtain ⟨e0_, e1_, e2_, e3_, e4_, e5_, e6_, e7_, e8_, e9_, e10_⟩ := cells11 K0.out
  obtain ⟨d0_, d1_, d2_, d3_, d4_, d5_, d6_, d7_, d8_, d9_, d10_, d11_⟩ := cells12 K1.out
  go_enter Tryz.func16, Tryz.ntmps16
  have t_ := cell_of K2.out 0 _ rfl
  go_wp2_with fail
  generalize ((((w.alloc (.cells #[.int .i64 x0, .int .i64 y0, .int .i64 z0, .int .i64 x1, .int .i64 y1, .int .i64 z1, .int .i64 step, .slice la ln lc, .slice ha hn hc, .slice pa pn pc, .int .i64 cap] 36)).alloc (.cells #[.int .i64 px, .int .i64 py, .int .i64 pz, .int .i64 xt, .int .i64 xm, .int .i64 xl, .int .i64 a0, .int .i64 a1, .int .i64 a2, .int .i64 a3, .int .i64 a4, .int .i64 a5] 27)).alloc (.cells #[.int .i64 tol] 3)).alloc (.cells #[.slice sa lst.length scap] 28)) = w1 at *
  (with_reducible refine (AS.out w1 G0.out).mono ?_)
  rintro r w2 ⟨rfl, hg⟩
  clear t_
  clear e0_ e1_ e2_ e3_ e4_ e5_ e6_ e7_ e8_ e9_ e10_
  clear d0_ d1_ d2_ d3_ d4_ d5_ d6_ d7_ d8_ d9_ d10_ d11_
  have P2 := Lib.hid (block_kept hg K0.out rfl); have X2 := Lib.hid (block_kept hg K1.out rfl); have T2 := Lib.hid (block_kept hg K2.out rfl); have S2 := Lib.hid (block_kept hg K3.out rfl); have G2 := Lib.hid (gb_trans G0.out hg)
  have hsz2 := block_lt' S2.out
  clear hg K0 K1 K2 K3 G0 AS
  by_cases hE : E = 0
  rotate_left
  · have hE' : (E == 0) = false := by simpa using hE
    have HR := Lib.hid (show pr = E by rw [HP.out]; simp [hE])
    clear hE
    go_wp2
    go_ret
    exact ⟨ret_int HR.out.symm, G2.out⟩
  subst hE
  have s_ := cell_of S2.out 0 _ rfl
  by_cases hl : 6001 < lst.length
  · have hl' : decide ((lst.length : Int) > 6001) = true := decide_eq_true (by omega)
    have HR := Lib.hid (show pr = 8 by rw [HP.out]; simp [hl])
    clear hl
    go_wp2
    go_ret
    exact ⟨ret_int HR.out.symm, G2.out⟩
  have hl' : decide ((lst.length : Int) > 6001) = false := decide_eq_false (by omega)
  have hg3 : w2.grownBy ((w2.alloc (.cells #[.int .i64 0] 3)).alloc (.cells #[.func (.func 38) #[] #[.pointer (some ⟨w2.heap.size, 0, none⟩), .pointer (some ⟨w.heap.size + 1 + 1 + 1, 0, none⟩), .pointer (some ⟨w.heap.size, 0, none⟩), .pointer (some ⟨w.heap.size + 1, 0, none⟩), .pointer (some ⟨w.heap.size + 1 + 1, 0, none⟩), .pointer (some ⟨w2.heap.size + 1, 0, none⟩)]] 72)) none := gb_alloc (gb_alloc (gb_refl _ _) _) _
  have A3 : Hid (((w2.alloc (.cells #[.int .i64 0] 3)).alloc (.cells #[.func (.func 38) #[] #[.pointer (some ⟨w2.heap.size, 0, none⟩), .pointer (some ⟨w.heap.size + 1 + 1 + 1, 0, none⟩), .pointer (some ⟨w.heap.size, 0, none⟩), .pointer (some ⟨w.heap.size + 1, 0, none⟩), .pointer (some ⟨w.heap.size + 1 + 1, 0, none⟩), .pointer (some ⟨w2.heap.size + 1, 0, none⟩)]] 72)).heap[w2.heap.size]? = some (.cells #[.int .i64 0] 3 (0, 0))) := Lib.hid (by rw [heap_alloc_old _ _ (by simp), heap_alloc_new])
  have F3 : Hid (((w2.alloc (.cells #[.int .i64 0] 3)).alloc (.cells #[.func (.func 38) #[] #[.pointer (some ⟨w2.heap.size, 0, none⟩), .pointer (some ⟨w.heap.size + 1 + 1 + 1, 0, none⟩), .pointer (some ⟨w.heap.size, 0, none⟩), .pointer (some ⟨w.heap.size + 1, 0, none⟩), .pointer (some ⟨w.heap.size + 1 + 1, 0, none⟩), .pointer (some ⟨w2.heap.size + 1, 0, none⟩)]] 72)).heap[w2.heap.size + 1]? = some (.cells #[.func (.func 38) #[] #[.pointer (some ⟨w2.heap.size, 0, none⟩), .pointer (some ⟨w.heap.size + 1 + 1 + 1, 0, none⟩), .pointer (some ⟨w.heap.size, 0, none⟩), .pointer (some ⟨w.heap.size + 1, 0, none⟩), .pointer (some ⟨w.heap.size + 1 + 1, 0, none⟩), .pointer (some ⟨w2.heap.size + 1, 0, none⟩)]] 72 (0, 0))) := Lib.hid (by simpa using heap_alloc_new (w2.alloc _) (.cells #[.func (.func 38) #[] #[.pointer (some ⟨w2.heap.size, 0, none⟩), .pointer (some ⟨w.heap.size + 1 + 1 + 1, 0, none⟩), .pointer (some ⟨w.heap.size, 0, none⟩), .pointer (some ⟨w.heap.size + 1, 0, none⟩), .pointer (some ⟨w.heap.size + 1 + 1, 0, none⟩), .pointer (some ⟨w2.heap.size + 1, 0, none⟩)]] 72))
  have G3 := Lib.hid (gb_trans G2.out hg3)
  obtain ⟨e0_, e1_, e2_, e3_, e4_, e5_, e6_, e7_, e8_, e9_, e10_⟩ := cells11 (block_kept hg3 P2.out rfl)
  obtain ⟨d0_, d1_, d2_, d3_, d4_, d5_, d6_, d7_, d8_, d9_, d10_, d11_⟩ := cells12 (block_kept hg3 X2.out rfl)
  have f_ := cell_of F3.out 0 _ rfl
  have b_ := cell_of A3.out 0 _ rfl
  have C3 : Hid (ChkAt ⟨x0, y0, z0, x1, y1, z1, step, ls, hs, phs, cap⟩ (.slice la ln lc) (.slice ha hn hc) (.slice pa pn pc) ⟨px, py, pz, xt, xm, xl, a0, a1, a2, a3, a4, a5⟩ tol lst (.slice sa lst.length scap) w2.heap.size (w.heap.size + 1 + 1 + 1) w.heap.size (w.heap.size + 1) (w.heap.size + 1 + 1) (w2.heap.size + 1) ((w2.alloc (.cells #[.int .i64 0] 3)).alloc (.cells #[.func (.func 38) #[] #[.pointer (some ⟨w2.heap.size, 0, none⟩), .pointer (some ⟨w.heap.size + 1 + 1 + 1, 0, none⟩), .pointer (some ⟨w.heap.size, 0, none⟩), .pointer (some ⟨w.heap.size + 1, 0, none⟩), .pointer (some ⟨w.heap.size + 1 + 1, 0, none⟩), .pointer (some ⟨w2.heap.size + 1, 0, none⟩)]] 72))) := Lib.hid ⟨block_kept hg3 S2.out rfl, block_kept hg3 P2.out rfl, block_kept hg3 X2.out rfl, block_kept hg3 T2.out rfl, F3.out, ⟨by omega, by omega, by omega, by omega, by omega⟩, HQ.out _ G3.out _ (by omega), HS.out.after G3.out, Sl.apart_lt HS.out (by omega)⟩
  have RN := Lib.hid (HC.out _ _ _ _ _ _ _ C3.out A3.out (Nat.zero_le _) (by omega))
  have S3 : Hid (((w2.alloc (.cells #[.int .i64 0] 3)).alloc (.cells #[.func (.func 38) #[] #[.pointer (some ⟨w2.heap.size, 0, none⟩), .pointer (some ⟨w.heap.size + 1 + 1 + 1, 0, none⟩), .pointer (some ⟨w.heap.size, 0, none⟩), .pointer (some ⟨w.heap.size + 1, 0, none⟩), .pointer (some ⟨w.heap.size + 1 + 1, 0, none⟩), .pointer (some ⟨w2.heap.size + 1, 0, none⟩)]] 72)).heap[w.heap.size + 1 + 1 + 1]? = some (.cells #[.slice sa lst.length scap] 28 (0, 0))) := Lib.hid (block_kept hg3 S2.out rfl)
  clear hg3 HC HQ HI HS
  dsimp only [Bx.val] at RN
  generalize hrd : rd V (lst.length + 1) ⟨x0, y0, z0, x1, y1, z1⟩ (lst.drop 0) = rr at *
  have HRD := Lib.hid hrd
  clear hrd
  obtain ⟨r1, r2⟩ := rr
  by_cases hml : xm < xl
  · have hml' : decide (xl > xm) = true := decide_eq_true hml
    have HR := Lib.hid (show pr = 26 by rw [HP.out]; simp [hl, hml])
    clear hml
    go_wp2
    go_ret
    exact ⟨ret_int HR.out.symm, G3.out⟩
  have hml' : decide (xl > xm) = false := decide_eq_false hml
  go_wp2_with fail
  (with_reducible refine RN.out.mono ?_)
  clear e0_ e1_ e2_ e3_ e4_ e5_ e6_ e7_ e8_ e9_ e10_ d0_ d1_ d2_ d3_ d4_ d5_ d6_ d7_ d8_ d9_ d10_ d11_
  rintro r w4 ⟨k, rfl, hd, hk, -, -, ha4, hg⟩
  have A4 := Lib.hid ha4; have S4 := Lib.hid (block_keptp hg S3.out (by omega)); have G4 := Lib.hid hg
  have HD := Lib.hid hd
  clear ha4 hg hd f_ b_ s_
  have HRR : Hid (pr = if (r1, r2) = (true, []) then 0 else 26) := Lib.hid (by
    have e := HRD.out
    rw [List.drop_zero] at e
    rw [HP.out, if_neg (by simp), if_neg (by omega), if_neg (by omega)]
    simp only [Prob.reg, e])
  clear HP HRD RN C3
  cases r1
  · have HR := Lib.hid (show pr = 26 by rw [HRR.out]; simp)
    go_wp2
    go_ret
    exact ⟨ret_int HR.out.symm, gb_new G3.out G4.out (fun q e => by cases e; omega)⟩
  have b_ := cell_of A4.out 0 _ rfl; have s_ := cell_of S4.out 0 _ rfl
  by_cases hkl : k = lst.length
  · have hkl' : ((k : Int) != (lst.length : Int)) = false := by simp; omega
    have HR := Lib.hid (show pr = 0 by rw [HRR.out, show r2 = [] from by have := HD.out; rw [hkl, List.drop_length] at this; exact this.symm]; simp)
    clear hkl
    go_wp2
    go_ret
    exact ⟨ret_int HR.out.symm, gb_new G3.out G4.out (fun q e => by cases e; omega)⟩
  · have hkl' : ((k : Int) != (lst.length : Int)) = true := by simp; omega
    have HR := Lib.hid (show pr = 26 by rw [HRR.out, show r2 = lst.drop k from HD.out.symm, if_neg (by simp; omega)])
    clear hkl
    go_wp2
    go_ret
    exact ⟨ret_int HR.out.symm, gb_new G3.out G4.out (fun q e => by cases e; omega)⟩
end LPrfD
section LPrfM
open Go.RowKit Rg

/-- What a certificate says of a box. -/
def wr (V : Bx → Bool) : Nat → Bx → List Int → Int × List Int
  | 0, _, l => (8, l)
  | f + 1, b, l => if l.length = 6001 then (8, l) else if V b then (0, l ++ [0]) else if b.ok then (if (wr V f b.fst (l ++ [1])).1 = 0 then wr V f b.snd (wr V f b.fst (l ++ [1])).2 else wr V f b.fst (l ++ [1])) else (26, l)

/-- The writer's own variables. -/
structure MkAt (P : Prob) (vl vh vp : Value) (x : Loc) (tol : Int) (w0 : World) (O Pp X T F B : Nat) (u : World) : Prop where
  p : u.heap[Pp]? = some (.cells (P.val vl vh vp) 36 (0, 0))
  x : u.heap[X]? = some (.cells x.val 27 (0, 0))
  t : u.heap[T]? = some (.cells #[.int .i64 tol] 3 (0, 0))
  f : u.heap[F]? = some (.cells #[.func (.func 35) #[] #[.pointer (some ⟨O, 0, none⟩), .pointer (some ⟨Pp, 0, none⟩), .pointer (some ⟨X, 0, none⟩), .pointer (some ⟨T, 0, none⟩), .pointer (some ⟨F, 0, none⟩)]] 75 (0, 0))
  ne : Pp ≠ O ∧ X ≠ O ∧ T ≠ O ∧ F ≠ O
  lt : Pp < B ∧ X < B ∧ T < B ∧ F < B
  g : w0.grownBy u none
  hO : w0.heap.size ≤ O
theorem MkAt.fr {P : Prob} {vl vh vp : Value} {x : Loc} {tol : Int} {w0 : World} {O Pp X T F B : Nat} {u u' : World} {v v' : Value} {l : List Int} (h : MkAt P vl vh vp x tol w0 O Pp X T F B u) (ho : OutAt O B u v l) (hf : Fr O v v' u u') : MkAt P vl vh vp x tol w0 O Pp X T F B u' :=
  ⟨hf.kept ho h.p h.ne.1 h.lt.1, hf.kept ho h.x h.ne.2.1 h.lt.2.1, hf.kept ho h.t h.ne.2.2.1 h.lt.2.2.1, hf.kept ho h.f h.ne.2.2.2 h.lt.2.2.2, h.ne, h.lt, hf.all ho h.g h.hO, h.hO⟩

/-- What a call of the writer does. -/
def Wrote (O B : Nat) (v : Value) (n : Nat) (r : Int × List Int) (u : World) (e : Ending) (u' : World) : Prop :=
  ∃ v', e = .returned (.int .i64 r.1) ∧ OutAt O B u' v' r.2 ∧ Fr O v v' u u' ∧ n ≤ r.2.length ∧ r.2.length ≤ 6001

set_option maxRecDepth 100000 in
set_option maxHeartbeats 4000000 in
theorem make1_any (P : Prob) (vl vh vp : Value) (x : Loc) (tol : Int) (w0 : World) (hi : ProbIn P vl vh vp w0) (hbig : P.phs.length ≤ 1000000000) (O Pp X T F B : Nat) : ∀ (fuel : Nat) (w : World) (b : Bx) (l : List Int) (v : Value), MkAt P vl vh vp x tol w0 O Pp X T F B w → OutAt O B w v l → l.length ≤ 6001 → 6001 - l.length < fuel →
    Calls Tryz.prog 35 #[.agg b.val, .pointer (some ⟨O, 0, none⟩), .pointer (some ⟨Pp, 0, none⟩), .pointer (some ⟨X, 0, none⟩), .pointer (some ⟨T, 0, none⟩), .pointer (some ⟨F, 0, none⟩)] w (Wrote O B v l.length (wr (prV P x tol) fuel b l) w) := by
  intro fuel
  induction fuel with
  | zero => intro w b l v h ha hk hf; omega
  | succ f ih =>
    intro w b l v h ha hk hf
    have IH := Lib.hid ih
    clear ih
    have hOl := block_lt' ha.o
    have PV := Lib.hid (fun (u : World) (hu : w0.grownBy u none) => proves_any P vl vh vp x tol b.a b.b b.c b.d b.e b.f u (hi.after hu) hbig)
    have SPL := Lib.hid b.split
    have hpB : prB P x tol b.a b.b b.c b.d b.e b.f = prV P x tol b := rfl
    rw [hpB] at PV
    have hg1 := gb_alloc (gb_refl w none) (.cells b.val 25)
    have H1 := Lib.hid (h.fr ha (Fr.gb hg1)); have A1 := Lib.hid (ha.keep hg1); have F1 : Hid (Fr O v v w _) := Lib.hid (Fr.gb hg1)
    have B1 := Lib.hid (heap_alloc_new w (.cells b.val 25))
    obtain ⟨⟨pa, pc, rfl⟩, -⟩ := (⟨hi.p.slice, trivial⟩ : _ ∧ True)
    obtain ⟨la, ln, lc, rfl⟩ := sl_slice hi.l
    obtain ⟨ha_, hn_, hc_, rfl⟩ := sl_slice hi.h
    obtain ⟨oa, oc, rfl⟩ := owns_slice ha.own
    clear hg1 h ha hpB hi hbig
    generalize prV P x tol = V at *
    have HR : Hid (wr V (f + 1) b l = if l.length = 6001 then (8, l) else if V b then (0, l ++ [0]) else if b.ok then (if (wr V f b.fst (l ++ [1])).1 = 0 then wr V f b.snd (wr V f b.fst (l ++ [1])).2 else wr V f b.fst (l ++ [1])) else (26, l)) := Lib.hid rfl
    generalize wr V (f + 1) b l = rr at *
    generalize hVb : V b = vb at *
    clear hVb
    have IHf := Lib.hid (fun (w' : World) (l' : List Int) (v' : Value) (h' : MkAt P (.slice la ln lc) (.slice ha_ hn_ hc_) (.slice pa P.phs.length pc) x tol w0 O Pp X T F B w') (ha' : OutAt O B w' v' l') (hk' : l'.length ≤ 6001) (hf' : 6001 - l'.length < f) => IH.out w' b.fst l' v' h' ha' hk' hf')
    have IHs := Lib.hid (fun (w' : World) (l' : List Int) (v' : Value) (h' : MkAt P (.slice la ln lc) (.slice ha_ hn_ hc_) (.slice pa P.phs.length pc) x tol w0 O Pp X T F B w') (ha' : OutAt O B w' v' l') (hk' : l'.length ≤ 6001) (hf' : 6001 - l'.length < f) => IH.out w' b.snd l' v' h' ha' hk' hf')
    clear IH
    generalize b.fst = bf at *
    generalize b.snd = bs at *
    generalize b.ok = ok at *
    obtain ⟨b0, b1, b2, b3, b4, b5⟩ := b
    obtain ⟨g0, g1, g2, g3, g4, g5⟩ := bf
    obtain ⟨k0, k1, k2, k3, k4, k5⟩ := bs
    simp only [Bx.val] at *
    have o_ := cell_of A1.out.o 0 _ rfl
    by_cases hl : l.length = 6001
    · have hl' : ((l.length : Int) == 6001) = true := by simp; omega
      have HRR := Lib.hid (show rr = (8, l) by rw [HR.out, if_pos hl])
      clear hl
      go_enter Tryz.func35, Tryz.ntmps35
      go_wp2
      go_ret
      exact ⟨_, by simp [HRR.out], by rw [HRR.out]; exact A1.out, F1.out, by rw [HRR.out]; exact Nat.le_refl _, by rw [HRR.out]; exact hk⟩
    have hl' : ((l.length : Int) == 6001) = false := by simp; omega
    have P1 := Lib.hid H1.out.p; have X1 := Lib.hid H1.out.x
    have t_ := cell_of H1.out.t 0 _ rfl
    obtain ⟨f0_, f1_, f2_, f3_, f4_, f5_⟩ := six B1.out
    have PV1 := Lib.hid (PV.out _ H1.out.g)
    have HP := Lib.hid (rfl : P = P)
    have C11 : Hid (∀ (u : World), u.heap[Pp]? = some (.cells (P.val (.slice la ln lc) (.slice ha_ hn_ hc_) (.slice pa P.phs.length pc)) 36 (0, 0)) → True) := Lib.hid (fun _ _ => trivial)
    clear PV C11 HP
    obtain ⟨px, py, pz, xt, xm, xl, a0, a1, a2, a3, a4, a5⟩ := x
    obtain ⟨X0, Y0, Z0, X1_, Y1_, Z1_, step, ls, hs, phs, cap⟩ := P
    dsimp only [Prob.val, Loc.val] at P1 X1 PV1
    dsimp only at *
    obtain ⟨e0_, e1_, e2_, e3_, e4_, e5_, e6_, e7_, e8_, e9_, e10_⟩ := cells11 P1.out
    obtain ⟨d0_, d1_, d2_, d3_, d4_, d5_, d6_, d7_, d8_, d9_, d10_, d11_⟩ := cells12 X1.out
    go_enter Tryz.func35, Tryz.ntmps35
    go_wp2_with fail
    generalize (w.alloc (.cells #[.int .i64 b0, .int .i64 b1, .int .i64 b2, .int .i64 b3, .int .i64 b4, .int .i64 b5] 25)) = w1 at *
    (with_reducible refine PV1.out.mono ?_)
    rintro r w2 ⟨rfl, hg⟩
    clear e0_ e1_ e2_ e3_ e4_ e5_ e6_ e7_ e8_ e9_ e10_ d0_ d1_ d2_ d3_ d4_ d5_ d6_ d7_ d8_ d9_ d10_ d11_ f0_ f1_ f2_ f3_ f4_ f5_ o_ t_
    have H2 := Lib.hid (H1.out.fr A1.out (Fr.gb hg)); have A2 := Lib.hid (A1.out.keep hg); have F2 := Lib.hid (F1.out.trans (Fr.gb hg)); have B2 := Lib.hid (block_kept hg B1.out rfl)
    clear hg P1 X1 PV1 H1 A1 F1 B1
    cases vb
    rotate_left
    · have HRR := Lib.hid (show rr = (0, l ++ [0]) by rw [HR.out, if_neg hl]; rfl)
      have o_ := cell_of A2.out.o 0 _ rfl
      have PUSH := Lib.hid (fun (v' : Value) (u6 : World) h1 hg hb => push_out (c := 0) (t := 3) A2.out (u6 := u6) (v' := v') h1 hg hb)
      go_wp2_with (at_builtin; refine wpList_pushAt rfl _ _ 28 rfl B 3 (.int .i64 0) 1 8 Tryz.underlying28 Tryz.infoIntT rfl (by decide) (by decide) _ _ _ rfl (A2.out.own.alloc _) w2.heap.size 1 [.int .i64 0] 3 rfl (heap_alloc_new w2 _) rfl (by simp [Value.oneCell']) (by omega) (by have := A2.out.le; simp; omega) ?_; refine Hid.out ?_)
      refine Lib.hid ?_
      intro v' w6 h1 hg hb
      obtain ⟨oa', oc', rfl⟩ := owns_slice h1
      have HN := Lib.hid (PUSH.out _ w6 h1 hg (by simpa using hb))
      clear PUSH h1 hg hb o_
      have o_ := cell_of HN.out.1 0 _ rfl
      have z_ := frozen3 HN.out.1 (o := 0)
      go_wp2
      go_ret
      exact ⟨_, by simp [HRR.out], by rw [HRR.out]; exact HN.out.2.1, F2.out.trans HN.out.2.2, by rw [HRR.out]; simp, by rw [HRR.out]; simp; omega⟩
    obtain ⟨f0_, f1_, f2_, f3_, f4_, f5_⟩ := six B2.out
    go_wp2_with fail
    (with_reducible refine (SPL.out _).mono ?_)
    rintro r w3 ⟨rfl, hg⟩
    have H3 := Lib.hid (H2.out.fr A2.out (Fr.gb hg)); have A3 := Lib.hid (A2.out.keep hg); have F3 := Lib.hid (F2.out.trans (Fr.gb hg))
    clear hg H2 A2 F2 B2 f0_ f1_ f2_ f3_ f4_ f5_
    have hg4 : w3.grownBy ((w3.alloc (.cells #[.int .i64 g0, .int .i64 g1, .int .i64 g2, .int .i64 g3, .int .i64 g4, .int .i64 g5] 25)).alloc (.cells #[.int .i64 k0, .int .i64 k1, .int .i64 k2, .int .i64 k3, .int .i64 k4, .int .i64 k5] 25)) none := gb_alloc (gb_alloc (gb_refl _ _) _) _
    have U4 : Hid (((w3.alloc (.cells #[.int .i64 g0, .int .i64 g1, .int .i64 g2, .int .i64 g3, .int .i64 g4, .int .i64 g5] 25)).alloc (.cells #[.int .i64 k0, .int .i64 k1, .int .i64 k2, .int .i64 k3, .int .i64 k4, .int .i64 k5] 25)).heap[w3.heap.size]? = some (.cells #[.int .i64 g0, .int .i64 g1, .int .i64 g2, .int .i64 g3, .int .i64 g4, .int .i64 g5] 25 (0, 0))) := Lib.hid (by rw [heap_alloc_old _ _ (by simp), heap_alloc_new])
    have V4 : Hid (((w3.alloc (.cells #[.int .i64 g0, .int .i64 g1, .int .i64 g2, .int .i64 g3, .int .i64 g4, .int .i64 g5] 25)).alloc (.cells #[.int .i64 k0, .int .i64 k1, .int .i64 k2, .int .i64 k3, .int .i64 k4, .int .i64 k5] 25)).heap[w3.heap.size + 1]? = some (.cells #[.int .i64 k0, .int .i64 k1, .int .i64 k2, .int .i64 k3, .int .i64 k4, .int .i64 k5] 25 (0, 0))) := Lib.hid (by simpa using heap_alloc_new (w3.alloc _) (.cells #[.int .i64 k0, .int .i64 k1, .int .i64 k2, .int .i64 k3, .int .i64 k4, .int .i64 k5] 25))
    have H4 := Lib.hid (H3.out.fr A3.out (Fr.gb hg4)); have A4 := Lib.hid (A3.out.keep hg4); have F4 := Lib.hid (F3.out.trans (Fr.gb hg4))
    have hO3 := block_lt' A3.out.o
    have hN4 : Hid (∀ k, k = w3.heap.size ∨ k = w3.heap.size + 1 → k ≠ O ∧ some k ≠ (Value.slice oa l.length oc).ownBlock) := Lib.hid (fun k hk => ⟨by omega, fun e => by have := (A3.out.own.lt k e.symm).2; omega⟩)
    have o_ := cell_of A4.out.o 0 _ rfl
    clear hg4 H3 A3 F3
    obtain ⟨u0_, u1_, u2_, u3_, u4_, u5_⟩ := six U4.out
    obtain ⟨v0_, v1_, v2_, v3_, v4_, v5_⟩ := six V4.out
    cases ok
    · have HRR := Lib.hid (show rr = (26, l) by rw [HR.out, if_neg hl]; rfl)
      go_wp2_with fail
      go_ret
      exact ⟨_, by simp [HRR.out], by rw [HRR.out]; exact A4.out, F4.out, by rw [HRR.out]; exact Nat.le_refl _, by rw [HRR.out]; exact hk⟩
    have HRR := Lib.hid (show rr = (if (wr V f ⟨g0, g1, g2, g3, g4, g5⟩ (l ++ [1])).1 = 0 then wr V f ⟨k0, k1, k2, k3, k4, k5⟩ (wr V f ⟨g0, g1, g2, g3, g4, g5⟩ (l ++ [1])).2 else wr V f ⟨g0, g1, g2, g3, g4, g5⟩ (l ++ [1])) by rw [HR.out, if_neg hl]; rfl)
    clear HR
    have PUSH := Lib.hid (fun (v' : Value) (u6 : World) h1 hg hb => push_out (c := 1) (t := 3) A4.out (u6 := u6) (v' := v') h1 hg hb)
    go_wp2_with (at_builtin; refine wpList_pushAt rfl _ _ 28 rfl B 3 (.int .i64 0) 1 8 Tryz.underlying28 Tryz.infoIntT rfl (by decide) (by decide) _ _ _ rfl (A4.out.own.alloc _) (w3.heap.size + 1 + 1) 1 [.int .i64 1] 3 rfl (by simpa using heap_alloc_new ((w3.alloc (.cells #[.int .i64 g0, .int .i64 g1, .int .i64 g2, .int .i64 g3, .int .i64 g4, .int .i64 g5] 25)).alloc (.cells #[.int .i64 k0, .int .i64 k1, .int .i64 k2, .int .i64 k3, .int .i64 k4, .int .i64 k5] 25)) (.cells #[.int .i64 1] 3)) rfl (by simp [Value.oneCell']) (by omega) (by have := A4.out.le; simp at this ⊢; omega) ?_; refine Hid.out ?_)
    refine Lib.hid ?_
    intro v' w6 h1 hg hb
    obtain ⟨oa', oc', rfl⟩ := owns_slice h1
    have HN := Lib.hid (PUSH.out _ w6 h1 hg (by simpa using hb))
    clear PUSH h1 hg hb o_ u0_ u1_ u2_ u3_ u4_ u5_ v0_ v1_ v2_ v3_ v4_ v5_
    have o_ := cell_of HN.out.1 0 _ rfl
    have z_ := frozen3 HN.out.1 (o := 0)
    have H7 := Lib.hid (H4.out.fr A4.out HN.out.2.2); have A7 := Lib.hid HN.out.2.1; have F7 := Lib.hid (F4.out.trans HN.out.2.2)
    have U7 := Lib.hid ((HN.out.2.2.block _ (block_lt' U4.out) (hN4.out _ (.inl rfl)).1 (hN4.out _ (.inl rfl)).2).trans U4.out)
    have V7 := Lib.hid ((HN.out.2.2.block _ (block_lt' V4.out) (hN4.out _ (.inr rfl)).1 (hN4.out _ (.inr rfl)).2).trans V4.out)
    have hN7 : Hid (w3.heap.size + 1 ≠ O ∧ some (w3.heap.size + 1) ≠ (Value.slice oa' (l.length + 1) oc').ownBlock) := Lib.hid ⟨(hN4.out _ (.inr rfl)).1, fun e => by
      rcases HN.out.2.2.own _ e.symm with h | h
      · exact (hN4.out _ (.inr rfl)).2 h.symm
      · simp at h; omega⟩
    clear U4 V4 HN hN4 H4 A4 F4
    have f_ := cell_of H7.out.f 0 _ rfl
    obtain ⟨u0_, u1_, u2_, u3_, u4_, u5_⟩ := six U7.out
    go_wp2_with fail
    clear f_ u0_ u1_ u2_ u3_ u4_ u5_ o_ z_
    generalize w6.setCell ⟨O, 0, none⟩ (.slice oa' (l.length + 1) oc') = w7 at *
    (with_reducible refine (IHf.out w7 (l ++ [1]) _ H7.out A7.out (by simp; omega) (by simp; omega)).mono ?_)
    rintro r w8 ⟨v8, rfl, ho, hf8, hn1, hn2⟩
    generalize wr V f ⟨g0, g1, g2, g3, g4, g5⟩ (l ++ [1]) = q at *
    obtain ⟨q1, q2⟩ := q
    simp only at hn1 hn2 ho HRR ⊢
    obtain ⟨qa, qc, rfl⟩ := owns_slice ho.own
    have hl1 : l.length + 1 ≤ q2.length := by simpa using hn1
    have H8 := Lib.hid (H7.out.fr A7.out hf8); have A8 := Lib.hid ho; have F8 := Lib.hid (F7.out.trans hf8)
    have V8 := Lib.hid ((hf8.block _ (block_lt' V7.out) hN7.out.1 hN7.out.2).trans V7.out)
    clear ho hf8 hn1 hN7 H7 A7 F7 U7 V7
    by_cases hq : q1 = 0
    rotate_left
    · have hq' : (q1 != 0) = true := by simpa using hq
      have HRQ := Lib.hid (show rr = (q1, q2) by rw [HRR.out, if_neg hq])
      clear hq HRR
      go_wp2
      go_ret
      exact ⟨_, by simp [HRQ.out], by rw [HRQ.out]; exact A8.out, F8.out, by rw [HRQ.out]; simp; omega, by rw [HRQ.out]; exact hn2⟩
    subst hq
    have HRQ := Lib.hid (show rr = wr V f ⟨k0, k1, k2, k3, k4, k5⟩ q2 by rw [HRR.out, if_pos rfl])
    clear HRR
    have f_ := cell_of H8.out.f 0 _ rfl
    obtain ⟨u0_, u1_, u2_, u3_, u4_, u5_⟩ := six V8.out
    go_wp2_with fail
    (with_reducible refine (IHs.out w8 q2 _ H8.out A8.out hn2 (by omega)).mono ?_)
    rintro r w9 ⟨v9, rfl, ho, hf9, hn3, hn4⟩
    have A9 := Lib.hid ho; have F9 := Lib.hid (F8.out.trans hf9)
    clear ho hf9
    go_wp2
    go_ret
    exact ⟨_, by simp [HRQ.out], by rw [HRQ.out]; exact A9.out, F9.out, by rw [HRQ.out]; omega, by rw [HRQ.out]; exact hn4⟩
end LPrfM
section LPrfN
open Go.RowKit Rg

attribute [local irreducible] wr
def mkE (P : Prob) (x : Loc) (tol : Int) : Int × List Int := if askE P x tol ≠ 0 then (askE P x tol, []) else if x.m < x.l then (26, []) else if (wr (prV P x tol) 6002 P.reg []).1 = 0 then wr (prV P x tol) 6002 P.reg [] else ((wr (prV P x tol) 6002 P.reg []).1, [])

set_option maxRecDepth 100000 in
set_option maxHeartbeats 4000000 in
theorem make_any (P : Prob) (vl vh vp : Value) (x : Loc) (tol : Int) (w : World) (hi : ProbIn P vl vh vp w) (hbig : P.phs.length ≤ 1000000000) :
    Calls Tryz.prog 14 #[.agg (P.val vl vh vp), .agg x.val, .int .i64 tol] w fun e w' => ∃ v', e = .returned (.tuple #[v', .int .i64 (mkE P x tol).1]) ∧ w'.ownsRow w.heap.size 3 1 v' (mkE P x tol).2.length ((mkE P x tol).2.map (Value.int .i64)) ∧ w.grownBy w' none := by
  have AS := Lib.hid (fun (u : World) (h : w.grownBy u none) => asked_any P vl vh vp x tol u (hi.after h) hbig)
  have HC := Lib.hid (fun (O Pp X T F B : Nat) (u : World) => make1_any P vl vh vp x tol w hi hbig O Pp X T F B 6002 u P.reg [])
  obtain ⟨pa, pc, rfl⟩ := hi.p.slice
  obtain ⟨la, ln, lc, rfl⟩ := sl_slice hi.l
  obtain ⟨ha, hn, hc, rfl⟩ := sl_slice hi.h
  generalize hpr : mkE P x tol = pr
  have HP := Lib.hid hpr.symm
  clear hpr
  unfold mkE at HP
  generalize askE P x tol = E at *
  generalize prV P x tol = V at *
  clear hi hbig
  obtain ⟨x0, y0, z0, x1, y1, z1, step, ls, hs, phs, cap⟩ := P
  obtain ⟨px, py, pz, xt, xm, xl, a0, a1, a2, a3, a4, a5⟩ := x
  simp only [Prob.reg] at *
  generalize hpn : phs.length = pn at *
  have hPV : Prob.val ⟨x0, y0, z0, x1, y1, z1, step, ls, hs, phs, cap⟩ (.slice la ln lc) (.slice ha hn hc) (.slice pa pn pc) = #[.int .i64 x0, .int .i64 y0, .int .i64 z0, .int .i64 x1, .int .i64 y1, .int .i64 z1, .int .i64 step, .slice la ln lc, .slice ha hn hc, .slice pa pn pc, .int .i64 cap] := rfl
  have hXV : Loc.val ⟨px, py, pz, xt, xm, xl, a0, a1, a2, a3, a4, a5⟩ = #[.int .i64 px, .int .i64 py, .int .i64 pz, .int .i64 xt, .int .i64 xm, .int .i64 xl, .int .i64 a0, .int .i64 a1, .int .i64 a2, .int .i64 a3, .int .i64 a4, .int .i64 a5] := rfl
  rw [hPV, hXV] at AS ⊢
  have k0_0 : (w.alloc (.cells #[.int .i64 x0, .int .i64 y0, .int .i64 z0, .int .i64 x1, .int .i64 y1, .int .i64 z1, .int .i64 step, .slice la ln lc, .slice ha hn hc, .slice pa pn pc, .int .i64 cap] 36)).heap[w.heap.size]? = some (.cells #[.int .i64 x0, .int .i64 y0, .int .i64 z0, .int .i64 x1, .int .i64 y1, .int .i64 z1, .int .i64 step, .slice la ln lc, .slice ha hn hc, .slice pa pn pc, .int .i64 cap] 36 (0, 0)) := by exact heap_alloc_new _ _
  have k0_1 := block_kept (gb_alloc (gb_refl (w.alloc (.cells #[.int .i64 x0, .int .i64 y0, .int .i64 z0, .int .i64 x1, .int .i64 y1, .int .i64 z1, .int .i64 step, .slice la ln lc, .slice ha hn hc, .slice pa pn pc, .int .i64 cap] 36)) none) (.cells #[.int .i64 px, .int .i64 py, .int .i64 pz, .int .i64 xt, .int .i64 xm, .int .i64 xl, .int .i64 a0, .int .i64 a1, .int .i64 a2, .int .i64 a3, .int .i64 a4, .int .i64 a5] 27)) k0_0 rfl
  have k1_1 : ((w.alloc (.cells #[.int .i64 x0, .int .i64 y0, .int .i64 z0, .int .i64 x1, .int .i64 y1, .int .i64 z1, .int .i64 step, .slice la ln lc, .slice ha hn hc, .slice pa pn pc, .int .i64 cap] 36)).alloc (.cells #[.int .i64 px, .int .i64 py, .int .i64 pz, .int .i64 xt, .int .i64 xm, .int .i64 xl, .int .i64 a0, .int .i64 a1, .int .i64 a2, .int .i64 a3, .int .i64 a4, .int .i64 a5] 27)).heap[w.heap.size + 1]? = some (.cells #[.int .i64 px, .int .i64 py, .int .i64 pz, .int .i64 xt, .int .i64 xm, .int .i64 xl, .int .i64 a0, .int .i64 a1, .int .i64 a2, .int .i64 a3, .int .i64 a4, .int .i64 a5] 27 (0, 0)) := by simpa using heap_alloc_new (w.alloc (.cells #[.int .i64 x0, .int .i64 y0, .int .i64 z0, .int .i64 x1, .int .i64 y1, .int .i64 z1, .int .i64 step, .slice la ln lc, .slice ha hn hc, .slice pa pn pc, .int .i64 cap] 36)) (.cells #[.int .i64 px, .int .i64 py, .int .i64 pz, .int .i64 xt, .int .i64 xm, .int .i64 xl, .int .i64 a0, .int .i64 a1, .int .i64 a2, .int .i64 a3, .int .i64 a4, .int .i64 a5] 27)
  clear k0_0
  have k0_2 := block_kept (gb_alloc (gb_refl ((w.alloc (.cells #[.int .i64 x0, .int .i64 y0, .int .i64 z0, .int .i64 x1, .int .i64 y1, .int .i64 z1, .int .i64 step, .slice la ln lc, .slice ha hn hc, .slice pa pn pc, .int .i64 cap] 36)).alloc (.cells #[.int .i64 px, .int .i64 py, .int .i64 pz, .int .i64 xt, .int .i64 xm, .int .i64 xl, .int .i64 a0, .int .i64 a1, .int .i64 a2, .int .i64 a3, .int .i64 a4, .int .i64 a5] 27)) none) (.cells #[.int .i64 tol] 3)) k0_1 rfl
  have k1_2 := block_kept (gb_alloc (gb_refl ((w.alloc (.cells #[.int .i64 x0, .int .i64 y0, .int .i64 z0, .int .i64 x1, .int .i64 y1, .int .i64 z1, .int .i64 step, .slice la ln lc, .slice ha hn hc, .slice pa pn pc, .int .i64 cap] 36)).alloc (.cells #[.int .i64 px, .int .i64 py, .int .i64 pz, .int .i64 xt, .int .i64 xm, .int .i64 xl, .int .i64 a0, .int .i64 a1, .int .i64 a2, .int .i64 a3, .int .i64 a4, .int .i64 a5] 27)) none) (.cells #[.int .i64 tol] 3)) k1_1 rfl
  have k2_2 : (((w.alloc (.cells #[.int .i64 x0, .int .i64 y0, .int .i64 z0, .int .i64 x1, .int .i64 y1, .int .i64 z1, .int .i64 step, .slice la ln lc, .slice ha hn hc, .slice pa pn pc, .int .i64 cap] 36)).alloc (.cells #[.int .i64 px, .int .i64 py, .int .i64 pz, .int .i64 xt, .int .i64 xm, .int .i64 xl, .int .i64 a0, .int .i64 a1, .int .i64 a2, .int .i64 a3, .int .i64 a4, .int .i64 a5] 27)).alloc (.cells #[.int .i64 tol] 3)).heap[w.heap.size + 1 + 1]? = some (.cells #[.int .i64 tol] 3 (0, 0)) := by simpa using heap_alloc_new ((w.alloc (.cells #[.int .i64 x0, .int .i64 y0, .int .i64 z0, .int .i64 x1, .int .i64 y1, .int .i64 z1, .int .i64 step, .slice la ln lc, .slice ha hn hc, .slice pa pn pc, .int .i64 cap] 36)).alloc (.cells #[.int .i64 px, .int .i64 py, .int .i64 pz, .int .i64 xt, .int .i64 xm, .int .i64 xl, .int .i64 a0, .int .i64 a1, .int .i64 a2, .int .i64 a3, .int .i64 a4, .int .i64 a5] 27)) (.cells #[.int .i64 tol] 3)
  clear k0_1 k1_1
  have G0 := Lib.hid (gb_alloc (gb_alloc (gb_alloc (gb_refl w none) _) _) _ : w.grownBy (((w.alloc (.cells #[.int .i64 x0, .int .i64 y0, .int .i64 z0, .int .i64 x1, .int .i64 y1, .int .i64 z1, .int .i64 step, .slice la ln lc, .slice ha hn hc, .slice pa pn pc, .int .i64 cap] 36)).alloc (.cells #[.int .i64 px, .int .i64 py, .int .i64 pz, .int .i64 xt, .int .i64 xm, .int .i64 xl, .int .i64 a0, .int .i64 a1, .int .i64 a2, .int .i64 a3, .int .i64 a4, .int .i64 a5] 27)).alloc (.cells #[.int .i64 tol] 3)) none)
  have K0 := Lib.hid k0_2
  have K1 := Lib.hid k1_2
  have K2 := Lib.hid k2_2
  clear k0_2 k1_2 k2_2
  obtain ⟨e0_, e1_, e2_, e3_, e4_, e5_, e6_, e7_, e8_, e9_, e10_⟩ := cells11 K0.out
  obtain ⟨d0_, d1_, d2_, d3_, d4_, d5_, d6_, d7_, d8_, d9_, d10_, d11_⟩ := cells12 K1.out
  go_enter Tryz.func14, Tryz.ntmps14
  have t_ := cell_of K2.out 0 _ rfl
  go_wp2_with fail
  generalize (((w.alloc (.cells #[.int .i64 x0, .int .i64 y0, .int .i64 z0, .int .i64 x1, .int .i64 y1, .int .i64 z1, .int .i64 step, .slice la ln lc, .slice ha hn hc, .slice pa pn pc, .int .i64 cap] 36)).alloc (.cells #[.int .i64 px, .int .i64 py, .int .i64 pz, .int .i64 xt, .int .i64 xm, .int .i64 xl, .int .i64 a0, .int .i64 a1, .int .i64 a2, .int .i64 a3, .int .i64 a4, .int .i64 a5] 27)).alloc (.cells #[.int .i64 tol] 3)) = w1 at *
  (with_reducible refine (AS.out w1 G0.out).mono ?_)
  rintro r w2 ⟨rfl, hg⟩
  clear t_
  clear e0_ e1_ e2_ e3_ e4_ e5_ e6_ e7_ e8_ e9_ e10_
  clear d0_ d1_ d2_ d3_ d4_ d5_ d6_ d7_ d8_ d9_ d10_ d11_
  have P2 := Lib.hid (block_kept hg K0.out rfl); have X2 := Lib.hid (block_kept hg K1.out rfl); have T2 := Lib.hid (block_kept hg K2.out rfl); have G2 := Lib.hid (gb_trans G0.out hg)
  have hsz2 := block_lt' T2.out
  clear hg K0 K1 K2 G0 AS
  by_cases hE : E = 0
  rotate_left
  · have hE' : (E == 0) = false := by simpa using hE
    have HR := Lib.hid (show pr = (E, []) by rw [HP.out]; simp [hE])
    clear hE
    go_wp2
    exact bodyPost_ret (v := .tuple #[.slice none 0 0, .int .i64 E]) (by simp [results, Tryz.results14, go_sem]) rfl ⟨.slice none 0 0, by simp [HR.out], by rw [HR.out]; exact World.ownsRow_nil _ _ _ _, G2.out⟩
  subst hE
  obtain ⟨d0_, d1_, d2_, d3_, d4_, d5_, d6_, d7_, d8_, d9_, d10_, d11_⟩ := cells12 X2.out
  by_cases hml : xm < xl
  · have hml' : decide (xl > xm) = true := decide_eq_true hml
    have HR := Lib.hid (show pr = (26, []) by rw [HP.out]; simp [hml])
    clear hml
    go_wp2
    exact bodyPost_ret (v := .tuple #[.slice none 0 0, .int .i64 26]) (by simp [results, Tryz.results14, go_sem]) rfl ⟨.slice none 0 0, by simp [HR.out], by rw [HR.out]; exact World.ownsRow_nil _ _ _ _, G2.out⟩
  have hml' : decide (xl > xm) = false := decide_eq_false hml
  have hg3 : w2.grownBy ((w2.alloc (.cells #[.slice none 0 0] 28)).alloc (.cells #[.func (.func 35) #[] #[.pointer (some ⟨w2.heap.size, 0, none⟩), .pointer (some ⟨w.heap.size, 0, none⟩), .pointer (some ⟨w.heap.size + 1, 0, none⟩), .pointer (some ⟨w.heap.size + 1 + 1, 0, none⟩), .pointer (some ⟨w2.heap.size + 1, 0, none⟩)]] 75)) none := gb_alloc (gb_alloc (gb_refl _ _) _) _
  have A3 : Hid (((w2.alloc (.cells #[.slice none 0 0] 28)).alloc (.cells #[.func (.func 35) #[] #[.pointer (some ⟨w2.heap.size, 0, none⟩), .pointer (some ⟨w.heap.size, 0, none⟩), .pointer (some ⟨w.heap.size + 1, 0, none⟩), .pointer (some ⟨w.heap.size + 1 + 1, 0, none⟩), .pointer (some ⟨w2.heap.size + 1, 0, none⟩)]] 75)).heap[w2.heap.size]? = some (.cells #[.slice none 0 0] 28 (0, 0))) := Lib.hid (by rw [heap_alloc_old _ _ (by simp), heap_alloc_new])
  have F3 : Hid (((w2.alloc (.cells #[.slice none 0 0] 28)).alloc (.cells #[.func (.func 35) #[] #[.pointer (some ⟨w2.heap.size, 0, none⟩), .pointer (some ⟨w.heap.size, 0, none⟩), .pointer (some ⟨w.heap.size + 1, 0, none⟩), .pointer (some ⟨w.heap.size + 1 + 1, 0, none⟩), .pointer (some ⟨w2.heap.size + 1, 0, none⟩)]] 75)).heap[w2.heap.size + 1]? = some (.cells #[.func (.func 35) #[] #[.pointer (some ⟨w2.heap.size, 0, none⟩), .pointer (some ⟨w.heap.size, 0, none⟩), .pointer (some ⟨w.heap.size + 1, 0, none⟩), .pointer (some ⟨w.heap.size + 1 + 1, 0, none⟩), .pointer (some ⟨w2.heap.size + 1, 0, none⟩)]] 75 (0, 0))) := Lib.hid (by simpa using heap_alloc_new (w2.alloc _) (.cells #[.func (.func 35) #[] #[.pointer (some ⟨w2.heap.size, 0, none⟩), .pointer (some ⟨w.heap.size, 0, none⟩), .pointer (some ⟨w.heap.size + 1, 0, none⟩), .pointer (some ⟨w.heap.size + 1 + 1, 0, none⟩), .pointer (some ⟨w2.heap.size + 1, 0, none⟩)]] 75))
  have G3 := Lib.hid (gb_trans G2.out hg3)
  have f_ := cell_of F3.out 0 _ rfl
  obtain ⟨e0_, e1_, e2_, e3_, e4_, e5_, e6_, e7_, e8_, e9_, e10_⟩ := cells11 (block_kept hg3 P2.out rfl)
  have C3 : Hid (MkAt ⟨x0, y0, z0, x1, y1, z1, step, ls, hs, phs, cap⟩ (.slice la ln lc) (.slice ha hn hc) (.slice pa pn pc) ⟨px, py, pz, xt, xm, xl, a0, a1, a2, a3, a4, a5⟩ tol w w2.heap.size w.heap.size (w.heap.size + 1) (w.heap.size + 1 + 1) (w2.heap.size + 1) (w2.heap.size + 1 + 1) ((w2.alloc (.cells #[.slice none 0 0] 28)).alloc (.cells #[.func (.func 35) #[] #[.pointer (some ⟨w2.heap.size, 0, none⟩), .pointer (some ⟨w.heap.size, 0, none⟩), .pointer (some ⟨w.heap.size + 1, 0, none⟩), .pointer (some ⟨w.heap.size + 1 + 1, 0, none⟩), .pointer (some ⟨w2.heap.size + 1, 0, none⟩)]] 75))) := Lib.hid ⟨block_kept hg3 P2.out rfl, block_kept hg3 X2.out rfl, block_kept hg3 T2.out rfl, F3.out, ⟨by omega, by omega, by omega, by omega⟩, ⟨by omega, by omega, by omega, by omega⟩, G3.out, by omega⟩
  have O3 : Hid (OutAt w2.heap.size (w2.heap.size + 1 + 1) ((w2.alloc (.cells #[.slice none 0 0] 28)).alloc (.cells #[.func (.func 35) #[] #[.pointer (some ⟨w2.heap.size, 0, none⟩), .pointer (some ⟨w.heap.size, 0, none⟩), .pointer (some ⟨w.heap.size + 1, 0, none⟩), .pointer (some ⟨w.heap.size + 1 + 1, 0, none⟩), .pointer (some ⟨w2.heap.size + 1, 0, none⟩)]] 75)) (.slice none 0 0) []) := Lib.hid ⟨A3.out, World.ownsRow_nil _ _ _ _, by omega, by simp⟩
  have RN := Lib.hid (HC.out _ _ _ _ _ _ _ _ C3.out O3.out (by simp) (by simp))
  dsimp only [Bx.val] at RN
  clear hg3 HC
  obtain ⟨q1, q2, hq⟩ : ∃ q1 q2, wr V 6002 ⟨x0, y0, z0, x1, y1, z1⟩ [] = (q1, q2) := ⟨(wr V 6002 ⟨x0, y0, z0, x1, y1, z1⟩ []).1, (wr V 6002 ⟨x0, y0, z0, x1, y1, z1⟩ []).2, rfl⟩
  rw [hq] at RN
  have HRR : Hid (pr = if q1 = 0 then (q1, q2) else (q1, [])) := Lib.hid (by rw [HP.out, if_neg (by simp), if_neg hml]; simp only [hq])
  clear HP hq
  go_wp2_with fail
  clear d0_ d1_ d2_ d3_ d4_ d5_ d6_ d7_ d8_ d9_ d10_ d11_
  (with_reducible refine RN.out.mono ?_)
  rintro r w4 ⟨v4, rfl, ho, hf, -, hn4⟩
  clear f_
  clear e0_ e1_ e2_ e3_ e4_ e5_ e6_ e7_ e8_ e9_ e10_
  have G4 := Lib.hid (hf.all O3.out G3.out (by omega))
  have hnn := hf.own
  obtain ⟨oa, oc, rfl⟩ := owns_slice ho.own
  have A4 := Lib.hid ho
  clear ho hf RN O3 C3 A3 F3
  simp only
  by_cases hq : q1 = 0
  rotate_left
  · have hq' : (q1 != 0) = true := by simpa using hq
    have HR := Lib.hid (show pr = (q1, []) by rw [HRR.out, if_neg hq])
    clear hq HRR
    go_wp2
    exact bodyPost_ret (v := .tuple #[.slice none 0 0, .int .i64 q1]) (by simp [results, Tryz.results14, go_sem]) rfl ⟨.slice none 0 0, by simp [HR.out], by rw [HR.out]; exact World.ownsRow_nil _ _ _ _, G4.out⟩
  subst hq
  have HR := Lib.hid (show pr = (0, q2) by rw [HRR.out, if_pos rfl])
  clear HRR
  have o_ := cell_of A4.out.o 0 _ rfl
  have ON : Hid (w4.ownsRow w.heap.size 3 1 (.slice oa q2.length oc) q2.length (q2.map (Value.int .i64))) := Lib.hid (by
    refine ⟨A4.out.own.1, ?_⟩
    rcases A4.out.own.2 with h | ⟨g, cap, cur, h1, h2, h3⟩
    · exact .inl h
    · exact .inr ⟨g, cap, cur, h1, by omega, h3⟩)
  go_wp2
  exact bodyPost_ret (v := .tuple #[.slice oa q2.length oc, .int .i64 0]) (by simp [results, Tryz.results14, go_sem]) rfl ⟨.slice oa q2.length oc, by simp [HR.out], by rw [HR.out]; exact ON.out, G4.out⟩
end LPrfN
end Go.Proofs.YtdkckhihleffeaaGreat
