/- proof.Check's reader, and Check. Written by gen_prfc.py. -/
import Derived.Test.YtcealhikmbchoaaPrf
import Derived.Test.YtcealhikmbchoaaBx
namespace Go.Proofs.Ytcealhikmbchoaa
set_option linter.all false
open Go.RowKit Rg

/-- What a certificate says of a box; what is left of it. -/
def rd (V : Bx → Bool) : Nat → Bx → List Int → Bool × List Int
  | 0, _, l => (false, l)
  | _ + 1, _, [] => (false, [])
  | f + 1, b, n :: l => if n = 0 then (V b, l) else if n = 1 then (if b.ok then (if (rd V f b.fst l).1 then rd V f b.snd (rd V f b.fst l).2 else (false, (rd V f b.fst l).2)) else (false, l)) else (false, l)
def prV (P : Prob) (x : Loc) (tol : Int) (b : Bx) : Bool := prB P x tol b.a b.b b.c b.d b.e b.f

/-- The reader's own variables. -/
structure ChkAt (P : Prob) (vl vh vp : Value) (x : Loc) (tol : Int) (lst : List Int) (vs : Value) (A R Pp X T F : Nat) (u : World) : Prop where
  r : u.heap[R]? = some (.cells #[vs] 22 (0, 0))
  p : u.heap[Pp]? = some (.cells (P.val vl vh vp) 36 (0, 0))
  x : u.heap[X]? = some (.cells x.val 28 (0, 0))
  t : u.heap[T]? = some (.cells #[.int .i64 tol] 3 (0, 0))
  f : u.heap[F]? = some (.cells #[.func (.func 45) #[] #[.pointer (some ⟨A, 0, none⟩), .pointer (some ⟨R, 0, none⟩), .pointer (some ⟨Pp, 0, none⟩), .pointer (some ⟨X, 0, none⟩), .pointer (some ⟨T, 0, none⟩), .pointer (some ⟨F, 0, none⟩)]] 81 (0, 0))
  ne : R ≠ A ∧ Pp ≠ A ∧ X ≠ A ∧ T ≠ A ∧ F ≠ A
  pi : PrIn A u ⟨P, vl, vh, vp⟩
  sl : Sl u vs lst
  sa : Apart A vs
theorem ChkAt.draw {P : Prob} {vl vh vp : Value} {x : Loc} {tol : Int} {lst : List Int} {vs : Value} {A R Pp X T F : Nat} {u u' : World} (h : ChkAt P vl vh vp x tol lst vs A R Pp X T F u) (hg : u.grownBy u' (some A)) : ChkAt P vl vh vp x tol lst vs A R Pp X T F u' :=
  ⟨block_keptp hg h.r h.ne.1, block_keptp hg h.p h.ne.2.1, block_keptp hg h.x h.ne.2.2.1, block_keptp hg h.t h.ne.2.2.2.1, block_keptp hg h.f h.ne.2.2.2.2, h.ne, h.pi.draw hg, h.sl.later hg (fun b off len cap e hl => by have := h.sa b off len cap e hl; simp; omega), h.sa⟩

/-- What a call of the reader does. -/
def Read1 (A : Nat) (lst : List Int) (k : Nat) (r : Bool × List Int) (w : World) (e : Ending) (w' : World) : Prop :=
  ∃ k' : Nat, e = .returned (.bool r.1) ∧ lst.drop k' = r.2 ∧ k' ≤ lst.length ∧ k ≤ k' ∧ (k < lst.length → k < k') ∧ w'.heap[A]? = some (.cells #[.int .i64 k'] 3 (0, 0)) ∧ w.grownBy w' (some A)

set_option maxRecDepth 100000 in
set_option maxHeartbeats 4000000 in
theorem check1_any (P : Prob) (vl vh vp : Value) (x : Loc) (tol : Int) (lst : List Int) (vs : Value) (A R Pp X T F : Nat) (hbig : lst.length ≤ 1000000) : ∀ (fuel : Nat) (w : World) (b : Bx) (k : Nat), ChkAt P vl vh vp x tol lst vs A R Pp X T F w → w.heap[A]? = some (.cells #[.int .i64 k] 3 (0, 0)) → k ≤ lst.length → lst.length - k < fuel →
    Calls Try.prog 45 #[.agg b.val, .pointer (some ⟨A, 0, none⟩), .pointer (some ⟨R, 0, none⟩), .pointer (some ⟨Pp, 0, none⟩), .pointer (some ⟨X, 0, none⟩), .pointer (some ⟨T, 0, none⟩), .pointer (some ⟨F, 0, none⟩)] w (Read1 A lst k (rd (prV P x tol) fuel b (lst.drop k)) w) := by
  intro fuel
  induction fuel with
  | zero => intro w b k h ha hk hf; omega
  | succ f ih =>
    intro w b k h ha hk hf
    have hAl := block_lt' ha
    have IH := Lib.hid ih
    clear ih
    have PV := Lib.hid (fun (u : World) (hu : ChkAt P vl vh vp x tol lst vs A R Pp X T F u) => proves_any P vl vh vp x tol b.a b.b b.c b.d b.e b.f u hu.pi.1 (by have := hu.pi.2.2.2.2; simp only [] at this; omega))
    have SPL := Lib.hid b.split
    have hpB : prB P x tol b.a b.b b.c b.d b.e b.f = prV P x tol b := rfl
    rw [hpB] at PV
    have hg1 := gb_alloc (gb_refl w none) (.cells b.val 26)
    have H1 := Lib.hid (h.draw (gb_none hg1)); have A1 := Lib.hid (block_kept hg1 ha rfl); have G1 := Lib.hid (gb_none (row := some A) hg1)
    have B1 := Lib.hid (heap_alloc_new w (.cells b.val 26))
    have hB1 : w.heap.size ≠ A := by omega
    obtain ⟨⟨pa, pc, rfl⟩, ⟨la, ln, lc, rfl⟩, ⟨ha_, hn_, hc_, rfl⟩, -⟩ := h.pi.sl
    obtain ⟨sa, scap, rfl⟩ := h.sl.shape
    have H0 := Lib.hid h; have A0 := Lib.hid ha
    clear hg1 h ha hpB
    generalize hV : prV P x tol = V at *
    clear hV
    by_cases hkl : k = lst.length
    · have HR : Hid (rd V (f + 1) b (lst.drop k) = (false, [])) := Lib.hid (by rw [hkl, List.drop_length]; rfl)
      have hkl' : ((k : Int) == (lst.length : Int)) = true := by simp; omega
      rw [HR.out]
      have r0_ := cell_of H1.out.r 0 _ rfl; have a0_ := cell_of A1.out 0 _ rfl
      have HK := Lib.hid hkl
      simp only [Bx.val] at *
      go_enter Try.func45, Try.ntmps45
      go_wp2
      go_ret
      exact ⟨k, rfl, by rw [HK.out, List.drop_length], hk, Nat.le_refl _, fun h => by have := HK.out; omega, A1.out, G1.out⟩
    have hkk : k < lst.length := by omega
    have hkl' : ((k : Int) == (lst.length : Int)) = false := by simp; omega
    obtain ⟨sb, soff, scap', hse, hsb, -, -, hsc⟩ := H1.out.sl.block (by omega)
    simp only [Value.slice.injEq, true_and] at hse
    obtain ⟨rfl, rfl⟩ := hse
    have s_ := hsc k hkk
    have hd : lst.drop k = lst[k] :: lst.drop (k + 1) := List.drop_eq_getElem_cons hkk
    have hat : at0 lst k = lst[k] := by simp [at0, hkk]
    rw [hat] at s_
    rw [hd]
    have hAw := block_lt' A1.out
    have hsA : sb ≠ A := by have := H1.out.sa; exact this _ _ _ _ rfl (by omega)
    have hcast : ((k : Int) + 1) = ((k + 1 : Nat) : Int) := by omega
    have hgs : w.grownBy ((w.setCell ⟨A, 0, none⟩ (.int .i64 ((k : Int) + 1))).alloc (.cells b.val 26)) (some A) := gb_alloc (gb_setCell (gb_refl _ _) (.inr rfl) _) _
    have A2 : Hid (((w.setCell ⟨A, 0, none⟩ (.int .i64 ((k : Int) + 1))).alloc (.cells b.val 26)).heap[A]? = some (.cells #[.int .i64 ((k + 1 : Nat) : Int)] 3 (0, 0))) := Lib.hid (by rw [← hcast]; exact block_kept (gb_alloc (gb_refl _ _) _) (set_block A0.out 0 _) rfl)
    have H2 := Lib.hid (H0.out.draw hgs); have G2 := Lib.hid hgs
    have B2 : Hid (((w.setCell ⟨A, 0, none⟩ (.int .i64 ((k : Int) + 1))).alloc (.cells b.val 26)).heap[w.heap.size]? = some (.cells b.val 26 (0, 0))) := Lib.hid (by simpa using heap_alloc_new (w.setCell ⟨A, 0, none⟩ (.int .i64 ((k : Int) + 1))) (.cells b.val 26))
    have hF := frozen3 A1.out (o := 0)
    have r0_ := cell_of H1.out.r 0 _ rfl; have a0_ := cell_of A1.out 0 _ rfl
    have hwk : IntKind.i64.wrap ((k : Int) + 1) = (k : Int) + 1 := by rw [IntKind.wrap_i64]; omega
    clear hsc hat hd hgs hcast
    generalize hc : lst[k] = c at *
    clear hc
    by_cases c0 : c = 0
    · subst c0
      rw [show rd V (f + 1) b (0 :: lst.drop (k + 1)) = (V b, lst.drop (k + 1)) from by simp [rd]]
      have p_ := H2.out.p; have x_ := H2.out.x; have t0_ := cell_of H2.out.t 0 _ rfl
      have PVw := Lib.hid (PV.out _ H2.out)
      obtain ⟨X0, Y0, Z0, X1, Y1, Z1, step, ls, hs, phs, cap⟩ := P
      obtain ⟨px, py, pz, xt, xm, xl, a0, a1, a2, a3, a4, a5⟩ := x
      simp only [Prob.val, Loc.val] at *
      have P_ := Lib.hid p_; have X_ := Lib.hid x_
      clear p_ x_
      obtain ⟨e0_, e1_, e2_, e3_, e4_, e5_, e6_, e7_, e8_, e9_, e10_⟩ := cells11 P_.out
      obtain ⟨d0_, d1_, d2_, d3_, d4_, d5_, d6_, d7_, d8_, d9_, d10_, d11_⟩ := cells12 X_.out
      generalize hVb : V b = vb at *
      clear hVb
      obtain ⟨b0, b1, b2, b3, b4, b5⟩ := b
      simp only [Bx.val] at *
      obtain ⟨f0_, f1_, f2_, f3_, f4_, f5_⟩ := six B2.out
      go_enter Try.func45, Try.ntmps45
      go_wp2_with fail
      (with_reducible refine PVw.out.mono ?_)
      rintro r w5 ⟨rfl, hg⟩
      have G5 := Lib.hid (gb_trans G2.out (gb_none hg)); have A5 := Lib.hid (block_kept hg A2.out rfl)
      clear hg
      go_wp2
      go_ret
      exact ⟨k + 1, rfl, rfl, by omega, by omega, fun _ => by omega, A5.out, G5.out⟩
    have c0' : (c == 0) = false := by simpa using c0
    by_cases c1 : c = 1
    rotate_left
    · have c1' : (c == 1) = false := by simpa using c1
      rw [show rd V (f + 1) b (c :: lst.drop (k + 1)) = (false, lst.drop (k + 1)) from by simp [rd, c0, c1]]
      clear c0 c1
      simp only [Bx.val] at *
      go_enter Try.func45, Try.ntmps45
      go_wp2
      go_ret
      exact ⟨k + 1, rfl, rfl, by omega, by omega, fun _ => by omega, A2.out, G2.out⟩
    subst c1
    clear c0
    have IHf := Lib.hid (fun (w' : World) (k' : Nat) (h' : ChkAt P (.slice la ln lc) (.slice ha_ hn_ hc_) (.slice pa P.phs.length pc) x tol lst (.slice (some ⟨sb, soff, none⟩) lst.length scap) A R Pp X T F w') (ha' : w'.heap[A]? = some (.cells #[.int .i64 k'] 3 (0, 0))) (hk' : k' ≤ lst.length) (hf' : lst.length - k' < f) => IH.out w' b.fst k' h' ha' hk' hf')
    have IHs := Lib.hid (fun (w' : World) (k' : Nat) (h' : ChkAt P (.slice la ln lc) (.slice ha_ hn_ hc_) (.slice pa P.phs.length pc) x tol lst (.slice (some ⟨sb, soff, none⟩) lst.length scap) A R Pp X T F w') (ha' : w'.heap[A]? = some (.cells #[.int .i64 k'] 3 (0, 0))) (hk' : k' ≤ lst.length) (hf' : lst.length - k' < f) => IH.out w' b.snd k' h' ha' hk' hf')
    have HR : Hid (rd V (f + 1) b (1 :: lst.drop (k + 1)) = (if b.ok then (if (rd V f b.fst (lst.drop (k + 1))).1 then rd V f b.snd (rd V f b.fst (lst.drop (k + 1))).2 else (false, (rd V f b.fst (lst.drop (k + 1))).2)) else (false, lst.drop (k + 1)))) := Lib.hid (by simp [rd])
    clear IH PV
    generalize rd V (f + 1) b (1 :: lst.drop (k + 1)) = rr at *
    generalize b.fst = bf at *
    generalize b.snd = bs at *
    generalize b.ok = ok at *
    obtain ⟨b0, b1, b2, b3, b4, b5⟩ := b
    obtain ⟨g0, g1, g2, g3, g4, g5⟩ := bf
    obtain ⟨k0, k1, k2, k3, k4, k5⟩ := bs
    simp only [Bx.val] at *
    obtain ⟨f0_, f1_, f2_, f3_, f4_, f5_⟩ := six B2.out
    go_enter Try.func45, Try.ntmps45
    go_wp2_with fail
    (with_reducible refine (SPL.out _).mono ?_)
    rintro r w5 ⟨rfl, hg⟩
    have H5 := Lib.hid (H2.out.draw (gb_none hg)); have A5 := Lib.hid (block_kept hg A2.out rfl); have G5 := Lib.hid (gb_trans G2.out (gb_none hg))
    clear hg H2 A2 G2 B2 f0_ f1_ f2_ f3_ f4_ f5_ hF H1 A1 G1 B1 r0_ a0_ s_
    have hg6 : w5.grownBy ((w5.alloc (.cells #[.int .i64 g0, .int .i64 g1, .int .i64 g2, .int .i64 g3, .int .i64 g4, .int .i64 g5] 26)).alloc (.cells #[.int .i64 k0, .int .i64 k1, .int .i64 k2, .int .i64 k3, .int .i64 k4, .int .i64 k5] 26)) none := gb_alloc (gb_alloc (gb_refl _ _) _) _
    have U6 : Hid (((w5.alloc (.cells #[.int .i64 g0, .int .i64 g1, .int .i64 g2, .int .i64 g3, .int .i64 g4, .int .i64 g5] 26)).alloc (.cells #[.int .i64 k0, .int .i64 k1, .int .i64 k2, .int .i64 k3, .int .i64 k4, .int .i64 k5] 26)).heap[w5.heap.size]? = some (.cells #[.int .i64 g0, .int .i64 g1, .int .i64 g2, .int .i64 g3, .int .i64 g4, .int .i64 g5] 26 (0, 0))) := Lib.hid (by rw [heap_alloc_old _ _ (by simp), heap_alloc_new])
    have V6 : Hid (((w5.alloc (.cells #[.int .i64 g0, .int .i64 g1, .int .i64 g2, .int .i64 g3, .int .i64 g4, .int .i64 g5] 26)).alloc (.cells #[.int .i64 k0, .int .i64 k1, .int .i64 k2, .int .i64 k3, .int .i64 k4, .int .i64 k5] 26)).heap[w5.heap.size + 1]? = some (.cells #[.int .i64 k0, .int .i64 k1, .int .i64 k2, .int .i64 k3, .int .i64 k4, .int .i64 k5] 26 (0, 0))) := Lib.hid (by simpa using heap_alloc_new (w5.alloc _) (.cells #[.int .i64 k0, .int .i64 k1, .int .i64 k2, .int .i64 k3, .int .i64 k4, .int .i64 k5] 26))
    have H6 := Lib.hid (H5.out.draw (gb_none hg6)); have A6 := Lib.hid (block_kept hg6 A5.out rfl); have G6 := Lib.hid (gb_trans G5.out (gb_none hg6))
    have hA5 := block_lt' A5.out
    clear hg6 H5 A5 G5
    have f_ := cell_of H6.out.f 0 _ rfl
    obtain ⟨u0_, u1_, u2_, u3_, u4_, u5_⟩ := six U6.out
    obtain ⟨v0_, v1_, v2_, v3_, v4_, v5_⟩ := six V6.out
    cases ok
    · go_wp2_with fail
      go_ret
      exact ⟨k + 1, by simp [HR.out], by simp [HR.out], by omega, by omega, fun _ => by omega, A6.out, G6.out⟩
    go_wp2_with fail
    generalize (w5.alloc (.cells #[.int .i64 g0, .int .i64 g1, .int .i64 g2, .int .i64 g3, .int .i64 g4, .int .i64 g5] 26)).alloc (.cells #[.int .i64 k0, .int .i64 k1, .int .i64 k2, .int .i64 k3, .int .i64 k4, .int .i64 k5] 26) = w6 at *
    (with_reducible refine (IHf.out w6 (k + 1) H6.out A6.out (by omega) (by omega)).mono ?_)
    rintro r w7 ⟨k', rfl, hd', hk', hkk', -, ha7, hg⟩
    clear f_ u0_ u1_ u2_ u3_ u4_ u5_ v0_ v1_ v2_ v3_ v4_ v5_
    have H7 := Lib.hid (H6.out.draw hg); have A7 := Lib.hid ha7; have G7 := Lib.hid (gb_trans G6.out hg); have V7 := Lib.hid (block_keptp hg V6.out (by omega))
    have HD7 := Lib.hid hd'
    clear hd' ha7 hg H6 A6 G6 U6 V6
    cases hr1 : (rd V f ⟨g0, g1, g2, g3, g4, g5⟩ (lst.drop (k + 1))).1
    · have HR1 := Lib.hid hr1
      clear hr1
      go_wp2
      go_ret
      exact ⟨k', by simp [HR.out, HR1.out], by simp [HR.out, HR1.out]; exact HD7.out, hk', by omega, fun _ => by omega, A7.out, G7.out⟩
    have HR1 := Lib.hid hr1
    clear hr1
    have f_ := cell_of H7.out.f 0 _ rfl
    obtain ⟨u0_, u1_, u2_, u3_, u4_, u5_⟩ := six V7.out
    go_wp2_with fail
    (with_reducible refine (IHs.out w7 k' H7.out A7.out hk' (by omega)).mono ?_)
    rintro r w8 ⟨k'', rfl, hd', hk'', hkk'', -, ha8, hg⟩
    have A8 := Lib.hid ha8; have G8 := Lib.hid (gb_trans G7.out hg); have HD8 := Lib.hid hd'
    clear ha8 hg hd'
    go_wp2
    go_ret
    exact ⟨k'', by simp [HR.out, HR1.out, ← HD7.out], by simp [HR.out, HR1.out, ← HD7.out]; exact HD8.out, hk'', by omega, fun _ => by omega, A8.out, G8.out⟩
end Go.Proofs.Ytcealhikmbchoaa
