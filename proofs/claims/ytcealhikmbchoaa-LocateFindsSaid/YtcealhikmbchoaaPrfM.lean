/- proof.Make's writer. Written by gen_prfm.py. -/
import Derived.Test.YtcealhikmbchoaaFr
import Derived.Test.YtcealhikmbchoaaPrfC
import Derived.Laws.EntriesVeiled
namespace Go.Proofs.Ytcealhikmbchoaa
set_option linter.all false
open Go.RowKit Rg

/-- What a certificate says of a box. -/
def wr (V : Bx → Bool) : Nat → Bx → List Int → Int × List Int
  | 0, _, l => (8, l)
  | f + 1, b, l => if l.length = 6001 then (8, l) else if V b then (0, l ++ [0]) else if b.ok then (if (wr V f b.fst (l ++ [1])).1 = 0 then wr V f b.snd (wr V f b.fst (l ++ [1])).2 else wr V f b.fst (l ++ [1])) else (26, l)

/-- The writer's own variables. -/
structure MkAt (P : Prob) (vl vh vp : Value) (x : Loc) (tol : Int) (w0 : World) (O Pp X T F B : Nat) (u : World) : Prop where
  p : u.heap[Pp]? = some (.cells (P.val vl vh vp) 36 (0, 0))
  x : u.heap[X]? = some (.cells x.val 28 (0, 0))
  t : u.heap[T]? = some (.cells #[.int .i64 tol] 3 (0, 0))
  f : u.heap[F]? = some (.cells #[.func (.func 42) #[] #[.pointer (some ⟨O, 0, none⟩), .pointer (some ⟨Pp, 0, none⟩), .pointer (some ⟨X, 0, none⟩), .pointer (some ⟨T, 0, none⟩), .pointer (some ⟨F, 0, none⟩)]] 77 (0, 0))
  ne : Pp ≠ O ∧ X ≠ O ∧ T ≠ O ∧ F ≠ O
  lt : Pp < B ∧ X < B ∧ T < B ∧ F < B
  g : w0.grownBy u none
  hO : w0.heap.size ≤ O
theorem MkAt.fr {P : Prob} {vl vh vp : Value} {x : Loc} {tol : Int} {w0 : World} {O Pp X T F B : Nat} {u u' : World} {v v' : Value} {l : List Int} (h : MkAt P vl vh vp x tol w0 O Pp X T F B u) (ho : OutAt O B u v l) (hf : Fr O v v' u u') : MkAt P vl vh vp x tol w0 O Pp X T F B u' :=
  ⟨hf.kept ho h.p h.ne.1 h.lt.1, hf.kept ho h.x h.ne.2.1 h.lt.2.1, hf.kept ho h.t h.ne.2.2.1 h.lt.2.2.1, hf.kept ho h.f h.ne.2.2.2 h.lt.2.2.2, h.ne, h.lt, hf.all ho h.g h.hO, h.hO⟩

/-- What a call of the writer does. -/
def Wrote (O B : Nat) (v : Value) (n : Nat) (r : Int × List Int) (u : World) (e : Ending) (u' : World) : Prop :=
  ∃ v', e = .returned (.int .i64 r.1) ∧ OutAt O B u' v' r.2 ∧ Fr O v v' u u' ∧ n ≤ r.2.length ∧ r.2.length ≤ 6001

set_option maxRecDepth 100000 in
set_option maxHeartbeats 4000000 in
theorem make1_any (P : Prob) (vl vh vp : Value) (x : Loc) (tol : Int) (w0 : World) (hi : ProbIn P vl vh vp w0) (hbig : P.phs.length ≤ 1000000000) (O Pp X T F B : Nat) : ∀ (fuel : Nat) (w : World) (b : Bx) (l : List Int) (v : Value), MkAt P vl vh vp x tol w0 O Pp X T F B w → OutAt O B w v l → l.length ≤ 6001 → 6001 - l.length < fuel →
    Calls Try.prog 42 #[.agg b.val, .pointer (some ⟨O, 0, none⟩), .pointer (some ⟨Pp, 0, none⟩), .pointer (some ⟨X, 0, none⟩), .pointer (some ⟨T, 0, none⟩), .pointer (some ⟨F, 0, none⟩)] w (Wrote O B v l.length (wr (prV P x tol) fuel b l) w) := by
  intro fuel
  induction fuel with
  | zero => intro w b l v h ha hk hf; omega
  | succ f ih =>
    intro w b l v h ha hk hf
    have IH := Lib.hid ih
    clear ih
    have hOl := block_lt' ha.o
    have PV := Lib.hid (fun (u : World) (hu : w0.grownBy u none) => proves_any P vl vh vp x tol b.a b.b b.c b.d b.e b.f u (hi.after hu) hbig)
    have SPL := Lib.hid b.split
    have hpB : prB P x tol b.a b.b b.c b.d b.e b.f = prV P x tol b := rfl
    rw [hpB] at PV
    have hg1 := gb_alloc (gb_refl w none) (.cells b.val 26)
    have H1 := Lib.hid (h.fr ha (Fr.gb hg1)); have A1 := Lib.hid (ha.keep hg1); have F1 : Hid (Fr O v v w _) := Lib.hid (Fr.gb hg1)
    have B1 := Lib.hid (heap_alloc_new w (.cells b.val 26))
    obtain ⟨⟨pa, pc, rfl⟩, -⟩ := (⟨hi.p.slice, trivial⟩ : _ ∧ True)
    obtain ⟨la, ln, lc, rfl⟩ := sl_slice hi.l
    obtain ⟨ha_, hn_, hc_, rfl⟩ := sl_slice hi.h
    obtain ⟨oa, oc, rfl⟩ := owns_slice ha.own
    clear hg1 h ha hpB hi hbig
    generalize prV P x tol = V at *
    have HR : Hid (wr V (f + 1) b l = if l.length = 6001 then (8, l) else if V b then (0, l ++ [0]) else if b.ok then (if (wr V f b.fst (l ++ [1])).1 = 0 then wr V f b.snd (wr V f b.fst (l ++ [1])).2 else wr V f b.fst (l ++ [1])) else (26, l)) := Lib.hid rfl
    generalize wr V (f + 1) b l = rr at *
    generalize hVb : V b = vb at *
    clear hVb
    have IHf := Lib.hid (fun (w' : World) (l' : List Int) (v' : Value) (h' : MkAt P (.slice la ln lc) (.slice ha_ hn_ hc_) (.slice pa P.phs.length pc) x tol w0 O Pp X T F B w') (ha' : OutAt O B w' v' l') (hk' : l'.length ≤ 6001) (hf' : 6001 - l'.length < f) => IH.out w' b.fst l' v' h' ha' hk' hf')
    have IHs := Lib.hid (fun (w' : World) (l' : List Int) (v' : Value) (h' : MkAt P (.slice la ln lc) (.slice ha_ hn_ hc_) (.slice pa P.phs.length pc) x tol w0 O Pp X T F B w') (ha' : OutAt O B w' v' l') (hk' : l'.length ≤ 6001) (hf' : 6001 - l'.length < f) => IH.out w' b.snd l' v' h' ha' hk' hf')
    clear IH
    generalize b.fst = bf at *
    generalize b.snd = bs at *
    generalize b.ok = ok at *
    obtain ⟨b0, b1, b2, b3, b4, b5⟩ := b
    obtain ⟨g0, g1, g2, g3, g4, g5⟩ := bf
    obtain ⟨k0, k1, k2, k3, k4, k5⟩ := bs
    simp only [Bx.val] at *
    have o_ := cell_of A1.out.o 0 _ rfl
    by_cases hl : l.length = 6001
    · have hl' : ((l.length : Int) == 6001) = true := by simp; omega
      have HRR := Lib.hid (show rr = (8, l) by rw [HR.out, if_pos hl])
      clear hl
      go_enter Try.func42, Try.ntmps42
      go_wp2
      go_ret
      exact ⟨_, by simp [HRR.out], by rw [HRR.out]; exact A1.out, F1.out, by rw [HRR.out]; exact Nat.le_refl _, by rw [HRR.out]; exact hk⟩
    have hl' : ((l.length : Int) == 6001) = false := by simp; omega
    have P1 := Lib.hid H1.out.p; have X1 := Lib.hid H1.out.x
    have t_ := cell_of H1.out.t 0 _ rfl
    obtain ⟨f0_, f1_, f2_, f3_, f4_, f5_⟩ := six B1.out
    have PV1 := Lib.hid (PV.out _ H1.out.g)
    have HP := Lib.hid (rfl : P = P)
    have C11 : Hid (∀ (u : World), u.heap[Pp]? = some (.cells (P.val (.slice la ln lc) (.slice ha_ hn_ hc_) (.slice pa P.phs.length pc)) 36 (0, 0)) → True) := Lib.hid (fun _ _ => trivial)
    clear PV C11 HP
    obtain ⟨px, py, pz, xt, xm, xl, a0, a1, a2, a3, a4, a5⟩ := x
    obtain ⟨X0, Y0, Z0, X1_, Y1_, Z1_, step, ls, hs, phs, cap⟩ := P
    dsimp only [Prob.val, Loc.val] at P1 X1 PV1
    dsimp only at *
    obtain ⟨e0_, e1_, e2_, e3_, e4_, e5_, e6_, e7_, e8_, e9_, e10_⟩ := cells11 P1.out
    obtain ⟨d0_, d1_, d2_, d3_, d4_, d5_, d6_, d7_, d8_, d9_, d10_, d11_⟩ := cells12 X1.out
    go_enter Try.func42, Try.ntmps42
    go_wp2_with fail
    generalize (w.alloc (.cells #[.int .i64 b0, .int .i64 b1, .int .i64 b2, .int .i64 b3, .int .i64 b4, .int .i64 b5] 26)) = w1 at *
    (with_reducible refine PV1.out.mono ?_)
    rintro r w2 ⟨rfl, hg⟩
    clear e0_ e1_ e2_ e3_ e4_ e5_ e6_ e7_ e8_ e9_ e10_ d0_ d1_ d2_ d3_ d4_ d5_ d6_ d7_ d8_ d9_ d10_ d11_ f0_ f1_ f2_ f3_ f4_ f5_ o_ t_
    have H2 := Lib.hid (H1.out.fr A1.out (Fr.gb hg)); have A2 := Lib.hid (A1.out.keep hg); have F2 := Lib.hid (F1.out.trans (Fr.gb hg)); have B2 := Lib.hid (block_kept hg B1.out rfl)
    clear hg P1 X1 PV1 H1 A1 F1 B1
    cases vb
    rotate_left
    · have HRR := Lib.hid (show rr = (0, l ++ [0]) by rw [HR.out, if_neg hl]; rfl)
      have o_ := cell_of A2.out.o 0 _ rfl
      have PUSH := Lib.hid (fun (v' : Value) (u6 : World) h1 hg hb => push_out (c := 0) (t := 3) A2.out (u6 := u6) (v' := v') h1 hg hb)
      go_wp2_with (at_builtin; refine wpList_pushAt rfl _ _ 22 rfl B 3 (.int .i64 0) 1 8 Try.underlying22 Try.infoIntT rfl (by decide) (by decide) _ _ _ rfl (A2.out.own.alloc _) w2.heap.size 1 [.int .i64 0] 3 rfl (heap_alloc_new w2 _) rfl (by simp [Value.oneCell']) (by omega) (by have := A2.out.le; simp; omega) ?_; refine Hid.out ?_)
      refine Lib.hid ?_
      intro v' w6 h1 hg hb
      obtain ⟨oa', oc', rfl⟩ := owns_slice h1
      have HN := Lib.hid (PUSH.out _ w6 h1 hg (by simpa using hb))
      clear PUSH h1 hg hb o_
      have o_ := cell_of HN.out.1 0 _ rfl
      have z_ := frozen3 HN.out.1 (o := 0)
      go_wp2
      go_ret
      exact ⟨_, by simp [HRR.out], by rw [HRR.out]; exact HN.out.2.1, F2.out.trans HN.out.2.2, by rw [HRR.out]; simp, by rw [HRR.out]; simp; omega⟩
    obtain ⟨f0_, f1_, f2_, f3_, f4_, f5_⟩ := six B2.out
    go_wp2_with fail
    (with_reducible refine (SPL.out _).mono ?_)
    rintro r w3 ⟨rfl, hg⟩
    have H3 := Lib.hid (H2.out.fr A2.out (Fr.gb hg)); have A3 := Lib.hid (A2.out.keep hg); have F3 := Lib.hid (F2.out.trans (Fr.gb hg))
    clear hg H2 A2 F2 B2 f0_ f1_ f2_ f3_ f4_ f5_
    have hg4 : w3.grownBy ((w3.alloc (.cells #[.int .i64 g0, .int .i64 g1, .int .i64 g2, .int .i64 g3, .int .i64 g4, .int .i64 g5] 26)).alloc (.cells #[.int .i64 k0, .int .i64 k1, .int .i64 k2, .int .i64 k3, .int .i64 k4, .int .i64 k5] 26)) none := gb_alloc (gb_alloc (gb_refl _ _) _) _
    have U4 : Hid (((w3.alloc (.cells #[.int .i64 g0, .int .i64 g1, .int .i64 g2, .int .i64 g3, .int .i64 g4, .int .i64 g5] 26)).alloc (.cells #[.int .i64 k0, .int .i64 k1, .int .i64 k2, .int .i64 k3, .int .i64 k4, .int .i64 k5] 26)).heap[w3.heap.size]? = some (.cells #[.int .i64 g0, .int .i64 g1, .int .i64 g2, .int .i64 g3, .int .i64 g4, .int .i64 g5] 26 (0, 0))) := Lib.hid (by rw [heap_alloc_old _ _ (by simp), heap_alloc_new])
    have V4 : Hid (((w3.alloc (.cells #[.int .i64 g0, .int .i64 g1, .int .i64 g2, .int .i64 g3, .int .i64 g4, .int .i64 g5] 26)).alloc (.cells #[.int .i64 k0, .int .i64 k1, .int .i64 k2, .int .i64 k3, .int .i64 k4, .int .i64 k5] 26)).heap[w3.heap.size + 1]? = some (.cells #[.int .i64 k0, .int .i64 k1, .int .i64 k2, .int .i64 k3, .int .i64 k4, .int .i64 k5] 26 (0, 0))) := Lib.hid (by simpa using heap_alloc_new (w3.alloc _) (.cells #[.int .i64 k0, .int .i64 k1, .int .i64 k2, .int .i64 k3, .int .i64 k4, .int .i64 k5] 26))
    have H4 := Lib.hid (H3.out.fr A3.out (Fr.gb hg4)); have A4 := Lib.hid (A3.out.keep hg4); have F4 := Lib.hid (F3.out.trans (Fr.gb hg4))
    have hO3 := block_lt' A3.out.o
    have hN4 : Hid (∀ k, k = w3.heap.size ∨ k = w3.heap.size + 1 → k ≠ O ∧ some k ≠ (Value.slice oa l.length oc).ownBlock) := Lib.hid (fun k hk => ⟨by omega, fun e => by have := (A3.out.own.lt k e.symm).2; omega⟩)
    have o_ := cell_of A4.out.o 0 _ rfl
    clear hg4 H3 A3 F3
    obtain ⟨u0_, u1_, u2_, u3_, u4_, u5_⟩ := six U4.out
    obtain ⟨v0_, v1_, v2_, v3_, v4_, v5_⟩ := six V4.out
    cases ok
    · have HRR := Lib.hid (show rr = (26, l) by rw [HR.out, if_neg hl]; rfl)
      go_wp2_with fail
      go_ret
      exact ⟨_, by simp [HRR.out], by rw [HRR.out]; exact A4.out, F4.out, by rw [HRR.out]; exact Nat.le_refl _, by rw [HRR.out]; exact hk⟩
    have HRR := Lib.hid (show rr = (if (wr V f ⟨g0, g1, g2, g3, g4, g5⟩ (l ++ [1])).1 = 0 then wr V f ⟨k0, k1, k2, k3, k4, k5⟩ (wr V f ⟨g0, g1, g2, g3, g4, g5⟩ (l ++ [1])).2 else wr V f ⟨g0, g1, g2, g3, g4, g5⟩ (l ++ [1])) by rw [HR.out, if_neg hl]; rfl)
    clear HR
    have PUSH := Lib.hid (fun (v' : Value) (u6 : World) h1 hg hb => push_out (c := 1) (t := 3) A4.out (u6 := u6) (v' := v') h1 hg hb)
    go_wp2_with (at_builtin; refine wpList_pushAt rfl _ _ 22 rfl B 3 (.int .i64 0) 1 8 Try.underlying22 Try.infoIntT rfl (by decide) (by decide) _ _ _ rfl (A4.out.own.alloc _) (w3.heap.size + 1 + 1) 1 [.int .i64 1] 3 rfl (by simpa using heap_alloc_new ((w3.alloc (.cells #[.int .i64 g0, .int .i64 g1, .int .i64 g2, .int .i64 g3, .int .i64 g4, .int .i64 g5] 26)).alloc (.cells #[.int .i64 k0, .int .i64 k1, .int .i64 k2, .int .i64 k3, .int .i64 k4, .int .i64 k5] 26)) (.cells #[.int .i64 1] 3)) rfl (by simp [Value.oneCell']) (by omega) (by have := A4.out.le; simp at this ⊢; omega) ?_; refine Hid.out ?_)
    refine Lib.hid ?_
    intro v' w6 h1 hg hb
    obtain ⟨oa', oc', rfl⟩ := owns_slice h1
    have HN := Lib.hid (PUSH.out _ w6 h1 hg (by simpa using hb))
    clear PUSH h1 hg hb o_ u0_ u1_ u2_ u3_ u4_ u5_ v0_ v1_ v2_ v3_ v4_ v5_
    have o_ := cell_of HN.out.1 0 _ rfl
    have z_ := frozen3 HN.out.1 (o := 0)
    have H7 := Lib.hid (H4.out.fr A4.out HN.out.2.2); have A7 := Lib.hid HN.out.2.1; have F7 := Lib.hid (F4.out.trans HN.out.2.2)
    have U7 := Lib.hid ((HN.out.2.2.block _ (block_lt' U4.out) (hN4.out _ (.inl rfl)).1 (hN4.out _ (.inl rfl)).2).trans U4.out)
    have V7 := Lib.hid ((HN.out.2.2.block _ (block_lt' V4.out) (hN4.out _ (.inr rfl)).1 (hN4.out _ (.inr rfl)).2).trans V4.out)
    have hN7 : Hid (w3.heap.size + 1 ≠ O ∧ some (w3.heap.size + 1) ≠ (Value.slice oa' (l.length + 1) oc').ownBlock) := Lib.hid ⟨(hN4.out _ (.inr rfl)).1, fun e => by
      rcases HN.out.2.2.own _ e.symm with h | h
      · exact (hN4.out _ (.inr rfl)).2 h.symm
      · simp at h; omega⟩
    clear U4 V4 HN hN4 H4 A4 F4
    have f_ := cell_of H7.out.f 0 _ rfl
    obtain ⟨u0_, u1_, u2_, u3_, u4_, u5_⟩ := six U7.out
    go_wp2_with fail
    clear f_ u0_ u1_ u2_ u3_ u4_ u5_ o_ z_
    generalize w6.setCell ⟨O, 0, none⟩ (.slice oa' (l.length + 1) oc') = w7 at *
    (with_reducible refine (IHf.out w7 (l ++ [1]) _ H7.out A7.out (by simp; omega) (by simp; omega)).mono ?_)
    rintro r w8 ⟨v8, rfl, ho, hf8, hn1, hn2⟩
    generalize wr V f ⟨g0, g1, g2, g3, g4, g5⟩ (l ++ [1]) = q at *
    obtain ⟨q1, q2⟩ := q
    simp only at hn1 hn2 ho HRR ⊢
    obtain ⟨qa, qc, rfl⟩ := owns_slice ho.own
    have hl1 : l.length + 1 ≤ q2.length := by simpa using hn1
    have H8 := Lib.hid (H7.out.fr A7.out hf8); have A8 := Lib.hid ho; have F8 := Lib.hid (F7.out.trans hf8)
    have V8 := Lib.hid ((hf8.block _ (block_lt' V7.out) hN7.out.1 hN7.out.2).trans V7.out)
    clear ho hf8 hn1 hN7 H7 A7 F7 U7 V7
    by_cases hq : q1 = 0
    rotate_left
    · have hq' : (q1 != 0) = true := by simpa using hq
      have HRQ := Lib.hid (show rr = (q1, q2) by rw [HRR.out, if_neg hq])
      clear hq HRR
      go_wp2
      go_ret
      exact ⟨_, by simp [HRQ.out], by rw [HRQ.out]; exact A8.out, F8.out, by rw [HRQ.out]; simp; omega, by rw [HRQ.out]; exact hn2⟩
    subst hq
    have HRQ := Lib.hid (show rr = wr V f ⟨k0, k1, k2, k3, k4, k5⟩ q2 by rw [HRR.out, if_pos rfl])
    clear HRR
    have f_ := cell_of H8.out.f 0 _ rfl
    obtain ⟨u0_, u1_, u2_, u3_, u4_, u5_⟩ := six V8.out
    go_wp2_with fail
    (with_reducible refine (IHs.out w8 q2 _ H8.out A8.out hn2 (by omega)).mono ?_)
    rintro r w9 ⟨v9, rfl, ho, hf9, hn3, hn4⟩
    have A9 := Lib.hid ho; have F9 := Lib.hid (F8.out.trans hf9)
    clear ho hf9
    go_wp2
    go_ret
    exact ⟨_, by simp [HRQ.out], by rw [HRQ.out]; exact A9.out, F9.out, by rw [HRQ.out]; omega, by rw [HRQ.out]; exact hn4⟩
end Go.Proofs.Ytcealhikmbchoaa
