/- ref29.read. Written by gen_r29r.py. -/
import Derived.Test.YtdkckhihleffeaaGreatR29
import Derived.Test.YtdkckhihleffeaaGreatMisP
namespace Go.Proofs.YtdkckhihleffeaaGreat
set_option linter.all false
open Go.RowKit Rg

theorem Bx.rsplit (x : Bx) (u : World) : Calls Tryz.prog 47 #[.agg x.val] u fun e w' => e = .returned (.tuple #[.agg x.fst.val, .agg x.snd.val, .bool x.ok]) ∧ u.grownBy w' none := rsplit_any x.a x.b x.c x.d x.e x.f u
/-- All numbers of a row but the first: s[1:]. -/
theorem Sl.tail1 {w : World} {b off cap : Nat} {c : Int} {l : List Int} (h : Sl w (.slice (some ⟨b, off, none⟩) (l.length + 1) cap) (c :: l)) : ∃ ad : Addr, (if cap = 1 then some (⟨b, off, none⟩ : Addr) else some ⟨b, off + 1, none⟩) = some ad ∧ Sl w (.slice (some ad) l.length (cap - 1)) l := by
  rcases h with ⟨h, -⟩ | ⟨b', off', cap', e, hb, h1, h2, h3⟩
  · cases h
  simp only [Value.slice.injEq, Option.some.injEq, Addr.mk.injEq, and_true, List.length_cons, true_and] at e
  obtain ⟨⟨rfl, rfl⟩, rfl⟩ := e
  simp only [List.length_cons] at h1 h3
  by_cases hc : cap = 1
  · refine ⟨_, if_pos hc, ?_⟩
    have : l = [] := List.length_eq_zero_iff.1 (by omega)
    subst this
    exact .inl ⟨rfl, _, _, rfl⟩
  · refine ⟨_, if_neg hc, .inr ⟨b, off + 1, cap - 1, rfl, hb, by omega, by omega, fun k hk => ?_⟩⟩
    have := h3 (k + 1) (by omega)
    rw [show off + 1 + k = off + (k + 1) by omega, this]
    simp
/-- What read answers. -/
def RdAt (r : Bool × List Int) (v : Value) (u : World) : Prop := ∃ s, v = .tuple #[s, .bool r.1] ∧ (r.1 = true → Sl u s r.2)
theorem RdAt.after {r : Bool × List Int} (v : Value) (u u' : World) (h : RdAt r v u) (hg : u.grownBy u' none) : RdAt r v u' := by
  obtain ⟨s, e, h⟩ := h
  exact ⟨s, e, fun k => (h k).after hg⟩

theorem RdAt.out {r : Bool × List Int} {s : Value} {o : Bool} {u : World} (h : RdAt r (.tuple #[s, .bool o]) u) : o = r.1 ∧ (r.1 = true → Sl u s r.2) := by
  obtain ⟨s', e, h⟩ := h
  simp only [Value.tuple.injEq, Array.mk.injEq, List.cons.injEq, Value.bool.injEq, and_true] at e
  obtain ⟨rfl, rfl⟩ := e
  exact ⟨rfl, h⟩
theorem rd_len (V : Bx → Bool) : ∀ (n : Nat) (b : Bx) (l : List Int), (rd V n b l).2.length ≤ l.length
  | 0, b, l => Nat.le_refl _
  | n + 1, b, [] => Nat.le_refl _
  | n + 1, b, k :: l => by
    have h1 := rd_len V n b.fst l
    have h2 := rd_len V n b.snd (rd V n b.fst l).2
    unfold rd
    split
    · simp
    · split
      · split
        · split
          · simp; omega
          · simp; omega
        · simp
      · simp
set_option maxRecDepth 100000 in
set_option maxHeartbeats 4000000 in
theorem rread_any (P : Prob) (vl vh vp : Value) (x : Loc) (tol : Int) (hbig : P.phs.length ≤ 1000000000) : ∀ (fuel : Nat) (b : Bx) (l : List Int) (v : Value) (w : World), ProbIn P vl vh vp w → Sl w v l → l.length < fuel →
    Calls Tryz.prog 39 #[.agg (P.val vl vh vp), .agg x.val, .int .i64 tol, .agg b.val, v] w fun e w' => ∃ r, e = .returned r ∧ RdAt (rd (lfV P x tol) fuel b l) r w' ∧ w.grownBy w' none := by
  intro fuel
  induction fuel with
  | zero => intro b l v w hi hs hf; omega
  | succ f ih =>
    intro b l v w hi hs hf
    have IHf := Lib.hid (fun (l' : List Int) (v' : Value) (u : World) (hg : w.grownBy u none) (hs' : Sl u v' l') (hf' : l'.length < f) => ih b.fst l' v' u (hi.after hg) hs' hf')
    have IHs := Lib.hid (fun (l' : List Int) (v' : Value) (u : World) (hg : w.grownBy u none) (hs' : Sl u v' l') (hf' : l'.length < f) => ih b.snd l' v' u (hi.after hg) hs' hf')
    clear ih
    have LF := Lib.hid (fun (u : World) (h : w.grownBy u none) => rleaf_any P vl vh vp x tol b.a b.b b.c b.d b.e b.f u (hi.after h) hbig)
    have hlf : lfB P x tol b.a b.b b.c b.d b.e b.f = lfV P x tol b := rfl
    rw [hlf] at LF
    clear hlf
    have SPL := Lib.hid b.rsplit
    have HS := Lib.hid hs
    obtain ⟨pa, pc, rfl⟩ := hi.p.slice
    obtain ⟨la, ln, lc, rfl⟩ := sl_slice hi.l
    obtain ⟨ha, hn, hc, rfl⟩ := sl_slice hi.h
    obtain ⟨sa, sc, rfl⟩ := hs.shape
    clear hi hs hbig
    have HR0 := Lib.hid (show l = [] → rd (lfV P x tol) (f + 1) b l = (false, []) from fun h => by rw [h]; rfl)
    have HR1 := Lib.hid (show ∀ c l', l = c :: l' → rd (lfV P x tol) (f + 1) b l = if c = 0 then (lfV P x tol b, l') else if c = 1 then (if b.ok then (if (rd (lfV P x tol) f b.fst l').1 then rd (lfV P x tol) f b.snd (rd (lfV P x tol) f b.fst l').2 else (false, (rd (lfV P x tol) f b.fst l').2)) else (false, l')) else (false, l') from fun c l' h => by rw [h]; rfl)
    generalize rd (lfV P x tol) (f + 1) b l = rr at *
    generalize hvb : lfV P x tol b = vb at *
    clear hvb
    generalize lfV P x tol = V at *
    have RLE := Lib.hid (fun (bb : Bx) (l' : List Int) => (rd_len V f bb l'))
    generalize b.fst = bf at *
    generalize b.snd = bs at *
    generalize b.ok = ok at *
    obtain ⟨b0, b1, b2, b3, b4, b5⟩ := b
    obtain ⟨g0, g1, g2, g3, g4, g5⟩ := bf
    obtain ⟨k0, k1, k2, k3, k4, k5⟩ := bs
    obtain ⟨x0, y0, z0, x1, y1, z1, step, ls, hs, phs, cap⟩ := P
    obtain ⟨px, py, pz, xt, xm, xl, a0, a1, a2, a3, a4, a5⟩ := x
    simp only [Prob.val, Loc.val, Bx.val] at *
    generalize phs.length = pn at *
    have k0_0 : (w.alloc (.cells #[.int .i64 x0, .int .i64 y0, .int .i64 z0, .int .i64 x1, .int .i64 y1, .int .i64 z1, .int .i64 step, .slice la ln lc, .slice ha hn hc, .slice pa pn pc, .int .i64 cap] 36)).heap[w.heap.size]? = some (.cells #[.int .i64 x0, .int .i64 y0, .int .i64 z0, .int .i64 x1, .int .i64 y1, .int .i64 z1, .int .i64 step, .slice la ln lc, .slice ha hn hc, .slice pa pn pc, .int .i64 cap] 36 (0, 0)) := by exact heap_alloc_new _ _
    have k0_1 := block_kept (gb_alloc (gb_refl (w.alloc (.cells #[.int .i64 x0, .int .i64 y0, .int .i64 z0, .int .i64 x1, .int .i64 y1, .int .i64 z1, .int .i64 step, .slice la ln lc, .slice ha hn hc, .slice pa pn pc, .int .i64 cap] 36)) none) (.cells #[.int .i64 px, .int .i64 py, .int .i64 pz, .int .i64 xt, .int .i64 xm, .int .i64 xl, .int .i64 a0, .int .i64 a1, .int .i64 a2, .int .i64 a3, .int .i64 a4, .int .i64 a5] 27)) k0_0 rfl
    have k1_1 : ((w.alloc (.cells #[.int .i64 x0, .int .i64 y0, .int .i64 z0, .int .i64 x1, .int .i64 y1, .int .i64 z1, .int .i64 step, .slice la ln lc, .slice ha hn hc, .slice pa pn pc, .int .i64 cap] 36)).alloc (.cells #[.int .i64 px, .int .i64 py, .int .i64 pz, .int .i64 xt, .int .i64 xm, .int .i64 xl, .int .i64 a0, .int .i64 a1, .int .i64 a2, .int .i64 a3, .int .i64 a4, .int .i64 a5] 27)).heap[w.heap.size + 1]? = some (.cells #[.int .i64 px, .int .i64 py, .int .i64 pz, .int .i64 xt, .int .i64 xm, .int .i64 xl, .int .i64 a0, .int .i64 a1, .int .i64 a2, .int .i64 a3, .int .i64 a4, .int .i64 a5] 27 (0, 0)) := by simpa using heap_alloc_new (w.alloc (.cells #[.int .i64 x0, .int .i64 y0, .int .i64 z0, .int .i64 x1, .int .i64 y1, .int .i64 z1, .int .i64 step, .slice la ln lc, .slice ha hn hc, .slice pa pn pc, .int .i64 cap] 36)) (.cells #[.int .i64 px, .int .i64 py, .int .i64 pz, .int .i64 xt, .int .i64 xm, .int .i64 xl, .int .i64 a0, .int .i64 a1, .int .i64 a2, .int .i64 a3, .int .i64 a4, .int .i64 a5] 27)
    clear k0_0
    have k0_2 := block_kept (gb_alloc (gb_refl ((w.alloc (.cells #[.int .i64 x0, .int .i64 y0, .int .i64 z0, .int .i64 x1, .int .i64 y1, .int .i64 z1, .int .i64 step, .slice la ln lc, .slice ha hn hc, .slice pa pn pc, .int .i64 cap] 36)).alloc (.cells #[.int .i64 px, .int .i64 py, .int .i64 pz, .int .i64 xt, .int .i64 xm, .int .i64 xl, .int .i64 a0, .int .i64 a1, .int .i64 a2, .int .i64 a3, .int .i64 a4, .int .i64 a5] 27)) none) (.cells #[.int .i64 b0, .int .i64 b1, .int .i64 b2, .int .i64 b3, .int .i64 b4, .int .i64 b5] 25)) k0_1 rfl
    have k1_2 := block_kept (gb_alloc (gb_refl ((w.alloc (.cells #[.int .i64 x0, .int .i64 y0, .int .i64 z0, .int .i64 x1, .int .i64 y1, .int .i64 z1, .int .i64 step, .slice la ln lc, .slice ha hn hc, .slice pa pn pc, .int .i64 cap] 36)).alloc (.cells #[.int .i64 px, .int .i64 py, .int .i64 pz, .int .i64 xt, .int .i64 xm, .int .i64 xl, .int .i64 a0, .int .i64 a1, .int .i64 a2, .int .i64 a3, .int .i64 a4, .int .i64 a5] 27)) none) (.cells #[.int .i64 b0, .int .i64 b1, .int .i64 b2, .int .i64 b3, .int .i64 b4, .int .i64 b5] 25)) k1_1 rfl
    have k2_2 : (((w.alloc (.cells #[.int .i64 x0, .int .i64 y0, .int .i64 z0, .int .i64 x1, .int .i64 y1, .int .i64 z1, .int .i64 step, .slice la ln lc, .slice ha hn hc, .slice pa pn pc, .int .i64 cap] 36)).alloc (.cells #[.int .i64 px, .int .i64 py, .int .i64 pz, .int .i64 xt, .int .i64 xm, .int .i64 xl, .int .i64 a0, .int .i64 a1, .int .i64 a2, .int .i64 a3, .int .i64 a4, .int .i64 a5] 27)).alloc (.cells #[.int .i64 b0, .int .i64 b1, .int .i64 b2, .int .i64 b3, .int .i64 b4, .int .i64 b5] 25)).heap[w.heap.size + 1 + 1]? = some (.cells #[.int .i64 b0, .int .i64 b1, .int .i64 b2, .int .i64 b3, .int .i64 b4, .int .i64 b5] 25 (0, 0)) := by simpa using heap_alloc_new ((w.alloc (.cells #[.int .i64 x0, .int .i64 y0, .int .i64 z0, .int .i64 x1, .int .i64 y1, .int .i64 z1, .int .i64 step, .slice la ln lc, .slice ha hn hc, .slice pa pn pc, .int .i64 cap] 36)).alloc (.cells #[.int .i64 px, .int .i64 py, .int .i64 pz, .int .i64 xt, .int .i64 xm, .int .i64 xl, .int .i64 a0, .int .i64 a1, .int .i64 a2, .int .i64 a3, .int .i64 a4, .int .i64 a5] 27)) (.cells #[.int .i64 b0, .int .i64 b1, .int .i64 b2, .int .i64 b3, .int .i64 b4, .int .i64 b5] 25)
    clear k0_1 k1_1
    have G0 : Hid (w.grownBy (((w.alloc (.cells #[.int .i64 x0, .int .i64 y0, .int .i64 z0, .int .i64 x1, .int .i64 y1, .int .i64 z1, .int .i64 step, .slice la ln lc, .slice ha hn hc, .slice pa pn pc, .int .i64 cap] 36)).alloc (.cells #[.int .i64 px, .int .i64 py, .int .i64 pz, .int .i64 xt, .int .i64 xm, .int .i64 xl, .int .i64 a0, .int .i64 a1, .int .i64 a2, .int .i64 a3, .int .i64 a4, .int .i64 a5] 27)).alloc (.cells #[.int .i64 b0, .int .i64 b1, .int .i64 b2, .int .i64 b3, .int .i64 b4, .int .i64 b5] 25)) none) := Lib.hid (gb_alloc (gb_alloc (gb_alloc (gb_refl w none) _) _) _)
    have K0 := Lib.hid k0_2
    have K1 := Lib.hid k1_2
    have K2 := Lib.hid k2_2
    clear k0_2 k1_2 k2_2
    obtain ⟨e0_, e1_, e2_, e3_, e4_, e5_, e6_, e7_, e8_, e9_, e10_⟩ := cells11 K0.out
    obtain ⟨d0_, d1_, d2_, d3_, d4_, d5_, d6_, d7_, d8_, d9_, d10_, d11_⟩ := cells12 K1.out
    obtain ⟨f0_, f1_, f2_, f3_, f4_, f5_⟩ := six K2.out
    go_enter Tryz.func39, Tryz.ntmps39
    rcases l with _ | ⟨c, l⟩
    · have HE := Lib.hid (HR0.out rfl)
      go_wp2_with fail
      exact bodyPost_ret (v := .tuple #[.slice none 0 0, .bool false]) (by simp [results, Tryz.results39, go_sem]) rfl ⟨_, rfl, ⟨_, by rw [HE.out], fun h => by rw [HE.out] at h; cases h⟩, G0.out⟩
    have hlf : l.length < f := by simp at hf; omega
    have HR := Lib.hid (HR1.out c l rfl)
    clear HR0 HR1
    simp only [List.length_cons]
    obtain ⟨sb, soff, scap', hse, hsb, -, -, hsc⟩ := HS.out.block (by simp)
    simp only [Value.slice.injEq, true_and, List.length_cons] at hse
    obtain ⟨rfl, rfl⟩ := hse
    obtain ⟨ad, had, htl⟩ := Sl.tail1 HS.out
    have TL := Lib.hid htl
    have s_ := hsc 0 (by simp)
    rw [show at0 (c :: l) 0 = c by simp [at0], Nat.add_zero] at s_
    clear hsc htl HS
    have hl0 : (((l.length : Int) + 1) == 0) = false := beq_eq_false_iff_ne.2 (by omega)
    have s1_ := (gb_cell G0.out hsb (by simp)).trans s_
    clear s_
    have hsb1 := Nat.lt_of_lt_of_le hsb G0.out.size
    clear hsb
    have TL1 := Lib.hid (TL.out.after G0.out)
    clear TL

    by_cases c0 : c = 0
    · have c0' : (c == 0) = true := by simpa using c0
      have HE := Lib.hid (show rr = (vb, l) by rw [HR.out, if_pos c0])
      clear c0 HR
      go_upto_region 4 with fail
      generalize (((w.alloc (.cells #[.int .i64 x0, .int .i64 y0, .int .i64 z0, .int .i64 x1, .int .i64 y1, .int .i64 z1, .int .i64 step, .slice la ln lc, .slice ha hn hc, .slice pa pn pc, .int .i64 cap] 36)).alloc (.cells #[.int .i64 px, .int .i64 py, .int .i64 pz, .int .i64 xt, .int .i64 xm, .int .i64 xl, .int .i64 a0, .int .i64 a1, .int .i64 a2, .int .i64 a3, .int .i64 a4, .int .i64 a5] 27)).alloc (.cells #[.int .i64 b0, .int .i64 b1, .int .i64 b2, .int .i64 b3, .int .i64 b4, .int .i64 b5] 25)) = w1 at *
      have hb0 := block_lt' K0.out; have hb1 := block_lt' K1.out; have hb2 := block_lt' K2.out
      have q0_ := Made.cell e0_ hb0; have q1_ := Made.cell e1_ hb0; have q2_ := Made.cell e2_ hb0; have q3_ := Made.cell e3_ hb0; have q4_ := Made.cell e4_ hb0; have q5_ := Made.cell e5_ hb0; have q6_ := Made.cell e6_ hb0; have q7_ := Made.cell e7_ hb0; have q8_ := Made.cell e8_ hb0; have q9_ := Made.cell e9_ hb0; have q10_ := Made.cell e10_ hb0
      have r0_ := Made.cell d0_ hb1; have r1_ := Made.cell d1_ hb1; have r2_ := Made.cell d2_ hb1; have r3_ := Made.cell d3_ hb1; have r4_ := Made.cell d4_ hb1; have r5_ := Made.cell d5_ hb1; have r6_ := Made.cell d6_ hb1; have r7_ := Made.cell d7_ hb1; have r8_ := Made.cell d8_ hb1; have r9_ := Made.cell d9_ hb1; have r10_ := Made.cell d10_ hb1; have r11_ := Made.cell d11_ hb1
      have t0_ := Made.cell f0_ hb2; have t1_ := Made.cell f1_ hb2; have t2_ := Made.cell f2_ hb2; have t3_ := Made.cell f3_ hb2; have t4_ := Made.cell f4_ hb2; have t5_ := Made.cell f5_ hb2
      refine Rg.region (Made w1) Makes (fun k => if k = 6 then some (isV (.bool vb)) else none) (fun _ => false) 0 9 (by kernel_rfl) (by kernel_rfl) (by kernel_rfl) (by kernel_rfl) (by kernel_rfl) (by kernel_rfl) (by kernel_rfl) Makes.size (Made.start w1) (fun hne => ?_)
      (repeat (refine rLexL_quiet (by rfl) (by rfl) (by rfl) (by rfl) ?_; go_big_quiet_step (fail); refine wpQuiet_nil ?_))
      refine rg_fix (.bool vb) 49 #[.agg #[.int .i64 x0, .int .i64 y0, .int .i64 z0, .int .i64 x1, .int .i64 y1, .int .i64 z1, .int .i64 step, .slice la ln lc, .slice ha hn hc, .slice pa pn pc, .int .i64 cap], .agg #[.int .i64 px, .int .i64 py, .int .i64 pz, .int .i64 xt, .int .i64 xm, .int .i64 xl, .int .i64 a0, .int .i64 a1, .int .i64 a2, .int .i64 a3, .int .i64 a4, .int .i64 a5], .int .i64 tol, .agg #[.int .i64 b0, .int .i64 b1, .int .i64 b2, .int .i64 b3, .int .i64 b4, .int .i64 b5]] rfl rfl rfl (fun _ => by go_simp) (fun u hu => LF.out u (gb_trans G0.out hu)) ?_
      simp only [Act.put, List.setIfInBounds_toArray, List.set_cons_zero, List.set_cons_succ]
      (repeat (refine rLexL_quiet (by rfl) (by rfl) (by rfl) (by rfl) ?_; go_big_quiet_step (fail); refine wpQuiet_nil ?_))
      rintro wq hq - -
      refine wpList_nil ?_
      have hq : w1.grownBy wq none := hq
      have TQ := Lib.hid (TL1.out.after hq); have GQ := Lib.hid (gb_trans G0.out hq)
      clear hq hne
      go_wp2_with fail
      exact bodyPost_ret (v := .tuple #[.slice (some ad) l.length (sc - 1), .bool vb]) (by simp [results, Tryz.results39, go_sem]) rfl ⟨_, rfl, ⟨_, by rw [HE.out], fun _ => by rw [HE.out]; exact TQ.out⟩, GQ.out⟩
    have c0' : (c == 0) = false := by simpa using c0
    go_wp2_with fail
    generalize (((w.alloc (.cells #[.int .i64 x0, .int .i64 y0, .int .i64 z0, .int .i64 x1, .int .i64 y1, .int .i64 z1, .int .i64 step, .slice la ln lc, .slice ha hn hc, .slice pa pn pc, .int .i64 cap] 36)).alloc (.cells #[.int .i64 px, .int .i64 py, .int .i64 pz, .int .i64 xt, .int .i64 xm, .int .i64 xl, .int .i64 a0, .int .i64 a1, .int .i64 a2, .int .i64 a3, .int .i64 a4, .int .i64 a5] 27)).alloc (.cells #[.int .i64 b0, .int .i64 b1, .int .i64 b2, .int .i64 b3, .int .i64 b4, .int .i64 b5] 25)) = w1 at *
    generalize w.heap.size = n0 at *
    clear c0' d0_ d1_ d2_ d3_ d4_ d5_ d6_ d7_ d8_ d9_ d10_ d11_
    clear e0_ e1_ e2_ e3_ e4_ e5_ e6_ e7_ e8_ e9_ e10_
    clear f0_ f1_ f2_ f3_ f4_ f5_
    (with_reducible refine (SPL.out w1).mono ?_)
    rintro r w2 ⟨rfl, hg⟩
    have hgu := gb_alloc (gb_alloc (gb_refl w2 none) (.cells #[.int .i64 g0, .int .i64 g1, .int .i64 g2, .int .i64 g3, .int .i64 g4, .int .i64 g5] 25)) (.cells #[.int .i64 k0, .int .i64 k1, .int .i64 k2, .int .i64 k3, .int .i64 k4, .int .i64 k5] 25)
    have K0 := Lib.hid (block_kept hgu (block_kept hg K0.out rfl) rfl); have K1 := Lib.hid (block_kept hgu (block_kept hg K1.out rfl) rfl); have K2 := Lib.hid (block_kept hgu (block_kept hg K2.out rfl) rfl); have G2 := Lib.hid (gb_trans (gb_trans G0.out hg) hgu); have TL2 := Lib.hid ((TL1.out.after hg).after hgu)
    have u_ : ((w2.alloc (.cells #[.int .i64 g0, .int .i64 g1, .int .i64 g2, .int .i64 g3, .int .i64 g4, .int .i64 g5] 25)).alloc (.cells #[.int .i64 k0, .int .i64 k1, .int .i64 k2, .int .i64 k3, .int .i64 k4, .int .i64 k5] 25)).heap[w2.heap.size]? = some (.cells #[.int .i64 g0, .int .i64 g1, .int .i64 g2, .int .i64 g3, .int .i64 g4, .int .i64 g5] 25 (0, 0)) := by rw [heap_alloc_old _ _ (by simp), heap_alloc_new]
    have v_ : ((w2.alloc (.cells #[.int .i64 g0, .int .i64 g1, .int .i64 g2, .int .i64 g3, .int .i64 g4, .int .i64 g5] 25)).alloc (.cells #[.int .i64 k0, .int .i64 k1, .int .i64 k2, .int .i64 k3, .int .i64 k4, .int .i64 k5] 25)).heap[w2.heap.size + 1]? = some (.cells #[.int .i64 k0, .int .i64 k1, .int .i64 k2, .int .i64 k3, .int .i64 k4, .int .i64 k5] 25 (0, 0)) := by simpa using heap_alloc_new (w2.alloc (.cells #[.int .i64 g0, .int .i64 g1, .int .i64 g2, .int .i64 g3, .int .i64 g4, .int .i64 g5] 25)) (.cells #[.int .i64 k0, .int .i64 k1, .int .i64 k2, .int .i64 k3, .int .i64 k4, .int .i64 k5] 25)
    have U_ := Lib.hid u_; have V_ := Lib.hid v_
    have s2_ := (gb_cell hgu (Nat.lt_of_lt_of_le hsb1 hg.size) (by simp)).trans ((gb_cell hg hsb1 (by simp)).trans s1_)
    have hsb2 := Nat.lt_of_lt_of_le (Nat.lt_of_lt_of_le hsb1 hg.size) hgu.size
    clear u_ v_ hgu hg s1_ hsb1 G0 TL1 SPL
    by_cases c1 : c = 1
    rotate_left
    · have c1' : (c != 1) = true := by simpa using c1
      have HE := Lib.hid (show rr = (false, l) by rw [HR.out, if_neg c0, if_neg c1])
      clear c0 c1 HR
      go_wp2_with fail
      exact bodyPost_ret (v := .tuple #[.slice none 0 0, .bool false]) (by simp [results, Tryz.results39, go_sem]) rfl ⟨_, rfl, ⟨_, by rw [HE.out], fun h => by rw [HE.out] at h; cases h⟩, G2.out⟩
    have c1' : (c != 1) = false := by simpa using c1
    cases ok
    · have HE := Lib.hid (show rr = (false, l) by rw [HR.out, if_neg c0, if_pos c1]; rfl)
      clear c0 c1 HR
      go_wp2_with fail
      exact bodyPost_ret (v := .tuple #[.slice none 0 0, .bool false]) (by simp [results, Tryz.results39, go_sem]) rfl ⟨_, rfl, ⟨_, by rw [HE.out], fun h => by rw [HE.out] at h; cases h⟩, G2.out⟩
    have HE := Lib.hid (show rr = (if (rd V f ⟨g0, g1, g2, g3, g4, g5⟩ l).1 then rd V f ⟨k0, k1, k2, k3, k4, k5⟩ (rd V f ⟨g0, g1, g2, g3, g4, g5⟩ l).2 else (false, (rd V f ⟨g0, g1, g2, g3, g4, g5⟩ l).2)) by rw [HR.out, if_neg c0, if_pos c1]; rfl)
    clear c0 c1 HR
    go_upto_region 8 with fail
    generalize ((w2.alloc (.cells #[.int .i64 g0, .int .i64 g1, .int .i64 g2, .int .i64 g3, .int .i64 g4, .int .i64 g5] 25)).alloc (.cells #[.int .i64 k0, .int .i64 k1, .int .i64 k2, .int .i64 k3, .int .i64 k4, .int .i64 k5] 25)) = w3 at *
    generalize w2.heap.size = n2 at *
    obtain ⟨e0_, e1_, e2_, e3_, e4_, e5_, e6_, e7_, e8_, e9_, e10_⟩ := cells11 K0.out
    obtain ⟨d0_, d1_, d2_, d3_, d4_, d5_, d6_, d7_, d8_, d9_, d10_, d11_⟩ := cells12 K1.out
    obtain ⟨f0_, f1_, f2_, f3_, f4_, f5_⟩ := six U_.out
    have hb0 := block_lt' K0.out; have hb1 := block_lt' K1.out; have hb2 := block_lt' U_.out
    have q0_ := Made.cell e0_ hb0; have q1_ := Made.cell e1_ hb0; have q2_ := Made.cell e2_ hb0; have q3_ := Made.cell e3_ hb0; have q4_ := Made.cell e4_ hb0; have q5_ := Made.cell e5_ hb0; have q6_ := Made.cell e6_ hb0; have q7_ := Made.cell e7_ hb0; have q8_ := Made.cell e8_ hb0; have q9_ := Made.cell e9_ hb0; have q10_ := Made.cell e10_ hb0
    have r0_ := Made.cell d0_ hb1; have r1_ := Made.cell d1_ hb1; have r2_ := Made.cell d2_ hb1; have r3_ := Made.cell d3_ hb1; have r4_ := Made.cell d4_ hb1; have r5_ := Made.cell d5_ hb1; have r6_ := Made.cell d6_ hb1; have r7_ := Made.cell d7_ hb1; have r8_ := Made.cell d8_ hb1; have r9_ := Made.cell d9_ hb1; have r10_ := Made.cell d10_ hb1; have r11_ := Made.cell d11_ hb1
    have t0_ := Made.cell f0_ hb2; have t1_ := Made.cell f1_ hb2; have t2_ := Made.cell f2_ hb2; have t3_ := Made.cell f3_ hb2; have t4_ := Made.cell f4_ hb2; have t5_ := Made.cell f5_ hb2
    have RL := Lib.hid (RLE.out ⟨g0, g1, g2, g3, g4, g5⟩ l)
    refine Rg.region (Made w3) Makes (fun k => if k = 6 then some (isF (RdAt (rd V f ⟨g0, g1, g2, g3, g4, g5⟩ l))) else none) (fun _ => false) 0 12 (by kernel_rfl) (by kernel_rfl) (by kernel_rfl) (by kernel_rfl) (by kernel_rfl) (by kernel_rfl) (by kernel_rfl) Makes.size (Made.start w3) (fun hne => ?_)
    (repeat (refine rLexL_quiet (by rfl) (by rfl) (by rfl) (by rfl) ?_; go_big_quiet_step (fail); refine wpQuiet_nil ?_))
    refine rg_fixF (RdAt (rd V f ⟨g0, g1, g2, g3, g4, g5⟩ l)) 39 #[.agg #[.int .i64 x0, .int .i64 y0, .int .i64 z0, .int .i64 x1, .int .i64 y1, .int .i64 z1, .int .i64 step, .slice la ln lc, .slice ha hn hc, .slice pa pn pc, .int .i64 cap], .agg #[.int .i64 px, .int .i64 py, .int .i64 pz, .int .i64 xt, .int .i64 xm, .int .i64 xl, .int .i64 a0, .int .i64 a1, .int .i64 a2, .int .i64 a3, .int .i64 a4, .int .i64 a5], .int .i64 tol, .agg #[.int .i64 g0, .int .i64 g1, .int .i64 g2, .int .i64 g3, .int .i64 g4, .int .i64 g5], .slice (some ad) l.length (sc - 1)] rfl rfl rfl RdAt.after (fun _ => by go_simp) (fun u hu => IHf.out l _ u (gb_trans G2.out hu) (TL2.out.after hu) hlf) (fun zv zu hzv => ?_)
    obtain ⟨rs, rfl, -⟩ := hzv
    clear zu
    generalize hR1 : rd V f ⟨g0, g1, g2, g3, g4, g5⟩ l = r1 at *
    obtain ⟨o1, l1⟩ := r1
    dsimp only
    simp only [Act.put, List.setIfInBounds_toArray, List.set_cons_zero, List.set_cons_succ]
    (repeat (refine rLexL_quiet (by rfl) (by rfl) (by rfl) (by rfl) ?_; go_big_quiet_step (fail); refine wpQuiet_nil ?_))
    rintro wq hq hfx -
    refine wpList_nil ?_
    have hq : w3.grownBy wq none := hq
    have hz := RdAt.out (hfx 6)
    have K0 := Lib.hid (block_kept hq K0.out rfl); have K1 := Lib.hid (block_kept hq K1.out rfl); have V_ := Lib.hid (block_kept hq V_.out rfl); have G4 := Lib.hid (gb_trans G2.out hq)
    obtain ⟨hz1, hz2⟩ := hz
    dsimp only at hz1 hz2
    dsimp only at HE RL
    clear K2 U_ TL2 G2 hfx hne hq IHf
    generalize wq = w4 at *
    cases o1
    · have HE2 := Lib.hid (show rr = (false, l1) by rw [HE.out]; rfl)
      go_wp2_with fail
      exact bodyPost_ret (v := .tuple #[.slice none 0 0, .bool false]) (by simp [results, Tryz.results39, go_sem]) rfl ⟨_, rfl, ⟨_, by rw [HE2.out], fun h => by rw [HE2.out] at h; cases h⟩, G4.out⟩
    have SLR := Lib.hid (hz2 rfl)
    have HE2 := Lib.hid (show rr = rd V f ⟨k0, k1, k2, k3, k4, k5⟩ l1 by rw [HE.out]; rfl)
    clear hz1 hz2 HE
    obtain ⟨e0_, e1_, e2_, e3_, e4_, e5_, e6_, e7_, e8_, e9_, e10_⟩ := cells11 K0.out
    obtain ⟨d0_, d1_, d2_, d3_, d4_, d5_, d6_, d7_, d8_, d9_, d10_, d11_⟩ := cells12 K1.out
    obtain ⟨f0_, f1_, f2_, f3_, f4_, f5_⟩ := six V_.out
    have RLw := RL.out
    go_wp2_with fail
    (with_reducible refine (IHs.out l1 rs w4 G4.out SLR.out (by omega)).mono ?_)
    rintro r w5 ⟨r, rfl, ⟨s5, rfl, hs5⟩, hg⟩
    have G5 := Lib.hid (gb_trans G4.out hg)
    clear hg
    go_wp2_with fail
    exact bodyPost_ret (v := .tuple #[s5, .bool (rd V f ⟨k0, k1, k2, k3, k4, k5⟩ l1).1]) (by simp [results, Tryz.results39, go_sem]) rfl ⟨_, rfl, ⟨_, by rw [HE2.out], by rw [HE2.out]; exact hs5⟩, G5.out⟩
    
end Go.Proofs.YtdkckhihleffeaaGreat
