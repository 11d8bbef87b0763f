/- Run -/
import Derived.Test.YtgaglgopbdfemaaGreatDoorTmInvA
namespace Go.Proofs.YtgaglgopbdfemaaGreatDoor
set_option linter.all false
open Go.RowKit Rg
set_option maxRecDepth 100000 in
set_option maxHeartbeats 4000000 in
theorem stepfull_any (P : Prob) (vl vh vp : Value) (S B : Nat) (s : Ps) (v : Value) (w : World) (a : PsIn P vl vh vp S B s v w) (ht : s.tk = 3000) :
    Calls Tryz.prog 31 #[.pointer (some ⟨S, 0, none⟩)] w fun e w' => e = .returned (.int .i64 25) ∧ w = w' := by
  have HS := Lib.hid a.q.s
  have s13_ := cell_of HS.out 13 (.int .i64 (s.tk : Int)) rfl
  rw [ht] at s13_
  clear a HS
  go_enter Tryz.func31, Tryz.ntmps31
  go_wp2
  go_ret
  exact ⟨rfl, rfl⟩
theorem Fr.out {S : Nat} {v v' : Value} {w u u' : World} (hf : Fr S v v' u u') (hg : w.grownBy u none) (hS : w.heap.size ≤ S) (ho : ∀ g, v.ownBlock = some g → w.heap.size ≤ g) : w.grownBy u' none :=
  ⟨hf.os.trans hg.os, hf.tape.trans hg.tape, hf.output.trans hg.output, Nat.le_trans hg.size hf.size, fun k hk _ => by
    have hs := hg.size
    rw [hf.block k (by omega) (by omega) (fun e => by have := ho k e.symm; omega), hg.block k hk (by simp)]⟩
theorem Sl.older {w : World} {v : Value} {xs : List Int} (h : Sl w v xs) : ∀ b off len cap, v = .slice (some ⟨b, off, none⟩) len cap → 0 < len → b < w.heap.size := by
  intro b off len cap e hl
  rcases h with ⟨-, a, c, e'⟩ | ⟨b', off', cap', e', hb, _⟩
  · rw [e] at e'; simp at e'; omega
  · rw [e] at e'; simp at e'; omega
theorem SlC.older {k n : Nat} {w : World} {v : Value} {ys : List Value} (h : SlC k w v n ys) : ∀ b off len cap, v = .slice (some ⟨b, off, none⟩) len cap → 0 < len → b < w.heap.size := by
  intro b off len cap e hl
  rcases h.2 with ⟨rfl, a, c, e'⟩ | ⟨b', off', cap', e', hb, _⟩
  · rw [e] at e'; simp at e'; omega
  · rw [e] at e'; simp at e'; omega
/-- What run returns. -/
def RunOut (P : Prob) (vl vh vp : Value) (tol : Int) (w : World) (e : Ending) (w' : World) : Prop :=
  w.grownBy w' none ∧ ((∃ c, c ≠ 0 ∧ e = .returned (.tuple #[.pointer none, .int .i64 c]) ∧ c = if valE P ≠ 0 then valE P else if tol < 0 then 2 else 25) ∧ (valE P = 0 → ¬ tol < 0 → Ps.run P tol 3000 (Ps.start P) = none) ∨
    (valE P = 0 ∧ ¬ tol < 0 ∧ ∃ S B s v, e = .returned (.tuple #[.pointer (some ⟨S, 0, none⟩), .int .i64 0]) ∧ Ps.run P tol 3000 (Ps.start P) = some s ∧ s.h.length ≤ 100000 ∧ PsIn P vl vh vp S B s v w'))
set_option maxRecDepth 100000 in
set_option maxHeartbeats 8000000 in
theorem run_any (P : Prob) (vl vh vp : Value) (tol : Int) (w : World) (hi : ProbIn P vl vh vp w) (hbig : P.phs.length ≤ 1000000000) :
    Calls Tryz.prog 18 #[.agg (P.val vl vh vp), .int .i64 tol] w (RunOut P vl vh vp tol w) := by
  have VA := Lib.hid (fun (u : World) (h : w.grownBy u none) => mvalidate_any P vl vh vp u (hi.after h) hbig)
  have OLD : Hid (∀ y, y = vl ∨ y = vh ∨ y = vp → ∀ b off len cap, y = .slice (some ⟨b, off, none⟩) len cap → 0 < len → b < w.heap.size) := Lib.hid (by
    rintro y (rfl | rfl | rfl) b off len cap e hl
    · exact Sl.older hi.l b off len cap e hl
    · exact Sl.older hi.h b off len cap e hl
    · exact SlC.older hi.p b off len cap e hl)
  have SND := Lib.hid (fun (h : valE P = 0) => sound_iff.1 h)
  have HI := Lib.hid hi
  have ADD := Lib.hid (fun (S B : Nat) (h : List Hi) (nm : Nat) (tk' : Int) (fd : Bool) (x' : Loc) (v' : Value) (b : Bx) (u : World) (a' : LsAt P vl vh vp S B h nm tk' fd x' v' u) (hb : bdE P b.a b.b b.c b.d b.e b.f = 0) (h1 : h.length + 1 ≤ 1000000) (h2 : nm ≤ 1000000) => add_any P vl vh vp S B h nm tk' fd x' v' b u a' hbig hb h1 h2)
  have STE := Lib.hid (fun (S B : Nat) (s : Ps) (v : Value) (u : World) (a : PsIn P vl vh vp S B s v u) (ht : s.tk ≠ 3000) (ht2 : s.tk ≤ 100000) (hl0 : 0 < s.h.length) (hl : s.h.length ≤ 100000) (hn : s.num ≤ 100000) (hs : Sound P) (ha : AllIn P s.h) => step_any P vl vh vp S B s v u a hbig ht ht2 hl0 hl hn (ha.fine hs hl0).1 (ha.fine hs hl0).2)
  obtain ⟨pa, pc, rfl⟩ := hi.p.slice
  obtain ⟨la, ln, lc, rfl⟩ := sl_slice hi.l
  obtain ⟨ha, hn, hc, rfl⟩ := sl_slice hi.h
  generalize hRO : RunOut P (.slice la ln lc) (.slice ha hn hc) (.slice pa P.phs.length pc) tol w = RO
  have HRO := Lib.hid hRO.symm
  clear hRO hi hbig
  generalize hPP : P = P0 at *
  obtain ⟨x0, y0, z0, x1, y1, z1, step, ls, hs, phs, cap⟩ := P
  generalize hpn : phs.length = pn at *
  have hpn0 : P0.phs.length = pn := by rw [← hPP]; exact hpn
  rw [hpn0] at VA OLD HI ADD STE HRO ⊢
  have hPV : Prob.val P0 (.slice la ln lc) (.slice ha hn hc) (.slice pa pn pc) = #[.int .i64 x0, .int .i64 y0, .int .i64 z0, .int .i64 x1, .int .i64 y1, .int .i64 z1, .int .i64 step, .slice la ln lc, .slice ha hn hc, .slice pa pn pc, .int .i64 cap] := by rw [← hPP]; rfl
  have hRG : P0.reg = ⟨x0, y0, z0, x1, y1, z1⟩ := by rw [← hPP]; rfl
  rw [hPV] at VA ⊢
  have hg0 := gb_alloc (gb_refl w none) (.cells #[.int .i64 x0, .int .i64 y0, .int .i64 z0, .int .i64 x1, .int .i64 y1, .int .i64 z1, .int .i64 step, .slice la ln lc, .slice ha hn hc, .slice pa pn pc, .int .i64 cap] 33)
  have K0 := Lib.hid (heap_alloc_new w (.cells #[.int .i64 x0, .int .i64 y0, .int .i64 z0, .int .i64 x1, .int .i64 y1, .int .i64 z1, .int .i64 step, .slice la ln lc, .slice ha hn hc, .slice pa pn pc, .int .i64 cap] 33)); have G0 := Lib.hid hg0
  clear hg0 hPP hpn
  generalize hE : valE P0 = E at *
  obtain ⟨e0_, e1_, e2_, e3_, e4_, e5_, e6_, e7_, e8_, e9_, e10_⟩ := cells11 K0.out
  go_enter Tryz.func18, Tryz.ntmps18
  go_wp2_with fail
  generalize w.alloc (.cells #[.int .i64 x0, .int .i64 y0, .int .i64 z0, .int .i64 x1, .int .i64 y1, .int .i64 z1, .int .i64 step, .slice la ln lc, .slice ha hn hc, .slice pa pn pc, .int .i64 cap] 33) = w1 at *
  (with_reducible refine (VA.out w1 G0.out).mono ?_)
  rintro r w2 ⟨rfl, hg⟩
  clear e0_ e1_ e2_ e3_ e4_ e5_ e6_ e7_ e8_ e9_ e10_
  have K2 := Lib.hid (block_kept hg K0.out rfl); have G2 := Lib.hid (gb_trans G0.out hg)
  clear hg K0 G0 VA
  by_cases hE0 : E = 0
  rotate_left
  · have hE' : (E == 0) = false := by simpa using hE0
    go_wp2_with fail
    show RO (.returned (.tuple #[.pointer none, .int .i64 E])) w2
    rw [HRO.out]
    exact ⟨G2.out, .inl ⟨⟨E, hE0, rfl, by rw [hE, if_pos hE0]⟩, fun h => absurd (hE ▸ h) hE0⟩⟩
  subst hE0
  by_cases ht : tol < 0
  · have ht' : decide (tol < 0) = true := decide_eq_true ht
    go_wp2_with fail
    show RO (.returned (.tuple #[.pointer none, .int .i64 2])) w2
    rw [HRO.out]
    exact ⟨G2.out, .inl ⟨⟨2, by decide, rfl, by rw [hE, if_neg (by simp), if_pos ht]⟩, fun _ h => absurd ht h⟩⟩
  have ht' : decide (tol < 0) = false := decide_eq_false ht
  have HS := Lib.hid (SND.out rfl)
  have HE0 := Lib.hid hE; have HT0 := Lib.hid ht
  clear SND hE ht
  have hRV : P0.reg.v = true := HS.out.vb
  have hgS : w2.grownBy (w2.alloc (.cells #[.int .i64 x0, .int .i64 y0, .int .i64 z0, .int .i64 x1, .int .i64 y1, .int .i64 z1, .int .i64 step, .slice la ln lc, .slice ha hn hc, .slice pa pn pc, .int .i64 cap, .slice none 0 0, .int .i64 0, .int .i64 0, .bool false, .int .i64 0, .int .i64 0, .int .i64 0, .int .i64 0, .int .i64 0, .int .i64 0, .int .i64 0, .int .i64 0, .int .i64 0, .int .i64 0, .int .i64 0, .int .i64 0] 61)) none := gb_alloc (gb_refl _ _) _
  have A3 : Hid (LsAt P0 (.slice la ln lc) (.slice ha hn hc) (.slice pa pn pc) w2.heap.size (w2.heap.size + 1) [] (0 : Nat) (0 : Nat) false loc0 (.slice none 0 0) (w2.alloc (.cells #[.int .i64 x0, .int .i64 y0, .int .i64 z0, .int .i64 x1, .int .i64 y1, .int .i64 z1, .int .i64 step, .slice la ln lc, .slice ha hn hc, .slice pa pn pc, .int .i64 cap, .slice none 0 0, .int .i64 0, .int .i64 0, .bool false, .int .i64 0, .int .i64 0, .int .i64 0, .int .i64 0, .int .i64 0, .int .i64 0, .int .i64 0, .int .i64 0, .int .i64 0, .int .i64 0, .int .i64 0, .int .i64 0] 61))) := Lib.hid (by
    refine ⟨⟨?_, rfl, ?_, by omega, by simp⟩, HI.out.after (gb_trans G2.out hgS), fun y hy b off len cap e hl => Nat.lt_of_lt_of_le (OLD.out y hy b off len cap e hl) G2.out.size⟩
    · have e : csS P0 (.slice la ln lc) (.slice ha hn hc) (.slice pa pn pc) (.slice none 0 0) (0 : Nat) (0 : Nat) false loc0 = #[.int .i64 x0, .int .i64 y0, .int .i64 z0, .int .i64 x1, .int .i64 y1, .int .i64 z1, .int .i64 step, .slice la ln lc, .slice ha hn hc, .slice pa pn pc, .int .i64 cap, .slice none 0 0, .int .i64 0, .int .i64 0, .bool false, .int .i64 0, .int .i64 0, .int .i64 0, .int .i64 0, .int .i64 0, .int .i64 0, .int .i64 0, .int .i64 0, .int .i64 0, .int .i64 0, .int .i64 0, .int .i64 0] := by
        have := congrArg Array.toList hPV
        unfold csS
        simp only [Prob.val] at hPV
        simp at hPV
        obtain ⟨q0, q1, q2, q3, q4, q5, q6, q7⟩ := hPV
        simp [q0, q1, q2, q3, q4, q5, q6, q7, loc0]
      rw [e]; exact heap_alloc_new w2 _
    · exact World.ownsRow_nil _ _ _ _)
  have G3 := Lib.hid (gb_trans G2.out hgS); have K3 := Lib.hid (block_kept hgS K2.out rfl)
  obtain ⟨e0_, e1_, e2_, e3_, e4_, e5_, e6_, e7_, e8_, e9_, e10_⟩ := cells11 K2.out
  have hsz2 := block_lt' K2.out
  have G2' := Lib.hid G2.out
  clear hgS HI OLD
  go_wp2_with fail
  generalize w2.alloc (.cells #[.int .i64 x0, .int .i64 y0, .int .i64 z0, .int .i64 x1, .int .i64 y1, .int .i64 z1, .int .i64 step, .slice la ln lc, .slice ha hn hc, .slice pa pn pc, .int .i64 cap, .slice none 0 0, .int .i64 0, .int .i64 0, .bool false, .int .i64 0, .int .i64 0, .int .i64 0, .int .i64 0, .int .i64 0, .int .i64 0, .int .i64 0, .int .i64 0, .int .i64 0, .int .i64 0, .int .i64 0, .int .i64 0] 61) = w3 at *
  generalize hSS : w2.heap.size = S at *
  clear K2 hsz2
  clear e0_ e1_ e2_ e3_ e4_ e5_ e6_ e7_ e8_ e9_ e10_
  have hSw : w.heap.size ≤ S := by rw [← hSS]; exact G2'.out.size
  have HB0 : bdE P0 P0.reg.a P0.reg.b P0.reg.c P0.reg.d P0.reg.e P0.reg.f = 0 := HS.out.zones hRV (Bx.wi_refl _)
  have AD0 := Lib.hid (ADD.out S (S + 1) [] 0 (0 : Nat) false loc0 (.slice none 0 0) P0.reg w3 A3.out HB0 (by simp) (by omega))
  have hBV : P0.reg.val = #[.int .i64 x0, .int .i64 y0, .int .i64 z0, .int .i64 x1, .int .i64 y1, .int .i64 z1] := by rw [hRG]; rfl
  rw [hBV] at AD0
  have HST : Hid (Ps.start P0 = ⟨pushH [] ⟨P0.reg, bxC P0 P0.reg, (0 : Nat)⟩, 1, 0, false, loc0⟩) := Lib.hid rfl
  have HAL : Hid (AllIn P0 (pushH [] ⟨P0.reg, bxC P0 P0.reg, (0 : Nat)⟩)) := Lib.hid (AllIn.push (P := P0) (h := []) (fun i hi => by cases hi) (x := ⟨P0.reg, bxC P0 P0.reg, (0 : Nat)⟩) hRV (Bx.wi_refl _))
  clear HB0 hSS ADD
  (with_reducible refine AD0.out.mono ?_)
  rintro e w4 ⟨rfl, v4, hA, hf⟩
  have A4 := Lib.hid hA
  have G4 := Lib.hid (hf.out G3.out hSw (fun g e => by simp [Value.ownBlock] at e))
  clear hA hf A3 G3 K3 AD0
  go_wp2_with fail
  go_loopg [9] 3000 (fun gk c wr => ∃ (s : Ps) (v : Value), s.tk + gk = 3000 ∧ Ps.run P0 tol 3000 (Ps.start P0) = Ps.run P0 tol gk s ∧ AllIn P0 s.h ∧ s.h.length ≤ 1 + s.tk ∧ s.num ≤ 1 + 2 * s.tk ∧ PsIn P0 (.slice la ln lc) (.slice ha hn hc) (.slice pa pn pc) S (S + 1) s v wr ∧ w.grownBy wr none)
  case atStart =>
    refine ⟨⟨pushH [] ⟨P0.reg, bxC P0 P0.reg, (0 : Nat)⟩, 1, 0, false, loc0⟩, v4, rfl, by rw [HST.out], HAL.out, by rw [pushH_length]; simp, by simp, ?_, G4.out⟩
    have := A4.out
    unfold PsIn
    dsimp only
    push_cast at this ⊢
    exact this
  case round =>
    clear A4 G4 HST HAL
    obtain ⟨s, v, htk, hrun, hal, hlen, hnum, ha, hgr⟩ := hrel
    have HRUN := Lib.hid hrun; have AL := Lib.hid hal; have A5 := Lib.hid ha; have G5 := Lib.hid hgr
    clear hrun hal ha hgr
    have EN := Lib.hid (ended_any P0 _ _ _ S (S + 1) s.h s.num s.tk s.fd s.x v tol wr A5.out)
    have HEN : Hid (s.ended tol = (decide (s.h.length = 0) || (s.fd && decide (IntKind.i64.wrap (s.x.m - (hiAt s.h 0).c) ≤ tol)))) := Lib.hid rfl
    rw [← HEN.out] at EN
    go_wp2_with fail
    (with_reducible refine EN.out.mono ?_)
    rintro e w6 ⟨rfl, hg⟩
    have A6 := Lib.hid (A5.out.keep hg); have G6 := Lib.hid (gb_trans G5.out hg)
    clear hg A5 G5 EN
    obtain ⟨b_, hb_⟩ : ∃ b_, b_ = s.ended tol := ⟨_, rfl⟩
    rw [← hb_]
    cases b_
    rotate_left
    · have HR : Hid (Ps.run P0 tol 3000 (Ps.start P0) = some s) := Lib.hid (by rw [HRUN.out]; cases gk <;> simp [Ps.run, ← hb_])
      clear hb_
      go_wp2_with fail
      show RO (.returned (.tuple #[.pointer (some ⟨S, 0, none⟩), .int .i64 0])) w6
      rw [HRO.out]
      exact ⟨G6.out, .inr ⟨HE0.out, Int.not_lt.2 HT0.out, S, S + 1, s, v, rfl, HR.out, by omega, A6.out⟩⟩
    have hpos : 0 < s.h.length := by
      rcases Nat.eq_zero_or_pos s.h.length with h0 | h0
      · rw [HEN.out, h0] at hb_; simp at hb_
      · exact h0
    clear HEN
    by_cases h3 : s.tk = 3000
    · have SF := Lib.hid (stepfull_any P0 _ _ _ S (S + 1) s v w6 A6.out h3)
      have HR : Hid (Ps.run P0 tol 3000 (Ps.start P0) = none) := Lib.hid (by
        obtain rfl : gk = 0 := by omega
        rw [HRUN.out]; simp [Ps.run, ← hb_])
      clear hb_
      go_wp2_with fail
      (with_reducible refine SF.out.mono ?_)
      rintro e w7 ⟨rfl, rfl⟩
      go_wp2_with fail
      show RO (.returned (.tuple #[.pointer none, .int .i64 25])) w6
      rw [HRO.out]
      exact ⟨G6.out, .inl ⟨⟨25, by decide, rfl, by rw [HE0.out, if_neg (by simp), if_neg (Int.not_lt.2 HT0.out)]⟩, fun _ _ => HR.out⟩⟩
    obtain ⟨g, rfl⟩ : ∃ g, gk = g + 1 := ⟨gk - 1, by omega⟩
    have HRN : Hid (Ps.run P0 tol 3000 (Ps.start P0) = Ps.run P0 tol g (s.step P0)) := Lib.hid (by rw [HRUN.out, Ps.run, ← hb_]; rfl)
    have hsz := Ps.step_sizes P0 s hpos
    have HAS := Lib.hid (AL.out.step hpos)
    have ST := Lib.hid (STE.out S (S + 1) s v w6 A6.out h3 (by omega) hpos (by omega) (by omega) HS.out AL.out)
    have HOWN : Hid (∀ gg, v.ownBlock = some gg → w.heap.size ≤ gg) := Lib.hid (fun gg e => by have := (A6.out.q.old gg e).1; omega)
    clear hb_ HRUN AL
    go_wp2_with fail
    (with_reducible refine ST.out.mono ?_)
    rintro e w7 ⟨rfl, v', hA, hf⟩
    have A7 := Lib.hid hA; have G7 := Lib.hid (hf.out G6.out hSw HOWN.out)
    clear hA hf A6 G6 ST HOWN
    go_wp2_with fail
    go_roundg g
    case measure => omega
    case rel => exact ⟨s.step P0, v', by omega, HRN.out, HAS.out, by omega, by omega, A7.out, G7.out⟩
end Go.Proofs.YtgaglgopbdfemaaGreatDoor
