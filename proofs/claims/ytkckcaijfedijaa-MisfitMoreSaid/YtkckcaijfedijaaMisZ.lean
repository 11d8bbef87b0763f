/- Layer 27: Residuals. -/
import Derived.Test.YtkckcaijfedijaaMisP
import Derived.Test.YtkckcaijfedijaaRgMore
namespace Go.Proofs.Ytkckcaijfedijaa
set_option linter.all false
section LMisZ
open Go.RowKit Rg

def resL (zs : List Zn) (t : Int) : List Int := zs.map fun q => resid q t
theorem resL_take (zs : List Zn) (t : Int) (k : Nat) (h : k < zs.length) : resL (zs.take (k + 1)) t = resL (zs.take k) t ++ [resid zs[k] t] := by
  unfold resL; rw [List.take_succ_eq_append_getElem h, List.map_append]; rfl

set_option maxRecDepth 100000 in
set_option maxHeartbeats 2000000 in
theorem residuals_any (P : Prob) (vl vh vp : Value) (x y z t : Int) (w : World) (hi : ProbIn P vl vh vp w) (hbig : P.phs.length ≤ 1000000000) (h0 : zonesE P x y z x y z = 0) (ht0 : -18014398509481984 ≤ t) (ht1 : t ≤ 18014398509481984) :
    Calls Try.prog 51 #[.agg (P.val vl vh vp), .agg #[.int .i64 x, .int .i64 y, .int .i64 z], .int .i64 t] w fun e w' => ∃ v, e = .returned (.tuple #[v, .int .i64 0]) ∧ Sl w' v (resL (zonesL P x y z x y z) t) ∧ w.grownBy w' none := by
  have hg0 := gb_alloc (gb_alloc (gb_refl w none) (.cells (P.val vl vh vp) 68)) (.cells #[.int .i64 x, .int .i64 y, .int .i64 z] 26)
  have hS := zonesE_sound h0
  have hfair := hS.fair x y z x y z
  have hsome : (zonesL P x y z x y z).length ≤ 64 ∧ 0 < (zonesL P x y z x y z).length := by have := hS.some; simp [zonesL]; omega
  have HI := Lib.hid (hi.after hg0); have HG0 := Lib.hid hg0
  obtain ⟨pa, pc, rfl⟩ := hi.p.slice
  obtain ⟨la, ln, lc, rfl⟩ := sl_slice hi.l
  obtain ⟨ha, hn, hc, rfl⟩ := sl_slice hi.h
  clear hi hg0 hS
  have HTAME := Lib.hid hfair.tame; clear hfair
  have HZ := Lib.hid (fun (u : World) hu => Zones_any P (.slice la ln lc) (.slice ha hn hc) (.slice pa P.phs.length pc) x y z x y z u hu hbig)
  rw [h0] at HZ
  clear h0
  generalize zonesL P x y z x y z = zs at *
  obtain ⟨x0, y0, z0, x1, y1, z1, step, ls, hs, phs, cap⟩ := P
  simp only [Prob.val] at *
  go_enter Try.func51, Try.ntmps51
  go_wp2_with fail
  generalize (w.alloc (.cells #[.int .i64 x0, .int .i64 y0, .int .i64 z0, .int .i64 x1, .int .i64 y1, .int .i64 z1, .int .i64 step, .slice la ln lc, .slice ha hn hc, .slice pa phs.length pc, .int .i64 cap] 68)).alloc (.cells #[.int .i64 x, .int .i64 y, .int .i64 z] 26) = w1 at *
  (with_reducible refine (HZ.out _ HI.out).mono ?_)
  rintro e w2 hZ
  rcases hZ with ⟨-, v, rfl, hsl, -, hg2⟩ | ⟨h0, -, -⟩
  rotate_left
  · exact absurd rfl h0
  obtain ⟨zb, zoff, zcap, rfl, hzb, -⟩ := hsl.block hsome.2
  have HSL := Lib.hid hsl; have HG2 := Lib.hid (gb_trans HG0.out hg2)
  clear hsl hg2 HI HG0 HZ
  have D1 : decide (t < -18014398509481984) = false := by simp; omega
  have D2 : decide (18014398509481984 < t) = false := by simp; omega
  go_wp2_with (with_reducible refine wpList_makes rfl _ _ _ rfl w2.heap.size 3 (.int .i64 0) 1 8 Try.underlying22 Try.infoIntT _ zs.length rfl rfl rfl (by omega) (by omega) (by first | omega | simp) ?_; intro w3 hown hg3)
  have HOWN := Lib.hid hown; have HGW := Lib.hid hg3; clear hown hg3
  go_loopw [10, 35] (fun v i wr => ∃ k : Nat, k ≤ zs.length ∧ i = .int .i64 k ∧ wr.ownsRow w2.heap.size 3 1 v k ((resL (zs.take k) t).map (Value.int .i64)) ∧ w2.grownBy wr none) (fun _ i _ => zs.length - (intOf i).toNat)
  case atStart => exact ⟨0, by omega, rfl, by simpa [resL] using HOWN.out, HGW.out⟩
  case round =>
    obtain ⟨k, hk, rfl, hown, hgr⟩ := hrel
    have HOW := Lib.hid hown; clear hown
    by_cases hlt : k < zs.length
    · obtain ⟨zb', zoff', zcap', hzv, hzb', hzc, hzm, hzcell⟩ := (HSL.out.after hgr).block hsome.2
      simp only [Value.slice.injEq, Option.some.injEq, Addr.mk.injEq, true_and, and_true] at hzv
      obtain ⟨⟨rfl, rfl⟩, rfl⟩ := hzv
      obtain ⟨d0, d1⟩ := SlC.zn hzcell k hlt
      have HTK := Lib.hid (resL_take zs t k hlt)
      have hT := HTAME.out k hlt
      rw [show zs[k]?.getD default = zs[k] by simp [hlt]] at hT
      clear hzcell
      generalize hzk : zs[k] = zk at *
      obtain ⟨zf, zt⟩ := zk
      simp only [Tame] at d0 d1 HTK hT
      clear hzk
      have HRES := Lib.hid (fun u => residual_any ⟨zf, zt⟩ t u hT.1 hT.2 (by omega))
      generalize resid ⟨zf, zt⟩ t = r at *
      clear hT
      have HOW2 := Lib.hid (HOW.out.alloc (.cells #[.int .i64 zf, .int .i64 zt] 32))
      have HGR := Lib.hid (gb_alloc hgr (.cells #[.int .i64 zf, .int .i64 zt] 32))
      clear hgr HOW
      go_wp2_with fail
      (with_reducible refine (HRES.out _).mono ?_)
      rintro e w5 ⟨rfl, hg5⟩
      have HOW5 := Lib.hid (owns_keep HOW2.out hg5); have HG5 := Lib.hid (gb_trans HGR.out hg5)
      have hgs := HG5.out.size
      have hlen : (resL (zs.take k) t).length = k := by simp [resL]; omega
      clear hg5 HOW2 HGR d0 d1 HRES
      have PUSH := Lib.hid (fun (v' : Value) (u : World) (h : u.ownsRow w2.heap.size 3 1 v' (k + 1) ((resL (zs.take k) t).map (Value.int .i64) ++ [.int .i64 r])) (hg : (w5.alloc (.cells #[.int .i64 r] 3)).grownBy u (u10).ownBlock) =>
        show u.ownsRow w2.heap.size 3 1 v' (k + 1) ((resL (zs.take (k + 1)) t).map (Value.int .i64)) ∧ w2.grownBy u none from
          ⟨by rw [HTK.out, List.map_append]; exact h, gb_new (gb_alloc HG5.out _) hg (fun q hq => (HOW5.out.lt q hq).1)⟩)
      go_wp2_with (at_builtin; refine wpList_push rfl _ _ 22 rfl w2.heap.size 3 (.int .i64 0) 1 8 Try.underlying22 Try.infoIntT rfl (by decide) (by decide) _ _ _ rfl (HOW5.out.alloc _) w5.heap.size 1 [.int .i64 r] 3 rfl (heap_alloc_new w5 _) rfl (by simp [Value.oneCell']) (by omega) (by simp; omega) ?_; intro v' w6 hown' hg')
      have HN := Lib.hid (PUSH.out v' w6 hown' hg')
      clear hown' hg' PUSH HOW5
      go_roundw
      case rel => exact ⟨k + 1, by omega, by go_num, HN.out.1, HN.out.2⟩
      case measure => simp [intOf]; omega
    · obtain rfl : k = zs.length := by omega
      rw [List.take_length] at HOW
      obtain ⟨oa, oc, rfl⟩ := owns_slice HOW.out
      have HGE := Lib.hid (gb_trans HG2.out hgr)
      go_wp2_with fail
      exact bodyPost_ret (v := .tuple #[.slice oa zs.length oc, .int .i64 0]) (by simp [results, Try.results51, go_sem]) rfl ⟨_, rfl, Sl_of_owns HOW.out (by simp [resL]), HGE.out⟩
/-- A call of whose value and memory F is said, while others only make memory. -/
abbrev isF (F : Value → World → Prop) : List Value → Value → World → Prop := fun _ v u => F v u
theorem rg_fixF {P : Program} {ops : Array Oper} {md : Region.Mode} {w0 : World} {sp : Nat → Option (List Value → Value → World → Prop)} {al : Nat → Bool} {N : Nat} {Q : List Oper → Act → Facts → Prop} {n k : Nat} {o : Oper} {l : List Oper} {a : Act} {f : Facts}
    (F : Value → World → Prop) (fid : FuncId) (args : Array Value) (hs : sp k = some (isF F)) (hw : Region.wanted o (yielded ops a.tmps) = true) (hal : al k = false) (hst : ∀ v u u', F v u → u.grownBy u' none → F v u')
    (hrun : ∀ w, (execOp a.eval o).run P w = .ok (.enter fid args) w)
    (hc : ∀ u, w0.grownBy u none → Calls P fid args u fun e w' => ∃ v, e = .returned v ∧ F v w' ∧ u.grownBy w' none)
    (h : ∀ v u, F v u → rLexL P md ops ⟨In (Made w0), Makes, sp, al, N⟩ Q n l (k + 1) (a.put o.dst v) (upd f k (F v))) :
    rLexL P md ops ⟨In (Made w0), Makes, sp, al, N⟩ Q (n + 1) (o :: l) k a f := by
  refine rLexL_spec (isF F) hs hw (fun v j w w' _ _ _ hR h => hst v w w' h hR) (fun w hC hd => stepTo_call (hrun w) ?_) ?_
  · refine (hc w hC.out).mono ?_
    rintro e w' ⟨v, rfl, hF, hg⟩
    exact ⟨_, rfl, In.mk (gb_trans hC.out hg), hg, hF, fun e => by rw [hal] at e; cases e⟩
  · intro v w hC hv
    exact h v w hv

/-- P27.3: no misfit at all just when the zones have a time in common. -/
def latest (zs : List Zn) (k : Nat) : Int := (zs.take k).foldl (fun m q => max m q.f) (-1152921504606846976)
def earliest (zs : List Zn) (k : Nat) : Int := (zs.take k).foldl (fun m q => min m q.t) 1152921504606846976
theorem latest_succ (zs : List Zn) (k : Nat) (h : k < zs.length) : latest zs (k + 1) = max (latest zs k) zs[k].f := by
  unfold latest; rw [List.take_succ_eq_append_getElem h, List.foldl_append]; rfl
theorem earliest_succ (zs : List Zn) (k : Nat) (h : k < zs.length) : earliest zs (k + 1) = min (earliest zs k) zs[k].t := by
  unfold earliest; rw [List.take_succ_eq_append_getElem h, List.foldl_append]; rfl
theorem latest_is (zs : List Zn) : ∀ k, k ≤ zs.length → (∀ i (h : i < zs.length), i < k → zs[i].f ≤ latest zs k) ∧ (latest zs k = -1152921504606846976 ∨ ∃ i, ∃ h : i < zs.length, i < k ∧ zs[i].f = latest zs k)
  | 0, _ => ⟨fun i _ h => by omega, .inl rfl⟩
  | k + 1, hk => by
    obtain ⟨a, b⟩ := latest_is zs k (by omega)
    rw [latest_succ zs k (by omega)]
    refine ⟨fun i h hi => ?_, ?_⟩
    · by_cases e : i = k
      · subst e; omega
      · have := a i h (by omega); omega
    · by_cases c : latest zs k ≤ zs[k].f
      · exact .inr ⟨k, by omega, by omega, by omega⟩
      · rcases b with b | ⟨i, h, hi, e⟩
        · exact .inl (by omega)
        · exact .inr ⟨i, h, by omega, by omega⟩
theorem earliest_is (zs : List Zn) : ∀ k, k ≤ zs.length → (∀ i (h : i < zs.length), i < k → earliest zs k ≤ zs[i].t) ∧ (earliest zs k = 1152921504606846976 ∨ ∃ i, ∃ h : i < zs.length, i < k ∧ zs[i].t = earliest zs k)
  | 0, _ => ⟨fun i _ h => by omega, .inl rfl⟩
  | k + 1, hk => by
    obtain ⟨a, b⟩ := earliest_is zs k (by omega)
    rw [earliest_succ zs k (by omega)]
    refine ⟨fun i h hi => ?_, ?_⟩
    · by_cases e : i = k
      · subst e; omega
      · have := a i h (by omega); omega
    · by_cases c : zs[k].t ≤ earliest zs k
      · exact .inr ⟨k, by omega, by omega, by omega⟩
      · rcases b with b | ⟨i, h, hi, e⟩
        · exact .inl (by omega)
        · exact .inr ⟨i, h, by omega, by omega⟩
theorem costN_zero {cap : Int} {phs : List Ph} {zs : List Zn} {t : Int} (hn : ∀ i, i < phs.length → 0 ≤ term cap phs zs t i) : ∀ k, k ≤ phs.length → costN cap phs zs t k = 0 → ∀ i, i < k → term cap phs zs t i = 0
  | 0, _, _, i, hi => by omega
  | k + 1, hk, h, i, hi => by
    have hp : ∀ j, j ≤ phs.length → 0 ≤ costN cap phs zs t j := by
      intro j; induction j with
      | zero => intro _; simp [costN]
      | succ j ih => intro hj; have := ih (by omega); have := hn j (by omega); simp only [costN]; omega
    simp only [costN] at h
    have a := hp k (by omega); have b := hn k (by omega)
    by_cases e : i = k
    · subst e; omega
    · exact costN_zero hn k (by omega) (by omega) i (by omega)
theorem costN_all {cap : Int} {phs : List Ph} {zs : List Zn} {t : Int} : ∀ k, (∀ i, i < k → term cap phs zs t i = 0) → costN cap phs zs t k = 0
  | 0, _ => rfl
  | k + 1, h => by
    have a := costN_all k (fun i hi => h i (by omega)); have b := h k (by omega)
    simp only [costN]; omega
theorem zero_plain {cap : Int} {phs : List Ph} {zs : List Zn} (h : 0 < zs.length) (hl : zs.length = phs.length) (he : Even phs zs) (hf : Fair cap phs zs) (hc : 1 ≤ cap) (hn : ∀ i, i < phs.length → 1 ≤ (phs[i]?.getD default).n) :
    (best cap phs zs).2 = 0 ↔ latest zs zs.length ≤ earliest zs zs.length := by
  obtain ⟨l1, l2⟩ := latest_is zs zs.length (Nat.le_refl _)
  obtain ⟨e1, e2⟩ := earliest_is zs zs.length (Nat.le_refl _)
  have gd : ∀ i (hi : i < zs.length), zs[i]?.getD default = zs[i] := fun i hi => by simp [hi]
  constructor
  · intro hb
    have hs := (best_spec (cap := cap) (phs := phs) h).1
    rw [hb] at hs
    generalize (best cap phs zs).1 = t at hs
    have hz := costN_zero (fun i hi => (hf.term_in t hi).1) phs.length (Nat.le_refl _) hs.symm
    have hr : ∀ i (hi : i < zs.length), zs[i].f ≤ t ∧ t ≤ zs[i].t := fun i hi => by
      have h0 := hz i (by omega)
      unfold term at h0
      rw [if_pos hi, gd i hi] at h0
      have h1 := hn i (by omega)
      have h2 := resid_nn zs[i] t
      rcases Int.mul_eq_zero.1 h0 with h3 | h3
      · omega
      · have : resid zs[i] t = 0 := by omega
        unfold resid at this; omega
    have ha : latest zs zs.length ≤ t := by
      rcases l2 with e | ⟨i, hi, -, e⟩
      · have := hr 0 h; have := hf.tame 0 h; rw [gd 0 h] at this; unfold Tame at this; omega
      · have := hr i hi; omega
    have hb : t ≤ earliest zs zs.length := by
      rcases e2 with e | ⟨i, hi, -, e⟩
      · have := hr 0 h; have := hf.tame 0 h; rw [gd 0 h] at this; unfold Tame at this; omega
      · have := hr i hi; omega
    omega
  · intro hle
    have hub := best_all (cap := cap) h he (latest zs zs.length)
    have hz : cost cap phs zs (latest zs zs.length) = 0 := by
      refine costN_all _ fun i hi => ?_
      unfold term
      rw [if_pos (by omega), gd i (by omega)]
      have a := l1 i (by omega) (by omega); have b := e1 i (by omega) (by omega)
      rw [show resid zs[i] (latest zs zs.length) = 0 by unfold resid; omega, show min cap 0 = 0 by omega]; simp
    have hlb := (best_spec (cap := cap) (phs := phs) h).1
    have := (hf.costN_in (best cap phs zs).1 phs.length (Nat.le_refl _)).1
    unfold cost at hlb hz hub
    omega
end LMisZ
end Go.Proofs.Ytkckcaijfedijaa
