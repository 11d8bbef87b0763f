/- MisP -/
import Derived.Test.YtiebljanpnadjaaGreatPcRgMade
import Derived.Test.YtiebljanpnadjaaGreatPcMis
import Derived.Test.YtiebljanpnadjaaGreatPcBndP
import Derived.Test.YtiebljanpnadjaaGreatPcProb
namespace Go.Proofs.YtiebljanpnadjaaGreat
set_option linter.all false
section LMisP
section LMisP
open Go.RowKit
end LMisP
section LMisQ
open Go.RowKit Rg
theorem goodPh.ok {a : Ph} (h : goodPh a) : phP a.x a.y a.z a.e a.l a.n = true :=
  phP_iff.2 ⟨place_ok h.1 (by omega), h.2.1, h.2.2.1, by have := h.2.2.2.1; omega, h.2.2.2.2.1, by have := h.2.2.2.2.2; omega⟩
theorem Near.zE {step : Int} {ls hs : List Int} {x0 y0 z0 x1 y1 z1 px py pz e l n : Int} (h : Near step ls hs x0 y0 z0 x1 y1 z1 px py pz) (hp : phP px py pz e l n = true) :
    znE step ls hs x0 y0 z0 x1 y1 z1 px py pz e l n = 0 ∧ znF step ls hs x0 y0 z0 x1 y1 z1 px py pz e l n = e - hiA step hs (ceilI (farD x0 y0 z0 x1 y1 z1 px py pz)) ∧ znT step ls hs x0 y0 z0 x1 y1 z1 px py pz e l n = l - loA step ls (floorI (nearD x0 y0 z0 x1 y1 z1 px py pz)) := by
  obtain ⟨a, b, c⟩ := h.bnd
  have he : znE step ls hs x0 y0 z0 x1 y1 z1 px py pz e l n = 0 := by unfold znE; rw [if_pos h.ok, if_pos h.vb, if_pos hp]; exact c
  unfold znF znT; rw [if_pos he, if_pos he, a, b]; exact ⟨he, rfl, rfl⟩
/-- What a drawn problem is. -/
structure Good (P : Prob) : Prop where
  sound : Sound P
  near : ∀ a ∈ P.phs, Near P.step P.ls P.hs P.x0 P.y0 P.z0 P.x1 P.y1 P.z1 a.x a.y a.z
  ph : ∀ a ∈ P.phs, goodPh a
theorem good_mk {P : Prob} {side : Int} (hb : boxIn 20 side P.x0 P.y0 P.z0 P.x1 P.y1 P.z1) (hs : side ≤ 40) (hT : tOk P.step P.ls P.hs) (hr : 400 ≤ reachS P.step P.ls) (hc : P.cap ∈ ([10, 50, 200, 1000] : List Int)) (h0 : 0 < P.phs.length) (h1 : (P.phs.length : Int) ≤ 30) (hp : ∀ a ∈ P.phs, goodPh a) : Good P := by
  have nr : ∀ a ∈ P.phs, Near P.step P.ls P.hs P.x0 P.y0 P.z0 P.x1 P.y1 P.z1 a.x a.y a.z := fun a ha => near_mk hT hr hb (hp a ha).1 (by omega) hs (by omega)
  refine ⟨⟨boxIn_ok hb (by omega) (by omega), hT, ⟨h0, by omega⟩, ?_, fun a ha => ((nr a ha).zE (hp a ha).ok).1⟩, nr, hp⟩
  simp only [List.mem_cons, List.not_mem_nil, or_false] at hc
  omega
/-- Zones of a box within the region. -/
theorem Good.zones {P : Prob} (h : Good P) {b0 b1 b2 b3 b4 b5 : Int} (hw : wiP b0 b1 b2 b3 b4 b5 P.x0 P.y0 P.z0 P.x1 P.y1 P.z1 = true) : zonesE P b0 b1 b2 b3 b4 b5 = 0 := by
  unfold zonesE
  rw [if_pos (sound_iff.2 h.sound), if_pos hw]
  exact errOf_zero.2 fun a ha => (((h.near a ha).within hw).1.zE (h.ph a ha).ok).1
end LMisQ
section LMisR
open Go.RowKit Rg
/-- At's time, and the misfit of a box. -/
def mm (P : Prob) (b0 b1 b2 b3 b4 b5 : Int) : Int := (best P.cap P.phs (zonesL P b0 b1 b2 b3 b4 b5)).2
def tt (P : Prob) (x y z : Int) : Int := (best P.cap P.phs (zonesL P x y z x y z)).1
theorem Good.at {P : Prob} (h : Good P) {vl vh vp : Value} {cs : Array Value} (hcs : cs = P.val vl vh vp) (x y z : Int) (u : World) (hw : wiP x y z x y z P.x0 P.y0 P.z0 P.x1 P.y1 P.z1 = true) (hi : ProbIn P vl vh vp u) :
    Calls Tryz.prog 161 #[.agg cs, .agg #[.int .i64 x, .int .i64 y, .int .i64 z]] u fun e w' => e = .returned (.tuple #[.int .i64 (tt P x y z), .int .i64 (mm P x y z x y z), .int .i64 0]) ∧ u.grownBy w' none := by
  have hb := at_any P vl vh vp x y z u hi (by have := h.sound.some; omega)
  unfold atV at hb
  rw [if_pos (h.zones hw)] at hb
  rw [hcs]; exact hb
end LMisR
end LMisP
section LMisZ
section LMisZ
open Go.RowKit Rg
def resL (zs : List Zn) (t : Int) : List Int := zs.map fun q => resid q t
theorem resL_take (zs : List Zn) (t : Int) (k : Nat) (h : k < zs.length) : resL (zs.take (k + 1)) t = resL (zs.take k) t ++ [resid zs[k] t] := by
  unfold resL; rw [List.take_succ_eq_append_getElem h, List.map_append]; rfl
set_option maxRecDepth 100000 in
set_option maxHeartbeats 2000000 in
theorem residuals_any (P : Prob) (vl vh vp : Value) (x y z t : Int) (w : World) (hi : ProbIn P vl vh vp w) (hbig : P.phs.length ≤ 1000000000) (h0 : zonesE P x y z x y z = 0) (ht0 : -18014398509481984 ≤ t) (ht1 : t ≤ 18014398509481984) :
    Calls Tryz.prog 46 #[.agg (P.val vl vh vp), .agg #[.int .i64 x, .int .i64 y, .int .i64 z], .int .i64 t] w fun e w' => ∃ v, e = .returned (.tuple #[v, .int .i64 0]) ∧ Sl w' v (resL (zonesL P x y z x y z) t) ∧ w.grownBy w' none := by
  have hg0 := gb_alloc (gb_alloc (gb_refl w none) (.cells (P.val vl vh vp) 83)) (.cells #[.int .i64 x, .int .i64 y, .int .i64 z] 23)
  have hS := zonesE_sound h0
  have hfair := hS.fair x y z x y z
  have hsome : (zonesL P x y z x y z).length ≤ 64 ∧ 0 < (zonesL P x y z x y z).length := by have := hS.some; simp [zonesL]; omega
  have HI := Lib.hid (hi.after hg0); have HG0 := Lib.hid hg0
  obtain ⟨pa, pc, rfl⟩ := hi.p.slice
  obtain ⟨la, ln, lc, rfl⟩ := sl_slice hi.l
  obtain ⟨ha, hn, hc, rfl⟩ := sl_slice hi.h
  clear hi hg0 hS
  have HTAME := Lib.hid hfair.tame; clear hfair
  have HZ := Lib.hid (fun (u : World) hu => Zones_any P (.slice la ln lc) (.slice ha hn hc) (.slice pa P.phs.length pc) x y z x y z u hu hbig)
  rw [h0] at HZ
  clear h0
  generalize zonesL P x y z x y z = zs at *
  obtain ⟨x0, y0, z0, x1, y1, z1, step, ls, hs, phs, cap⟩ := P
  simp only [Prob.val] at *
  go_enter Tryz.func46, Tryz.ntmps46
  go_wp2_with fail
  generalize (w.alloc (.cells #[.int .i64 x0, .int .i64 y0, .int .i64 z0, .int .i64 x1, .int .i64 y1, .int .i64 z1, .int .i64 step, .slice la ln lc, .slice ha hn hc, .slice pa phs.length pc, .int .i64 cap] 83)).alloc (.cells #[.int .i64 x, .int .i64 y, .int .i64 z] 23) = w1 at *
  (with_reducible refine (HZ.out _ HI.out).mono ?_)
  rintro e w2 hZ
  rcases hZ with ⟨-, v, rfl, hsl, -, hg2⟩ | ⟨h0, -, -⟩
  rotate_left
  · exact absurd rfl h0
  obtain ⟨zb, zoff, zcap, rfl, hzb, -⟩ := hsl.block hsome.2
  have HSL := Lib.hid hsl; have HG2 := Lib.hid (gb_trans HG0.out hg2)
  clear hsl hg2 HI HG0 HZ
  have D1 : decide (t < -18014398509481984) = false := by simp; omega
  have D2 : decide (18014398509481984 < t) = false := by simp; omega
  go_wp2_with (with_reducible refine wpList_makes rfl _ _ _ rfl w2.heap.size 3 (.int .i64 0) 1 8 Tryz.underlying26 Tryz.infoIntT _ zs.length rfl rfl rfl (by omega) (by omega) (by first | omega | simp) ?_; intro w3 hown hg3)
  have HOWN := Lib.hid hown; have HGW := Lib.hid hg3; clear hown hg3
  go_loopw [10, 35] (fun v i wr => ∃ k : Nat, k ≤ zs.length ∧ i = .int .i64 k ∧ wr.ownsRow w2.heap.size 3 1 v k ((resL (zs.take k) t).map (Value.int .i64)) ∧ w2.grownBy wr none) (fun _ i _ => zs.length - (intOf i).toNat)
  case atStart => exact ⟨0, by omega, rfl, by simpa [resL] using HOWN.out, HGW.out⟩
  case round =>
    obtain ⟨k, hk, rfl, hown, hgr⟩ := hrel
    have HOW := Lib.hid hown; clear hown
    by_cases hlt : k < zs.length
    · obtain ⟨zb', zoff', zcap', hzv, hzb', hzc, hzm, hzcell⟩ := (HSL.out.after hgr).block hsome.2
      simp only [Value.slice.injEq, Option.some.injEq, Addr.mk.injEq, true_and, and_true] at hzv
      obtain ⟨⟨rfl, rfl⟩, rfl⟩ := hzv
      obtain ⟨d0, d1⟩ := SlC.zn hzcell k hlt
      have HTK := Lib.hid (resL_take zs t k hlt)
      have hT := HTAME.out k hlt
      rw [show zs[k]?.getD default = zs[k] by simp [hlt]] at hT
      clear hzcell
      generalize hzk : zs[k] = zk at *
      obtain ⟨zf, zt⟩ := zk
      simp only [Tame] at d0 d1 HTK hT
      clear hzk
      have HRES := Lib.hid (fun u => residual_any ⟨zf, zt⟩ t u hT.1 hT.2 (by omega))
      generalize resid ⟨zf, zt⟩ t = r at *
      clear hT
      have HOW2 := Lib.hid (HOW.out.alloc (.cells #[.int .i64 zf, .int .i64 zt] 97))
      have HGR := Lib.hid (gb_alloc hgr (.cells #[.int .i64 zf, .int .i64 zt] 97))
      clear hgr HOW
      go_wp2_with fail
      (with_reducible refine (HRES.out _).mono ?_)
      rintro e w5 ⟨rfl, hg5⟩
      have HOW5 := Lib.hid (owns_keep HOW2.out hg5); have HG5 := Lib.hid (gb_trans HGR.out hg5)
      have hgs := HG5.out.size
      have hlen : (resL (zs.take k) t).length = k := by simp [resL]; omega
      clear hg5 HOW2 HGR d0 d1 HRES
      have PUSH := Lib.hid (fun (v' : Value) (u : World) (h : u.ownsRow w2.heap.size 3 1 v' (k + 1) ((resL (zs.take k) t).map (Value.int .i64) ++ [.int .i64 r])) (hg : (w5.alloc (.cells #[.int .i64 r] 3)).grownBy u (u10).ownBlock) =>
        show u.ownsRow w2.heap.size 3 1 v' (k + 1) ((resL (zs.take (k + 1)) t).map (Value.int .i64)) ∧ w2.grownBy u none from
          ⟨by rw [HTK.out, List.map_append]; exact h, gb_new (gb_alloc HG5.out _) hg (fun q hq => (HOW5.out.lt q hq).1)⟩)
      go_wp2_with (at_builtin; refine wpList_push rfl _ _ 26 rfl w2.heap.size 3 (.int .i64 0) 1 8 Tryz.underlying26 Tryz.infoIntT rfl (by decide) (by decide) _ _ _ rfl (HOW5.out.alloc _) w5.heap.size 1 [.int .i64 r] 3 rfl (heap_alloc_new w5 _) rfl (by simp [Value.oneCell']) (by omega) (by simp; omega) ?_; intro v' w6 hown' hg')
      have HN := Lib.hid (PUSH.out v' w6 hown' hg')
      clear hown' hg' PUSH HOW5
      go_roundw
      case rel => exact ⟨k + 1, by omega, by go_num, HN.out.1, HN.out.2⟩
      case measure => simp [intOf]; omega
    · obtain rfl : k = zs.length := by omega
      rw [List.take_length] at HOW
      obtain ⟨oa, oc, rfl⟩ := owns_slice HOW.out
      have HGE := Lib.hid (gb_trans HG2.out hgr)
      go_wp2_with fail
      exact bodyPost_ret (v := .tuple #[.slice oa zs.length oc, .int .i64 0]) (by simp [results, Tryz.results46, go_sem]) rfl ⟨_, rfl, Sl_of_owns HOW.out (by simp [resL]), HGE.out⟩
/-- A call of whose value and memory F is said, while others only make memory. -/
abbrev isF (F : Value → World → Prop) : List Value → Value → World → Prop := fun _ v u => F v u
theorem rg_fixF {P : Program} {ops : Array Oper} {md : Region.Mode} {w0 : World} {sp : Nat → Option (List Value → Value → World → Prop)} {al : Nat → Bool} {N : Nat} {Q : List Oper → Act → Facts → Prop} {n k : Nat} {o : Oper} {l : List Oper} {a : Act} {f : Facts}
    (F : Value → World → Prop) (fid : FuncId) (args : Array Value) (hs : sp k = some (isF F)) (hw : Region.wanted o (yielded ops a.tmps) = true) (hal : al k = false) (hst : ∀ v u u', F v u → u.grownBy u' none → F v u')
    (hrun : ∀ w, (execOp a.eval o).run P w = .ok (.enter fid args) w)
    (hc : ∀ u, w0.grownBy u none → Calls P fid args u fun e w' => ∃ v, e = .returned v ∧ F v w' ∧ u.grownBy w' none)
    (h : ∀ v u, F v u → rLexL P md ops ⟨In (Made w0), Makes, sp, al, N⟩ Q n l (k + 1) (a.put o.dst v) (upd f k (F v))) :
    rLexL P md ops ⟨In (Made w0), Makes, sp, al, N⟩ Q (n + 1) (o :: l) k a f := by
  refine rLexL_spec (isF F) hs hw (fun v j w w' _ _ _ hR h => hst v w w' h hR) (fun w hC hd => stepTo_call (hrun w) ?_) ?_
  · refine (hc w hC.out).mono ?_
    rintro e w' ⟨v, rfl, hF, hg⟩
    exact ⟨_, rfl, In.mk (gb_trans hC.out hg), hg, hF, fun e => by rw [hal] at e; cases e⟩
  · intro v w hC hv
    exact h v w hv
end LMisZ
end LMisZ
end Go.Proofs.YtiebljanpnadjaaGreat
