/- Mis -/
import Derived.OwnWalk
import Derived.Test.YtgaglgopbdfemaaGreatDoorTmBnd
import Derived.Test.YtgaglgopbdfemaaGreatDoorTmMem
import Derived.Test.YtgaglgopbdfemaaGreatDoorTmBase
namespace Go.Proofs.YtgaglgopbdfemaaGreatDoor
set_option linter.all false
section LMisA
section LMisA
open Go.RowKit Rg
structure Ph where
  x : Int
  y : Int
  z : Int
  e : Int
  l : Int
  n : Int
deriving Inhabited
structure Zn where
  f : Int
  t : Int
deriving Inhabited
def Ph.cells (a : Ph) : List Value := [.int .i64 a.x, .int .i64 a.y, .int .i64 a.z, .int .i64 a.e, .int .i64 a.l, .int .i64 a.n]
def Zn.cells (z : Zn) : List Value := [.int .i64 z.f, .int .i64 z.t]
def flatP (l : List Ph) : List Value := l.flatMap Ph.cells
def flatZ (l : List Zn) : List Value := l.flatMap Zn.cells
/-- v reads as a row of n elements of k cells each, whose cells are ys. -/
def SlC (k : Nat) (w : World) (v : Value) (n : Nat) (ys : List Value) : Prop :=
  ys.length = n * k ∧ ((n = 0 ∧ ∃ a cap, v = .slice a 0 cap) ∨
  ∃ b off cap, v = .slice (some ⟨b, off, none⟩) n cap ∧ b < w.heap.size ∧ n ≤ cap ∧ cap ≤ 9223372036854775807 ∧ ∀ j u, ys[j]? = some u → w.cell? ⟨b, off + j, none⟩ = some u)
theorem SlC.after {k n : Nat} {w w' : World} {v : Value} {ys : List Value} (h : SlC k w v n ys) (hg : w.grownBy w' none) : SlC k w' v n ys := by
  refine ⟨h.1, h.2.imp id ?_⟩
  rintro ⟨b, off, cap, e, hb, h1, h2, h3⟩
  exact ⟨b, off, cap, e, Nat.lt_of_lt_of_le hb hg.size, h1, h2, fun j u hj => (gb_cell hg hb (by simp)).trans (h3 j u hj)⟩
theorem SlC.draw {k n p : Nat} {w w' : World} {v : Value} {ys : List Value} (h : SlC k w v n ys) (hg : w.grownBy w' (some p)) (hp : ∀ b off len cap, v = .slice (some ⟨b, off, none⟩) len cap → 0 < len → b ≠ p) : SlC k w' v n ys := by
  refine ⟨h.1, ?_⟩
  rcases h.2 with h0 | ⟨b, off, cap, e, hb, h1, h2, h3⟩
  · exact .inl h0
  · by_cases hn : 0 < n
    · exact .inr ⟨b, off, cap, e, Nat.lt_of_lt_of_le hb hg.size, h1, h2, fun j u hj => (gb_cell hg hb (by simpa using hp _ _ _ _ e hn)).trans (h3 j u hj)⟩
    · exact .inl ⟨by omega, _, _, by rw [e, show n = 0 by omega]⟩
theorem SlC.slice {k n : Nat} {w : World} {v : Value} {ys : List Value} (h : SlC k w v n ys) : ∃ a c, v = .slice a n c := by
  rcases h.2 with ⟨rfl, a, c, rfl⟩ | ⟨b, off, cap, rfl, _⟩ <;> exact ⟨_, _, rfl⟩
theorem SlC.block {k n : Nat} {w : World} {v : Value} {ys : List Value} (h : SlC k w v n ys) (hn : 0 < n) : ∃ b off cap, v = .slice (some ⟨b, off, none⟩) n cap ∧ b < w.heap.size ∧ n ≤ cap ∧ cap ≤ 9223372036854775807 ∧ ∀ j u, ys[j]? = some u → w.cell? ⟨b, off + j, none⟩ = some u := by
  rcases h.2 with ⟨rfl, _⟩ | h
  · omega
  · exact h
theorem SlC.of_owns {w : World} {base : Nat} {E : TypeId} {k n : Nat} {v : Value} {ys : List Value} (h : w.ownsRow base E k v n ys) : SlC k w v n ys := by
  refine ⟨h.1, ?_⟩
  rcases h.2 with ⟨rfl, rfl⟩ | ⟨g, cap, cur, rfl, hb, hg, hle, hcap, _, _⟩
  · exact .inl ⟨rfl, _, _, rfl⟩
  · refine .inr ⟨g, 0, cap, rfl, (Array.getElem?_eq_some_iff.1 hg).1, hle, by unfold maxLen at hcap; exact hcap, fun j u hj => ?_⟩
    have := h.cells (g := g) rfl j u hj
    rw [← this]; congr 1
    unfold Addr.add; split <;> simp_all
theorem flatP_length (l : List Ph) : (flatP l).length = l.length * 6 := by
  induction l with
  | nil => rfl
  | cons a l ih => simp only [flatP, List.flatMap_cons, List.length_append] at *; rw [ih]; simp [Ph.cells]; omega
theorem flatZ_length (l : List Zn) : (flatZ l).length = l.length * 2 := by
  induction l with
  | nil => rfl
  | cons a l ih => simp only [flatZ, List.flatMap_cons, List.length_append] at *; rw [ih]; simp [Zn.cells]; omega
theorem flatP_at : ∀ (l : List Ph) (i : Nat) (h : i < l.length) (j : Nat), j < 6 → (flatP l)[i * 6 + j]? = (l[i]).cells[j]?
  | a :: l, 0, _, j, hj => by
    have e : flatP (a :: l) = a.cells ++ flatP l := by simp [flatP]
    rw [e, Nat.zero_mul, Nat.zero_add, List.getElem?_append_left (by simp [Ph.cells]; omega)]; rfl
  | a :: l, i + 1, h, j, hj => by
    have e : flatP (a :: l) = a.cells ++ flatP l := by simp [flatP]
    have hl : a.cells.length = 6 := rfl
    rw [e, List.getElem?_append_right (by rw [hl]; omega), hl, show (i + 1) * 6 + j - 6 = i * 6 + j by omega, flatP_at l i (by simpa using h) j hj]; rfl
theorem flatZ_at : ∀ (l : List Zn) (i : Nat) (h : i < l.length) (j : Nat), j < 2 → (flatZ l)[i * 2 + j]? = (l[i]).cells[j]?
  | a :: l, 0, _, j, hj => by
    have e : flatZ (a :: l) = a.cells ++ flatZ l := by simp [flatZ]
    rw [e, Nat.zero_mul, Nat.zero_add, List.getElem?_append_left (by simp [Zn.cells]; omega)]; rfl
  | a :: l, i + 1, h, j, hj => by
    have e : flatZ (a :: l) = a.cells ++ flatZ l := by simp [flatZ]
    have hl : a.cells.length = 2 := rfl
    rw [e, List.getElem?_append_right (by rw [hl]; omega), hl, show (i + 1) * 2 + j - 2 = i * 2 + j by omega, flatZ_at l i (by simpa using h) j hj]; rfl
/-- The cells of an element. -/
theorem SlC.ph {w : World} {b off : Nat} {l : List Ph} (h : ∀ j u, (flatP l)[j]? = some u → w.cell? ⟨b, off + j, none⟩ = some u) (i : Nat) (hi : i < l.length) :
    w.cell? ⟨b, off + i * 6, none⟩ = some (.int .i64 l[i].x) ∧ w.cell? ⟨b, off + i * 6 + 1, none⟩ = some (.int .i64 l[i].y) ∧ w.cell? ⟨b, off + i * 6 + 2, none⟩ = some (.int .i64 l[i].z) ∧ w.cell? ⟨b, off + i * 6 + 3, none⟩ = some (.int .i64 l[i].e) ∧ w.cell? ⟨b, off + i * 6 + 4, none⟩ = some (.int .i64 l[i].l) ∧ w.cell? ⟨b, off + i * 6 + 5, none⟩ = some (.int .i64 l[i].n) :=
  ⟨h (i * 6) _ (flatP_at l i hi 0 (by omega)), by rw [Nat.add_assoc]; exact h _ _ (flatP_at l i hi 1 (by omega)), by rw [Nat.add_assoc]; exact h _ _ (flatP_at l i hi 2 (by omega)), by rw [Nat.add_assoc]; exact h _ _ (flatP_at l i hi 3 (by omega)), by rw [Nat.add_assoc]; exact h _ _ (flatP_at l i hi 4 (by omega)), by rw [Nat.add_assoc]; exact h _ _ (flatP_at l i hi 5 (by omega))⟩
theorem SlC.zn {w : World} {b off : Nat} {l : List Zn} (h : ∀ j u, (flatZ l)[j]? = some u → w.cell? ⟨b, off + j, none⟩ = some u) (i : Nat) (hi : i < l.length) :
    w.cell? ⟨b, off + i * 2, none⟩ = some (.int .i64 l[i].f) ∧ w.cell? ⟨b, off + i * 2 + 1, none⟩ = some (.int .i64 l[i].t) :=
  ⟨h (i * 2) _ (flatZ_at l i hi 0 (by omega)), by rw [Nat.add_assoc]; exact h _ _ (flatZ_at l i hi 1 (by omega))⟩
/-- A problem: its region, its table, its phases, its cap. -/
structure Prob where
  x0 : Int
  y0 : Int
  z0 : Int
  x1 : Int
  y1 : Int
  z1 : Int
  step : Int
  ls : List Int
  hs : List Int
  phs : List Ph
  cap : Int
def Prob.val (P : Prob) (vl vh vp : Value) : Array Value := #[.int .i64 P.x0, .int .i64 P.y0, .int .i64 P.z0, .int .i64 P.x1, .int .i64 P.y1, .int .i64 P.z1, .int .i64 P.step, vl, vh, vp, .int .i64 P.cap]
/-- What a problem's value points at. -/
structure ProbIn (P : Prob) (vl vh vp : Value) (w : World) : Prop where
  l : Sl w vl P.ls
  h : Sl w vh P.hs
  p : SlC 6 w vp P.phs.length (flatP P.phs)
theorem ProbIn.after {P : Prob} {vl vh vp : Value} {w w' : World} (h : ProbIn P vl vh vp w) (hg : w.grownBy w' none) : ProbIn P vl vh vp w' := ⟨h.l.after hg, h.h.after hg, h.p.after hg⟩
/-- The distance of a time to a zone. -/
def resid (z : Zn) (t : Int) : Int := max (max (z.f - t) (t - z.t)) 0
theorem residual_any (z : Zn) (t : Int) (w : World) (h1 : -72057594037927936 ≤ z.f ∧ z.f ≤ 72057594037927936) (h2 : -72057594037927936 ≤ z.t ∧ z.t ≤ 72057594037927936) (h3 : -72057594037927936 ≤ t ∧ t ≤ 72057594037927936) :
    Calls Tryz.prog 242 #[.agg #[.int .i64 z.f, .int .i64 z.t], .int .i64 t] w fun e w' => e = .returned (.int .i64 (resid z t)) ∧ w.grownBy w' none := by
  obtain ⟨f, g⟩ := z
  simp only [] at h1 h2
  have HG := Lib.hid (gb_alloc (gb_refl w none) (.cells #[.int .i64 f, .int .i64 g] 168))
  go_enter Tryz.func242, Tryz.ntmps242
  go_wp2
  all_goals
    go_ret
    exact ⟨ret_int (by unfold resid; simp only []; omega), HG.out⟩
/-- One phase's part of the cost. -/
def term (cap : Int) (phs : List Ph) (zs : List Zn) (t : Int) (i : Nat) : Int := if i < zs.length then (phs[i]?.getD default).n * min cap (resid (zs[i]?.getD default) t) else 0
def costN (cap : Int) (phs : List Ph) (zs : List Zn) (t : Int) : Nat → Int
  | 0 => 0
  | k + 1 => costN cap phs zs t k + term cap phs zs t k
def cost (cap : Int) (phs : List Ph) (zs : List Zn) (t : Int) : Int := costN cap phs zs t phs.length
/-- Bounds under which no sum overflows. -/
def Tame (z : Zn) : Prop := (-72057594037927936 ≤ z.f ∧ z.f ≤ 72057594037927936) ∧ (-72057594037927936 ≤ z.t ∧ z.t ≤ 72057594037927936)
structure Fair (cap : Int) (phs : List Ph) (zs : List Zn) : Prop where
  cap : 0 ≤ cap ∧ cap ≤ 1099511627776
  few : phs.length ≤ 70
  wt : ∀ i, i < phs.length → 0 ≤ (phs[i]?.getD default).n ∧ (phs[i]?.getD default).n ≤ 100
  tame : ∀ i, i < zs.length → Tame (zs[i]?.getD default)
theorem resid_nn (z : Zn) (t : Int) : 0 ≤ resid z t := by unfold resid; omega
theorem Fair.term_in {cap : Int} {phs : List Ph} {zs : List Zn} (h : Fair cap phs zs) (t : Int) {i : Nat} (hi : i < phs.length) : 0 ≤ term cap phs zs t i ∧ term cap phs zs t i ≤ 109951162777600 := by
  unfold term; split
  · obtain ⟨w1, w2⟩ := h.wt i hi
    have r := resid_nn (zs[i]?.getD default) t
    have c := h.cap
    generalize (phs[i]?.getD default).n = n at *
    generalize resid (zs[i]?.getD default) t = q at *
    have m1 : 0 ≤ min cap q := by omega
    have m2 : min cap q ≤ 1099511627776 := by omega
    generalize min cap q = m at *
    have a := Int.mul_nonneg w1 m1
    have b := Int.mul_le_mul w2 m2 m1 (by omega)
    exact ⟨a, by omega⟩
  · omega
theorem Fair.costN_in {cap : Int} {phs : List Ph} {zs : List Zn} (h : Fair cap phs zs) (t : Int) : ∀ k, k ≤ phs.length → 0 ≤ costN cap phs zs t k ∧ costN cap phs zs t k ≤ 109951162777600 * k
  | 0, _ => by simp [costN]
  | k + 1, hk => by
    have a := Fair.costN_in h t k (by omega); have b := h.term_in t (i := k) (by omega)
    simp only [costN]
    push_cast
    omega
end LMisA
section LMisB
open Go.RowKit Rg
set_option maxRecDepth 100000 in
set_option maxHeartbeats 2000000 in
theorem cost_any (P : Prob) (vl vh vp vz : Value) (zs : List Zn) (t : Int) (w : World) (hp : SlC 6 w vp P.phs.length (flatP P.phs)) (hz : SlC 2 w vz zs.length (flatZ zs)) (hf : Fair P.cap P.phs zs) (ht : -72057594037927936 ≤ t ∧ t ≤ 72057594037927936) (hzl : zs.length ≤ 70) :
    Calls Tryz.prog 175 #[.agg (P.val vl vh vp), vz, .int .i64 t] w fun e w' => e = .returned (.int .i64 (cost P.cap P.phs zs t)) ∧ w.grownBy w' none := by
  obtain ⟨x0, y0, z0, x1, y1, z1, step, ls, hs, phs, cap⟩ := P
  simp only [Prob.val] at *
  have hg0 := gb_alloc (gb_refl w none) (.cells #[.int .i64 x0, .int .i64 y0, .int .i64 z0, .int .i64 x1, .int .i64 y1, .int .i64 z1, .int .i64 step, vl, vh, vp, .int .i64 cap] 33)
  have hT := heap_alloc_new w (.cells #[.int .i64 x0, .int .i64 y0, .int .i64 z0, .int .i64 x1, .int .i64 y1, .int .i64 z1, .int .i64 step, vl, vh, vp, .int .i64 cap] 33)
  have HP := Lib.hid (hp.after hg0); have HZ := Lib.hid (hz.after hg0); have HG0 := Lib.hid hg0; have HT := Lib.hid hT
  obtain ⟨pa, pc, rfl⟩ := hp.slice
  obtain ⟨za, zc, rfl⟩ := hz.slice
  clear hp hz hg0 hT
  have hfew := hf.few
  go_enter Tryz.func175, Tryz.ntmps175
  go_wp2_with fail
  generalize w.alloc (.cells #[.int .i64 x0, .int .i64 y0, .int .i64 z0, .int .i64 x1, .int .i64 y1, .int .i64 z1, .int .i64 step, vl, vh, .slice pa phs.length pc, .int .i64 cap] 33) = w1 at *
  generalize w.heap.size = q at *
  have HF := Lib.hid hf; clear hf
  go_loopw [7, 13] (fun s i wr => ∃ k : Nat, k ≤ phs.length ∧ i = .int .i64 k ∧ s = .int .i64 (costN cap phs zs t k) ∧ w1.grownBy wr none) (fun _ i _ => phs.length - (intOf i).toNat)
  case atStart => exact ⟨0, by omega, rfl, rfl, gb_refl _ _⟩
  case round =>
    obtain ⟨k, hk, rfl, rfl, hgr⟩ := hrel
    by_cases hlt : k < phs.length
    · obtain ⟨pb, poff, pcap, hpv, hpb, hpc, hpm, hpcell⟩ := (HP.out.after hgr).block (by omega)
      simp only [Value.slice.injEq, true_and] at hpv
      obtain ⟨rfl, rfl⟩ := hpv
      obtain ⟨c0, c1, c2, c3, c4, c5⟩ := SlC.ph hpcell k hlt
      have hin := HF.out.costN_in t k hk
      have htm := HF.out.term_in t hlt
      have hwt := HF.out.wt k hlt
      have hget : phs[k]?.getD default = phs[k] := by simp [hlt]
      rw [hget] at hwt
      have hsucc : Hid (costN cap phs zs t (k + 1) = costN cap phs zs t k + term cap phs zs t k) := Lib.hid rfl
      have HTM : Hid (term cap phs zs t k = if k < zs.length then phs[k].n * min cap (resid (zs[k]?.getD default) t) else 0) := Lib.hid (by unfold term; rw [hget])
      have HPC := Lib.hid hpcell
      clear hpcell hget
      generalize hph : phs[k] = ph at *
      obtain ⟨ax, ay, az, ae, al, an⟩ := ph
      clear hph
      simp only [] at c0 c1 c2 c3 c4 c5 hwt HTM
      have hT := block_kept hgr HT.out rfl
      have D0 := Lib.hid (heap_alloc_new wr (.cells #[.int .i64 ax, .int .i64 ay, .int .i64 az, .int .i64 ae, .int .i64 al, .int .i64 an] 39))
      have D1 := Lib.hid ((heap_alloc_old wr (.cells #[.int .i64 ax, .int .i64 ay, .int .i64 az, .int .i64 ae, .int .i64 al, .int .i64 an] 39) (block_lt' hT)).trans hT)
      have HGR := Lib.hid (gb_alloc hgr (.cells #[.int .i64 ax, .int .i64 ay, .int .i64 az, .int .i64 ae, .int .i64 al, .int .i64 an] 39))
      generalize costN cap phs zs t k = s at *
      generalize term cap phs zs t k = tm at *
      clear hgr hT
      by_cases hz : k < zs.length
      · have HZR := HZ.out.after HGR.out
        obtain ⟨zb, zoff, zcap, hzv, hzb, hzc, hzm, hzcell⟩ := HZR.block (by omega)
        simp only [Value.slice.injEq, true_and] at hzv
        obtain ⟨rfl, rfl⟩ := hzv
        obtain ⟨d0, d1⟩ := SlC.zn hzcell k hz
        obtain ⟨t1, t2⟩ := HF.out.tame k hz
        have hget : zs[k]?.getD default = zs[k] := by simp [hz]
        rw [hget] at t1 t2 HTM
        have HZC := Lib.hid hzcell
        clear hzcell hget HZR
        generalize hzk : zs[k] = zk at *
        have RS := Lib.hid (fun (u : World) => residual_any zk t u t1 t2 ht)
        have hm : tm = an * min cap (resid zk t) := by rw [HTM.out, if_pos hz]
        obtain ⟨zf, zt⟩ := zk
        simp only [] at d0 d1 RS
        clear hzk HTM t1 t2
        have rn := resid_nn ⟨zf, zt⟩ t
        generalize resid ⟨zf, zt⟩ t = rs at *
        have WM : Hid (wrap64 (an * min cap rs) = tm) := Lib.hid (by rw [← hm]; exact IntWalk.wrap64_in _ (by omega))
        have HM := Lib.hid hm; clear hm
        go_wp2_with fail
        generalize hw5 : wr.alloc (.cells #[.int .i64 ax, .int .i64 ay, .int .i64 az, .int .i64 ae, .int .i64 al, .int .i64 an] 39) = w5 at *
        clear hw5
        generalize wr.heap.size = pn at *
        have e5 : w5.cell? ⟨pn, 5, none⟩ = some (.int .i64 an) := by simp [World.cell?, D0.out]
        have e10 : w5.cell? ⟨q, 10, none⟩ = some (.int .i64 cap) := by simp [World.cell?, D1.out]
        have u1 := fun (x : Up w5) (c : Nat) => ever_cell x (b := pn) (o := c) (block_lt' D0.out)
        have u2 := fun (x : Up w5) (c : Nat) => ever_cell x (b := q) (o := c) (block_lt' D1.out)
        have u3 := fun (x : Up w5) (c : Nat) => ever_cell x (b := zb) (o := c) hzb
        clear c0 c1 c2 c3 c4 c5
        (refine wp_region_grown (by kernel_rfl) (by kernel_rfl) ?_; (repeat (go_big_quiet_step (first
          | (go_at_call 242; exact Calls.grown_of (RS _))))); refine wpQuiet_nil ?_; intro wq hq)
        have HGN := Lib.hid (gb_trans HGR.out hq)
        clear u1 u2 u3 e5 e10
        go_wp2_with fail
        go_roundw
        case rel => exact ⟨k + 1, by omega, by go_num, congrArg (Value.int .i64) (by rw [hsucc.out, WM.out]; exact IntWalk.wrap64_in _ (by omega)), HGN.out⟩
        case measure => simp [intOf]; omega
      · have h0 : tm = 0 := by rw [HTM.out, if_neg hz]
        go_wp2_with fail
        go_roundw
        case rel => exact ⟨k + 1, by omega, by go_num, by rw [hsucc.out, h0]; simp, HGR.out⟩
        case measure => simp [intOf]; omega
    · obtain rfl : k = phs.length := by omega
      have HGE := Lib.hid (gb_trans HG0.out hgr)
      go_wp2
      go_ret
      exact ⟨rfl, HGE.out⟩
/-- The times of a list of zones, in order. -/
def timesOf (zs : List Zn) : List Int := zs.flatMap fun z => [z.f, z.t]
/-- The better one of two times. -/
def better (cap : Int) (phs : List Ph) (zs : List Zn) (b : Int × Int) (t : Int) : Int × Int :=
  if cost cap phs zs t < b.2 ∨ (cost cap phs zs t = b.2 ∧ t < b.1) then (t, cost cap phs zs t) else b
def bestOf (cap : Int) (phs : List Ph) (zs : List Zn) : List Int → Int × Int
  | [] => (0, 0)
  | t :: ts => ts.foldl (better cap phs zs) (t, cost cap phs zs t)
def best (cap : Int) (phs : List Ph) (zs : List Zn) : Int × Int := bestOf cap phs zs (timesOf zs)
theorem timesOf_length (zs : List Zn) : (timesOf zs).length = 2 * zs.length := by
  induction zs with
  | nil => rfl
  | cons z zs ih => simp only [timesOf, List.flatMap_cons, List.length_append, List.length_cons] at *; rw [ih]; simp; omega
theorem timesOf_take (zs : List Zn) (k : Nat) (h : k < zs.length) : timesOf (zs.take (k + 1)) = timesOf (zs.take k) ++ [zs[k].f, zs[k].t] := by
  unfold timesOf
  rw [List.take_succ_eq_append_getElem h, List.flatMap_append]; rfl
theorem mem_timesOf {zs : List Zn} {t : Int} : t ∈ timesOf zs ↔ ∃ z ∈ zs, t = z.f ∨ t = z.t := by
  simp [timesOf]
end LMisB
section LMisC
open Go.RowKit Rg
/-- append(s, x1, .., xm), the new elements in a block of their own. -/
theorem wpList_pushes {P : Program} {w : World} {ops : Array Oper} {rest : List Oper} {o : Oper} {a : Act} {Q : Exit → Act → World → Prop} (hgd : o.guard = none) (s x : Operand) (t : TypeId)
    (ho : o.op = .call { callee := .builtin .append, args := #[s, x], argTypes := #[t, t] })
    (base : Nat) (e : TypeId) (z : Value) (size bytes : Nat) (ht : P.underlying t = some (.slice e)) (hinfo : (P.info? e).map (fun i => (i.zero, i.size, i.bytes)) = some (some z, size, bytes)) (hzs : z.cells.size = size) (hsz : 0 < size) (hby : 0 < bytes)
    (v : Value) (n : Nat) (xs : List Value) (hs : a.eval s = v) (hown : w.ownsRow base e size v n xs)
    (b m c : Nat) (news : List Value) (e' : TypeId) (hx : a.eval x = .slice (some ⟨b, 0, none⟩) m c) (hblk : w.heap[b]? = some (.cells news.toArray e' (0, 0))) (hl : news.length = m * size) (h1 : ∀ u ∈ news, u.oneCell' = true)
    (hbytes : (n + m) * bytes ≤ 140737488355328) (hbase : base ≤ w.heap.size)
    (h : ∀ v' w', w'.ownsRow base e size v' (n + m) (xs ++ news) → w.grownBy w' v.ownBlock → wpList P ops Q rest (a.put o.dst v') w') : wpList P ops Q (o :: rest) a w := by
  obtain ⟨i0, hi, hz0, hz1, hz2⟩ := info_parts hinfo
  refine wpList_append_own w hgd s x t ho base e i0 z size bytes ht hi hz0 hz1 hz2 hzs hsz v n xs hs hown ⟨b, 0, none⟩ m c news hx hl ?_ h1 ?_ hbytes hbase (fun v' w' h2 h3 _ => h v' w' h2 h3)
  · intro j u hj
    have hadd : (⟨b, 0, none⟩ : Addr).add j = ⟨b, j, none⟩ := by unfold Addr.add; split <;> simp_all
    rw [hadd]
    simp [World.cell?, hblk]
    exact hj
  · have := Nat.le_mul_of_pos_right (n + m) hby
    unfold maxLen; omega
/-- make([]T, 0, n). -/
theorem wpList_makes {P : Program} {w : World} {ops : Array Oper} {rest : List Oper} {o : Oper} {a : Act} {Q : Exit → Act → World → Prop} (hg : o.guard = none) (l c : Operand) (t : TypeId) (hop : o.op = Op.makeSlice t l c)
    (base : Nat) (e : TypeId) (z : Value) (size bytes : Nat) (h1 : P.underlying t = some (.slice e)) (hinfo : (P.info? e).map (fun i => (i.zero, i.size, i.bytes)) = some (some z, size, bytes))
    (C : Int) (n : Nat) (hl : a.eval l = .int .i64 0) (hc : a.eval c = .int .i64 C) (hC : C = (n : Int)) (b2 : bytes * n ≤ 140737488355328) (b3 : n ≤ 1000000) (b4 : base ≤ w.heap.size)
    (hK : ∀ w', w'.ownsRow base e size (.slice (some ⟨w.heap.size, 0, none⟩) 0 n) 0 [] → w.grownBy w' none → wpList P ops Q rest (a.put o.dst (.slice (some ⟨w.heap.size, 0, none⟩) 0 n)) w') :
    wpList P ops Q (o :: rest) a w := by
  obtain ⟨i0, hi, hz0, hz1, hz2⟩ := info_parts hinfo
  subst hz2
  exact wpList_make_own w hg l c t hop base e i0 z size h1 hi hz0 hz1 .i64 .i64 C n hl hc hC (by omega) (by unfold maxLen; omega) b4 hK
theorem owns_ints {w : World} {base : Nat} {E : TypeId} {g n cap : Nat} {xs : List Int} (h : w.ownsRow base E 1 (.slice (some ⟨g, 0, none⟩) n cap) n (xs.map (Value.int .i64))) (j : Nat) (hj : j < xs.length) : w.cell? ⟨g, j, none⟩ = some (.int .i64 (xs[j]?.getD 0)) := by
  have := h.cells (g := g) rfl j (.int .i64 (xs[j]?.getD 0)) (by simp [List.getElem?_map, List.getElem?_eq_getElem hj])
  rw [← this]; congr 1
  unfold Addr.add; split <;> simp_all
/-- Times of zones that are tame. -/
theorem timesOf_at {zs : List Zn} (h : ∀ i, i < zs.length → Tame (zs[i]?.getD default)) {t : Int} (ht : t ∈ timesOf zs) : -72057594037927936 ≤ t ∧ t ≤ 72057594037927936 := by
  obtain ⟨z, hz, e⟩ := mem_timesOf.1 ht
  obtain ⟨i, hi, rfl⟩ := List.getElem_of_mem hz
  have hh := h i hi
  rw [show zs[i]?.getD default = zs[i] by simp [hi]] at hh
  rcases e with rfl | rfl
  · exact hh.1
  · exact hh.2
set_option maxRecDepth 100000 in
set_option maxHeartbeats 2000000 in
theorem best_any (P : Prob) (vl vh vp vz : Value) (zs : List Zn) (w : World) (hp : SlC 6 w vp P.phs.length (flatP P.phs)) (hz : SlC 2 w vz zs.length (flatZ zs)) (hf : Fair P.cap P.phs zs) (hzl : zs.length ≤ 70) (h0 : 0 < zs.length) (ol : vl.oneCell' = true) (oh : vh.oneCell' = true) :
    Calls Tryz.prog 106 #[.agg (P.val vl vh vp), vz] w fun e w' => e = .returned (.tuple #[.int .i64 (best P.cap P.phs zs).1, .int .i64 (best P.cap P.phs zs).2]) ∧ w.grownBy w' none := by
  have hg0 := gb_alloc (gb_refl w none) (.cells (P.val vl vh vp) 33)
  have hT := heap_alloc_new w (.cells (P.val vl vh vp) 33)
  have HP := Lib.hid (hp.after hg0); have HZ := Lib.hid (hz.after hg0); have HG0 := Lib.hid hg0; have HT := Lib.hid hT
  obtain ⟨zb, zoff, zcap, rfl, hzb, -⟩ := hz.block h0
  clear hp hz hg0 hT
  have HF := Lib.hid hf
  have hfew := hf.few
  clear hf
  obtain ⟨x0, y0, z0, x1, y1, z1, step, ls, hs, phs, cap⟩ := P
  simp only [Prob.val] at *
  go_enter Tryz.func106, Tryz.ntmps106
  have HQ : Hid (w.heap.size < (w.alloc (.cells #[.int .i64 x0, .int .i64 y0, .int .i64 z0, .int .i64 x1, .int .i64 y1, .int .i64 z1, .int .i64 step, vl, vh, vp, .int .i64 cap] 33)).heap.size) := Lib.hid (by simp)
  go_wp2_with (with_reducible refine wpList_makes rfl _ _ _ rfl (w.heap.size + 1) 3 (.int .i64 0) 1 8 Tryz.underlying22 Tryz.infoIntT _ (2 * zs.length) rfl rfl (by push_cast; rfl) (by omega) (by omega) (by simp) ?_; intro w2 hown hg2)
  have HOWN := Lib.hid hown; have HGW := Lib.hid hg2; clear hown hg2
  have HG0' := HG0
  generalize hw1 : w.alloc (.cells #[.int .i64 x0, .int .i64 y0, .int .i64 z0, .int .i64 x1, .int .i64 y1, .int .i64 z1, .int .i64 step, vl, vh, vp, .int .i64 cap] 33) = w1 at *
  have hsz1 : w1.heap.size = w.heap.size + 1 := by rw [← hw1]; simp
  clear hw1
  have HSZ := Lib.hid hsz1; clear hsz1
  go_loopw [6, 20] (fun v i wr => ∃ k : Nat, k ≤ zs.length ∧ i = .int .i64 k ∧ wr.ownsRow (w.heap.size + 1) 3 1 v (2 * k) ((timesOf (zs.take k)).map (Value.int .i64)) ∧ w1.grownBy wr none) (fun _ i _ => zs.length - (intOf i).toNat)
  case atStart => exact ⟨0, by omega, rfl, by have := HOWN.out; rw [HSZ.out] at this; simpa [timesOf] using this, HGW.out⟩
  case round =>
    obtain ⟨k, hk, rfl, hown, hgr⟩ := hrel
    by_cases hlt : k < zs.length
    · obtain ⟨zb', zoff', zcap', hzv, hzb', hzc, hzm, hzcell⟩ := (HZ.out.after hgr).block h0
      simp only [Value.slice.injEq, Option.some.injEq, Addr.mk.injEq, true_and, and_true] at hzv
      obtain ⟨⟨rfl, rfl⟩, rfl⟩ := hzv
      obtain ⟨d0, d1⟩ := SlC.zn hzcell k hlt
      have HTK := Lib.hid (timesOf_take zs k hlt)
      clear hzcell
      generalize hzk : zs[k] = zk at *
      obtain ⟨zf, zt⟩ := zk
      simp only [] at d0 d1 HTK
      clear hzk
      have hgs := hgr.size
      have hws := HSZ.out
      have hlen : (timesOf (zs.take k)).length = 2 * k := by rw [timesOf_length]; simp; omega
      have PUSH := Lib.hid (fun (v' : Value) (u : World) (h : u.ownsRow (w.heap.size + 1) 3 1 v' (2 * k + 2) ((timesOf (zs.take k)).map (Value.int .i64) ++ [.int .i64 zf, .int .i64 zt])) (hg : ((wr.alloc (.cells #[.int .i64 zf, .int .i64 zt] 168)).alloc (.cells #[.int .i64 zf, .int .i64 zt] 3)).grownBy u (u6).ownBlock) =>
        show u.ownsRow (w.heap.size + 1) 3 1 v' (2 * (k + 1)) ((timesOf (zs.take (k + 1))).map (Value.int .i64)) ∧ w1.grownBy u none from
          ⟨by rw [HTK.out, List.map_append]; exact h, gb_new (gb_alloc (gb_alloc hgr _) _) hg (fun q hq => by have := (hown.lt q hq).1; omega)⟩)
      have HOW := Lib.hid hown
      clear hown
      go_wp2_with (at_builtin; refine wpList_pushes rfl _ _ 22 rfl (w.heap.size + 1) 3 (.int .i64 0) 1 8 Tryz.underlying22 Tryz.infoIntT rfl (by decide) (by decide) _ _ _ rfl ((HOW.out.alloc _).alloc _) (wr.heap.size + 1) 2 2 [.int .i64 zf, .int .i64 zt] 3 rfl (by simpa using heap_alloc_new (wr.alloc _) _) rfl (by simp [Value.oneCell']) (by omega) (by simp; omega) ?_; intro v' w3 hown' hg')
      have HN := Lib.hid (PUSH.out v' w3 hown' hg')
      clear hown' hg' PUSH HOW
      go_roundw
      case rel => exact ⟨k + 1, by omega, by go_num, HN.out.1, HN.out.2⟩
      case measure => simp [intOf]; omega
    · obtain rfl : k = zs.length := by omega
      rw [List.take_length] at hown
      have hTB := fun t ht => timesOf_at HF.out.tame (t := t) ht
      have hTL := timesOf_length zs
      obtain ⟨g, tcap, rfl, hgB, hgl, hle, hcapm, hcell⟩ := owns_at hown (by omega)
      have HBEST : Hid (best cap phs zs = bestOf cap phs zs (timesOf zs)) := Lib.hid rfl
      generalize timesOf zs = T at *
      obtain ⟨t0, ts, rfl⟩ : ∃ t0 ts, T = t0 :: ts := by
        cases T with
        | nil => simp at hTL; omega
        | cons a b => exact ⟨a, b, rfl⟩
      simp only [List.length_cons] at hTL
      have hlen : 2 * zs.length = ts.length + 1 := by omega
      have hcc := fun j (hj : j < ts.length + 1) => owns_ints hown j (by simpa using hj)
      rw [hlen] at hle ⊢
      have HCC := Lib.hid hcc; have HTB := Lib.hid hTB
      have c0 : wr.cell? ⟨g, 0, none⟩ = some (.int .i64 t0) := by have := hcc 0 (by omega); simpa using this
      clear hcell hown hcc hTB hTL
      have hT := block_kept hgr HT.out rfl
      have COST := Lib.hid (fun (t : Int) (ht : t ∈ t0 :: ts) (u : World) (hu : w1.grownBy u none) => cost_any ⟨x0, y0, z0, x1, y1, z1, step, ls, hs, phs, cap⟩ vl vh vp (.slice (some ⟨zb, zoff, none⟩) zs.length zcap) zs t u (HP.out.after hu) (HZ.out.after hu) HF.out (HTB.out t ht) hzl)
      simp only [Prob.val] at COST
      have CE := Lib.hid (fun (x : Up wr) (c : Nat) => ever_cell x (b := w.heap.size) (o := c) (block_lt' hT))
      have e_ := fun (c : Nat) (v : Value) (h : (#[.int .i64 x0, .int .i64 y0, .int .i64 z0, .int .i64 x1, .int .i64 y1, .int .i64 z1, .int .i64 step, vl, vh, vp, .int .i64 cap] : Array Value)[c]? = some v) => (show wr.cell? ⟨w.heap.size, c, none⟩ = some v by simpa [World.cell?, hT] using h)
      have e0 := e_ 0 _ rfl; have e1 := e_ 1 _ rfl; have e2 := e_ 2 _ rfl; have e3 := e_ 3 _ rfl; have e4 := e_ 4 _ rfl; have e5 := e_ 5 _ rfl; have e6 := e_ 6 _ rfl; have e7 := e_ 7 _ rfl; have e8 := e_ 8 _ rfl; have e9 := e_ 9 _ rfl; have e10 := e_ 10 _ rfl
      clear e_
      have hne0 : ((ts.length : Int) + 1 == 0) = false := by rw [beq_eq_false_iff_ne]; omega
      have u1 := CE.out
      have u2 := fun (x : Up wr) (c : Nat) => ever_cell x (b := g) (o := c) hgl
      go_wp2_with fail
      (refine wp_region_grown (by kernel_rfl) (by kernel_rfl) ?_; (repeat (go_big_quiet_step (first
        | (go_at_call 175; exact Calls.grown_of (COST.out t0 (by simp) _ (gb_trans hgr (ever_up _))))))); refine wpQuiet_nil ?_; intro wq hq)
      have HGQ := Lib.hid (gb_trans hgr hq)
      have CQ := Lib.hid (fun j hj => (gb_cell hq hgl (by simp)).trans (HCC.out j hj))
      have hTq := block_kept hq hT rfl
      have hglq := Nat.lt_of_lt_of_le hgl hq.size
      clear u1 u2 e0 e1 e2 e3 e4 e5 e6 e7 e8 e9 e10 CE HCC c0 hT hgr hq hgl
      have HTQ := Lib.hid hTq; clear hTq
      go_wp2_with fail
      go_loopw [9, 10, 47] (fun bt bc i wr => ∃ k : Nat, k ≤ ts.length ∧ i = .int .i64 k ∧ bt = .int .i64 ((ts.take k).foldl (better cap phs zs) (t0, cost cap phs zs t0)).1 ∧ bc = .int .i64 ((ts.take k).foldl (better cap phs zs) (t0, cost cap phs zs t0)).2 ∧ wq.grownBy wr none) (fun _ _ i _ => ts.length - (intOf i).toNat)
      case atStart => exact ⟨0, by omega, rfl, rfl, rfl, gb_refl _ _⟩
      case round =>
        obtain ⟨k, hk, rfl, rfl, rfl, hgr⟩ := hrel
        by_cases hlt : k < ts.length
        · have ck : wr.cell? ⟨g, 1 + k, none⟩ = some (.int .i64 ts[k]) := by
            have := (gb_cell hgr hglq (o := 1 + k) (by simp)).trans (CQ.out (1 + k) (by omega))
            rw [this, show (t0 :: ts)[1 + k]? = ts[k]? by rw [Nat.add_comm]; rfl]; simp [hlt]
          have hmem : ts[k] ∈ t0 :: ts := List.mem_cons_of_mem _ (List.getElem_mem hlt)
          have HFOLD : Hid ((ts.take (k + 1)).foldl (better cap phs zs) (t0, cost cap phs zs t0) = better cap phs zs ((ts.take k).foldl (better cap phs zs) (t0, cost cap phs zs t0)) ts[k]) := Lib.hid (by
            rw [List.take_succ_eq_append_getElem hlt, List.foldl_append]; rfl)
          generalize (ts.take k).foldl (better cap phs zs) (t0, cost cap phs zs t0) = bb at *
          obtain ⟨bt, bc⟩ := bb
          have hT := block_kept hgr HTQ.out rfl
          have e_ := fun (c : Nat) (v : Value) (h : (#[.int .i64 x0, .int .i64 y0, .int .i64 z0, .int .i64 x1, .int .i64 y1, .int .i64 z1, .int .i64 step, vl, vh, vp, .int .i64 cap] : Array Value)[c]? = some v) => (show wr.cell? ⟨w.heap.size, c, none⟩ = some v by simpa [World.cell?, hT] using h)
          have e0 := e_ 0 _ rfl; have e1 := e_ 1 _ rfl; have e2 := e_ 2 _ rfl; have e3 := e_ 3 _ rfl; have e4 := e_ 4 _ rfl; have e5 := e_ 5 _ rfl; have e6 := e_ 6 _ rfl; have e7 := e_ 7 _ rfl; have e8 := e_ 8 _ rfl; have e9 := e_ 9 _ rfl; have e10 := e_ 10 _ rfl
          have CK := Lib.hid (COST.out ts[k] hmem wr (gb_trans HGQ.out hgr))
          generalize ts[k] = tk at *
          have HGR := Lib.hid hgr
          clear e_ hT hgr hmem
          simp only []
          go_wp2_with fail
          (with_reducible refine CK.out.mono ?_)
          rintro e w7 ⟨rfl, hg7⟩
          have HN := Lib.hid (gb_trans HGR.out hg7)
          have HBT : Hid (better cap phs zs (bt, bc) tk = if cost cap phs zs tk < bc ∨ (cost cap phs zs tk = bc ∧ tk < bt) then (tk, cost cap phs zs tk) else (bt, bc)) := Lib.hid rfl
          clear CK hg7 e0 e1 e2 e3 e4 e5 e6 e7 e8 e9 e10 ck
          generalize better cap phs zs (bt, bc) tk = nb at *
          generalize cost cap phs zs tk = ck at *
          by_cases c1 : ck < bc
          · have HB2 := Lib.hid (HBT.out.trans (if_pos (.inl c1)))
            go_wp2_with fail
            go_roundw
            case rel => exact ⟨k + 1, by omega, by go_num, by (rw [HFOLD.out, HB2.out]; first | done | (simp; omega)), by (rw [HFOLD.out, HB2.out]; first | done | (simp; omega)), HN.out⟩
            case measure => simp [intOf]; omega
          · by_cases c2 : ck = bc
            · by_cases c3 : tk < bt
              · have HB2 := Lib.hid (HBT.out.trans (if_pos (.inr ⟨c2, c3⟩)))
                go_wp2_with fail
                go_roundw
                case rel => exact ⟨k + 1, by omega, by go_num, by (rw [HFOLD.out, HB2.out]; first | done | (simp; omega)), by (rw [HFOLD.out, HB2.out]; first | done | (simp; omega)), HN.out⟩
                case measure => simp [intOf]; omega
              · have HB2 := Lib.hid (HBT.out.trans (if_neg (by omega)))
                go_wp2_with fail
                go_roundw
                case rel => exact ⟨k + 1, by omega, by go_num, by (rw [HFOLD.out, HB2.out]; first | done | (simp; omega)), by (rw [HFOLD.out, HB2.out]; first | done | (simp; omega)), HN.out⟩
                case measure => simp [intOf]; omega
            · have HB2 := Lib.hid (HBT.out.trans (if_neg (by omega)))
              have c4 : (ck == bc) = false := by simpa using c2
              go_wp2_with fail
              go_roundw
              case rel => exact ⟨k + 1, by omega, by go_num, by (rw [HFOLD.out, HB2.out]; first | done | (simp; omega)), by (rw [HFOLD.out, HB2.out]; first | done | (simp; omega)), HN.out⟩
              case measure => simp [intOf]; omega
        · obtain rfl : k = ts.length := by omega
          rw [List.take_length]
          have HGE := Lib.hid (gb_trans HG0.out (gb_trans HGQ.out hgr))
          have HV : Hid (best cap phs zs = ts.foldl (better cap phs zs) (t0, cost cap phs zs t0)) := HBEST
          generalize ts.foldl (better cap phs zs) (t0, cost cap phs zs t0) = bb at *
          obtain ⟨bt, bc⟩ := bb
          simp only []
          go_wp2_with fail
          exact bodyPost_ret (v := .tuple #[.int .i64 bt, .int .i64 bc]) (by simp [results, Tryz.results106, go_sem]) rfl ⟨by rw [HV.out], HGE.out⟩
end LMisC
end LMisA
section LMisD
section LMisD
open Go.RowKit Rg
theorem cell_of {u : World} {b : Nat} {cs : Array Value} {T : TypeId} {fr : Nat × Nat} (h : u.heap[b]? = some (.cells cs T fr)) (k : Nat) (v : Value) (hk : cs[k]? = some v) : u.cell? ⟨b, k, none⟩ = some v := by simpa [World.cell?, h] using hk
/-- The first error of a list of phases. -/
def errOf (g : Ph → Int) : List Ph → Int
  | [] => 0
  | a :: l => if g a = 0 then errOf g l else g a
theorem errOf_zero {g : Ph → Int} : ∀ {l : List Ph}, errOf g l = 0 ↔ ∀ a ∈ l, g a = 0
  | [] => by simp [errOf]
  | a :: l => by
    unfold errOf
    split
    · rename_i h; rw [errOf_zero (l := l)]; simp [h]
    · rename_i h; simp [h]
theorem errOf_first {g : Ph → Int} : ∀ (l : List Ph) (k : Nat) (hk : k < l.length), (∀ a ∈ l.take k, g a = 0) → g l[k] ≠ 0 → errOf g l = g l[k]
  | a :: l, 0, _, _, h => by unfold errOf; exact if_neg h
  | a :: l, k + 1, hk, h0, h => by
    unfold errOf
    rw [if_pos (h0 a (by simp))]
    exact errOf_first l k (by simpa using hk) (fun b hb => h0 b (by simp [hb])) h
def zoneOf (step : Int) (ls hs : List Int) (b0 b1 b2 b3 b4 b5 : Int) (a : Ph) : Zn := ⟨znF step ls hs b0 b1 b2 b3 b4 b5 a.x a.y a.z a.e a.l a.n, znT step ls hs b0 b1 b2 b3 b4 b5 a.x a.y a.z a.e a.l a.n⟩
def zoneE (step : Int) (ls hs : List Int) (b0 b1 b2 b3 b4 b5 : Int) (a : Ph) : Int := znE step ls hs b0 b1 b2 b3 b4 b5 a.x a.y a.z a.e a.l a.n
theorem znV_is (step : Int) (ls hs : List Int) (b0 b1 b2 b3 b4 b5 : Int) (a : Ph) : znV step ls hs b0 b1 b2 b3 b4 b5 a.x a.y a.z a.e a.l a.n = .tuple #[.agg #[.int .i64 (zoneOf step ls hs b0 b1 b2 b3 b4 b5 a).f, .int .i64 (zoneOf step ls hs b0 b1 b2 b3 b4 b5 a).t], .int .i64 (zoneE step ls hs b0 b1 b2 b3 b4 b5 a)] := rfl
/-- What zones returns. -/
def Zoned (w : World) (E : Int) (zs : List Zn) (e : Ending) (w' : World) : Prop :=
  (E = 0 ∧ ∃ v, e = .returned (.tuple #[v, .int .i64 0]) ∧ SlC 2 w' v zs.length (flatZ zs) ∧ (∀ b off len cap, v = .slice (some ⟨b, off, none⟩) len cap → w.heap.size ≤ b) ∧ w.grownBy w' none) ∨
  (E ≠ 0 ∧ e = .returned (.tuple #[.slice none 0 0, .int .i64 E]) ∧ w.grownBy w' none)
theorem Tryz.infoZoneT : (Tryz.prog.info? 168).map (fun i => (i.zero, i.size, i.bytes)) = some (some (.agg #[.int .i64 0, .int .i64 0]), 2, 16) := by kernel_rfl
set_option maxRecDepth 100000 in
set_option maxHeartbeats 2000000 in
theorem zones_any (P : Prob) (vl vh vp : Value) (b0 b1 b2 b3 b4 b5 : Int) (w : World) (hi : ProbIn P vl vh vp w) (hfew : P.phs.length ≤ 100) :
    Calls Tryz.prog 174 #[.agg (P.val vl vh vp), .agg #[.int .i64 b0, .int .i64 b1, .int .i64 b2, .int .i64 b3, .int .i64 b4, .int .i64 b5]] w (Zoned w (errOf (zoneE P.step P.ls P.hs b0 b1 b2 b3 b4 b5) P.phs) (P.phs.map (zoneOf P.step P.ls P.hs b0 b1 b2 b3 b4 b5))) := by
  have hg0 := gb_alloc (gb_alloc (gb_refl w none) (.cells (P.val vl vh vp) 33)) (.cells #[.int .i64 b0, .int .i64 b1, .int .i64 b2, .int .i64 b3, .int .i64 b4, .int .i64 b5] 28)
  have hT : ((w.alloc (.cells (P.val vl vh vp) 33)).alloc (.cells #[.int .i64 b0, .int .i64 b1, .int .i64 b2, .int .i64 b3, .int .i64 b4, .int .i64 b5] 28)).heap[w.heap.size]? = some (.cells (P.val vl vh vp) 33 (0, 0)) := by rw [heap_alloc_old _ _ (by simp), heap_alloc_new]
  have hB : ((w.alloc (.cells (P.val vl vh vp) 33)).alloc (.cells #[.int .i64 b0, .int .i64 b1, .int .i64 b2, .int .i64 b3, .int .i64 b4, .int .i64 b5] 28)).heap[w.heap.size + 1]? = some (.cells #[.int .i64 b0, .int .i64 b1, .int .i64 b2, .int .i64 b3, .int .i64 b4, .int .i64 b5] 28 (0, 0)) := by simpa using heap_alloc_new (w.alloc _) _
  have HSZ : Hid (((w.alloc (.cells (P.val vl vh vp) 33)).alloc (.cells #[.int .i64 b0, .int .i64 b1, .int .i64 b2, .int .i64 b3, .int .i64 b4, .int .i64 b5] 28)).heap.size = w.heap.size + 2) := Lib.hid (by simp)
  have HI := Lib.hid (hi.after hg0); have HG0 := Lib.hid hg0; have HT := Lib.hid hT; have HB := Lib.hid hB
  obtain ⟨pa, pc, rfl⟩ := hi.p.slice
  obtain ⟨la, ln, lc, rfl⟩ := sl_slice hi.l
  obtain ⟨ha, hn, hc, rfl⟩ := sl_slice hi.h
  clear hi hg0 hT hB
  obtain ⟨x0, y0, z0, x1, y1, z1, step, ls, hs, phs, cap⟩ := P
  simp only [Prob.val] at *
  go_enter Tryz.func174, Tryz.ntmps174
  have hfe : (phs.length : Int) ≤ 100 := by omega
  have HC9 := Lib.hid (cell_of HT.out 9 _ rfl)
  go_wp2_with (with_reducible refine wpList_makes rfl _ _ _ rfl (w.heap.size + 2) 168 (.agg #[.int .i64 0, .int .i64 0]) 2 16 Tryz.underlying238 Tryz.infoZoneT _ phs.length rfl rfl rfl (by omega) (by omega) (by simp) ?_; intro w2 hown hg2; have hc9 := (gb_cell hg2 (b := w.heap.size) (o := 9) (by simp; omega) (by simp)).trans HC9.out)
  have HOWN := Lib.hid hown; have HGW := Lib.hid hg2; clear hown hg2 hc9 HC9
  generalize (w.alloc (.cells #[.int .i64 x0, .int .i64 y0, .int .i64 z0, .int .i64 x1, .int .i64 y1, .int .i64 z1, .int .i64 step, .slice la ln lc, .slice ha hn hc, .slice pa phs.length pc, .int .i64 cap] 33)).alloc (.cells #[.int .i64 b0, .int .i64 b1, .int .i64 b2, .int .i64 b3, .int .i64 b4, .int .i64 b5] 28) = w1 at *
  have HOWN := Lib.hid (HSZ.out ▸ HOWN.out)
  have HZ1 := Lib.hid (fun a => znV_is step ls hs b0 b1 b2 b3 b4 b5 a)
  generalize hzo : zoneOf step ls hs b0 b1 b2 b3 b4 b5 = zo at *
  generalize hze : zoneE step ls hs b0 b1 b2 b3 b4 b5 = ze at *
  go_loopw [6, 18] (fun v i wr => ∃ k : Nat, k ≤ phs.length ∧ i = .int .i64 k ∧ wr.ownsRow (w.heap.size + 2) 168 2 v k (flatZ ((phs.take k).map zo)) ∧ (∀ a ∈ phs.take k, ze a = 0) ∧ w1.grownBy wr none) (fun _ i _ => phs.length - (intOf i).toNat)
  case atStart => exact ⟨0, by omega, rfl, HOWN.out, by simp, HGW.out⟩
  case round =>
    obtain ⟨k, hk, rfl, hown, hzero, hgr⟩ := hrel
    have HOW := Lib.hid hown; have HZE := Lib.hid hzero; clear hown hzero
    by_cases hlt : k < phs.length
    · obtain ⟨pb, poff, pcap, hpv, hpb, hpc, hpm, hpcell⟩ := (HI.out.after hgr).p.block (by show 0 < phs.length; omega)
      simp only [Value.slice.injEq, true_and] at hpv
      obtain ⟨rfl, rfl⟩ := hpv
      obtain ⟨c0, c1, c2, c3, c4, c5⟩ := SlC.ph hpcell k hlt
      have HTK : Hid (phs.take (k + 1) = phs.take k ++ [phs[k]]) := Lib.hid (List.take_succ_eq_append_getElem hlt)
      have HFST := Lib.hid (errOf_first (g := ze) phs k hlt HZE.out)
      clear hpcell
      generalize hph : phs[k] = ph at *
      have HV := Lib.hid (HZ1.out ph)
      clear hph
      have hT := block_kept hgr HT.out rfl; have hB := block_kept hgr HB.out rfl
      have HIR := Lib.hid ((HI.out.after hgr).after (gb_alloc (gb_refl wr _) (.cells #[.int .i64 ph.x, .int .i64 ph.y, .int .i64 ph.z, .int .i64 ph.e, .int .i64 ph.l, .int .i64 ph.n] 39)))
      have D0 := Lib.hid (heap_alloc_new wr (.cells #[.int .i64 ph.x, .int .i64 ph.y, .int .i64 ph.z, .int .i64 ph.e, .int .i64 ph.l, .int .i64 ph.n] 39))
      have D1 := Lib.hid ((heap_alloc_old wr (.cells #[.int .i64 ph.x, .int .i64 ph.y, .int .i64 ph.z, .int .i64 ph.e, .int .i64 ph.l, .int .i64 ph.n] 39) (block_lt' hT)).trans hT)
      have D2 := Lib.hid ((heap_alloc_old wr (.cells #[.int .i64 ph.x, .int .i64 ph.y, .int .i64 ph.z, .int .i64 ph.e, .int .i64 ph.l, .int .i64 ph.n] 39) (block_lt' hB)).trans hB)
      have HGR := Lib.hid (gb_alloc hgr (.cells #[.int .i64 ph.x, .int .i64 ph.y, .int .i64 ph.z, .int .i64 ph.e, .int .i64 ph.l, .int .i64 ph.n] 39))
      have HOW2 := Lib.hid (HOW.out.alloc (.cells #[.int .i64 ph.x, .int .i64 ph.y, .int .i64 ph.z, .int .i64 ph.e, .int .i64 ph.l, .int .i64 ph.n] 39))
      have q6 := cell_of D1.out 6 _ rfl; have q7 := cell_of D1.out 7 _ rfl; have q8 := cell_of D1.out 8 _ rfl
      obtain ⟨r0, r1, r2, r3, r4, r5⟩ := six D2.out
      clear hgr hT hB HOW
      go_wp2_with fail
      (with_reducible refine (zone_any step _ _ ls hs b0 b1 b2 b3 b4 b5 ph.x ph.y ph.z ph.e ph.l ph.n _ HIR.out.l HIR.out.h).mono ?_)
      rintro r w5 ⟨rfl, hg5⟩
      rw [HV.out]
      clear c0 c1 c2 c3 c4 c5 q6 q7 q8 r0 r1 r2 r3 r4 r5
      have HG5 := Lib.hid (gb_trans HGR.out hg5)
      by_cases hz : ze ph = 0
      rotate_left
      · have HE := Lib.hid (HFST.out hz)
        have HGE := Lib.hid (gb_alloc (gb_trans HG0.out HG5.out) (.cells #[.int .i64 (zo ph).f, .int .i64 (zo ph).t] 168))
        clear hg5 HFST HV HZ1
        generalize ze ph = zz at *
        go_wp2_with fail
        exact bodyPost_ret (v := .tuple #[.slice none 0 0, .int .i64 zz]) (by simp [results, Tryz.results174, go_sem]) rfl (.inr ⟨by rw [HE.out]; exact hz, by rw [HE.out], HGE.out⟩)
      have HTZ : Hid (∀ a ∈ phs.take (k + 1), ze a = 0) := Lib.hid (by
        rw [HTK.out]
        intro a ha
        rcases List.mem_append.1 ha with h | h
        · exact HZE.out a h
        · rw [List.mem_singleton.1 h]; exact hz)
      have HFL : Hid (flatZ ((phs.take (k + 1)).map zo) = flatZ ((phs.take k).map zo) ++ [.int .i64 (zo ph).f, .int .i64 (zo ph).t]) := Lib.hid (by
        rw [HTK.out, List.map_append]; simp [flatZ, Zn.cells])
      have HOW5 := Lib.hid (owns_keep HOW2.out hg5)
      have hsz5 := hg5.size
      have hlen : (flatZ ((phs.take k).map zo)).length = k * 2 := by rw [flatZ_length]; simp; omega
      rw [hz]
      have hws := HSZ.out
      have hgs := HG5.out.size
      have HBT : Hid (∀ a, a ∈ phs.take (k + 1) → ze a = 0) := HTZ
      clear hz hg5 HZE HOW2 HFST HV
      generalize (zo ph).f = zf at *
      generalize (zo ph).t = zt at *
      have PUSH := Lib.hid (fun (v' : Value) (u : World) (h : u.ownsRow (w.heap.size + 2) 168 2 v' (k + 1) (flatZ ((phs.take k).map zo) ++ [.int .i64 zf, .int .i64 zt])) (hg : ((w5.alloc (.cells #[.int .i64 zf, .int .i64 zt] 168)).alloc (.cells #[.int .i64 zf, .int .i64 zt] 168)).grownBy u (u6).ownBlock) =>
        show u.ownsRow (w.heap.size + 2) 168 2 v' (k + 1) (flatZ ((phs.take (k + 1)).map zo)) ∧ w1.grownBy u none from
          ⟨by rw [HFL.out]; exact h, gb_new (gb_alloc (gb_alloc HG5.out _) _) hg (fun q hq => by have := (HOW5.out.lt q hq).1; omega)⟩)
      go_wp2_with (at_builtin; refine wpList_push rfl _ _ 238 rfl (w.heap.size + 2) 168 (.agg #[.int .i64 0, .int .i64 0]) 2 16 Tryz.underlying238 Tryz.infoZoneT rfl (by decide) (by decide) _ _ _ rfl ((HOW5.out.alloc _).alloc _) (w5.heap.size + 1) 1 [.int .i64 zf, .int .i64 zt] 168 rfl (by simpa using heap_alloc_new (w5.alloc _) _) rfl (by simp [Value.oneCell']) (by omega) (by simp; omega) ?_; intro v' w6 hown' hg')
      have HN := Lib.hid (PUSH.out v' w6 hown' hg')
      clear hown' hg' PUSH HOW5
      go_roundw
      case rel => exact ⟨k + 1, by omega, by go_num, HN.out.1, HTZ.out, HN.out.2⟩
      case measure => simp [intOf]; omega
    · obtain rfl : k = phs.length := by omega
      rw [List.take_length] at HOW HZE
      have HE := Lib.hid (errOf_zero.2 HZE.out)
      obtain ⟨oa, oc, rfl⟩ := owns_slice HOW.out
      have HGE := Lib.hid (gb_trans HG0.out hgr)
      go_wp2_with fail
      exact bodyPost_ret (v := .tuple #[.slice oa phs.length oc, .int .i64 0]) (by simp [results, Tryz.results174, go_sem]) rfl (.inl ⟨HE.out, _, rfl, by have := SlC.of_owns HOW.out; rwa [List.length_map], fun b off len cap e => by
        rcases HOW.out.2 with ⟨e', -⟩ | ⟨g, cap', cur, e', hb, -⟩
        · rw [e] at e'; simp at e'
        · rw [e] at e'; simp at e'; omega, HGE.out⟩)
end LMisD
section LMisE
open Go.RowKit Rg
def valE (P : Prob) : Int :=
  if bP P.x0 P.y0 P.z0 P.x1 P.y1 P.z1 then (if tOk P.step P.ls P.hs then (if P.phs.length = 0 then 24 else if 64 < P.phs.length then 8 else if P.cap < 1 ∨ 1099511627776 < P.cap then 2 else errOf (zoneE P.step P.ls P.hs P.x0 P.y0 P.z0 P.x1 P.y1 P.z1) P.phs) else 21) else 20
structure Sound (P : Prob) : Prop where
  vb : bP P.x0 P.y0 P.z0 P.x1 P.y1 P.z1 = true
  ok : tOk P.step P.ls P.hs
  some : 0 < P.phs.length ∧ P.phs.length ≤ 64
  cap : 1 ≤ P.cap ∧ P.cap ≤ 1099511627776
  ph : ∀ a ∈ P.phs, zoneE P.step P.ls P.hs P.x0 P.y0 P.z0 P.x1 P.y1 P.z1 a = 0
theorem tE_ne {step : Int} {ls hs : List Int} (h : ¬ tOk step ls hs) : tE step ls hs = 21 := (tE_bad h).symm
theorem sound_iff {P : Prob} : valE P = 0 ↔ Sound P := by
  constructor
  · intro h
    unfold valE at h
    split at h
    · rename_i h1
      split at h
      · rename_i h2
        split at h
        · omega
        · split at h
          · omega
          · split at h
            · omega
            · exact ⟨h1, h2, by omega, by omega, errOf_zero.1 h⟩
      · omega
    · omega
  · rintro ⟨h1, h2, h3, h4, h5⟩
    unfold valE
    rw [if_pos h1, if_pos h2, if_neg (by omega), if_neg (by omega), if_neg (by omega)]
    exact errOf_zero.2 h5
set_option maxRecDepth 100000 in
set_option maxHeartbeats 4000000 in
theorem mvalidate_any (P : Prob) (vl vh vp : Value) (w : World) (hi : ProbIn P vl vh vp w) (hbig : P.phs.length ≤ 1000000000) :
    Calls Tryz.prog 28 #[.agg (P.val vl vh vp)] w fun e w' => e = .returned (.int .i64 (valE P)) ∧ w.grownBy w' none := by
  have hg0 := gb_alloc (gb_refl w none) (.cells (P.val vl vh vp) 33)
  have HT := Lib.hid (heap_alloc_new w (.cells (P.val vl vh vp) 33))
  have HI := Lib.hid (hi.after hg0); have HG0 := Lib.hid hg0
  obtain ⟨pa, pc, rfl⟩ := hi.p.slice
  obtain ⟨la, ln, lc, rfl⟩ := sl_slice hi.l
  obtain ⟨ha, hn, hc, rfl⟩ := sl_slice hi.h
  clear hi hg0
  have HVE : Hid (valE P = valE P) := Lib.hid rfl
  have HV0 : Hid (bP P.x0 P.y0 P.z0 P.x1 P.y1 P.z1 = false → valE P = 20) := Lib.hid (fun h => by unfold valE; rw [h]; rfl)
  have HV1 : Hid (bP P.x0 P.y0 P.z0 P.x1 P.y1 P.z1 = true → ¬ tOk P.step P.ls P.hs → valE P = 21) := Lib.hid (fun h h' => by unfold valE; rw [if_pos h, if_neg h'])
  have HV2 : Hid (bP P.x0 P.y0 P.z0 P.x1 P.y1 P.z1 = true → tOk P.step P.ls P.hs → valE P = if P.phs.length = 0 then 24 else if 64 < P.phs.length then 8 else if P.cap < 1 ∨ 1099511627776 < P.cap then 2 else errOf (zoneE P.step P.ls P.hs P.x0 P.y0 P.z0 P.x1 P.y1 P.z1) P.phs) := Lib.hid (fun h h' => by unfold valE; rw [if_pos h, if_pos h'])
  clear HVE
  generalize valE P = vE at *
  obtain ⟨x0, y0, z0, x1, y1, z1, step, ls, hs, phs, cap⟩ := P
  simp only [Prob.val] at *
  go_enter Tryz.func28, Tryz.ntmps28
  have e0_ := cell_of HT.out 0 _ rfl; have e1_ := cell_of HT.out 1 _ rfl; have e2_ := cell_of HT.out 2 _ rfl; have e3_ := cell_of HT.out 3 _ rfl; have e4_ := cell_of HT.out 4 _ rfl; have e5_ := cell_of HT.out 5 _ rfl; have e6_ := cell_of HT.out 6 _ rfl; have e7_ := cell_of HT.out 7 _ rfl; have e8_ := cell_of HT.out 8 _ rfl; have e9_ := cell_of HT.out 9 _ rfl; have e10_ := cell_of HT.out 10 _ rfl
  go_wp2_with fail
  generalize w.alloc (.cells #[.int .i64 x0, .int .i64 y0, .int .i64 z0, .int .i64 x1, .int .i64 y1, .int .i64 z1, .int .i64 step, .slice la ln lc, .slice ha hn hc, .slice pa phs.length pc, .int .i64 cap] 33) = w1 at *
  generalize w.heap.size = q at *
  (with_reducible refine (validBox_any _ _ _ _ _ _ _).mono ?_)
  rintro e w2 ⟨rfl, hg2⟩
  clear e0_ e1_ e2_ e3_ e4_ e5_ e6_ e7_ e8_ e9_ e10_
  have HT2 := Lib.hid (block_kept hg2 HT.out rfl); have HI2 := Lib.hid (HI.out.after hg2); have HG2 := Lib.hid (gb_trans HG0.out hg2)
  clear hg2 HT HI HG0
  cases hv0 : bP x0 y0 z0 x1 y1 z1
  · have := HV0.out hv0
    go_wp2
    go_ret
    exact ⟨ret_int this.symm, HG2.out⟩
  have HV0' := Lib.hid hv0; clear hv0 HV0
  have e0_ := cell_of HT2.out 0 _ rfl; have e1_ := cell_of HT2.out 1 _ rfl; have e2_ := cell_of HT2.out 2 _ rfl; have e3_ := cell_of HT2.out 3 _ rfl; have e4_ := cell_of HT2.out 4 _ rfl; have e5_ := cell_of HT2.out 5 _ rfl; have e6_ := cell_of HT2.out 6 _ rfl; have e7_ := cell_of HT2.out 7 _ rfl; have e8_ := cell_of HT2.out 8 _ rfl; have e9_ := cell_of HT2.out 9 _ rfl; have e10_ := cell_of HT2.out 10 _ rfl
  go_wp2_with fail
  (with_reducible refine (validate_any _ _ _ ls hs _ HI2.out.l HI2.out.h).mono ?_)
  rintro e w3 ⟨rfl, hg3⟩
  clear e0_ e1_ e2_ e3_ e4_ e5_ e6_ e7_ e8_ e9_ e10_
  have HT3 := Lib.hid (block_kept hg3 HT2.out rfl); have HI3 := Lib.hid (HI2.out.after hg3); have HG3 := Lib.hid (gb_trans HG2.out hg3)
  clear hg3 HT2 HI2 HG2
  by_cases hok : tOk step ls hs
  rotate_left
  · have he : tE step ls hs = 21 := tE_ne hok
    have := HV1.out HV0'.out hok
    rw [he]
    go_wp2
    go_ret
    exact ⟨ret_int this.symm, HG3.out⟩
  have he : tE step ls hs = 0 := (tE_ok hok).symm
  have HV3 := Lib.hid (HV2.out HV0'.out hok)
  clear HV1 HV2 hok
  rw [he]
  clear he
  have e0_ := cell_of HT3.out 0 _ rfl; have e1_ := cell_of HT3.out 1 _ rfl; have e2_ := cell_of HT3.out 2 _ rfl; have e3_ := cell_of HT3.out 3 _ rfl; have e4_ := cell_of HT3.out 4 _ rfl; have e5_ := cell_of HT3.out 5 _ rfl; have e6_ := cell_of HT3.out 6 _ rfl; have e7_ := cell_of HT3.out 7 _ rfl; have e8_ := cell_of HT3.out 8 _ rfl; have e9_ := cell_of HT3.out 9 _ rfl; have e10_ := cell_of HT3.out 10 _ rfl
  by_cases hl0 : phs.length = 0
  · have := HV3.out; rw [if_pos hl0] at this
    go_wp2
    go_ret
    exact ⟨ret_int this.symm, HG3.out⟩
  by_cases hl1 : 64 < phs.length
  · have := HV3.out; rw [if_neg hl0, if_pos hl1] at this
    go_wp2
    go_ret
    exact ⟨ret_int this.symm, HG3.out⟩
  by_cases hc0 : cap < 1
  · have := HV3.out; rw [if_neg hl0, if_neg hl1, if_pos (.inl hc0)] at this
    go_wp2
    go_ret
    exact ⟨ret_int this.symm, HG3.out⟩
  by_cases hc1 : 1099511627776 < cap
  · have := HV3.out; rw [if_neg hl0, if_neg hl1, if_pos (.inr hc1)] at this
    go_wp2
    go_ret
    exact ⟨ret_int this.symm, HG3.out⟩
  have HV4 : Hid (vE = errOf (zoneE step ls hs x0 y0 z0 x1 y1 z1) phs) := Lib.hid (by have := HV3.out; rwa [if_neg hl0, if_neg hl1, if_neg (by omega)] at this)
  clear HV3
  have HZ1 := Lib.hid (fun a => znV_is step ls hs x0 y0 z0 x1 y1 z1 a)
  generalize hzo : zoneOf step ls hs x0 y0 z0 x1 y1 z1 = zo at *
  generalize hze : zoneE step ls hs x0 y0 z0 x1 y1 z1 = ze at *
  clear hzo hze
  have hl0f : ((phs.length : Int) == 0) = false := by rw [beq_eq_false_iff_ne]; omega
  go_wp2_with fail
  clear e0_ e1_ e2_ e3_ e4_ e5_ e6_ e7_ e8_ e9_ e10_
  go_loopw [40] (fun i wr => ∃ k : Nat, k ≤ phs.length ∧ i = .int .i64 k ∧ (∀ a ∈ phs.take k, ze a = 0) ∧ w3.grownBy wr none) (fun i _ => phs.length - (intOf i).toNat)
  case atStart => exact ⟨0, by omega, rfl, by simp, gb_refl _ _⟩
  case round =>
    obtain ⟨k, hk, rfl, hzero, hgr⟩ := hrel
    have HZE := Lib.hid hzero; clear hzero
    by_cases hlt : k < phs.length
    · obtain ⟨pb, poff, pcap, hpv, hpb, hpc, hpm, hpcell⟩ := (HI3.out.after hgr).p.block (by show 0 < phs.length; omega)
      simp only [Value.slice.injEq, true_and] at hpv
      obtain ⟨rfl, rfl⟩ := hpv
      obtain ⟨c0, c1, c2, c3, c4, c5⟩ := SlC.ph hpcell k hlt
      have HTK : Hid (phs.take (k + 1) = phs.take k ++ [phs[k]]) := Lib.hid (List.take_succ_eq_append_getElem hlt)
      have HFST := Lib.hid (errOf_first (g := ze) phs k hlt HZE.out)
      clear hpcell
      generalize hph : phs[k] = ph at *
      have HV := Lib.hid (HZ1.out ph)
      clear hph
      have hT := block_kept hgr HT3.out rfl
      have HIR := Lib.hid ((HI3.out.after hgr).after (gb_alloc (gb_refl wr _) (.cells #[.int .i64 ph.x, .int .i64 ph.y, .int .i64 ph.z, .int .i64 ph.e, .int .i64 ph.l, .int .i64 ph.n] 39)))
      have D0 := Lib.hid (heap_alloc_new wr (.cells #[.int .i64 ph.x, .int .i64 ph.y, .int .i64 ph.z, .int .i64 ph.e, .int .i64 ph.l, .int .i64 ph.n] 39))
      have D1 := Lib.hid ((heap_alloc_old wr (.cells #[.int .i64 ph.x, .int .i64 ph.y, .int .i64 ph.z, .int .i64 ph.e, .int .i64 ph.l, .int .i64 ph.n] 39) (block_lt' hT)).trans hT)
      have HGR := Lib.hid (gb_alloc hgr (.cells #[.int .i64 ph.x, .int .i64 ph.y, .int .i64 ph.z, .int .i64 ph.e, .int .i64 ph.l, .int .i64 ph.n] 39))
      have e0_ := cell_of D1.out 0 _ rfl; have e1_ := cell_of D1.out 1 _ rfl; have e2_ := cell_of D1.out 2 _ rfl; have e3_ := cell_of D1.out 3 _ rfl; have e4_ := cell_of D1.out 4 _ rfl; have e5_ := cell_of D1.out 5 _ rfl; have e6_ := cell_of D1.out 6 _ rfl; have e7_ := cell_of D1.out 7 _ rfl; have e8_ := cell_of D1.out 8 _ rfl; have e9_ := cell_of D1.out 9 _ rfl; have e10_ := cell_of D1.out 10 _ rfl
      clear hgr hT
      go_wp2_with fail
      (with_reducible refine (zone_any step _ _ ls hs x0 y0 z0 x1 y1 z1 ph.x ph.y ph.z ph.e ph.l ph.n _ HIR.out.l HIR.out.h).mono ?_)
      rintro r w5 ⟨rfl, hg5⟩
      rw [HV.out]
      have HG5 := Lib.hid (gb_trans HGR.out hg5)
      clear e0_ e1_ e2_ e3_ e4_ e5_ e6_ e7_ e8_ e9_ e10_
      clear c0 c1 c2 c3 c4 c5
      by_cases hz : ze ph = 0
      rotate_left
      · have HE := Lib.hid (HFST.out hz)
        have HGE := Lib.hid (gb_alloc (gb_trans HG3.out HG5.out) (.cells #[.int .i64 (zo ph).f, .int .i64 (zo ph).t] 168))
        clear hg5 HFST HV HZ1
        generalize ze ph = zz at *
        go_wp2_with fail
        go_ret
        exact ⟨ret_int (by rw [HV4.out, HE.out]), HGE.out⟩
      have HTZ : Hid (∀ a ∈ phs.take (k + 1), ze a = 0) := Lib.hid (by
        rw [HTK.out]
        intro a ha
        rcases List.mem_append.1 ha with h | h
        · exact HZE.out a h
        · rw [List.mem_singleton.1 h]; exact hz)
      rw [hz]
      have HGN := Lib.hid (gb_alloc HG5.out (.cells #[.int .i64 (zo ph).f, .int .i64 (zo ph).t] 168))
      clear hz hg5 HZE HFST HV
      go_wp2_with fail
      go_roundw
      case rel => exact ⟨k + 1, by omega, by go_num, HTZ.out, HGN.out⟩
      case measure => simp [intOf]; omega
    · obtain rfl : k = phs.length := by omega
      rw [List.take_length] at HZE
      have HE := Lib.hid (errOf_zero.2 HZE.out)
      have HGE := Lib.hid (gb_trans HG3.out hgr)
      go_wp2
      go_ret
      exact ⟨ret_int (by rw [HV4.out, HE.out]), HGE.out⟩
end LMisE
section LMisF
open Go.RowKit Rg
def zonesE (P : Prob) (b0 b1 b2 b3 b4 b5 : Int) : Int := if valE P = 0 then (if wiP b0 b1 b2 b3 b4 b5 P.x0 P.y0 P.z0 P.x1 P.y1 P.z1 then errOf (zoneE P.step P.ls P.hs b0 b1 b2 b3 b4 b5) P.phs else 20) else valE P
def zonesL (P : Prob) (b0 b1 b2 b3 b4 b5 : Int) : List Zn := P.phs.map (zoneOf P.step P.ls P.hs b0 b1 b2 b3 b4 b5)
/-- What is fair of a sound problem's zones. -/
theorem Sound.phase {P : Prob} (h : Sound P) {a : Ph} (ha : a ∈ P.phs) : phP a.x a.y a.z a.e a.l a.n = true := by
  have hz := h.ph a ha
  unfold zoneE znE at hz
  rw [if_pos h.ok, if_pos h.vb] at hz
  cases hp : phP a.x a.y a.z a.e a.l a.n
  · rw [hp] at hz; simp at hz
  · rfl
theorem Sound.fair {P : Prob} (h : Sound P) (b0 b1 b2 b3 b4 b5 : Int) : Fair P.cap P.phs (zonesL P b0 b1 b2 b3 b4 b5) := by
  refine ⟨by have := h.cap; omega, by have := h.some; omega, fun i hi => ?_, fun i hi => ?_⟩
  · have := phP_iff.1 (h.phase (List.getElem_mem hi))
    rw [show P.phs[i]?.getD default = P.phs[i] by simp [hi]]; omega
  · have hi' : i < P.phs.length := by simpa [zonesL] using hi
    have hp := phP_iff.1 (h.phase (List.getElem_mem hi'))
    rw [show (zonesL P b0 b1 b2 b3 b4 b5)[i]?.getD default = zoneOf P.step P.ls P.hs b0 b1 b2 b3 b4 b5 P.phs[i] by simp [zonesL, hi']]
    generalize P.phs[i] = a at *
    have bb := bnd_bounds P.step P.ls P.hs b0 b1 b2 b3 b4 b5 a.x a.y a.z
    unfold Tame zoneOf znF znT
    simp only []
    refine ⟨?_, ?_⟩ <;> split <;> omega
set_option maxRecDepth 100000 in
set_option maxHeartbeats 2000000 in
theorem Zones_any (P : Prob) (vl vh vp : Value) (b0 b1 b2 b3 b4 b5 : Int) (w : World) (hi : ProbIn P vl vh vp w) (hbig : P.phs.length ≤ 1000000000) :
    Calls Tryz.prog 105 #[.agg (P.val vl vh vp), .agg #[.int .i64 b0, .int .i64 b1, .int .i64 b2, .int .i64 b3, .int .i64 b4, .int .i64 b5]] w (Zoned w (zonesE P b0 b1 b2 b3 b4 b5) (zonesL P b0 b1 b2 b3 b4 b5)) := by
  have hg0 := gb_alloc (gb_alloc (gb_refl w none) (.cells (P.val vl vh vp) 33)) (.cells #[.int .i64 b0, .int .i64 b1, .int .i64 b2, .int .i64 b3, .int .i64 b4, .int .i64 b5] 28)
  have hT : ((w.alloc (.cells (P.val vl vh vp) 33)).alloc (.cells #[.int .i64 b0, .int .i64 b1, .int .i64 b2, .int .i64 b3, .int .i64 b4, .int .i64 b5] 28)).heap[w.heap.size]? = some (.cells (P.val vl vh vp) 33 (0, 0)) := by rw [heap_alloc_old _ _ (by simp), heap_alloc_new]
  have hB : ((w.alloc (.cells (P.val vl vh vp) 33)).alloc (.cells #[.int .i64 b0, .int .i64 b1, .int .i64 b2, .int .i64 b3, .int .i64 b4, .int .i64 b5] 28)).heap[w.heap.size + 1]? = some (.cells #[.int .i64 b0, .int .i64 b1, .int .i64 b2, .int .i64 b3, .int .i64 b4, .int .i64 b5] 28 (0, 0)) := by simpa using heap_alloc_new (w.alloc _) _
  have HI := Lib.hid (hi.after hg0); have HG0 := Lib.hid hg0; have HT := Lib.hid hT; have HB := Lib.hid hB
  obtain ⟨pa, pc, rfl⟩ := hi.p.slice
  obtain ⟨la, ln, lc, rfl⟩ := sl_slice hi.l
  obtain ⟨ha, hn, hc, rfl⟩ := sl_slice hi.h
  clear hi hg0 hT hB
  have HE0 : Hid (valE P ≠ 0 → zonesE P b0 b1 b2 b3 b4 b5 = valE P) := Lib.hid (fun h => by unfold zonesE; rw [if_neg h])
  have HE1 : Hid (valE P = 0 → wiP b0 b1 b2 b3 b4 b5 P.x0 P.y0 P.z0 P.x1 P.y1 P.z1 = false → zonesE P b0 b1 b2 b3 b4 b5 = 20) := Lib.hid (fun h h' => by unfold zonesE; rw [if_pos h, h']; rfl)
  have HE2 : Hid (valE P = 0 → wiP b0 b1 b2 b3 b4 b5 P.x0 P.y0 P.z0 P.x1 P.y1 P.z1 = true → zonesE P b0 b1 b2 b3 b4 b5 = errOf (zoneE P.step P.ls P.hs b0 b1 b2 b3 b4 b5) P.phs) := Lib.hid (fun h h' => by unfold zonesE; rw [if_pos h, if_pos h'])
  have HS := Lib.hid (fun h => (sound_iff (P := P)).1 h)
  have HV := Lib.hid (fun (u : World) hu => mvalidate_any P (.slice la ln lc) (.slice ha hn hc) (.slice pa P.phs.length pc) u hu hbig)
  have HZ := Lib.hid (fun (u : World) hu hf => zones_any P (.slice la ln lc) (.slice ha hn hc) (.slice pa P.phs.length pc) b0 b1 b2 b3 b4 b5 u hu hf)
  have HL : Hid (zonesL P b0 b1 b2 b3 b4 b5 = P.phs.map (zoneOf P.step P.ls P.hs b0 b1 b2 b3 b4 b5)) := Lib.hid rfl
  generalize hzE : zonesE P b0 b1 b2 b3 b4 b5 = zE at *
  generalize zonesL P b0 b1 b2 b3 b4 b5 = zL at *
  generalize hvE : valE P = vE at *
  clear hzE
  obtain ⟨x0, y0, z0, x1, y1, z1, step, ls, hs, phs, cap⟩ := P
  simp only [Prob.val] at *
  go_enter Tryz.func105, Tryz.ntmps105
  have e0_ := cell_of HT.out 0 _ rfl; have e1_ := cell_of HT.out 1 _ rfl; have e2_ := cell_of HT.out 2 _ rfl; have e3_ := cell_of HT.out 3 _ rfl; have e4_ := cell_of HT.out 4 _ rfl; have e5_ := cell_of HT.out 5 _ rfl; have e6_ := cell_of HT.out 6 _ rfl; have e7_ := cell_of HT.out 7 _ rfl; have e8_ := cell_of HT.out 8 _ rfl; have e9_ := cell_of HT.out 9 _ rfl; have e10_ := cell_of HT.out 10 _ rfl
  go_wp2_with fail
  generalize hw1 : (w.alloc (.cells #[.int .i64 x0, .int .i64 y0, .int .i64 z0, .int .i64 x1, .int .i64 y1, .int .i64 z1, .int .i64 step, .slice la ln lc, .slice ha hn hc, .slice pa phs.length pc, .int .i64 cap] 33)).alloc (.cells #[.int .i64 b0, .int .i64 b1, .int .i64 b2, .int .i64 b3, .int .i64 b4, .int .i64 b5] 28) = w1 at *
  clear hw1
  (with_reducible refine (HV.out _ HI.out).mono ?_)
  rintro e w2 ⟨rfl, hg2⟩
  clear e0_ e1_ e2_ e3_ e4_ e5_ e6_ e7_ e8_ e9_ e10_
  have HT2 := Lib.hid (block_kept hg2 HT.out rfl); have HB2 := Lib.hid (block_kept hg2 HB.out rfl); have HI2 := Lib.hid (HI.out.after hg2); have HG2 := Lib.hid (gb_trans HG0.out hg2)
  clear hg2 HT HB HI HG0
  by_cases hv0 : vE = 0
  rotate_left
  · have hE := HE0.out hv0
    go_wp2_with fail
    exact bodyPost_ret (v := .tuple #[.slice none 0 0, .int .i64 vE]) (by simp [results, Tryz.results105, go_sem]) rfl (.inr ⟨by rw [hE]; exact hv0, by rw [hE], HG2.out⟩)
  have hS := HS.out hv0
  have hfew := hS.some
  clear hS HS
  have HE1 := Lib.hid (HE1.out hv0); have HE2 := Lib.hid (HE2.out hv0)
  rw [hv0]
  clear hvE HE0 HV
  have e0_ := cell_of HT2.out 0 _ rfl; have e1_ := cell_of HT2.out 1 _ rfl; have e2_ := cell_of HT2.out 2 _ rfl; have e3_ := cell_of HT2.out 3 _ rfl; have e4_ := cell_of HT2.out 4 _ rfl; have e5_ := cell_of HT2.out 5 _ rfl; have e6_ := cell_of HT2.out 6 _ rfl; have e7_ := cell_of HT2.out 7 _ rfl; have e8_ := cell_of HT2.out 8 _ rfl; have e9_ := cell_of HT2.out 9 _ rfl; have e10_ := cell_of HT2.out 10 _ rfl
  obtain ⟨r0, r1, r2, r3, r4, r5⟩ := six HB2.out
  go_wp2_with fail
  (with_reducible refine (within_any _ _ _ _ _ _ _ _ _ _ _ _ _).mono ?_)
  rintro e w3 ⟨rfl, hg3⟩
  clear e0_ e1_ e2_ e3_ e4_ e5_ e6_ e7_ e8_ e9_ e10_
  clear r0 r1 r2 r3 r4 r5
  have HT3 := Lib.hid (block_kept hg3 HT2.out rfl); have HB3 := Lib.hid (block_kept hg3 HB2.out rfl); have HI3 := Lib.hid (HI2.out.after hg3); have HG3 := Lib.hid (gb_trans HG2.out hg3)
  clear hg3 HT2 HB2 HI2 HG2
  cases hwi : wiP b0 b1 b2 b3 b4 b5 x0 y0 z0 x1 y1 z1
  · have hE := HE1.out hwi
    go_wp2_with fail
    exact bodyPost_ret (v := .tuple #[.slice none 0 0, .int .i64 20]) (by simp [results, Tryz.results105, go_sem]) rfl (.inr ⟨by rw [hE]; omega, by rw [hE], HG3.out⟩)
  have HEE := Lib.hid (HE2.out hwi)
  clear HE1 HE2 hwi
  have e0_ := cell_of HT3.out 0 _ rfl; have e1_ := cell_of HT3.out 1 _ rfl; have e2_ := cell_of HT3.out 2 _ rfl; have e3_ := cell_of HT3.out 3 _ rfl; have e4_ := cell_of HT3.out 4 _ rfl; have e5_ := cell_of HT3.out 5 _ rfl; have e6_ := cell_of HT3.out 6 _ rfl; have e7_ := cell_of HT3.out 7 _ rfl; have e8_ := cell_of HT3.out 8 _ rfl; have e9_ := cell_of HT3.out 9 _ rfl; have e10_ := cell_of HT3.out 10 _ rfl
  obtain ⟨r0, r1, r2, r3, r4, r5⟩ := six HB3.out
  go_wp2_with fail
  (with_reducible refine (HZ.out _ HI3.out (by show phs.length ≤ 100; omega)).mono ?_)
  rintro e w4 hZ
  clear e0_ e1_ e2_ e3_ e4_ e5_ e6_ e7_ e8_ e9_ e10_
  clear r0 r1 r2 r3 r4 r5
  rcases hZ with ⟨h0, v, rfl, hsl, hfr, hg4⟩ | ⟨h0, rfl, hg4⟩
  · have HSL := Lib.hid hsl; have HFR := Lib.hid hfr
    have HG4 := Lib.hid (gb_trans HG3.out hg4); have hsz := HG3.out.size
    clear hg4 hsl hfr
    go_wp2_with fail
    exact bodyPost_ret (v := .tuple #[v, .int .i64 0]) (by simp [results, Tryz.results105, go_sem]) rfl (.inl ⟨by rw [HEE.out]; exact h0, v, rfl, by rw [HL.out]; exact HSL.out, fun b off len cap e => Nat.le_trans hsz (HFR.out b off len cap e), HG4.out⟩)
  · have HG4 := Lib.hid (gb_trans HG3.out hg4)
    have HH := Lib.hid h0
    clear hg4 h0
    rw [← HEE.out] at HH ⊢
    go_wp2_with fail
    exact bodyPost_ret (v := .tuple #[.slice none 0 0, .int .i64 zE]) (by simp [results, Tryz.results105, go_sem]) rfl (.inr ⟨HH.out, rfl, HG4.out⟩)
/-- What At returns, what Bound returns. -/
def atV (P : Prob) (x y z : Int) : Value := if zonesE P x y z x y z = 0 then .tuple #[.int .i64 (best P.cap P.phs (zonesL P x y z x y z)).1, .int .i64 (best P.cap P.phs (zonesL P x y z x y z)).2, .int .i64 0] else .tuple #[.int .i64 0, .int .i64 0, .int .i64 (zonesE P x y z x y z)]
def bdV (P : Prob) (b0 b1 b2 b3 b4 b5 : Int) : Value := if zonesE P b0 b1 b2 b3 b4 b5 = 0 then .tuple #[.int .i64 (best P.cap P.phs (zonesL P b0 b1 b2 b3 b4 b5)).2, .int .i64 0] else .tuple #[.int .i64 0, .int .i64 (zonesE P b0 b1 b2 b3 b4 b5)]
theorem zonesE_sound {P : Prob} {b0 b1 b2 b3 b4 b5 : Int} (h : zonesE P b0 b1 b2 b3 b4 b5 = 0) : Sound P := by
  unfold zonesE at h
  split at h
  · rename_i h1; exact sound_iff.1 h1
  · rename_i h1; exact absurd h h1
set_option maxRecDepth 100000 in
set_option maxHeartbeats 2000000 in
theorem at_any (P : Prob) (vl vh vp : Value) (x y z : Int) (w : World) (hi : ProbIn P vl vh vp w) (hbig : P.phs.length ≤ 1000000000) :
    Calls Tryz.prog 110 #[.agg (P.val vl vh vp), .agg #[.int .i64 x, .int .i64 y, .int .i64 z]] w fun e w' => e = .returned (atV P x y z) ∧ w.grownBy w' none := by
  have hg0 := gb_alloc (gb_alloc (gb_refl w none) (.cells (P.val vl vh vp) 33)) (.cells #[.int .i64 x, .int .i64 y, .int .i64 z] 26)
  have hT : ((w.alloc (.cells (P.val vl vh vp) 33)).alloc (.cells #[.int .i64 x, .int .i64 y, .int .i64 z] 26)).heap[w.heap.size]? = some (.cells (P.val vl vh vp) 33 (0, 0)) := by rw [heap_alloc_old _ _ (by simp), heap_alloc_new]
  have HI := Lib.hid (hi.after hg0); have HG0 := Lib.hid hg0; have HT := Lib.hid hT
  obtain ⟨pa, pc, rfl⟩ := hi.p.slice
  obtain ⟨la, ln, lc, rfl⟩ := sl_slice hi.l
  obtain ⟨ha, hn, hc, rfl⟩ := sl_slice hi.h
  clear hi hg0 hT
  have HZ := Lib.hid (fun (u : World) hu => Zones_any P (.slice la ln lc) (.slice ha hn hc) (.slice pa P.phs.length pc) x y z x y z u hu hbig)
  have HA : Hid (zonesE P x y z x y z = 0 → atV P x y z = .tuple #[.int .i64 (best P.cap P.phs (zonesL P x y z x y z)).1, .int .i64 (best P.cap P.phs (zonesL P x y z x y z)).2, .int .i64 0]) := Lib.hid (fun h => if_pos h)
  have HA' : Hid (zonesE P x y z x y z ≠ 0 → atV P x y z = .tuple #[.int .i64 0, .int .i64 0, .int .i64 (zonesE P x y z x y z)]) := Lib.hid (fun h => if_neg h)
  have HSO := Lib.hid (fun h => zonesE_sound (P := P) (b0 := x) (b1 := y) (b2 := z) (b3 := x) (b4 := y) (b5 := z) h)
  have HBE := Lib.hid (fun (u : World) (v : Value) (hS : Sound P) (h1 : SlC 6 u (.slice pa P.phs.length pc) P.phs.length (flatP P.phs)) (h2 : SlC 2 u v (zonesL P x y z x y z).length (flatZ (zonesL P x y z x y z))) => best_any P (.slice la ln lc) (.slice ha hn hc) (.slice pa P.phs.length pc) v (zonesL P x y z x y z) u h1 h2 (hS.fair _ _ _ _ _ _) (by have := hS.some; simp [zonesL]; omega) (by have := hS.some; simp [zonesL]; omega) rfl rfl)
  generalize zonesE P x y z x y z = zE at *
  generalize zonesL P x y z x y z = zL at *
  generalize atV P x y z = av at *
  obtain ⟨x0, y0, z0, x1, y1, z1, step, ls, hs, phs, cap⟩ := P
  simp only [Prob.val] at *
  generalize best cap phs zL = bb at *
  go_enter Tryz.func110, Tryz.ntmps110
  have e0_ := cell_of HT.out 0 _ rfl; have e1_ := cell_of HT.out 1 _ rfl; have e2_ := cell_of HT.out 2 _ rfl; have e3_ := cell_of HT.out 3 _ rfl; have e4_ := cell_of HT.out 4 _ rfl; have e5_ := cell_of HT.out 5 _ rfl; have e6_ := cell_of HT.out 6 _ rfl; have e7_ := cell_of HT.out 7 _ rfl; have e8_ := cell_of HT.out 8 _ rfl; have e9_ := cell_of HT.out 9 _ rfl; have e10_ := cell_of HT.out 10 _ rfl
  go_wp2_with fail
  generalize hw1 : (w.alloc (.cells #[.int .i64 x0, .int .i64 y0, .int .i64 z0, .int .i64 x1, .int .i64 y1, .int .i64 z1, .int .i64 step, .slice la ln lc, .slice ha hn hc, .slice pa phs.length pc, .int .i64 cap] 33)).alloc (.cells #[.int .i64 x, .int .i64 y, .int .i64 z] 26) = w1 at *
  clear hw1
  (with_reducible refine (HZ.out _ HI.out).mono ?_)
  rintro e w2 hZ
  clear e0_ e1_ e2_ e3_ e4_ e5_ e6_ e7_ e8_ e9_ e10_
  rcases hZ with ⟨h0, v, rfl, hsl, -, hg2⟩ | ⟨h0, rfl, hg2⟩
  · have HSL := Lib.hid hsl
    obtain ⟨va, vc, rfl⟩ := hsl.slice
    have HT2 := Lib.hid (block_kept hg2 HT.out rfl); have HG2 := Lib.hid (gb_trans HG0.out hg2); have HP2 := Lib.hid (HI.out.p.after hg2)
    clear hg2 hsl HT HI
    have e0_ := cell_of HT2.out 0 _ rfl; have e1_ := cell_of HT2.out 1 _ rfl; have e2_ := cell_of HT2.out 2 _ rfl; have e3_ := cell_of HT2.out 3 _ rfl; have e4_ := cell_of HT2.out 4 _ rfl; have e5_ := cell_of HT2.out 5 _ rfl; have e6_ := cell_of HT2.out 6 _ rfl; have e7_ := cell_of HT2.out 7 _ rfl; have e8_ := cell_of HT2.out 8 _ rfl; have e9_ := cell_of HT2.out 9 _ rfl; have e10_ := cell_of HT2.out 10 _ rfl
    go_wp2_with fail
    (with_reducible refine (HBE.out _ _ (HSO.out h0) HP2.out HSL.out).mono ?_)
    rintro e w3 ⟨rfl, hg3⟩
    have HG3 := Lib.hid (gb_trans HG2.out hg3)
    clear e0_ e1_ e2_ e3_ e4_ e5_ e6_ e7_ e8_ e9_ e10_
    go_wp2_with fail
    exact bodyPost_ret (v := .tuple #[.int .i64 bb.1, .int .i64 bb.2, .int .i64 0]) (by simp [results, Tryz.results110, go_sem]) rfl ⟨by rw [HA.out h0], HG3.out⟩
  · have HG2 := Lib.hid (gb_trans HG0.out hg2)
    clear hg2
    go_wp2_with fail
    exact bodyPost_ret (v := .tuple #[.int .i64 0, .int .i64 0, .int .i64 zE]) (by simp [results, Tryz.results110, go_sem]) rfl ⟨by rw [HA'.out h0], HG2.out⟩
set_option maxRecDepth 100000 in
set_option maxHeartbeats 2000000 in
theorem bound_any (P : Prob) (vl vh vp : Value) (b0 b1 b2 b3 b4 b5 : Int) (w : World) (hi : ProbIn P vl vh vp w) (hbig : P.phs.length ≤ 1000000000) :
    Calls Tryz.prog 58 #[.agg (P.val vl vh vp), .agg #[.int .i64 b0, .int .i64 b1, .int .i64 b2, .int .i64 b3, .int .i64 b4, .int .i64 b5]] w fun e w' => e = .returned (bdV P b0 b1 b2 b3 b4 b5) ∧ w.grownBy w' none := by
  have hg0 := gb_alloc (gb_alloc (gb_refl w none) (.cells (P.val vl vh vp) 33)) (.cells #[.int .i64 b0, .int .i64 b1, .int .i64 b2, .int .i64 b3, .int .i64 b4, .int .i64 b5] 28)
  have hT : ((w.alloc (.cells (P.val vl vh vp) 33)).alloc (.cells #[.int .i64 b0, .int .i64 b1, .int .i64 b2, .int .i64 b3, .int .i64 b4, .int .i64 b5] 28)).heap[w.heap.size]? = some (.cells (P.val vl vh vp) 33 (0, 0)) := by rw [heap_alloc_old _ _ (by simp), heap_alloc_new]
  have HI := Lib.hid (hi.after hg0); have HG0 := Lib.hid hg0; have HT := Lib.hid hT
  obtain ⟨pa, pc, rfl⟩ := hi.p.slice
  obtain ⟨la, ln, lc, rfl⟩ := sl_slice hi.l
  obtain ⟨ha, hn, hc, rfl⟩ := sl_slice hi.h
  clear hi hg0 hT
  have HZ := Lib.hid (fun (u : World) hu => Zones_any P (.slice la ln lc) (.slice ha hn hc) (.slice pa P.phs.length pc) b0 b1 b2 b3 b4 b5 u hu hbig)
  have HA : Hid (zonesE P b0 b1 b2 b3 b4 b5 = 0 → bdV P b0 b1 b2 b3 b4 b5 = .tuple #[.int .i64 (best P.cap P.phs (zonesL P b0 b1 b2 b3 b4 b5)).2, .int .i64 0]) := Lib.hid (fun h => if_pos h)
  have HA' : Hid (zonesE P b0 b1 b2 b3 b4 b5 ≠ 0 → bdV P b0 b1 b2 b3 b4 b5 = .tuple #[.int .i64 0, .int .i64 (zonesE P b0 b1 b2 b3 b4 b5)]) := Lib.hid (fun h => if_neg h)
  have HSO := Lib.hid (fun h => zonesE_sound (P := P) (b0 := b0) (b1 := b1) (b2 := b2) (b3 := b3) (b4 := b4) (b5 := b5) h)
  have HBE := Lib.hid (fun (u : World) (v : Value) (hS : Sound P) (h1 : SlC 6 u (.slice pa P.phs.length pc) P.phs.length (flatP P.phs)) (h2 : SlC 2 u v (zonesL P b0 b1 b2 b3 b4 b5).length (flatZ (zonesL P b0 b1 b2 b3 b4 b5))) => best_any P (.slice la ln lc) (.slice ha hn hc) (.slice pa P.phs.length pc) v (zonesL P b0 b1 b2 b3 b4 b5) u h1 h2 (hS.fair _ _ _ _ _ _) (by have := hS.some; simp [zonesL]; omega) (by have := hS.some; simp [zonesL]; omega) rfl rfl)
  generalize zonesE P b0 b1 b2 b3 b4 b5 = zE at *
  generalize zonesL P b0 b1 b2 b3 b4 b5 = zL at *
  generalize bdV P b0 b1 b2 b3 b4 b5 = av at *
  obtain ⟨x0, y0, z0, x1, y1, z1, step, ls, hs, phs, cap⟩ := P
  simp only [Prob.val] at *
  generalize best cap phs zL = bb at *
  go_enter Tryz.func58, Tryz.ntmps58
  have e0_ := cell_of HT.out 0 _ rfl; have e1_ := cell_of HT.out 1 _ rfl; have e2_ := cell_of HT.out 2 _ rfl; have e3_ := cell_of HT.out 3 _ rfl; have e4_ := cell_of HT.out 4 _ rfl; have e5_ := cell_of HT.out 5 _ rfl; have e6_ := cell_of HT.out 6 _ rfl; have e7_ := cell_of HT.out 7 _ rfl; have e8_ := cell_of HT.out 8 _ rfl; have e9_ := cell_of HT.out 9 _ rfl; have e10_ := cell_of HT.out 10 _ rfl
  go_wp2_with fail
  generalize hw1 : (w.alloc (.cells #[.int .i64 x0, .int .i64 y0, .int .i64 z0, .int .i64 x1, .int .i64 y1, .int .i64 z1, .int .i64 step, .slice la ln lc, .slice ha hn hc, .slice pa phs.length pc, .int .i64 cap] 33)).alloc (.cells #[.int .i64 b0, .int .i64 b1, .int .i64 b2, .int .i64 b3, .int .i64 b4, .int .i64 b5] 28) = w1 at *
  clear hw1
  (with_reducible refine (HZ.out _ HI.out).mono ?_)
  rintro e w2 hZ
  clear e0_ e1_ e2_ e3_ e4_ e5_ e6_ e7_ e8_ e9_ e10_
  rcases hZ with ⟨h0, v, rfl, hsl, -, hg2⟩ | ⟨h0, rfl, hg2⟩
  · have HSL := Lib.hid hsl
    obtain ⟨va, vc, rfl⟩ := hsl.slice
    have HT2 := Lib.hid (block_kept hg2 HT.out rfl); have HG2 := Lib.hid (gb_trans HG0.out hg2); have HP2 := Lib.hid (HI.out.p.after hg2)
    clear hg2 hsl HT HI
    have e0_ := cell_of HT2.out 0 _ rfl; have e1_ := cell_of HT2.out 1 _ rfl; have e2_ := cell_of HT2.out 2 _ rfl; have e3_ := cell_of HT2.out 3 _ rfl; have e4_ := cell_of HT2.out 4 _ rfl; have e5_ := cell_of HT2.out 5 _ rfl; have e6_ := cell_of HT2.out 6 _ rfl; have e7_ := cell_of HT2.out 7 _ rfl; have e8_ := cell_of HT2.out 8 _ rfl; have e9_ := cell_of HT2.out 9 _ rfl; have e10_ := cell_of HT2.out 10 _ rfl
    go_wp2_with fail
    (with_reducible refine (HBE.out _ _ (HSO.out h0) HP2.out HSL.out).mono ?_)
    rintro e w3 ⟨rfl, hg3⟩
    have HG3 := Lib.hid (gb_trans HG2.out hg3)
    clear e0_ e1_ e2_ e3_ e4_ e5_ e6_ e7_ e8_ e9_ e10_
    go_wp2_with fail
    exact bodyPost_ret (v := .tuple #[.int .i64 bb.2, .int .i64 0]) (by simp [results, Tryz.results58, go_sem]) rfl ⟨by rw [HA.out h0], HG3.out⟩
  · have HG2 := Lib.hid (gb_trans HG0.out hg2)
    clear hg2
    go_wp2_with fail
    exact bodyPost_ret (v := .tuple #[.int .i64 0, .int .i64 zE]) (by simp [results, Tryz.results58, go_sem]) rfl ⟨by rw [HA'.out h0], HG2.out⟩
end LMisF
end LMisD
end Go.Proofs.YtgaglgopbdfemaaGreatDoor
