/- Layer 27: problems in memory; Residual, Cost. -/
import Derived.Test.YtkckcaijfedijaaBndB
import Derived.Test.YtkckcaijfedijaaGrown
import Derived.Test.YtkckcaijfedijaaMem
import Derived.OwnWalk
namespace Go.Proofs.Ytkckcaijfedijaa
set_option linter.all false
section LMisA
open Go.RowKit Rg

structure Ph where
  x : Int
  y : Int
  z : Int
  e : Int
  l : Int
  n : Int
deriving Inhabited
structure Zn where
  f : Int
  t : Int
deriving Inhabited
def Ph.cells (a : Ph) : List Value := [.int .i64 a.x, .int .i64 a.y, .int .i64 a.z, .int .i64 a.e, .int .i64 a.l, .int .i64 a.n]
def Zn.cells (z : Zn) : List Value := [.int .i64 z.f, .int .i64 z.t]
def flatP (l : List Ph) : List Value := l.flatMap Ph.cells
def flatZ (l : List Zn) : List Value := l.flatMap Zn.cells

/-- v reads as a row of n elements of k cells each, whose cells are ys. -/
def SlC (k : Nat) (w : World) (v : Value) (n : Nat) (ys : List Value) : Prop :=
  ys.length = n * k ∧ ((n = 0 ∧ ∃ a cap, v = .slice a 0 cap) ∨
  ∃ b off cap, v = .slice (some ⟨b, off, none⟩) n cap ∧ b < w.heap.size ∧ n ≤ cap ∧ cap ≤ 9223372036854775807 ∧ ∀ j u, ys[j]? = some u → w.cell? ⟨b, off + j, none⟩ = some u)
theorem SlC.after {k n : Nat} {w w' : World} {v : Value} {ys : List Value} (h : SlC k w v n ys) (hg : w.grownBy w' none) : SlC k w' v n ys := by
  refine ⟨h.1, h.2.imp id ?_⟩
  rintro ⟨b, off, cap, e, hb, h1, h2, h3⟩
  exact ⟨b, off, cap, e, Nat.lt_of_lt_of_le hb hg.size, h1, h2, fun j u hj => (gb_cell hg hb (by simp)).trans (h3 j u hj)⟩
theorem SlC.draw {k n p : Nat} {w w' : World} {v : Value} {ys : List Value} (h : SlC k w v n ys) (hg : w.grownBy w' (some p)) (hp : ∀ b off len cap, v = .slice (some ⟨b, off, none⟩) len cap → 0 < len → b ≠ p) : SlC k w' v n ys := by
  refine ⟨h.1, ?_⟩
  rcases h.2 with h0 | ⟨b, off, cap, e, hb, h1, h2, h3⟩
  · exact .inl h0
  · by_cases hn : 0 < n
    · exact .inr ⟨b, off, cap, e, Nat.lt_of_lt_of_le hb hg.size, h1, h2, fun j u hj => (gb_cell hg hb (by simpa using hp _ _ _ _ e hn)).trans (h3 j u hj)⟩
    · exact .inl ⟨by omega, _, _, by rw [e, show n = 0 by omega]⟩
theorem SlC.slice {k n : Nat} {w : World} {v : Value} {ys : List Value} (h : SlC k w v n ys) : ∃ a c, v = .slice a n c := by
  rcases h.2 with ⟨rfl, a, c, rfl⟩ | ⟨b, off, cap, rfl, _⟩ <;> exact ⟨_, _, rfl⟩
theorem SlC.block {k n : Nat} {w : World} {v : Value} {ys : List Value} (h : SlC k w v n ys) (hn : 0 < n) : ∃ b off cap, v = .slice (some ⟨b, off, none⟩) n cap ∧ b < w.heap.size ∧ n ≤ cap ∧ cap ≤ 9223372036854775807 ∧ ∀ j u, ys[j]? = some u → w.cell? ⟨b, off + j, none⟩ = some u := by
  rcases h.2 with ⟨rfl, _⟩ | h
  · omega
  · exact h
theorem SlC.of_owns {w : World} {base : Nat} {E : TypeId} {k n : Nat} {v : Value} {ys : List Value} (h : w.ownsRow base E k v n ys) : SlC k w v n ys := by
  refine ⟨h.1, ?_⟩
  rcases h.2 with ⟨rfl, rfl⟩ | ⟨g, cap, cur, rfl, hb, hg, hle, hcap, _, _⟩
  · exact .inl ⟨rfl, _, _, rfl⟩
  · refine .inr ⟨g, 0, cap, rfl, (Array.getElem?_eq_some_iff.1 hg).1, hle, by unfold maxLen at hcap; exact hcap, fun j u hj => ?_⟩
    have := h.cells (g := g) rfl j u hj
    rw [← this]; congr 1
    unfold Addr.add; split <;> simp_all
theorem flatP_length (l : List Ph) : (flatP l).length = l.length * 6 := by
  induction l with
  | nil => rfl
  | cons a l ih => simp only [flatP, List.flatMap_cons, List.length_append] at *; rw [ih]; simp [Ph.cells]; omega
theorem flatZ_length (l : List Zn) : (flatZ l).length = l.length * 2 := by
  induction l with
  | nil => rfl
  | cons a l ih => simp only [flatZ, List.flatMap_cons, List.length_append] at *; rw [ih]; simp [Zn.cells]; omega
theorem flatP_at : ∀ (l : List Ph) (i : Nat) (h : i < l.length) (j : Nat), j < 6 → (flatP l)[i * 6 + j]? = (l[i]).cells[j]?
  | a :: l, 0, _, j, hj => by
    have e : flatP (a :: l) = a.cells ++ flatP l := by simp [flatP]
    rw [e, Nat.zero_mul, Nat.zero_add, List.getElem?_append_left (by simp [Ph.cells]; omega)]; rfl
  | a :: l, i + 1, h, j, hj => by
    have e : flatP (a :: l) = a.cells ++ flatP l := by simp [flatP]
    have hl : a.cells.length = 6 := rfl
    rw [e, List.getElem?_append_right (by rw [hl]; omega), hl, show (i + 1) * 6 + j - 6 = i * 6 + j by omega, flatP_at l i (by simpa using h) j hj]; rfl
theorem flatZ_at : ∀ (l : List Zn) (i : Nat) (h : i < l.length) (j : Nat), j < 2 → (flatZ l)[i * 2 + j]? = (l[i]).cells[j]?
  | a :: l, 0, _, j, hj => by
    have e : flatZ (a :: l) = a.cells ++ flatZ l := by simp [flatZ]
    rw [e, Nat.zero_mul, Nat.zero_add, List.getElem?_append_left (by simp [Zn.cells]; omega)]; rfl
  | a :: l, i + 1, h, j, hj => by
    have e : flatZ (a :: l) = a.cells ++ flatZ l := by simp [flatZ]
    have hl : a.cells.length = 2 := rfl
    rw [e, List.getElem?_append_right (by rw [hl]; omega), hl, show (i + 1) * 2 + j - 2 = i * 2 + j by omega, flatZ_at l i (by simpa using h) j hj]; rfl
/-- The cells of an element. -/
theorem SlC.ph {w : World} {b off : Nat} {l : List Ph} (h : ∀ j u, (flatP l)[j]? = some u → w.cell? ⟨b, off + j, none⟩ = some u) (i : Nat) (hi : i < l.length) :
    w.cell? ⟨b, off + i * 6, none⟩ = some (.int .i64 l[i].x) ∧ w.cell? ⟨b, off + i * 6 + 1, none⟩ = some (.int .i64 l[i].y) ∧ w.cell? ⟨b, off + i * 6 + 2, none⟩ = some (.int .i64 l[i].z) ∧ w.cell? ⟨b, off + i * 6 + 3, none⟩ = some (.int .i64 l[i].e) ∧ w.cell? ⟨b, off + i * 6 + 4, none⟩ = some (.int .i64 l[i].l) ∧ w.cell? ⟨b, off + i * 6 + 5, none⟩ = some (.int .i64 l[i].n) :=
  ⟨h (i * 6) _ (flatP_at l i hi 0 (by omega)), by rw [Nat.add_assoc]; exact h _ _ (flatP_at l i hi 1 (by omega)), by rw [Nat.add_assoc]; exact h _ _ (flatP_at l i hi 2 (by omega)), by rw [Nat.add_assoc]; exact h _ _ (flatP_at l i hi 3 (by omega)), by rw [Nat.add_assoc]; exact h _ _ (flatP_at l i hi 4 (by omega)), by rw [Nat.add_assoc]; exact h _ _ (flatP_at l i hi 5 (by omega))⟩
theorem SlC.zn {w : World} {b off : Nat} {l : List Zn} (h : ∀ j u, (flatZ l)[j]? = some u → w.cell? ⟨b, off + j, none⟩ = some u) (i : Nat) (hi : i < l.length) :
    w.cell? ⟨b, off + i * 2, none⟩ = some (.int .i64 l[i].f) ∧ w.cell? ⟨b, off + i * 2 + 1, none⟩ = some (.int .i64 l[i].t) :=
  ⟨h (i * 2) _ (flatZ_at l i hi 0 (by omega)), by rw [Nat.add_assoc]; exact h _ _ (flatZ_at l i hi 1 (by omega))⟩

/-- A problem: its region, its table, its phases, its cap. -/
structure Prob where
  x0 : Int
  y0 : Int
  z0 : Int
  x1 : Int
  y1 : Int
  z1 : Int
  step : Int
  ls : List Int
  hs : List Int
  phs : List Ph
  cap : Int
def Prob.val (P : Prob) (vl vh vp : Value) : Array Value := #[.int .i64 P.x0, .int .i64 P.y0, .int .i64 P.z0, .int .i64 P.x1, .int .i64 P.y1, .int .i64 P.z1, .int .i64 P.step, vl, vh, vp, .int .i64 P.cap]
/-- What a problem's value points at. -/
structure ProbIn (P : Prob) (vl vh vp : Value) (w : World) : Prop where
  l : Sl w vl P.ls
  h : Sl w vh P.hs
  p : SlC 6 w vp P.phs.length (flatP P.phs)
theorem ProbIn.after {P : Prob} {vl vh vp : Value} {w w' : World} (h : ProbIn P vl vh vp w) (hg : w.grownBy w' none) : ProbIn P vl vh vp w' := ⟨h.l.after hg, h.h.after hg, h.p.after hg⟩

/-- The distance of a time to a zone. -/
def resid (z : Zn) (t : Int) : Int := max (max (z.f - t) (t - z.t)) 0
theorem residual_any (z : Zn) (t : Int) (w : World) (h1 : -72057594037927936 ≤ z.f ∧ z.f ≤ 72057594037927936) (h2 : -72057594037927936 ≤ z.t ∧ z.t ≤ 72057594037927936) (h3 : -72057594037927936 ≤ t ∧ t ≤ 72057594037927936) :
    Calls Try.prog 46 #[.agg #[.int .i64 z.f, .int .i64 z.t], .int .i64 t] w fun e w' => e = .returned (.int .i64 (resid z t)) ∧ w.grownBy w' none := by
  obtain ⟨f, g⟩ := z
  simp only [] at h1 h2
  have HG := Lib.hid (gb_alloc (gb_refl w none) (.cells #[.int .i64 f, .int .i64 g] 32))
  go_enter Try.func46, Try.ntmps46
  go_wp2
  all_goals
    go_ret
    exact ⟨ret_int (by unfold resid; simp only []; omega), HG.out⟩

/-- One phase's part of the cost. -/
def term (cap : Int) (phs : List Ph) (zs : List Zn) (t : Int) (i : Nat) : Int := if i < zs.length then (phs[i]?.getD default).n * min cap (resid (zs[i]?.getD default) t) else 0
def costN (cap : Int) (phs : List Ph) (zs : List Zn) (t : Int) : Nat → Int
  | 0 => 0
  | k + 1 => costN cap phs zs t k + term cap phs zs t k
def cost (cap : Int) (phs : List Ph) (zs : List Zn) (t : Int) : Int := costN cap phs zs t phs.length
/-- Bounds under which no sum overflows. -/
def Tame (z : Zn) : Prop := (-72057594037927936 ≤ z.f ∧ z.f ≤ 72057594037927936) ∧ (-72057594037927936 ≤ z.t ∧ z.t ≤ 72057594037927936)
structure Fair (cap : Int) (phs : List Ph) (zs : List Zn) : Prop where
  cap : 0 ≤ cap ∧ cap ≤ 1099511627776
  few : phs.length ≤ 70
  wt : ∀ i, i < phs.length → 0 ≤ (phs[i]?.getD default).n ∧ (phs[i]?.getD default).n ≤ 100
  tame : ∀ i, i < zs.length → Tame (zs[i]?.getD default)
theorem resid_nn (z : Zn) (t : Int) : 0 ≤ resid z t := by unfold resid; omega
theorem Fair.term_in {cap : Int} {phs : List Ph} {zs : List Zn} (h : Fair cap phs zs) (t : Int) {i : Nat} (hi : i < phs.length) : 0 ≤ term cap phs zs t i ∧ term cap phs zs t i ≤ 109951162777600 := by
  unfold term; split
  · obtain ⟨w1, w2⟩ := h.wt i hi
    have r := resid_nn (zs[i]?.getD default) t
    have c := h.cap
    generalize (phs[i]?.getD default).n = n at *
    generalize resid (zs[i]?.getD default) t = q at *
    have m1 : 0 ≤ min cap q := by omega
    have m2 : min cap q ≤ 1099511627776 := by omega
    generalize min cap q = m at *
    have a := Int.mul_nonneg w1 m1
    have b := Int.mul_le_mul w2 m2 m1 (by omega)
    exact ⟨a, by omega⟩
  · omega
theorem Fair.costN_in {cap : Int} {phs : List Ph} {zs : List Zn} (h : Fair cap phs zs) (t : Int) : ∀ k, k ≤ phs.length → 0 ≤ costN cap phs zs t k ∧ costN cap phs zs t k ≤ 109951162777600 * k
  | 0, _ => by simp [costN]
  | k + 1, hk => by
    have a := Fair.costN_in h t k (by omega); have b := h.term_in t (i := k) (by omega)
    simp only [costN]
    push_cast
    omega
end LMisA
section LMisB
open Go.RowKit Rg

set_option maxRecDepth 100000 in
set_option maxHeartbeats 2000000 in
theorem cost_any (P : Prob) (vl vh vp vz : Value) (zs : List Zn) (t : Int) (w : World) (hp : SlC 6 w vp P.phs.length (flatP P.phs)) (hz : SlC 2 w vz zs.length (flatZ zs)) (hf : Fair P.cap P.phs zs) (ht : -72057594037927936 ≤ t ∧ t ≤ 72057594037927936) (hzl : zs.length ≤ 70) :
    Calls Try.prog 43 #[.agg (P.val vl vh vp), vz, .int .i64 t] w fun e w' => e = .returned (.int .i64 (cost P.cap P.phs zs t)) ∧ w.grownBy w' none := by
  obtain ⟨x0, y0, z0, x1, y1, z1, step, ls, hs, phs, cap⟩ := P
  simp only [Prob.val] at *
  have hg0 := gb_alloc (gb_refl w none) (.cells #[.int .i64 x0, .int .i64 y0, .int .i64 z0, .int .i64 x1, .int .i64 y1, .int .i64 z1, .int .i64 step, vl, vh, vp, .int .i64 cap] 68)
  have hT := heap_alloc_new w (.cells #[.int .i64 x0, .int .i64 y0, .int .i64 z0, .int .i64 x1, .int .i64 y1, .int .i64 z1, .int .i64 step, vl, vh, vp, .int .i64 cap] 68)
  have HP := Lib.hid (hp.after hg0); have HZ := Lib.hid (hz.after hg0); have HG0 := Lib.hid hg0; have HT := Lib.hid hT
  obtain ⟨pa, pc, rfl⟩ := hp.slice
  obtain ⟨za, zc, rfl⟩ := hz.slice
  clear hp hz hg0 hT
  have hfew := hf.few
  go_enter Try.func43, Try.ntmps43
  go_wp2_with fail
  generalize w.alloc (.cells #[.int .i64 x0, .int .i64 y0, .int .i64 z0, .int .i64 x1, .int .i64 y1, .int .i64 z1, .int .i64 step, vl, vh, .slice pa phs.length pc, .int .i64 cap] 68) = w1 at *
  generalize w.heap.size = q at *
  have HF := Lib.hid hf; clear hf
  go_loopw [7, 13] (fun s i wr => ∃ k : Nat, k ≤ phs.length ∧ i = .int .i64 k ∧ s = .int .i64 (costN cap phs zs t k) ∧ w1.grownBy wr none) (fun _ i _ => phs.length - (intOf i).toNat)
  case atStart => exact ⟨0, by omega, rfl, rfl, gb_refl _ _⟩
  case round =>
    obtain ⟨k, hk, rfl, rfl, hgr⟩ := hrel
    by_cases hlt : k < phs.length
    · obtain ⟨pb, poff, pcap, hpv, hpb, hpc, hpm, hpcell⟩ := (HP.out.after hgr).block (by omega)
      simp only [Value.slice.injEq, true_and] at hpv
      obtain ⟨rfl, rfl⟩ := hpv
      obtain ⟨c0, c1, c2, c3, c4, c5⟩ := SlC.ph hpcell k hlt
      have hin := HF.out.costN_in t k hk
      have htm := HF.out.term_in t hlt
      have hwt := HF.out.wt k hlt
      have hget : phs[k]?.getD default = phs[k] := by simp [hlt]
      rw [hget] at hwt
      have hsucc : Hid (costN cap phs zs t (k + 1) = costN cap phs zs t k + term cap phs zs t k) := Lib.hid rfl
      have HTM : Hid (term cap phs zs t k = if k < zs.length then phs[k].n * min cap (resid (zs[k]?.getD default) t) else 0) := Lib.hid (by unfold term; rw [hget])
      have HPC := Lib.hid hpcell
      clear hpcell hget
      generalize hph : phs[k] = ph at *
      obtain ⟨ax, ay, az, ae, al, an⟩ := ph
      clear hph
      simp only [] at c0 c1 c2 c3 c4 c5 hwt HTM
      have hT := block_kept hgr HT.out rfl
      have D0 := Lib.hid (heap_alloc_new wr (.cells #[.int .i64 ax, .int .i64 ay, .int .i64 az, .int .i64 ae, .int .i64 al, .int .i64 an] 30))
      have D1 := Lib.hid ((heap_alloc_old wr (.cells #[.int .i64 ax, .int .i64 ay, .int .i64 az, .int .i64 ae, .int .i64 al, .int .i64 an] 30) (block_lt' hT)).trans hT)
      have HGR := Lib.hid (gb_alloc hgr (.cells #[.int .i64 ax, .int .i64 ay, .int .i64 az, .int .i64 ae, .int .i64 al, .int .i64 an] 30))
      generalize costN cap phs zs t k = s at *
      generalize term cap phs zs t k = tm at *
      clear hgr hT
      by_cases hz : k < zs.length
      · have HZR := HZ.out.after HGR.out
        obtain ⟨zb, zoff, zcap, hzv, hzb, hzc, hzm, hzcell⟩ := HZR.block (by omega)
        simp only [Value.slice.injEq, true_and] at hzv
        obtain ⟨rfl, rfl⟩ := hzv
        obtain ⟨d0, d1⟩ := SlC.zn hzcell k hz
        obtain ⟨t1, t2⟩ := HF.out.tame k hz
        have hget : zs[k]?.getD default = zs[k] := by simp [hz]
        rw [hget] at t1 t2 HTM
        have HZC := Lib.hid hzcell
        clear hzcell hget HZR
        generalize hzk : zs[k] = zk at *
        have RS := Lib.hid (fun (u : World) => residual_any zk t u t1 t2 ht)
        have hm : tm = an * min cap (resid zk t) := by rw [HTM.out, if_pos hz]
        obtain ⟨zf, zt⟩ := zk
        simp only [] at d0 d1 RS
        clear hzk HTM t1 t2
        have rn := resid_nn ⟨zf, zt⟩ t
        generalize resid ⟨zf, zt⟩ t = rs at *
        have WM : Hid (wrap64 (an * min cap rs) = tm) := Lib.hid (by rw [← hm]; exact IntWalk.wrap64_in _ (by omega))
        have HM := Lib.hid hm; clear hm
        go_wp2_with fail
        generalize hw5 : wr.alloc (.cells #[.int .i64 ax, .int .i64 ay, .int .i64 az, .int .i64 ae, .int .i64 al, .int .i64 an] 30) = w5 at *
        clear hw5
        generalize wr.heap.size = pn at *
        have e5 : w5.cell? ⟨pn, 5, none⟩ = some (.int .i64 an) := by simp [World.cell?, D0.out]
        have e10 : w5.cell? ⟨q, 10, none⟩ = some (.int .i64 cap) := by simp [World.cell?, D1.out]
        have u1 := fun (x : Up w5) (c : Nat) => ever_cell x (b := pn) (o := c) (block_lt' D0.out)
        have u2 := fun (x : Up w5) (c : Nat) => ever_cell x (b := q) (o := c) (block_lt' D1.out)
        have u3 := fun (x : Up w5) (c : Nat) => ever_cell x (b := zb) (o := c) hzb
        clear c0 c1 c2 c3 c4 c5
        (refine wp_region_grown (by kernel_rfl) (by kernel_rfl) ?_; (repeat (go_big_quiet_step (first
          | (go_at_call 46; exact Calls.grown_of (RS _))))); refine wpQuiet_nil ?_; intro wq hq)
        have HGN := Lib.hid (gb_trans HGR.out hq)
        clear u1 u2 u3 e5 e10
        go_wp2_with fail
        go_roundw
        case rel => exact ⟨k + 1, by omega, by go_num, congrArg (Value.int .i64) (by rw [hsucc.out, WM.out]; exact IntWalk.wrap64_in _ (by omega)), HGN.out⟩
        case measure => simp [intOf]; omega
      · have h0 : tm = 0 := by rw [HTM.out, if_neg hz]
        go_wp2_with fail
        go_roundw
        case rel => exact ⟨k + 1, by omega, by go_num, by rw [hsucc.out, h0]; simp, HGR.out⟩
        case measure => simp [intOf]; omega
    · obtain rfl : k = phs.length := by omega
      have HGE := Lib.hid (gb_trans HG0.out hgr)
      go_wp2
      go_ret
      exact ⟨rfl, HGE.out⟩


/-- The times of a list of zones, in order. -/
def timesOf (zs : List Zn) : List Int := zs.flatMap fun z => [z.f, z.t]
/-- The better one of two times. -/
def better (cap : Int) (phs : List Ph) (zs : List Zn) (b : Int × Int) (t : Int) : Int × Int :=
  if cost cap phs zs t < b.2 ∨ (cost cap phs zs t = b.2 ∧ t < b.1) then (t, cost cap phs zs t) else b
def bestOf (cap : Int) (phs : List Ph) (zs : List Zn) : List Int → Int × Int
  | [] => (0, 0)
  | t :: ts => ts.foldl (better cap phs zs) (t, cost cap phs zs t)
def best (cap : Int) (phs : List Ph) (zs : List Zn) : Int × Int := bestOf cap phs zs (timesOf zs)
theorem timesOf_length (zs : List Zn) : (timesOf zs).length = 2 * zs.length := by
  induction zs with
  | nil => rfl
  | cons z zs ih => simp only [timesOf, List.flatMap_cons, List.length_append, List.length_cons] at *; rw [ih]; simp; omega
theorem timesOf_take (zs : List Zn) (k : Nat) (h : k < zs.length) : timesOf (zs.take (k + 1)) = timesOf (zs.take k) ++ [zs[k].f, zs[k].t] := by
  unfold timesOf
  rw [List.take_succ_eq_append_getElem h, List.flatMap_append]; rfl
theorem mem_timesOf {zs : List Zn} {t : Int} : t ∈ timesOf zs ↔ ∃ z ∈ zs, t = z.f ∨ t = z.t := by
  simp [timesOf]
end LMisB
section LMisC
open Go.RowKit Rg

/-- append(s, x1, .., xm), the new elements in a block of their own. -/
theorem wpList_pushes {P : Program} {w : World} {ops : Array Oper} {rest : List Oper} {o : Oper} {a : Act} {Q : Exit → Act → World → Prop} (hgd : o.guard = none) (s x : Operand) (t : TypeId)
    (ho : o.op = .call { callee := .builtin .append, args := #[s, x], argTypes := #[t, t] })
    (base : Nat) (e : TypeId) (z : Value) (size bytes : Nat) (ht : P.underlying t = some (.slice e)) (hinfo : (P.info? e).map (fun i => (i.zero, i.size, i.bytes)) = some (some z, size, bytes)) (hzs : z.cells.size = size) (hsz : 0 < size) (hby : 0 < bytes)
    (v : Value) (n : Nat) (xs : List Value) (hs : a.eval s = v) (hown : w.ownsRow base e size v n xs)
    (b m c : Nat) (news : List Value) (e' : TypeId) (hx : a.eval x = .slice (some ⟨b, 0, none⟩) m c) (hblk : w.heap[b]? = some (.cells news.toArray e' (0, 0))) (hl : news.length = m * size) (h1 : ∀ u ∈ news, u.oneCell' = true)
    (hbytes : (n + m) * bytes ≤ 140737488355328) (hbase : base ≤ w.heap.size)
    (h : ∀ v' w', w'.ownsRow base e size v' (n + m) (xs ++ news) → w.grownBy w' v.ownBlock → wpList P ops Q rest (a.put o.dst v') w') : wpList P ops Q (o :: rest) a w := by
  obtain ⟨i0, hi, hz0, hz1, hz2⟩ := info_parts hinfo
  refine wpList_append_own w hgd s x t ho base e i0 z size bytes ht hi hz0 hz1 hz2 hzs hsz v n xs hs hown ⟨b, 0, none⟩ m c news hx hl ?_ h1 ?_ hbytes hbase (fun v' w' h2 h3 _ => h v' w' h2 h3)
  · intro j u hj
    have hadd : (⟨b, 0, none⟩ : Addr).add j = ⟨b, j, none⟩ := by unfold Addr.add; split <;> simp_all
    rw [hadd]
    simp [World.cell?, hblk]
    exact hj
  · have := Nat.le_mul_of_pos_right (n + m) hby
    unfold maxLen; omega
/-- make([]T, 0, n). -/
theorem wpList_makes {P : Program} {w : World} {ops : Array Oper} {rest : List Oper} {o : Oper} {a : Act} {Q : Exit → Act → World → Prop} (hg : o.guard = none) (l c : Operand) (t : TypeId) (hop : o.op = Op.makeSlice t l c)
    (base : Nat) (e : TypeId) (z : Value) (size bytes : Nat) (h1 : P.underlying t = some (.slice e)) (hinfo : (P.info? e).map (fun i => (i.zero, i.size, i.bytes)) = some (some z, size, bytes))
    (C : Int) (n : Nat) (hl : a.eval l = .int .i64 0) (hc : a.eval c = .int .i64 C) (hC : C = (n : Int)) (b2 : bytes * n ≤ 140737488355328) (b3 : n ≤ 1000000) (b4 : base ≤ w.heap.size)
    (hK : ∀ w', w'.ownsRow base e size (.slice (some ⟨w.heap.size, 0, none⟩) 0 n) 0 [] → w.grownBy w' none → wpList P ops Q rest (a.put o.dst (.slice (some ⟨w.heap.size, 0, none⟩) 0 n)) w') :
    wpList P ops Q (o :: rest) a w := by
  obtain ⟨i0, hi, hz0, hz1, hz2⟩ := info_parts hinfo
  subst hz2
  exact wpList_make_own w hg l c t hop base e i0 z size h1 hi hz0 hz1 .i64 .i64 C n hl hc hC (by omega) (by unfold maxLen; omega) b4 hK

theorem owns_ints {w : World} {base : Nat} {E : TypeId} {g n cap : Nat} {xs : List Int} (h : w.ownsRow base E 1 (.slice (some ⟨g, 0, none⟩) n cap) n (xs.map (Value.int .i64))) (j : Nat) (hj : j < xs.length) : w.cell? ⟨g, j, none⟩ = some (.int .i64 (xs[j]?.getD 0)) := by
  have := h.cells (g := g) rfl j (.int .i64 (xs[j]?.getD 0)) (by simp [List.getElem?_map, List.getElem?_eq_getElem hj])
  rw [← this]; congr 1
  unfold Addr.add; split <;> simp_all
/-- Times of zones that are tame. -/
theorem timesOf_at {zs : List Zn} (h : ∀ i, i < zs.length → Tame (zs[i]?.getD default)) {t : Int} (ht : t ∈ timesOf zs) : -72057594037927936 ≤ t ∧ t ≤ 72057594037927936 := by
  obtain ⟨z, hz, e⟩ := mem_timesOf.1 ht
  obtain ⟨i, hi, rfl⟩ := List.getElem_of_mem hz
  have hh := h i hi
  rw [show zs[i]?.getD default = zs[i] by simp [hi]] at hh
  rcases e with rfl | rfl
  · exact hh.1
  · exact hh.2

set_option maxRecDepth 100000 in
set_option maxHeartbeats 2000000 in
theorem best_any (P : Prob) (vl vh vp vz : Value) (zs : List Zn) (w : World) (hp : SlC 6 w vp P.phs.length (flatP P.phs)) (hz : SlC 2 w vz zs.length (flatZ zs)) (hf : Fair P.cap P.phs zs) (hzl : zs.length ≤ 70) (h0 : 0 < zs.length) (ol : vl.oneCell' = true) (oh : vh.oneCell' = true) :
    Calls Try.prog 41 #[.agg (P.val vl vh vp), vz] w fun e w' => e = .returned (.tuple #[.int .i64 (best P.cap P.phs zs).1, .int .i64 (best P.cap P.phs zs).2]) ∧ w.grownBy w' none := by
  have hg0 := gb_alloc (gb_refl w none) (.cells (P.val vl vh vp) 68)
  have hT := heap_alloc_new w (.cells (P.val vl vh vp) 68)
  have HP := Lib.hid (hp.after hg0); have HZ := Lib.hid (hz.after hg0); have HG0 := Lib.hid hg0; have HT := Lib.hid hT
  obtain ⟨zb, zoff, zcap, rfl, hzb, -⟩ := hz.block h0
  clear hp hz hg0 hT
  have HF := Lib.hid hf
  have hfew := hf.few
  clear hf
  obtain ⟨x0, y0, z0, x1, y1, z1, step, ls, hs, phs, cap⟩ := P
  simp only [Prob.val] at *
  go_enter Try.func41, Try.ntmps41
  have HQ : Hid (w.heap.size < (w.alloc (.cells #[.int .i64 x0, .int .i64 y0, .int .i64 z0, .int .i64 x1, .int .i64 y1, .int .i64 z1, .int .i64 step, vl, vh, vp, .int .i64 cap] 68)).heap.size) := Lib.hid (by simp)
  go_wp2_with (with_reducible refine wpList_makes rfl _ _ _ rfl (w.heap.size + 1) 3 (.int .i64 0) 1 8 Try.underlying22 Try.infoIntT _ (2 * zs.length) rfl rfl (by push_cast; rfl) (by omega) (by omega) (by simp) ?_; intro w2 hown hg2)
  have HOWN := Lib.hid hown; have HGW := Lib.hid hg2; clear hown hg2
  have HG0' := HG0
  generalize hw1 : w.alloc (.cells #[.int .i64 x0, .int .i64 y0, .int .i64 z0, .int .i64 x1, .int .i64 y1, .int .i64 z1, .int .i64 step, vl, vh, vp, .int .i64 cap] 68) = w1 at *
  have hsz1 : w1.heap.size = w.heap.size + 1 := by rw [← hw1]; simp
  clear hw1
  have HSZ := Lib.hid hsz1; clear hsz1
  go_loopw [6, 20] (fun v i wr => ∃ k : Nat, k ≤ zs.length ∧ i = .int .i64 k ∧ wr.ownsRow (w.heap.size + 1) 3 1 v (2 * k) ((timesOf (zs.take k)).map (Value.int .i64)) ∧ w1.grownBy wr none) (fun _ i _ => zs.length - (intOf i).toNat)
  case atStart => exact ⟨0, by omega, rfl, by have := HOWN.out; rw [HSZ.out] at this; simpa [timesOf] using this, HGW.out⟩
  case round =>
    obtain ⟨k, hk, rfl, hown, hgr⟩ := hrel
    by_cases hlt : k < zs.length
    · obtain ⟨zb', zoff', zcap', hzv, hzb', hzc, hzm, hzcell⟩ := (HZ.out.after hgr).block h0
      simp only [Value.slice.injEq, Option.some.injEq, Addr.mk.injEq, true_and, and_true] at hzv
      obtain ⟨⟨rfl, rfl⟩, rfl⟩ := hzv
      obtain ⟨d0, d1⟩ := SlC.zn hzcell k hlt
      have HTK := Lib.hid (timesOf_take zs k hlt)
      clear hzcell
      generalize hzk : zs[k] = zk at *
      obtain ⟨zf, zt⟩ := zk
      simp only [] at d0 d1 HTK
      clear hzk
      have hgs := hgr.size
      have hws := HSZ.out
      have hlen : (timesOf (zs.take k)).length = 2 * k := by rw [timesOf_length]; simp; omega
      have PUSH := Lib.hid (fun (v' : Value) (u : World) (h : u.ownsRow (w.heap.size + 1) 3 1 v' (2 * k + 2) ((timesOf (zs.take k)).map (Value.int .i64) ++ [.int .i64 zf, .int .i64 zt])) (hg : ((wr.alloc (.cells #[.int .i64 zf, .int .i64 zt] 32)).alloc (.cells #[.int .i64 zf, .int .i64 zt] 3)).grownBy u (u6).ownBlock) =>
        show u.ownsRow (w.heap.size + 1) 3 1 v' (2 * (k + 1)) ((timesOf (zs.take (k + 1))).map (Value.int .i64)) ∧ w1.grownBy u none from
          ⟨by rw [HTK.out, List.map_append]; exact h, gb_new (gb_alloc (gb_alloc hgr _) _) hg (fun q hq => by have := (hown.lt q hq).1; omega)⟩)
      have HOW := Lib.hid hown
      clear hown
      go_wp2_with (at_builtin; refine wpList_pushes rfl _ _ 22 rfl (w.heap.size + 1) 3 (.int .i64 0) 1 8 Try.underlying22 Try.infoIntT rfl (by decide) (by decide) _ _ _ rfl ((HOW.out.alloc _).alloc _) (wr.heap.size + 1) 2 2 [.int .i64 zf, .int .i64 zt] 3 rfl (by simpa using heap_alloc_new (wr.alloc _) _) rfl (by simp [Value.oneCell']) (by omega) (by simp; omega) ?_; intro v' w3 hown' hg')
      have HN := Lib.hid (PUSH.out v' w3 hown' hg')
      clear hown' hg' PUSH HOW
      go_roundw
      case rel => exact ⟨k + 1, by omega, by go_num, HN.out.1, HN.out.2⟩
      case measure => simp [intOf]; omega
    · obtain rfl : k = zs.length := by omega
      rw [List.take_length] at hown
      have hTB := fun t ht => timesOf_at HF.out.tame (t := t) ht
      have hTL := timesOf_length zs
      obtain ⟨g, tcap, rfl, hgB, hgl, hle, hcapm, hcell⟩ := owns_at hown (by omega)
      have HBEST : Hid (best cap phs zs = bestOf cap phs zs (timesOf zs)) := Lib.hid rfl
      generalize timesOf zs = T at *
      obtain ⟨t0, ts, rfl⟩ : ∃ t0 ts, T = t0 :: ts := by
        cases T with
        | nil => simp at hTL; omega
        | cons a b => exact ⟨a, b, rfl⟩
      simp only [List.length_cons] at hTL
      have hlen : 2 * zs.length = ts.length + 1 := by omega
      have hcc := fun j (hj : j < ts.length + 1) => owns_ints hown j (by simpa using hj)
      rw [hlen] at hle ⊢
      have HCC := Lib.hid hcc; have HTB := Lib.hid hTB
      have c0 : wr.cell? ⟨g, 0, none⟩ = some (.int .i64 t0) := by have := hcc 0 (by omega); simpa using this
      clear hcell hown hcc hTB hTL
      have hT := block_kept hgr HT.out rfl
      have COST := Lib.hid (fun (t : Int) (ht : t ∈ t0 :: ts) (u : World) (hu : w1.grownBy u none) => cost_any ⟨x0, y0, z0, x1, y1, z1, step, ls, hs, phs, cap⟩ vl vh vp (.slice (some ⟨zb, zoff, none⟩) zs.length zcap) zs t u (HP.out.after hu) (HZ.out.after hu) HF.out (HTB.out t ht) hzl)
      simp only [Prob.val] at COST
      have CE := Lib.hid (fun (x : Up wr) (c : Nat) => ever_cell x (b := w.heap.size) (o := c) (block_lt' hT))
      have e_ := fun (c : Nat) (v : Value) (h : (#[.int .i64 x0, .int .i64 y0, .int .i64 z0, .int .i64 x1, .int .i64 y1, .int .i64 z1, .int .i64 step, vl, vh, vp, .int .i64 cap] : Array Value)[c]? = some v) => (show wr.cell? ⟨w.heap.size, c, none⟩ = some v by simpa [World.cell?, hT] using h)
      have e0 := e_ 0 _ rfl; have e1 := e_ 1 _ rfl; have e2 := e_ 2 _ rfl; have e3 := e_ 3 _ rfl; have e4 := e_ 4 _ rfl; have e5 := e_ 5 _ rfl; have e6 := e_ 6 _ rfl; have e7 := e_ 7 _ rfl; have e8 := e_ 8 _ rfl; have e9 := e_ 9 _ rfl; have e10 := e_ 10 _ rfl
      clear e_
      have hne0 : ((ts.length : Int) + 1 == 0) = false := by rw [beq_eq_false_iff_ne]; omega
      have u1 := CE.out
      have u2 := fun (x : Up wr) (c : Nat) => ever_cell x (b := g) (o := c) hgl
      go_wp2_with fail
      (refine wp_region_grown (by kernel_rfl) (by kernel_rfl) ?_; (repeat (go_big_quiet_step (first
        | (go_at_call 43; exact Calls.grown_of (COST.out t0 (by simp) _ (gb_trans hgr (ever_up _))))))); refine wpQuiet_nil ?_; intro wq hq)
      have HGQ := Lib.hid (gb_trans hgr hq)
      have CQ := Lib.hid (fun j hj => (gb_cell hq hgl (by simp)).trans (HCC.out j hj))
      have hTq := block_kept hq hT rfl
      have hglq := Nat.lt_of_lt_of_le hgl hq.size
      clear u1 u2 e0 e1 e2 e3 e4 e5 e6 e7 e8 e9 e10 CE HCC c0 hT hgr hq hgl
      have HTQ := Lib.hid hTq; clear hTq
      go_wp2_with fail
      go_loopw [9, 10, 47] (fun bt bc i wr => ∃ k : Nat, k ≤ ts.length ∧ i = .int .i64 k ∧ bt = .int .i64 ((ts.take k).foldl (better cap phs zs) (t0, cost cap phs zs t0)).1 ∧ bc = .int .i64 ((ts.take k).foldl (better cap phs zs) (t0, cost cap phs zs t0)).2 ∧ wq.grownBy wr none) (fun _ _ i _ => ts.length - (intOf i).toNat)
      case atStart => exact ⟨0, by omega, rfl, rfl, rfl, gb_refl _ _⟩
      case round =>
        obtain ⟨k, hk, rfl, rfl, rfl, hgr⟩ := hrel
        by_cases hlt : k < ts.length
        · have ck : wr.cell? ⟨g, 1 + k, none⟩ = some (.int .i64 ts[k]) := by
            have := (gb_cell hgr hglq (o := 1 + k) (by simp)).trans (CQ.out (1 + k) (by omega))
            rw [this, show (t0 :: ts)[1 + k]? = ts[k]? by rw [Nat.add_comm]; rfl]; simp [hlt]
          have hmem : ts[k] ∈ t0 :: ts := List.mem_cons_of_mem _ (List.getElem_mem hlt)
          have HFOLD : Hid ((ts.take (k + 1)).foldl (better cap phs zs) (t0, cost cap phs zs t0) = better cap phs zs ((ts.take k).foldl (better cap phs zs) (t0, cost cap phs zs t0)) ts[k]) := Lib.hid (by
            rw [List.take_succ_eq_append_getElem hlt, List.foldl_append]; rfl)
          generalize (ts.take k).foldl (better cap phs zs) (t0, cost cap phs zs t0) = bb at *
          obtain ⟨bt, bc⟩ := bb
          have hT := block_kept hgr HTQ.out rfl
          have e_ := fun (c : Nat) (v : Value) (h : (#[.int .i64 x0, .int .i64 y0, .int .i64 z0, .int .i64 x1, .int .i64 y1, .int .i64 z1, .int .i64 step, vl, vh, vp, .int .i64 cap] : Array Value)[c]? = some v) => (show wr.cell? ⟨w.heap.size, c, none⟩ = some v by simpa [World.cell?, hT] using h)
          have e0 := e_ 0 _ rfl; have e1 := e_ 1 _ rfl; have e2 := e_ 2 _ rfl; have e3 := e_ 3 _ rfl; have e4 := e_ 4 _ rfl; have e5 := e_ 5 _ rfl; have e6 := e_ 6 _ rfl; have e7 := e_ 7 _ rfl; have e8 := e_ 8 _ rfl; have e9 := e_ 9 _ rfl; have e10 := e_ 10 _ rfl
          have CK := Lib.hid (COST.out ts[k] hmem wr (gb_trans HGQ.out hgr))
          generalize ts[k] = tk at *
          have HGR := Lib.hid hgr
          clear e_ hT hgr hmem
          simp only []
          go_wp2_with fail
          (with_reducible refine CK.out.mono ?_)
          rintro e w7 ⟨rfl, hg7⟩
          have HN := Lib.hid (gb_trans HGR.out hg7)
          have HBT : Hid (better cap phs zs (bt, bc) tk = if cost cap phs zs tk < bc ∨ (cost cap phs zs tk = bc ∧ tk < bt) then (tk, cost cap phs zs tk) else (bt, bc)) := Lib.hid rfl
          clear CK hg7 e0 e1 e2 e3 e4 e5 e6 e7 e8 e9 e10 ck
          generalize better cap phs zs (bt, bc) tk = nb at *
          generalize cost cap phs zs tk = ck at *
          by_cases c1 : ck < bc
          · have HB2 := Lib.hid (HBT.out.trans (if_pos (.inl c1)))
            go_wp2_with fail
            go_roundw
            case rel => exact ⟨k + 1, by omega, by go_num, by (rw [HFOLD.out, HB2.out]; first | done | (simp; omega)), by (rw [HFOLD.out, HB2.out]; first | done | (simp; omega)), HN.out⟩
            case measure => simp [intOf]; omega
          · by_cases c2 : ck = bc
            · by_cases c3 : tk < bt
              · have HB2 := Lib.hid (HBT.out.trans (if_pos (.inr ⟨c2, c3⟩)))
                go_wp2_with fail
                go_roundw
                case rel => exact ⟨k + 1, by omega, by go_num, by (rw [HFOLD.out, HB2.out]; first | done | (simp; omega)), by (rw [HFOLD.out, HB2.out]; first | done | (simp; omega)), HN.out⟩
                case measure => simp [intOf]; omega
              · have HB2 := Lib.hid (HBT.out.trans (if_neg (by omega)))
                go_wp2_with fail
                go_roundw
                case rel => exact ⟨k + 1, by omega, by go_num, by (rw [HFOLD.out, HB2.out]; first | done | (simp; omega)), by (rw [HFOLD.out, HB2.out]; first | done | (simp; omega)), HN.out⟩
                case measure => simp [intOf]; omega
            · have HB2 := Lib.hid (HBT.out.trans (if_neg (by omega)))
              have c4 : (ck == bc) = false := by simpa using c2
              go_wp2_with fail
              go_roundw
              case rel => exact ⟨k + 1, by omega, by go_num, by (rw [HFOLD.out, HB2.out]; first | done | (simp; omega)), by (rw [HFOLD.out, HB2.out]; first | done | (simp; omega)), HN.out⟩
              case measure => simp [intOf]; omega
        · obtain rfl : k = ts.length := by omega
          rw [List.take_length]
          have HGE := Lib.hid (gb_trans HG0.out (gb_trans HGQ.out hgr))
          have HV : Hid (best cap phs zs = ts.foldl (better cap phs zs) (t0, cost cap phs zs t0)) := HBEST
          generalize ts.foldl (better cap phs zs) (t0, cost cap phs zs t0) = bb at *
          obtain ⟨bt, bc⟩ := bb
          simp only []
          go_wp2_with fail
          exact bodyPost_ret (v := .tuple #[.int .i64 bt, .int .i64 bc]) (by simp [results, Try.results41, go_sem]) rfl ⟨by rw [HV.out], HGE.out⟩
end LMisC
end Go.Proofs.Ytkckcaijfedijaa
