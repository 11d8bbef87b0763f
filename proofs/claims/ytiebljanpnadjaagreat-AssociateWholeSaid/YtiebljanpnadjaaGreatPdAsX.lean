/- AsX -/
import Derived.Test.YtiebljanpnadjaaGreatPdRsp
import Derived.Test.YtiebljanpnadjaaGreatPdAsR
namespace Go.Proofs.YtiebljanpnadjaaGreat
set_option linter.all false
open Go.RowKit Rg
theorem run_neq3s (x y z : Int) (w : World) : (binOp .neq 23 (.agg #[.int .i64 x, .int .i64 y, .int .i64 z]) (.agg #[.int .i64 x, .int .i64 y, .int .i64 z])).run Tryz.prog w = .ok (.bool false) w := by
  simp [go_sem]
attribute [local go_sem high] run_neq3s
theorem flatG_at : ∀ (l : List Grv) (i : Nat) (h : i < l.length) (j : Nat), j < 5 → (flatG l)[i * 5 + j]? = (l[i]).cells[j]?
  | a :: l, 0, _, j, hj => by
    have e : flatG (a :: l) = a.cells ++ flatG l := by simp [flatG]
    rw [e, Nat.zero_mul, Nat.zero_add, List.getElem?_append_left (by simp [Grv.cells]; omega)]; rfl
  | a :: l, i + 1, h, j, hj => by
    have e : flatG (a :: l) = a.cells ++ flatG l := by simp [flatG]
    have hl : a.cells.length = 5 := rfl
    rw [e, List.getElem?_append_right (by rw [hl]; omega), hl, show (i + 1) * 5 + j - 5 = i * 5 + j by omega, flatG_at l i (by simpa using h) j hj]; rfl
/-- The cells of a group. -/
theorem GrIn.at {w : World} {v : Value} {L : List Grv} (h : GrIn w v L) {i : Nat} (hi : i < L.length) : ∃ b off cap ma mc, v = .slice (some ⟨b, off, none⟩) L.length cap ∧ b < w.heap.size ∧ L[i].mv = .slice ma L[i].g.ms.length mc ∧ Sl w (.slice ma L[i].g.ms.length mc) L[i].g.ms ∧
    w.cell? ⟨b, off + i * 5, none⟩ = some (.slice ma L[i].g.ms.length mc) ∧ w.cell? ⟨b, off + i * 5 + 1, none⟩ = some (.int .i64 L[i].g.x) ∧ w.cell? ⟨b, off + i * 5 + 2, none⟩ = some (.int .i64 L[i].g.y) ∧ w.cell? ⟨b, off + i * 5 + 3, none⟩ = some (.int .i64 L[i].g.z) ∧ w.cell? ⟨b, off + i * 5 + 4, none⟩ = some (.int .i64 L[i].g.t) := by
  obtain ⟨b, off, cap, rfl, hb, -, -, hc⟩ := h.1.block (by omega)
  have hm := h.2 L[i] (List.getElem_mem hi)
  obtain ⟨ma, mc, e⟩ := hm.shape
  refine ⟨b, off, cap, ma, mc, rfl, hb, e, e ▸ hm, e ▸ hc (i * 5) _ (flatG_at L i hi 0 (by omega)), ?_, ?_, ?_, ?_⟩
  · rw [Nat.add_assoc]; exact hc _ _ (flatG_at L i hi 1 (by omega))
  · rw [Nat.add_assoc]; exact hc _ _ (flatG_at L i hi 2 (by omega))
  · rw [Nat.add_assoc]; exact hc _ _ (flatG_at L i hi 3 (by omega))
  · rw [Nat.add_assoc]; exact hc _ _ (flatG_at L i hi 4 (by omega))
set_option maxRecDepth 100000 in
set_option maxHeartbeats 8000000 in
theorem groups_same (v1 v2 : Value) (L1 L2 : List Grv) (w : World) (h1 : GrIn w v1 L1) (h2 : GrIn w v2 L2) (he : L1.map Grv.g = L2.map Grv.g) (hl : L1.length ≤ 1000000) :
    Calls Tryz.prog 22 #[v1, v2] w fun e w' => e = .returned (.bool true) ∧ w.grownBy w' none := by
  have hlen : L2.length = L1.length := by have := congrArg List.length he; simpa using this.symm
  have H1 := Lib.hid h1; have H2 := Lib.hid h2; have HE := Lib.hid he; have HL2 := Lib.hid hlen
  obtain ⟨a1, c1, rfl⟩ := h1.1.slice; obtain ⟨a2, c2, rfl⟩ := h2.1.slice
  rw [hlen] at H2 ⊢
  generalize hn : L1.length = n at *
  have HN := Lib.hid hn
  clear h1 h2 he hlen hn
  go_enter Tryz.func22, Tryz.ntmps22
  go_wp2_with fail
  go_loopw [5] (fun i wr => ∃ k : Nat, k ≤ n ∧ i = .int .i64 k ∧ w.grownBy wr none) (fun i _ => n - (intOf i).toNat)
  case atStart => exact ⟨0, by omega, rfl, gb_refl _ _⟩
  case round =>
    obtain ⟨k, hk, rfl, hgr⟩ := hrel
    have HGR := Lib.hid hgr
    clear hgr
    by_cases hlt : k < n
    · have hkd : decide ((k : Int) < (n : Int)) = true := decide_eq_true (by omega)
      have hk1 : k < L1.length := by have := HN.out; omega
      have hk2 : k < L2.length := by have := HN.out; have := HL2.out; omega
      have hg : L1[k].g = L2[k].g := by
        have h := congrArg (fun l => l[k]?) HE.out
        simpa [hk1, hk2] using h
      obtain ⟨b1, o1, d1, m1, f1, e1, hb1, -, hs1, x0_, x1_, x2_, x3_, x4_⟩ := (H1.out.after HGR.out).at hk1
      obtain ⟨b2, o2, d2, m2, f2, e2, hb2, -, hs2, y0_, y1_, y2_, y3_, y4_⟩ := (H2.out.after HGR.out).at hk2
      simp only [Value.slice.injEq] at e1 e2
      obtain ⟨rfl, -, rfl⟩ := e1; obtain ⟨rfl, -, rfl⟩ := e2
      rw [← hg] at hs2 y0_ y1_ y2_ y3_ y4_
      generalize L1[k].g = g at *
      obtain ⟨ms, px, py, pz, pt⟩ := g
      simp only [] at hs1 hs2 x0_ x1_ x2_ x3_ x4_ y0_ y1_ y2_ y3_ y4_
      clear hg
      have HS1 := Lib.hid hs1; have HS2 := Lib.hid hs2
      generalize hml : ms.length = ml at *
      have HML := Lib.hid hml
      clear hs1 hs2 hml
      have u1 := fun (x : Up wr) (c : Nat) => ever_cell x (b := b1) (o := c) hb1
      have u2 := fun (x : Up wr) (c : Nat) => ever_cell x (b := b2) (o := c) hb2
      go_wp2_with fail
      (refine wp_region_grown (by kernel_rfl) (by kernel_rfl) ?_; (repeat (go_big_quiet_step (fail))); refine wpQuiet_nil ?_; intro wq hq)
      have HGQ := Lib.hid hq
      have HGN := Lib.hid (gb_trans HGR.out hq)
      clear hq u1 u2
      have X0 := Lib.hid ((gb_cell HGQ.out hb1 (by simp)).trans x0_); have Y0 := Lib.hid ((gb_cell HGQ.out hb2 (by simp)).trans y0_)
      have HB1 := Lib.hid (Nat.lt_of_lt_of_le hb1 HGQ.out.size); have HB2 := Lib.hid (Nat.lt_of_lt_of_le hb2 HGQ.out.size)
      have T1 := Lib.hid (HS1.out.after HGQ.out); have T2 := Lib.hid (HS2.out.after HGQ.out)
      clear x0_ x1_ x2_ x3_ x4_ y0_ y1_ y2_ y3_ y4_ hb1 hb2 HS1 HS2 HGQ
      go_wp2_with fail
      go_loopw [6] (fun i wr => ∃ j : Nat, j ≤ ml ∧ i = .int .i64 j ∧ wq.grownBy wr none) (fun i _ => ml - (intOf i).toNat)
      case atStart => exact ⟨0, by omega, rfl, gb_refl _ _⟩
      case round =>
        obtain ⟨j, hj, rfl, hgr⟩ := hrel
        have HJR := Lib.hid hgr
        have x0_ := (gb_cell hgr HB1.out (by simp)).trans X0.out; have y0_ := (gb_cell hgr HB2.out (by simp)).trans Y0.out
        have hb1 := Nat.lt_of_lt_of_le HB1.out hgr.size; have hb2 := Nat.lt_of_lt_of_le HB2.out hgr.size
        clear hgr
        by_cases hltj : j < ml
        · have hjd : decide ((j : Int) < (ml : Int)) = true := decide_eq_true (by omega)
          obtain ⟨p1, q1, r1, e1, hp1, hle, hcap, hc1⟩ := (T1.out.after HJR.out).block (by rw [HML.out]; omega)
          obtain ⟨p2, q2, r2, e2, hp2, -, -, hc2⟩ := (T2.out.after HJR.out).block (by rw [HML.out]; omega)
          simp only [Value.slice.injEq] at e1 e2
          obtain ⟨rfl, -, rfl⟩ := e1; obtain ⟨rfl, -, rfl⟩ := e2
          have z1_ := hc1 j (by rw [HML.out]; exact hltj); have z2_ := hc2 j (by rw [HML.out]; exact hltj)
          have hmlb : j < 9223372036854775807 := by have := HML.out; omega
          generalize at0 ms j = y at *
          clear hc1 hc2 hcap hle
          have u1 := fun (x : Up wr) (c : Nat) => ever_cell x (b := b1) (o := c) hb1
          have u2 := fun (x : Up wr) (c : Nat) => ever_cell x (b := b2) (o := c) hb2
          have u3 := fun (x : Up wr) (c : Nat) => ever_cell x (b := p1) (o := c) hp1
          have u4 := fun (x : Up wr) (c : Nat) => ever_cell x (b := p2) (o := c) hp2
          go_wp2_with fail
          (refine wp_region_grown (by kernel_rfl) (by kernel_rfl) ?_; (repeat (go_big_quiet_step (fail))); refine wpQuiet_nil ?_; intro wq hq)
          have HJN := Lib.hid (gb_trans HJR.out hq)
          clear hq u1 u2 u3 u4 x0_ y0_ z1_ z2_
          go_wp2_with fail
          go_roundw
          case rel => exact ⟨j + 1, by omega, by go_num, HJN.out⟩
          case measure => simp [intOf]; omega
        · have hjd : decide ((j : Int) < (ml : Int)) = false := decide_eq_false (by omega)
          have HJE := Lib.hid (gb_trans HGN.out HJR.out)
          go_wp2_with fail
          go_roundw
          case rel => exact ⟨k + 1, by omega, by go_num, HJE.out⟩
          case measure => simp [intOf]; omega
    · have hkd : decide ((k : Int) < (n : Int)) = false := decide_eq_false (by omega)
      go_wp2_with fail
      go_ret
      exact ⟨rfl, HGR.out⟩
end Go.Proofs.YtiebljanpnadjaaGreat
