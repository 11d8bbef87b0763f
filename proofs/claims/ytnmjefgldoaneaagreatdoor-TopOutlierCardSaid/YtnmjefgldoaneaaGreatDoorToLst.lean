/- All24 Lst -/
import Derived.Test.YtnmjefgldoaneaaGreatDoorToGeo
import Derived.Test.YtnmjefgldoaneaaGreatDoorToRgPos
import Derived.Test.YtnmjefgldoaneaaGreatDoorToRefG
namespace Go.Proofs.YtnmjefgldoaneaaGreatDoor
set_option linter.all false
open Go.RowKit
theorem Tryz.infoPosT : (Tryz.prog.info? 26).map (fun i => (i.zero, i.size, i.bytes)) = some (some (.agg #[.int .i64 0, .int .i64 0, .int .i64 0]), 3, 24) := by kernel_rfl
theorem six' {w : World} {b : Nat} {x y z p q r : Value} {t : TypeId} {fr : Nat × Nat} (h : w.heap[b]? = some (.cells #[x, y, z, p, q, r] t fr)) :
    w.cell? ⟨b, 0, none⟩ = some x ∧ w.cell? ⟨b, 1, none⟩ = some y ∧ w.cell? ⟨b, 2, none⟩ = some z ∧ w.cell? ⟨b, 3, none⟩ = some p ∧ w.cell? ⟨b, 4, none⟩ = some q ∧ w.cell? ⟨b, 5, none⟩ = some r := by simp [World.cell?, h]
/-- The loop's own row so far, and the box. -/
def Rows24 (w : World) (x0 y0 z0 x1 y1 z1 : Int) (l : List (Int × Int × Int)) (out : Value) (wr : World) : Prop :=
  wr.ownsRow (w.heap.size + 1) 26 3 out l.length (flat3 l) ∧ wr.heap[w.heap.size]? = some (.cells #[.int .i64 x0, .int .i64 y0, .int .i64 z0, .int .i64 x1, .int .i64 y1, .int .i64 z1] 28 (0, 0)) ∧ w.grownBy wr none
set_option maxRecDepth 100000 in
set_option maxHeartbeats 1000000 in
theorem all_any (x0 y0 z0 x1 y1 z1 : Int) (nx ny nz : Nat) (w : World) (hx : x1 = x0 + nx - 1) (hy : y1 = y0 + ny - 1) (hz : z1 = z0 + nz - 1) (bx : -1000000 ≤ x0 ∧ x0 ≤ 1000000) (by' : -1000000 ≤ y0 ∧ y0 ≤ 1000000) (bz : -1000000 ≤ z0 ∧ z0 ≤ 1000000) (h1 : nx ≤ 20) (h2 : ny ≤ 20) (h3 : nz ≤ 20) :
    Calls Tryz.prog 24 #[.agg #[.int .i64 x0, .int .i64 y0, .int .i64 z0, .int .i64 x1, .int .i64 y1, .int .i64 z1]] w fun e w' => ∃ v, e = .returned v ∧ Rows24 w x0 y0 z0 x1 y1 z1 (preX x0 y0 z0 ny nz nx) v w' := by
  go_enter Tryz.func24, Tryz.ntmps24
  have H0 : Hid (Rows24 w x0 y0 z0 x1 y1 z1 [] (.slice none 0 0) (w.alloc (.cells #[.int .i64 x0, .int .i64 y0, .int .i64 z0, .int .i64 x1, .int .i64 y1, .int .i64 z1] 28))) :=
    Lib.hid ⟨World.ownsRow_nil _ _ _ _, heap_alloc_new _ _, gb_alloc (gb_refl _ _) _⟩
  have HX := Lib.hid hx; have HY := Lib.hid hy; have HZ := Lib.hid hz; clear hx hy hz
  go_wp2_with fail
  go_loopw [3, 4] (fun out x wr => ∃ i : Nat, i ≤ nx ∧ x = .int .i64 (x0 + i) ∧ Rows24 w x0 y0 z0 x1 y1 z1 (preX x0 y0 z0 ny nz i) out wr) (fun _ x _ => (x0 + nx - intOf x).toNat)
  case atStart => exact ⟨0, by omega, by simp, H0.out⟩
  case round =>
    obtain ⟨i, hi, rfl, hr⟩ := hrel
    obtain ⟨m0, m1, m2, m3, m4, m5⟩ := six' hr.2.1
    have HR := Lib.hid hr; clear hr H0
    by_cases hlt : i < nx
    · have hle : x0 + (i : Int) ≤ x1 := by rw [HX.out]; omega
      go_wp2_with fail
      clear m0 m1 m2 m3 m4 m5
      go_loopw [3, 5] (fun out y wr => ∃ j : Nat, j ≤ ny ∧ y = .int .i64 (y0 + j) ∧ Rows24 w x0 y0 z0 x1 y1 z1 (preX x0 y0 z0 ny nz i ++ preY (x0 + i) y0 z0 nz j) out wr) (fun _ y _ => (y0 + ny - intOf y).toNat)
      case atStart => exact ⟨0, by omega, by simp, by simpa [preY_zero] using HR.out⟩
      case round =>
        obtain ⟨j, hj, rfl, hr⟩ := hrel
        obtain ⟨m0, m1, m2, m3, m4, m5⟩ := six' hr.2.1
        have HR2 := Lib.hid hr; clear hr HR
        by_cases hlt2 : j < ny
        · have hle2 : y0 + (j : Int) ≤ y1 := by rw [HY.out]; omega
          go_wp2_with fail
          clear m0 m1 m2 m3 m4 m5
          go_loopw [3, 6] (fun out z wr => ∃ k : Nat, k ≤ nz ∧ z = .int .i64 (z0 + k) ∧ Rows24 w x0 y0 z0 x1 y1 z1 (preX x0 y0 z0 ny nz i ++ preY (x0 + i) y0 z0 nz j ++ preZ (x0 + i) (y0 + j) z0 k) out wr) (fun _ z _ => (z0 + nz - intOf z).toNat)
          case atStart => exact ⟨0, by omega, by simp, by simpa [preZ_zero] using HR2.out⟩
          case round =>
            obtain ⟨k, hk, rfl, hr⟩ := hrel
            obtain ⟨m0, m1, m2, m3, m4, m5⟩ := six' hr.2.1
            have HR3 := Lib.hid hr; clear hr HR2
            by_cases hlt3 : k < nz
            · have hle3 : z0 + (k : Int) ≤ z1 := by rw [HZ.out]; omega
              have hown := HR3.out.1
              have hBx := HR3.out.2.1
              have hlen : (preX x0 y0 z0 ny nz i ++ preY (x0 + i) y0 z0 nz j ++ preZ (x0 + i) (y0 + j) z0 k).length ≤ 10000 := by
                simp only [List.length_append, preX_length, preY_length, preZ_length]
                have e1 : ny * nz ≤ 20 * 20 := Nat.mul_le_mul h2 h3
                have e2 : i * (ny * nz) ≤ 20 * (20 * 20) := Nat.mul_le_mul (by omega) e1
                have e3 : j * nz ≤ 20 * 20 := Nat.mul_le_mul (by omega) h3
                omega
              have hbl := block_lt hBx
              have hg := HR3.out.2.2
              have PUSH := Lib.hid (fun (v' : Value) (w1 : World) (h : w1.ownsRow (w.heap.size + 1) 26 3 v' ((preX x0 y0 z0 ny nz i ++ preY (x0 + i) y0 z0 nz j ++ preZ (x0 + i) (y0 + j) z0 k).length + 1) (flat3 (preX x0 y0 z0 ny nz i ++ preY (x0 + i) y0 z0 nz j ++ preZ (x0 + i) (y0 + j) z0 k) ++ [.int .i64 (x0 + (i : Int)), .int .i64 (y0 + (j : Int)), .int .i64 (z0 + (k : Int))])) (hg1 : (wr.alloc (.cells #[.int .i64 (x0 + (i : Int)), .int .i64 (y0 + (j : Int)), .int .i64 (z0 + (k : Int))] 26)).grownBy w1 u3.ownBlock) =>
                show Rows24 w x0 y0 z0 x1 y1 z1 (preX x0 y0 z0 ny nz i ++ preY (x0 + i) y0 z0 nz j ++ preZ (x0 + i) (y0 + j) z0 (k + 1)) v' w1 from by
                  refine ⟨?_, ?_, push_grown hg hown (by omega) hg1⟩
                  · rw [preZ_succ, ← List.append_assoc, flat3_append, List.length_append]; exact h
                  · rw [hg1.block _ (by simp; omega) (fun e => by have := (hown.lt _ e.symm).1; omega), heap_alloc_old _ _ hbl]; exact hBx)
              clear hg hBx
              go_wp2_with (at_builtin; refine wpList_push rfl _ _ 73 rfl (w.heap.size + 1) 26 (.agg #[.int .i64 0, .int .i64 0, .int .i64 0]) 3 24 Tryz.underlying73 Tryz.infoPosT rfl (by decide) (by decide) _ _ _ rfl (hown.alloc _) wr.heap.size 1 [.int .i64 (x0 + (i : Int)), .int .i64 (y0 + (j : Int)), .int .i64 (z0 + (k : Int))] 26 rfl (heap_alloc_new _ _) rfl (by simp [Value.oneCell']) (by omega) (by simp; omega) ?_; intro v' w1 hown' hg')
              have HN := Lib.hid (PUSH.out v' w1 hown' hg')
              clear hown hown' hg' PUSH
              go_roundw
              case rel => exact ⟨k + 1, by omega, by go_num, HN.out⟩
              case measure => simp [intOf]; omega
            · obtain rfl : k = nz := by omega
              have hle3 : z1 < z0 + (k : Int) := by rw [HZ.out]; omega
              go_wp2
              go_roundw
              case rel => exact ⟨j + 1, by omega, by go_num, by have := HR3.out; rwa [List.append_assoc, ← preY_succ] at this⟩
              case measure => simp [intOf]; omega
        · obtain rfl : j = ny := by omega
          have hle2 : y1 < y0 + (j : Int) := by rw [HY.out]; omega
          go_wp2
          go_roundw
          case rel => exact ⟨i + 1, by omega, by go_num, by have := HR2.out; rwa [← preX_succ] at this⟩
          case measure => simp [intOf]; omega
    · obtain rfl : i = nx := by omega
      have hle : x1 < x0 + (i : Int) := by rw [HX.out]; omega
      go_wp2
      go_ret
      exact ⟨_, rfl, HR.out⟩
end Go.Proofs.YtnmjefgldoaneaaGreatDoor
namespace Go.Proofs.YtnmjefgldoaneaaGreatDoor
set_option linter.all false
open Go.RowKit Rg
/-- The least of the first k values of f; -1: of none. -/
def Lw (L : List (Int × Int × Int)) (f : Int × Int × Int → Int) (k : Nat) (r : Int) : Prop :=
  (k = 0 ∧ r = -1) ∨ (0 < k ∧ (∃ p ∈ L.take k, r = f p) ∧ ∀ p ∈ L.take k, r ≤ f p)
theorem Lw.take {L : List (Int × Int × Int)} {f : Int × Int × Int → Int} {k : Nat} {r : Int} (h : Lw L f k r) (hk : k < L.length) (hc : r < 0 ∨ f L[k] < r) (hf : ∀ p ∈ L, 0 ≤ f p) : Lw L f (k + 1) (f L[k]) := by
  refine .inr ⟨by omega, ⟨L[k], ?_, rfl⟩, fun p hp => ?_⟩
  · rw [List.take_succ_eq_append_getElem hk]; exact List.mem_append_right _ (List.mem_singleton.2 rfl)
  · rw [List.take_succ_eq_append_getElem hk, List.mem_append, List.mem_singleton] at hp
    rcases hp with hp | rfl
    · rcases h with ⟨h0, h1⟩ | ⟨h0, h2, h3⟩
      · subst h0; simp at hp
      · have := h3 p hp
        obtain ⟨p2, hp2, h4⟩ := h2
        have := hf p2 (List.mem_of_mem_take hp2)
        omega
    · exact Int.le_refl _
theorem Lw.skip {L : List (Int × Int × Int)} {f : Int × Int × Int → Int} {k : Nat} {r : Int} (h : Lw L f k r) (hk : k < L.length) (h1 : ¬ r < 0) (h2 : ¬ f L[k] < r) (hf : ∀ p ∈ L, 0 ≤ f p) : Lw L f (k + 1) r := by
  rcases h with ⟨h0, h3⟩ | ⟨h0, ⟨p2, hp2, h4⟩, h3⟩
  · omega
  · refine .inr ⟨by omega, ⟨p2, ?_, h4⟩, fun p hp => ?_⟩
    · rw [List.take_succ_eq_append_getElem hk]; exact List.mem_append_left _ hp2
    · rw [List.take_succ_eq_append_getElem hk, List.mem_append, List.mem_singleton] at hp
      rcases hp with hp | rfl
      · exact h3 p hp
      · omega
theorem addr_is' (g j : Nat) : (⟨g, 0, none⟩ : Addr).add j = ⟨g, j, none⟩ := by unfold Addr.add; split <;> simp_all
set_option maxRecDepth 100000 in
set_option maxHeartbeats 8000000 in
theorem rleast_any (P : Prob) (vl vh vp : Value) (nx ny nz : Nat) (w : World) (hi : ProbIn P vl vh vp w) (hbig : P.phs.length ≤ 1000000000) (hx : P.x1 = P.x0 + nx - 1) (hy : P.y1 = P.y0 + ny - 1) (hz : P.z1 = P.z0 + nz - 1) (bx : -1000000 ≤ P.x0 ∧ P.x0 ≤ 1000000) (by' : -1000000 ≤ P.y0 ∧ P.y0 ≤ 1000000) (bz : -1000000 ≤ P.z0 ∧ P.z0 ≤ 1000000) (h1 : nx ≤ 20) (h2 : ny ≤ 20) (h3 : nz ≤ 20)
    (L : List (Int × Int × Int)) (hL : preX P.x0 P.y0 P.z0 ny nz nx = L) (hlen : 0 < L.length ∧ L.length ≤ 10000) (hE : ∀ p ∈ L, bdE P p.1 p.2.1 p.2.2 p.1 p.2.1 p.2.2 = 0) (hM : ∀ p ∈ L, 0 ≤ bdC P p.1 p.2.1 p.2.2 p.1 p.2.1 p.2.2) :
    Calls Tryz.prog 11 #[.agg (P.val vl vh vp)] w fun e w' => ∃ r, e = .returned (.int .i64 r) ∧ Lw L (fun p => bdC P p.1 p.2.1 p.2.2 p.1 p.2.1 p.2.2) L.length r ∧ w.grownBy w' none := by
  have RAT := Lib.hid (fun x y z (u : World) (h : w.grownBy u none) => rat_any P vl vh vp x y z u (hi.after h) hbig)
  simp only [atV_eq] at RAT
  have ALL := Lib.hid (fun u => all_any P.x0 P.y0 P.z0 P.x1 P.y1 P.z1 nx ny nz u hx hy hz bx by' bz h1 h2 h3)
  rw [hL] at ALL
  have HE := Lib.hid hE; have HM := Lib.hid hM; have HLEN := Lib.hid hlen
  clear hx hy hz bx by' bz h1 h2 h3 hL hE hM hlen
  obtain ⟨f, hf⟩ : ∃ f : Int × Int × Int → Int, f = fun p => bdC P p.1 p.2.1 p.2.2 p.1 p.2.1 p.2.2 := ⟨_, rfl⟩
  have HF : Hid (∀ a b c, bdC P a b c a b c = f (a, b, c)) := Lib.hid (fun a b c => by rw [hf])
  have HM' : Hid (∀ p ∈ L, 0 ≤ f p) := Lib.hid (fun p hp => by rw [hf]; exact HM.out p hp)
  rw [← hf]
  clear hf HM hi hbig
  generalize bdE P = be at *
  generalize atT P = att at *
  generalize bdC P = bc at *
  obtain ⟨x0, y0, z0, x1, y1, z1, step, ls, hs, phs, cap⟩ := P
  rw [show Prob.val ⟨x0, y0, z0, x1, y1, z1, step, ls, hs, phs, cap⟩ vl vh vp = #[.int .i64 x0, .int .i64 y0, .int .i64 z0, .int .i64 x1, .int .i64 y1, .int .i64 z1, .int .i64 step, vl, vh, vp, .int .i64 cap] from rfl] at RAT ⊢
  dsimp only at ALL
  go_enter Tryz.func11, Tryz.ntmps11
  have hg0 : w.grownBy (w.alloc (.cells #[.int .i64 x0, .int .i64 y0, .int .i64 z0, .int .i64 x1, .int .i64 y1, .int .i64 z1, .int .i64 step, vl, vh, vp, .int .i64 cap] 33)) none := gb_alloc (gb_refl _ _) _
  have B0 := Lib.hid (heap_alloc_new w (.cells #[.int .i64 x0, .int .i64 y0, .int .i64 z0, .int .i64 x1, .int .i64 y1, .int .i64 z1, .int .i64 step, vl, vh, vp, .int .i64 cap] 33))
  obtain ⟨e0_, e1_, e2_, e3_, e4_, e5_, e6_, e7_, e8_, e9_, e10_⟩ := cells11 B0.out
  go_upto_region 1 with fail
  generalize w.alloc (.cells #[.int .i64 x0, .int .i64 y0, .int .i64 z0, .int .i64 x1, .int .i64 y1, .int .i64 z1, .int .i64 step, vl, vh, vp, .int .i64 cap] 33) = w1 at *
  generalize w.heap.size = b0 at *
  go_wp2_with fail
  clear e0_ e1_ e2_ e3_ e4_ e5_ e6_ e7_ e8_ e9_ e10_
  (with_reducible refine (ALL.out w1).mono ?_)
  rintro e w2 ⟨lv, rfl, hown, -, hg⟩
  obtain ⟨lva, lvc, rfl⟩ := owns_slice hown
  obtain ⟨gq, cap', hv, hgB, hgl⟩ := hown.form HLEN.out.1
  simp only [Value.slice.injEq, true_and] at hv
  obtain ⟨rfl, rfl⟩ := hv
  have HOWN := Lib.hid hown
  have G2 := Lib.hid (gb_trans hg0 hg); have B2 := Lib.hid (block_kept hg B0.out rfl)
  clear hg hown ALL B0 hgB hgl hg0
  have hll := HLEN.out.2
  go_wp2_with fail
  go_loopg [3, 13] L.length (fun gk r i wr => ∃ (k : Nat) (rr : Int), k + gk = L.length ∧ i = .int .i64 k ∧ r = .int .i64 rr ∧ Lw L f k rr ∧ w2.grownBy wr none)
  case atStart => exact ⟨0, -1, by omega, rfl, rfl, .inl ⟨rfl, rfl⟩, gb_refl _ _⟩
  case round =>
    obtain ⟨k, rr, hk, rfl, rfl, hlw, hgr⟩ := hrel
    have LW := Lib.hid hlw; have GR := Lib.hid hgr
    clear hlw hgr
    generalize wr = w3 at *
    by_cases hlt : k < L.length
    rotate_left
    · have hkd : decide ((k : Int) < (L.length : Int)) = false := decide_eq_false (by omega)
      have hke : k = L.length := by omega
      have LE : Hid (Lw L f L.length rr) := Lib.hid (by rw [← hke]; exact LW.out)
      have GE := Lib.hid (gb_trans G2.out GR.out)
      clear hke LW
      go_wp2_with fail
      go_ret
      exact ⟨rr, rfl, LE.out, GE.out⟩
    have hkd : decide ((k : Int) < (L.length : Int)) = true := decide_eq_true (by omega)
    have hgi : gk - 1 < gk ∧ k + 1 + (gk - 1) = L.length := by omega
    have hown2 := owns_keep HOWN.out GR.out
    obtain ⟨f1, f2, f3⟩ := flat3_at L k hlt
    have c0 := hown2.cells (g := gq) rfl _ _ f1; have c1 := hown2.cells (g := gq) rfl _ _ f2; have c2 := hown2.cells (g := gq) rfl _ _ f3
    rw [addr_is'] at c0 c1 c2
    clear f1 f2 f3 hown2
    have hmq := List.getElem_mem hlt
    have HN := Lib.hid (fun (h : rr < 0 ∨ f L[k] < rr) => LW.out.take hlt h HM'.out)
    have HS := Lib.hid (fun h1 h2 => LW.out.skip hlt h1 h2 HM'.out)
    have hE0 := HE.out _ hmq
    clear hmq LW
    generalize L[k] = p_ at *
    obtain ⟨qx, qy, qz⟩ := p_
    dsimp only at c0 c1 c2 hE0
    have RA := Lib.hid (fun (u : World) (h : w.grownBy u none) => RAT.out qx qy qz u h)
    rw [hE0, HF.out] at RA
    generalize f (qx, qy, qz) = n at *
    generalize att qx qy qz = tq at *
    have hqc := World.block_lt_of_cell? w3 _ c0
    clear hE0
    have hg4 : w3.grownBy (w3.alloc (.cells #[.int .i64 qx, .int .i64 qy, .int .i64 qz] 26)) none := gb_alloc (gb_refl _ _) _
    have G4 := Lib.hid (gb_trans (gb_trans G2.out GR.out) hg4); have R4 := Lib.hid (gb_trans GR.out hg4); have B4 := Lib.hid (block_kept (gb_trans GR.out hg4) B2.out rfl); have X4 := Lib.hid (heap_alloc_new w3 (.cells #[.int .i64 qx, .int .i64 qy, .int .i64 qz] 26))
    clear hg4 GR
    go_upto_region 5 with fail
    clear c0 c1 c2 hqc
    generalize w3.alloc (.cells #[.int .i64 qx, .int .i64 qy, .int .i64 qz] 26) = w4 at *
    generalize w3.heap.size = bq at *
    obtain ⟨e0_, e1_, e2_, e3_, e4_, e5_, e6_, e7_, e8_, e9_, e10_⟩ := cells11 B4.out
    obtain ⟨q0_, q1_, q2_⟩ := cells3 X4.out
    go_wp2_with fail
    clear e0_ e1_ e2_ e3_ e4_ e5_ e6_ e7_ e8_ e9_ e10_
    clear q0_ q1_ q2_
    (with_reducible refine (RA.out w4 G4.out).mono ?_)
    rintro e w5 ⟨rfl, hg⟩
    have R5 := Lib.hid (gb_trans R4.out hg)
    clear hg R4 G4 B4 X4 RA
    by_cases ha : rr < 0
    · have a1_ : decide (rr < 0) = true := decide_eq_true ha
      have HN' := Lib.hid (HN.out (.inl (by omega)))
      clear HN HS ha
      go_wp2_with fail
      go_roundg (gk - 1)
      case measure => exact hgi.1
      case rel => exact ⟨k + 1, n, hgi.2, by go_num, rfl, HN'.out, R5.out⟩
    have a1_ : decide (rr < 0) = false := decide_eq_false ha
    by_cases hb : n < rr
    · have a2_ : decide (n < rr) = true := decide_eq_true hb
      have HN' := Lib.hid (HN.out (.inr (by omega)))
      clear HN HS ha hb
      go_wp2_with fail
      go_roundg (gk - 1)
      case measure => exact hgi.1
      case rel => exact ⟨k + 1, n, hgi.2, by go_num, rfl, HN'.out, R5.out⟩
    · have a2_ : decide (n < rr) = false := decide_eq_false hb
      have HS' := Lib.hid (HS.out (by omega) (by omega))
      clear HN HS ha hb
      go_wp2_with fail
      go_roundg (gk - 1)
      case measure => exact hgi.1
      case rel => exact ⟨k + 1, rr, hgi.2, by go_num, rfl, HS'.out, R5.out⟩
end Go.Proofs.YtnmjefgldoaneaaGreatDoor
