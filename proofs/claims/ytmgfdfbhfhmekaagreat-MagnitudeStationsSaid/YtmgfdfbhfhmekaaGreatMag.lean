/- magnitude: half, ValidScale, ground, Station. -/
import Derived.Test.YtmgfdfbhfhmekaaGreatGainE
namespace Go.Proofs.YtmgfdfbhfhmekaaGreat
set_option linter.all false
open Go.RowKit Rg

theorem half_any (n : Int) (w : World) :
    Calls Tryz.prog 27 #[.int .i64 n] w fun e w' => e = .returned (.int .i64 (n / 2)) ∧ w = w' := by
  go_enter Tryz.func27, Tryz.ntmps27
  go_wp2
  go_ret
  exact ⟨rfl, rfl⟩
def Sca.val (s : Sca) (vl vh : Value) : Array Value := #[.int .i64 s.step, vl, vh, .int .i64 s.num, .int .i64 s.den]
theorem cells5 {w : World} {b : Nat} {x0 x1 x2 x3 x4 : Value} {t : TypeId} {fr : Nat × Nat} (h : w.heap[b]? = some (.cells #[x0, x1, x2, x3, x4] t fr)) :
    w.cell? ⟨b, 0, none⟩ = some x0 ∧ w.cell? ⟨b, 1, none⟩ = some x1 ∧ w.cell? ⟨b, 2, none⟩ = some x2 ∧ w.cell? ⟨b, 3, none⟩ = some x3 ∧ w.cell? ⟨b, 4, none⟩ = some x4 := by simp [World.cell?, h]
set_option maxHeartbeats 1000000 in
theorem vscale_any (s : Sca) (vl vh : Value) (w : World) (hl : Sl w vl s.ls) (hh : Sl w vh s.hs) :
    Calls Tryz.prog 13 #[.agg (s.val vl vh)] w fun e w' => e = .returned (.bool s.ok) ∧ w.grownBy w' none := by
  obtain ⟨step, ls, hs, num, den⟩ := s
  dsimp only at hl hh
  have g1 := gb_alloc (gb_refl w none) (.cells #[.int .i64 step, vl, vh, .int .i64 num, .int .i64 den] 26)
  have VA := Lib.hid (validate_any step vl vh ls hs _ (hl.after g1) (hh.after g1))
  have G1 := Lib.hid g1; have B1 := Lib.hid (heap_alloc_new w (.cells #[.int .i64 step, vl, vh, .int .i64 num, .int .i64 den] 26))
  have hv1 : vl.oneCell' = true := by obtain ⟨a, c, rfl⟩ := hl.shape; rfl
  have hv2 : vh.oneCell' = true := by obtain ⟨a, c, rfl⟩ := hh.shape; rfl
  have HOK : Hid (Sca.ok ⟨step, ls, hs, num, den⟩ = (decide (tE step ls hs = 0) && (decide (0 ≤ num) && decide (num ≤ 65536)) && (decide (1 ≤ den) && decide (den ≤ 65536)))) := Lib.hid rfl
  generalize Sca.ok ⟨step, ls, hs, num, den⟩ = ok at *
  generalize tE step ls hs = te at *
  clear g1 hl hh
  simp only [Sca.val]
  go_enter Tryz.func13, Tryz.ntmps13
  go_wp2_with fail
  generalize w.alloc (.cells #[.int .i64 step, vl, vh, .int .i64 num, .int .i64 den] 26) = w1 at *
  generalize w.heap.size = z at *
  (with_reducible refine VA.out.mono ?_)
  rintro e w2 ⟨rfl, hg⟩
  have G2 := Lib.hid (gb_trans G1.out hg)
  obtain ⟨c0_, c1_, c2_, c3_, c4_⟩ := cells5 (block_kept hg B1.out rfl)
  clear hg G1 B1 VA
  by_cases h0 : te = 0
  · subst h0
    rcases Int.lt_or_le num 0 with h1 | h1
    rotate_left
    rcases Int.lt_or_le 65536 num with h2 | h2
    rotate_left
    rcases Int.lt_or_le den 1 with h3 | h3
    rotate_left
    rcases Int.lt_or_le 65536 den with h4 | h4
    all_goals
      go_wp2
      go_ret
      refine ⟨ret_bool (by rw [HOK.out, Bool.eq_iff_iff]; simp; omega), G2.out⟩
  · have h0' : (te == 0) = false := by simpa using h0
    have HE : Hid (ok = false) := Lib.hid (by rw [HOK.out, decide_eq_false h0]; rfl)
    clear h0
    go_wp2
    go_ret
    exact ⟨by rw [HE.out]; rfl, G2.out⟩

/-- A natural number's logarithm. -/
theorem lognat_nat (n : Nat) (v : Value) (w : World) (hs : Sl w v (natL n)) (h : (n : Int) < bpow 64) :
    Calls Tryz.prog 42 #[v] w fun e w' => e = .returned (.tuple #[.int .i64 (if n = 0 then 0 else logNatS (natL n)), .int .i64 (if n = 0 then 2 else 0)]) ∧ w.grownBy w' none := by
  by_cases h0 : n = 0
  · subst h0
    rw [natL_zero] at hs
    refine (lognat_nil v w hs).mono ?_
    rintro e w' ⟨rfl, rfl⟩
    exact ⟨rfl, gb_refl _ _⟩
  · rw [if_neg h0, if_neg h0]
    refine (lognat_any (natL n) v w hs ((natL_is n).valid (natL_lt64 h)) (natL_pos_len (by omega))).mono ?_
    rintro e w' ⟨rfl, k, rfl⟩
    exact ⟨rfl, gb_drewN (gb_refl _ _) _⟩
def grE (r : Int × Nat × Nat) : Int := if r.1 ≠ 0 then r.1 else if r.2.1 = 0 then 24 else 0
def grX (a : Int) (r : Int × Nat × Nat) : Int := if grE r = 0 then grd a r.2.1 r.2.2 else 0

set_option maxRecDepth 100000 in
set_option maxHeartbeats 2000000 in
theorem ground_any (s : Sca) (vl vh v : Value) (L : List Stv) (a : Nat) (w : World) (hl : Sl w vl s.ls) (hh : Sl w vh s.hs) (hs : StIn w v L) (ha1 : 1 ≤ a) (ha : a ≤ 1073741823) :
    Calls Tryz.prog 24 #[.agg (s.val vl vh), .agg #[v], .int .i64 a] w fun e w' => e = .returned (.tuple #[.int .i64 (grX a (gainE (L.map Stv.s) s.num s.den)), .int .i64 (grE (gainE (L.map Stv.s) s.num s.den))]) ∧ w.grownBy w' none := by
  obtain ⟨step, ls, hs', num, den⟩ := s
  dsimp only at hl hh
  obtain ⟨M, hM⟩ : ∃ M : Nat, M = 881 := ⟨_, rfl⟩
  obtain ⟨n1, n2, n3⟩ := gainE_in hM (l := L.map Stv.s) (num := num) (den := den)
  have n4 := logNatS_in (natL_ok hM n1).2; have n5 := logNatS_in (natL_ok hM n2).2
  have n6 := pow_bpow n1 (by omega); have n7 := pow_bpow n2 (by omega)
  have g1 := gb_alloc (gb_refl w none) (.cells #[.int .i64 step, vl, vh, .int .i64 num, .int .i64 den] 26)
  have b1 := heap_alloc_new w (.cells #[.int .i64 step, vl, vh, .int .i64 num, .int .i64 den] 26)
  have l1 : (w.alloc (.cells #[.int .i64 step, vl, vh, .int .i64 num, .int .i64 den] 26)).heap.size = w.heap.size + 1 := by simp
  have g2 := gb_alloc (gb_refl (w.alloc (.cells #[.int .i64 step, vl, vh, .int .i64 num, .int .i64 den] 26)) none) (.cells #[v] 29)
  have b2 := heap_alloc_new (w.alloc (.cells #[.int .i64 step, vl, vh, .int .i64 num, .int .i64 den] 26)) (.cells #[v] 29)
  rw [l1] at b2
  have GA := Lib.hid (Gain_any L v num den _ ((hs.after g1).after g2))
  have W2 := Lib.hid (gb_trans g1 g2); have B2 := Lib.hid (block_kept g2 b1 rfl); have R2 := Lib.hid b2
  have hv1 : vl.oneCell' = true := by obtain ⟨a, c, rfl⟩ := hl.shape; rfl
  have hv2 : vh.oneCell' = true := by obtain ⟨a, c, rfl⟩ := hh.shape; rfl
  have hv3 : v.oneCell' = true := by obtain ⟨a, c, rfl⟩ := hs.1.slice; rfl
  generalize gainE (L.map Stv.s) num den = E at *
  obtain ⟨E, N, D⟩ := E
  dsimp only at n1 n2 n3 n4 n5 n6 n7
  have HN : Hid ((N : Int) < bpow 64 ∧ (D : Int) < bpow 64) := Lib.hid ⟨n6, n7⟩
  have HNP : Hid (0 < N → 0 ≤ logNatS (natL N) ∧ logNatS (natL N) ≤ 500000) := Lib.hid (fun h => n4 (natL_pos_len h))
  have HDP : Hid (0 < D → 0 ≤ logNatS (natL D) ∧ logNatS (natL D) ≤ 500000) := Lib.hid (fun h => n5 (natL_pos_len h))
  have HD1 : Hid (E = 0 → 1 ≤ D) := Lib.hid n3
  have LA := Lib.hid (fun u => log_any a u ha1 (by omega))
  have LI := Lib.hid (logS_in a (by omega))
  clear n1 n2 n3 n4 n5 n6 n7 hM hl hh hs g1 b1 l1 g2 b2
  simp only [Sca.val]
  go_enter Tryz.func24, Tryz.ntmps24
  go_wp2_with fail
  generalize (w.alloc (.cells #[.int .i64 step, vl, vh, .int .i64 num, .int .i64 den] 26)).alloc (.cells #[v] 29) = w2 at *
  (with_reducible refine GA.out.mono ?_)
  rintro e w3 ⟨v1, v2, rfl, s1, s2, hg⟩
  dsimp only at s1 s2
  have W3 := Lib.hid (gb_trans W2.out hg)
  obtain ⟨a1, c1, rfl⟩ := s1.shape; obtain ⟨a2, c2, rfl⟩ := s2.shape
  have g3 := gb_alloc (gb_refl w3 none) (.cells #[.slice a1 (natL N).length c1, .slice a2 (natL D).length c2] 68)
  have F4 := Lib.hid (heap_alloc_new w3 (.cells #[.slice a1 (natL N).length c1, .slice a2 (natL D).length c2] 68))
  have W4 := Lib.hid (gb_trans W3.out g3)
  have LN := Lib.hid (lognat_nat N _ _ (s1.after g3) HN.out.1)
  have LD := Lib.hid (fun (u : World) (hu : (w3.alloc (.cells #[.slice a1 (natL N).length c1, .slice a2 (natL D).length c2] 68)).grownBy u none) => lognat_nat D _ _ ((s2.after g3).after hu) HN.out.2)
  clear s1 s2 hg g3 W3 W2 B2 R2 GA
  generalize (natL N).length = ln at *
  generalize (natL D).length = ld at *
  by_cases hE : E = 0
  · subst hE
    go_wp2_with fail
    generalize w3.alloc (.cells #[.slice a1 ln c1, .slice a2 ld c2] 68) = w4 at *
    generalize w3.heap.size = z at *
    by_cases hN0 : N = 0
    · subst hN0
      rw [if_pos rfl, if_pos rfl] at LN
      (with_reducible refine LN.out.mono ?_)
      rintro e w5 ⟨rfl, hg⟩
      have W5 := Lib.hid (gb_trans W4.out hg)
      clear hg
      go_wp2_with fail
      go_ret2
      exact ⟨by simp [grX, grE], W5.out⟩
    rw [if_neg hN0, if_neg hN0] at LN
    (with_reducible refine LN.out.mono ?_)
    rintro e w5 ⟨rfl, hg⟩
    have W5 := Lib.hid (gb_trans W4.out hg)
    have LD5 := Lib.hid (LD.out w5 hg)
    rw [if_neg (by have := HD1.out trivial; omega), if_neg (by have := HD1.out trivial; omega)] at LD5
    obtain ⟨f0_, f1_⟩ := cells2' (block_kept hg F4.out rfl)
    have RES : Hid (grX a (0, N, D) = 2 * logS a + logNatS (natL D) - logNatS (natL N) ∧ grE (0, N, D) = 0) := Lib.hid (by
      have e : grE (0, N, D) = 0 := by simp [grE, hN0]
      refine ⟨?_, e⟩
      unfold grX
      rw [if_pos e]
      simp [grd])
    have h1 := HNP.out (by omega); have h2 := HDP.out (by have := HD1.out trivial; omega); have h3 := LI.out
    clear hg LN LD W4 F4 hN0 HN HNP HDP HD1 LI
    generalize logNatS (natL N) = xn at *
    generalize logNatS (natL D) = xd at *
    generalize logS a = xa at *
    go_wp2_with fail
    (with_reducible refine LD5.out.mono ?_)
    rintro e w6 ⟨rfl, hg⟩
    have W6 := Lib.hid (gb_trans W5.out hg)
    clear hg f0_ f1_ LD5 W5
    go_wp2_with fail
    (with_reducible refine (LA.out w6).mono ?_)
    rintro e w7 ⟨rfl, rfl⟩
    have hw1 : IntKind.i64.wrap (2 * xa) = 2 * xa := by rw [IntKind.wrap_i64]; omega
    have hw2 : IntKind.i64.wrap (2 * xa + xd) = 2 * xa + xd := by rw [IntKind.wrap_i64]; omega
    have hw3 : IntKind.i64.wrap (2 * xa + xd - xn) = 2 * xa + xd - xn := by rw [IntKind.wrap_i64]; omega
    go_wp2_with fail
    go_ret2
    exact ⟨by rw [RES.out.1, RES.out.2]; rfl, W6.out⟩
  · have hE' : (E != 0) = true := by simpa using hE
    have RES : Hid (grX a (E, N, D) = 0 ∧ grE (E, N, D) = E) := Lib.hid (by
      have e : grE (E, N, D) = E := by simp only [grE]; rw [if_pos hE]
      exact ⟨by unfold grX; rw [e, if_neg hE], e⟩)
    clear hE
    go_wp2_with fail
    go_ret2
    exact ⟨by rw [RES.out.1, RES.out.2]; rfl, W4.out⟩
end Go.Proofs.YtmgfdfbhfhmekaaGreat
