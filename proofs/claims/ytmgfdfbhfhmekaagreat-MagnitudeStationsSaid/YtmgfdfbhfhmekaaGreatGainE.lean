/- response.Gain. -/
import Derived.Test.YtmgfdfbhfhmekaaGreatGain
namespace Go.Proofs.YtmgfdfbhfhmekaaGreat
set_option linter.all false
open Go.RowKit Rg

/-- The state of the loop in Gain. -/
structure GnAt (num den : Int) (L : List Stv) (w : World) (b6 b8 k N D : Nat) (v1 v2 : Value) (u : World) : Prop where
  out : u.heap[b6]? = some (.cells #[.slice none 0 0, .slice none 0 0] 68 (0, 0))
  cur : u.heap[b8]? = some (.cells #[v1, v2] 68 (0, 0))
  n : Sl u v1 (natL N)
  d : Sl u v2 (natL D)
  gr : w.grownBy u none
  rest : gnL num den ((L.drop k).map Stv.s) N D = gnL num den (L.map Stv.s) 1 1
  nlt : N < 2 ^ (1 + 110 * k)
  dlt : D < 2 ^ (1 + 110 * k)
  pos : 1 ≤ D
theorem no_intsS {a b : Option Addr} {n m c d : Nat} : ∀ (j : Nat) (x : Int), (#[Value.slice a n c, Value.slice b m d] : Array Value)[j]? ≠ some (.int .i64 x) := by
  intro j x
  match j with
  | 0 => simp
  | 1 => simp
  | j + 2 => simp
theorem pow_bpow {n j : Nat} (h : n < 2 ^ j) (hj : j ≤ 1920) : (n : Int) < bpow 64 := by
  obtain ⟨K, hK⟩ : ∃ K : Nat, K = 64 := ⟨_, rfl⟩
  rw [← hK]
  exact bpowN (Nat.lt_of_lt_of_le h (Nat.pow_le_pow_right (by omega) (by omega)))
/-- One round. -/
theorem GnAt.step {num den : Int} {L : List Stv} {w u u' : World} {b6 b8 k N D gn gd : Nat} {v1 v2 x1 x2 : Value} (h : GnAt num den L w b6 b8 k N D v1 v2 u) (hk : k < L.length) (hgn : L[k].s.gn num den = gn) (hgd : L[k].s.gd num den = gd) (h0 : 0 < gd) (hlt : gn < 2 ^ 110 ∧ gd < 2 ^ 110)
    (hg : u.grownBy u' none) (hs1 : Sl u' x1 (natL (N * gn))) (hs2 : Sl u' x2 (natL (D * gd))) (hne : b6 ≠ b8) (hb : w.heap.size ≤ b8) (hv : ∃ a n c b m d, v1 = .slice a n c ∧ v2 = .slice b m d) :
    GnAt num den L w b6 b8 (k + 1) (N * gn) (D * gd) x1 x2 ((u'.setCell ⟨b8, 0, none⟩ x1).setCell ⟨b8, 1, none⟩ x2) := by
  have hc := block_kept hg h.cur rfl
  obtain ⟨a, n, c, b, m, d, rfl, rfl⟩ := hv
  have N1 := hs1.ne_block hc no_intsS; have N2 := hs2.ne_block hc no_intsS
  refine ⟨?_, ?_, (hs1.setCell N1).setCell N1, (hs2.setCell N2).setCell N2, gb_setCell (gb_setCell (gb_trans h.gr hg) (.inl hb) _) (.inl hb) _, ?_, ?_, ?_, Nat.mul_pos h.pos h0⟩
  · exact (setCell_far (a := ⟨b8, 1, none⟩) hne).trans ((setCell_far (a := ⟨b8, 0, none⟩) hne).trans (block_kept hg h.out rfl))
  · exact set_block (set_block hc 0 x1) 1 x2
  · rw [← h.rest, List.drop_eq_getElem_cons hk, List.map_cons]
    simp only [gnL]
    rw [hgn, hgd, if_neg (by omega)]
  · rw [show 1 + 110 * (k + 1) = (1 + 110 * k) + 110 by omega]; exact mul_lt_pow h.nlt hlt.1
  · rw [show 1 + 110 * (k + 1) = (1 + 110 * k) + 110 by omega]; exact mul_lt_pow h.dlt hlt.2
/-- A gain, or an error. -/
def GainE (r : Int × Nat × Nat) (w : World) (e : Ending) (w' : World) : Prop := ∃ v1 v2, e = .returned (.tuple #[.agg #[v1, v2], .int .i64 r.1]) ∧ Sl w' v1 (natL r.2.1) ∧ Sl w' v2 (natL r.2.2) ∧ w.grownBy w' none
theorem GainE.err {r : Int × Nat × Nat} {w w' : World} {c : Int} (h : r = (c, 0, 0)) (hg : w.grownBy w' none) : GainE r w (.returned (.tuple #[.agg #[.slice none 0 0, .slice none 0 0], .int .i64 c])) w' := by
  subst h
  refine ⟨_, _, rfl, ?_, ?_, hg⟩
  · rw [natL_zero]; exact .inl ⟨rfl, _, _, rfl⟩
  · rw [natL_zero]; exact .inl ⟨rfl, _, _, rfl⟩

set_option maxRecDepth 100000 in
set_option maxHeartbeats 8000000 in
theorem Gain_any (L : List Stv) (v : Value) (num den : Int) (w : World) (hs : StIn w v L) :
    Calls Tryz.prog 41 #[.agg #[v], .int .i64 num, .int .i64 den] w (GainE (gainE (L.map Stv.s) num den) w) := by
  obtain ⟨a, c, rfl⟩ := hs.1.slice
  have HE : Hid (gainE (L.map Stv.s) num den = if rspOk (L.map Stv.s) = false then (1, 0, 0) else if (inB num 0 65536 && inB den 1 65536) = false then (2, 0, 0) else gnL num den (L.map Stv.s) 1 1) := Lib.hid rfl
  generalize gainE (L.map Stv.s) num den = E at *
  have HOK : Hid (rspOk (L.map Stv.s) = true → L.length ≤ 8 ∧ L.any badS = false) := Lib.hid (fun h => by
    rw [any_badS]
    simp only [rspOk, Bool.and_eq_true, decide_eq_true_eq, List.length_map] at h
    exact ⟨h.1.1, by rw [h.1.2]; rfl⟩)
  have VA := Lib.hid (fun (u : World) (hu : w.grownBy u none) => rvalid_any18 L _ u (hs.after hu))
  have HS := Lib.hid hs
  clear hs
  have g1 := gb_alloc (gb_refl w none) (.cells #[.slice a L.length c] 29)
  have b1 := heap_alloc_new w (.cells #[.slice a L.length c] 29)
  have l1 : (w.alloc (.cells #[.slice a L.length c] 29)).heap.size = w.heap.size + 1 := by simp
  have g2 := gb_alloc (gb_refl (w.alloc (.cells #[.slice a L.length c] 29)) none) (.cells #[.slice none 0 0, .slice none 0 0] 68)
  have b2 := heap_alloc_new (w.alloc (.cells #[.slice a L.length c] 29)) (.cells #[.slice none 0 0, .slice none 0 0] 68)
  rw [l1] at b2
  have W2 := Lib.hid (gb_trans g1 g2); have B2 := Lib.hid (block_kept g2 b1 rfl); have O2 := Lib.hid b2
  have q0_ := cell_of B2.out 0 _ rfl
  have hb2 := block_lt' B2.out
  clear g1 b1 l1 g2 b2
  generalize hn : L.length = n at *
  have HNL := Lib.hid hn; clear hn
  go_enter Tryz.func41, Tryz.ntmps41
  go_wp2_with fail
  generalize (w.alloc (.cells #[.slice a n c] 29)).alloc (.cells #[.slice none 0 0, .slice none 0 0] 68) = w2 at *
  generalize hz : w.heap.size = z at *
  have HZ := Lib.hid hz
  clear hz q0_ hb2
  (with_reducible refine (VA.out w2 W2.out).mono ?_)
  rintro e w3 ⟨rfl, hg⟩
  have W3 := Lib.hid (gb_trans W2.out hg); have B3 := Lib.hid (block_kept hg B2.out rfl); have O3 := Lib.hid (block_kept hg O2.out rfl)
  have HZW : Hid (w.heap.size ≤ z) := Lib.hid (by rw [HZ.out]; exact Nat.le_refl _)
  clear hg W2 B2 O2 VA HZ
  have hzz : w.heap.size ≤ z + 1 := by have := HZW.out; omega
  have GE := Lib.hid (gb_setCell (gb_setCell W3.out (a := ⟨z + 1, 0, none⟩) (.inl hzz) (.slice none 0 0)) (a := ⟨z + 1, 1, none⟩) (.inl hzz) (.slice none 0 0))
  have hbo := block_lt' O3.out
  have hf0 := frz O3.out 0; have hf1 := frz O3.out 1
  obtain ⟨p0_, p1_⟩ := cells2' O3.out
  clear hzz
  obtain ⟨ok, hok⟩ : ∃ b, rspOk (L.map Stv.s) = b := ⟨_, rfl⟩
  rw [hok] at HE HOK ⊢
  clear hok
  cases ok
  · rw [if_pos rfl] at HE
    go_wp2_with fail
    exact bodyPost_ret (v := .tuple #[.agg #[.slice none 0 0, .slice none 0 0], .int .i64 1]) (by simp [results, Tryz.results41, go_sem, p0_, p1_]) rfl (GainE.err HE.out GE.out)
  rw [if_neg (by decide)] at HE
  obtain ⟨hl8, hbad⟩ := HOK.out rfl
  have HL8 : Hid (n ≤ 8) := Lib.hid (by have := HNL.out; omega)
  have HBAD := Lib.hid hbad
  clear hl8 hbad HOK
  obtain ⟨i1, hi1⟩ : ∃ b, inB num 0 65536 = b := ⟨_, rfl⟩
  obtain ⟨i2, hi2⟩ : ∃ b, inB den 1 65536 = b := ⟨_, rfl⟩
  have I1 := Lib.hid (rin_any num 0 65536); have I2 := Lib.hid (rin_any den 1 65536)
  have HI : Hid ((i1 && i2) = true → num.natAbs ≤ 65536 ∧ den.natAbs ≤ 65536) := Lib.hid (fun h => by
    rw [← hi1, ← hi2] at h
    simp only [Bool.and_eq_true, inB_iff] at h; omega)
  rw [hi1] at I1 HE; rw [hi2] at I2 HE
  clear hi1 hi2
  cases i1
  · rw [if_pos (show (false && i2) = false from rfl)] at HE
    go_wp2_with fail
    (with_reducible refine (I1.out w3).mono ?_)
    rintro e w' ⟨rfl, rfl⟩
    go_wp2_with fail
    exact bodyPost_ret (v := .tuple #[.agg #[.slice none 0 0, .slice none 0 0], .int .i64 2]) (by simp [results, Tryz.results41, go_sem, p0_, p1_]) rfl (GainE.err HE.out GE.out)
  cases i2
  · rw [if_pos (show (true && false) = false from rfl)] at HE
    go_wp2_with fail
    (with_reducible refine (I1.out w3).mono ?_)
    rintro e w' ⟨rfl, rfl⟩
    go_wp2_with fail
    (with_reducible refine (I2.out w3).mono ?_)
    rintro e w' ⟨rfl, rfl⟩
    go_wp2_with fail
    exact bodyPost_ret (v := .tuple #[.agg #[.slice none 0 0, .slice none 0 0], .int .i64 2]) (by simp [results, Tryz.results41, go_sem, p0_, p1_]) rfl (GainE.err HE.out GE.out)
  rw [if_neg (by decide)] at HE
  have HND := Lib.hid (HI.out rfl)
  clear GE HI
  go_wp2_with fail
  (with_reducible refine (I1.out w3).mono ?_)
  rintro e w' ⟨rfl, rfl⟩
  go_wp2_with fail
  (with_reducible refine (I2.out w3).mono ?_)
  rintro e w' ⟨rfl, rfl⟩
  clear I1 I2 hbo hf0 hf1 p0_ p1_
  have e4 : (w3.alloc (.cells #[.int .i64 1] 3)).heap.size = w3.heap.size + 1 := by simp
  have e5 : ((w3.alloc (.cells #[.int .i64 1] 3)).alloc (.cells #[.int .i64 1] 3)).heap.size = w3.heap.size + 1 + 1 := by simp
  have k4 := gb_alloc (gb_refl w3 none) (.cells #[.int .i64 1] 3)
  have k5 := gb_alloc (gb_refl (w3.alloc (.cells #[.int .i64 1] 3)) none) (.cells #[.int .i64 1] 3)
  have k6 := gb_alloc (gb_refl ((w3.alloc (.cells #[.int .i64 1] 3)).alloc (.cells #[.int .i64 1] 3)) none) (.cells #[.slice (some ⟨w3.heap.size, 0, none⟩) 1 1, .slice (some ⟨w3.heap.size + 1, 0, none⟩) 1 1] 68)
  have n1 : natL 1 = [1] := by rw [natL_pos (by omega)]; simp [natL_zero]
  have s1 : Sl (w3.alloc (.cells #[.int .i64 1] 3)) (.slice (some ⟨w3.heap.size, 0, none⟩) 1 1) (natL 1) := by rw [n1]; exact Sl.one w3 1 3
  have s2 : Sl ((w3.alloc (.cells #[.int .i64 1] 3)).alloc (.cells #[.int .i64 1] 3)) (.slice (some ⟨w3.heap.size + 1, 0, none⟩) 1 1) (natL 1) := by rw [n1, ← e4]; exact Sl.one (w3.alloc (.cells #[.int .i64 1] 3)) 1 3
  have hb6 := heap_alloc_new ((w3.alloc (.cells #[.int .i64 1] 3)).alloc (.cells #[.int .i64 1] 3)) (.cells #[.slice (some ⟨w3.heap.size, 0, none⟩) 1 1, .slice (some ⟨w3.heap.size + 1, 0, none⟩) 1 1] 68)
  rw [e5] at hb6
  have ST0 : Hid (GnAt num den L w (z + 1) (w3.heap.size + 1 + 1) 0 1 1 (.slice (some ⟨w3.heap.size, 0, none⟩) 1 1) (.slice (some ⟨w3.heap.size + 1, 0, none⟩) 1 1) (((w3.alloc (.cells #[.int .i64 1] 3)).alloc (.cells #[.int .i64 1] 3)).alloc (.cells #[.slice (some ⟨w3.heap.size, 0, none⟩) 1 1, .slice (some ⟨w3.heap.size + 1, 0, none⟩) 1 1] 68))) := Lib.hid ⟨block_kept (gb_trans (gb_trans k4 k5) k6) O3.out rfl, hb6, (s1.after k5).after k6, s2.after k6, gb_trans W3.out (gb_trans (gb_trans k4 k5) k6), rfl, by decide, by decide, by decide⟩
  have HNE : Hid (z + 1 ≠ w3.heap.size + 1 + 1) := Lib.hid (by have := block_lt' O3.out; omega)
  have HB8 : Hid (w.heap.size ≤ w3.heap.size + 1 + 1) := Lib.hid (by have := W3.out.size; omega)
  have q0_ : (((w3.alloc (.cells #[.int .i64 1] 3)).alloc (.cells #[.int .i64 1] 3)).alloc (.cells #[.slice (some ⟨w3.heap.size, 0, none⟩) 1 1, .slice (some ⟨w3.heap.size + 1, 0, none⟩) 1 1] 68)).cell? ⟨z, 0, none⟩ = some (.slice a n c) := cell_of (block_kept (gb_trans (gb_trans k4 k5) k6) B3.out rfl) 0 _ rfl
  clear e4 e5 k4 k5 k6 n1 s1 s2 hb6 O3
  go_wp2_with fail
  clear q0_
  generalize (((w3.alloc (.cells #[.int .i64 1] 3)).alloc (.cells #[.int .i64 1] 3)).alloc (.cells #[.slice (some ⟨w3.heap.size, 0, none⟩) 1 1, .slice (some ⟨w3.heap.size + 1, 0, none⟩) 1 1] 68)) = w6 at *
  generalize w3.heap.size = y at *
  clear B3 W3
  go_loopw [10, 11, 12, 13, 33] (fun _ _ _ _ i wr => ∃ (k N D : Nat) (v1 v2 : Value), k ≤ n ∧ i = .int .i64 k ∧ GnAt num den L w (z + 1) (y + 1 + 1) k N D v1 v2 wr ∧ (∃ a n c b m d, v1 = .slice a n c ∧ v2 = .slice b m d)) (fun _ _ _ _ i _ => n - (intOf i).toNat)
  case atStart => exact ⟨0, 1, 1, _, _, by omega, rfl, ST0.out, _, _, _, _, _, _, rfl, rfl⟩
  case round =>
    obtain ⟨k, N, D, v1, v2, hk, rfl, hG, s1a, s1n, s1c, s2a, s2n, s2c, rfl, rfl⟩ := hrel
    have HG := Lib.hid hG
    by_cases hlt : k < n
    · have hkL : k < L.length := by have := HNL.out; omega
      have hS := HS.out.after hG.gr
      rw [← HNL.out] at hS
      obtain ⟨b, off, cap, e⟩ := hS.1.some (by omega)
      simp only [Value.slice.injEq, true_and] at e
      obtain ⟨rfl, rfl⟩ := e
      obtain ⟨hbl, c0_, c1_, c2_, c3_, c4_, c5_, c6_, c7_, c8_, c9_⟩ := hS.at k hkL
      obtain ⟨ta, tc, htv⟩ := (hS.2 _ (List.getElem_mem hkL)).shape
      have hok := good_all HBAD.out k hkL
      have hlt2 := Stg.gn_lt hok HND.out.1 HND.out.2
      have HLT := Lib.hid hlt2
      obtain ⟨gn, hgn⟩ : ∃ x, L[k].s.gn num den = x := ⟨_, rfl⟩
      obtain ⟨gd, hgd⟩ : ∃ x, L[k].s.gd num den = x := ⟨_, rfl⟩
      have GA := Lib.hid (fun (u : World) (hu : wr.grownBy u none) => gain_nat L[k].s L[k].tv num den u ((hS.2 _ (List.getElem_mem hkL)).after hu) hok HND.out.1 HND.out.2)
      rw [hgn, hgd] at HLT GA
      have STEP := Lib.hid (fun (u' : World) (x1 x2 : Value) (h0 : 0 < gd) (hg : wr.grownBy u' none) (h1 : Sl u' x1 (natL (N * gn))) (h2 : Sl u' x2 (natL (D * gd))) => HG.out.step hkL hgn hgd h0 HLT.out hg h1 h2 HNE.out HB8.out ⟨_, _, _, _, _, _, rfl, rfl⟩)
      have REST0 : Hid (gd = 0 → E = (11, 0, 0)) := Lib.hid (fun h0 => by
        rw [HE.out, ← hG.rest, List.drop_eq_getElem_cons hkL, List.map_cons]
        simp only [gnL]
        rw [hgd, if_pos h0])
      have hnk : n = L.length := HNL.out.symm
      have HK8 : Hid (k ≤ 7) := Lib.hid (by have := HL8.out; omega)
      clear hG hS hok hlt2 hgn hgd
      rw [← hnk] at *
      clear hnk
      generalize L[k] = x at *
      obtain ⟨⟨kind, n0, n1, n2, d0, d1, d2, taps, fac, sh⟩, tv⟩ := x
      simp only [] at *
      subst htv
      simp only [Stg.val] at GA
      have hg1 := gb_alloc (gb_refl wr none) (.cells #[.int .i64 kind, .int .i64 n0, .int .i64 n1, .int .i64 n2, .int .i64 d0, .int .i64 d1, .int .i64 d2, .slice ta taps.length tc, .int .i64 fac, .int .i64 sh] 53)
      have X1 := Lib.hid hg1
      have hcur := block_lt' HG.out.cur
      go_wp2_with fail
      (with_reducible refine (GA.out _ X1.out).mono ?_)
      rintro e wx ⟨g1, g2, rfl, t1, t2, hg⟩
      have X2 := Lib.hid (gb_trans X1.out hg)
      obtain ⟨ga, gc, rfl⟩ := t1.shape; obtain ⟨ha, hc, rfl⟩ := t2.shape
      have hg3 := gb_alloc (gb_refl wx none) (.cells #[.slice ga (natL gn).length gc, .slice ha (natL gd).length hc] 68)
      have hb3 := heap_alloc_new wx (.cells #[.slice ga (natL gn).length gc, .slice ha (natL gd).length hc] 68)
      have X3 := Lib.hid (gb_trans X2.out hg3); have T1 := Lib.hid (t1.after hg3); have T2 := Lib.hid (t2.after hg3)
      have O3 := Lib.hid (block_kept X3.out HG.out.out rfl); have C3 := Lib.hid (block_kept X3.out HG.out.cur rfl); have F3 := Lib.hid hb3
      have N3 := Lib.hid (HG.out.n.after X3.out); have D3 := Lib.hid (HG.out.d.after X3.out); have W3 := Lib.hid (gb_trans HG.out.gr X3.out)
      clear c0_ c1_ c2_ c3_ c4_ c5_ c6_ c7_ c8_ c9_ hg1 X1 hcur hg t1 t2 hg3 hb3 X2 hbl GA
      by_cases h0 : gd = 0
      · have HEE := Lib.hid (REST0.out h0)
        have h0' : decide (0 < gd) = false := decide_eq_false (by omega)
        have hzz : w.heap.size ≤ z + 1 := by have := HZW.out; omega
        have GE := Lib.hid (gb_setCell (gb_setCell W3.out (a := ⟨z + 1, 0, none⟩) (.inl hzz) (.slice none 0 0)) (a := ⟨z + 1, 1, none⟩) (.inl hzz) (.slice none 0 0))
        have hbo := block_lt' O3.out
        have hf0 := frz O3.out 0; have hf1 := frz O3.out 1
        obtain ⟨p0_, p1_⟩ := cells2' O3.out
        clear hzz h0 STEP REST0 T1 T2
        generalize (natL gn).length = lgn at *
        generalize (natL gd).length = lgd at *
        go_wp2_with fail
        exact bodyPost_ret (v := .tuple #[.agg #[.slice none 0 0, .slice none 0 0], .int .i64 11]) (by simp [results, Tryz.results41, go_sem, p0_, p1_]) rfl (GainE.err HEE.out GE.out)
      have h0' : decide (0 < gd) = true := decide_eq_true (by omega)
      have hpos : 0 < gd := by omega
      have hN64 := pow_bpow HG.out.nlt (by have := HK8.out; omega); have hD64 := pow_bpow HG.out.dlt (by have := HK8.out; omega)
      have hgn64 := pow_bpow HLT.out.1 (by omega); have hgd64 := pow_bpow HLT.out.2 (by omega)
      have hNN := pow_bpow (mul_lt_pow HG.out.nlt HLT.out.1) (by have := HK8.out; omega); have hDD := pow_bpow (mul_lt_pow HG.out.dlt HLT.out.2) (by have := HK8.out; omega)
      have TI := Lib.hid (times_nat N D gn gd _ _ _ _ _ N3.out D3.out T1.out T2.out hN64 hD64 hgn64 hgd64 HG.out.pos hpos hNN hDD)
      have STEP2 := Lib.hid (fun u' x1 x2 => STEP.out u' x1 x2 hpos)
      have hc3 := block_lt' C3.out; have hf3 := block_lt' F3.out
      obtain ⟨y0_, y1_⟩ := cells2' C3.out
      obtain ⟨f0_, f1_⟩ := cells2' F3.out
      clear hN64 hD64 hgn64 hgd64 hNN hDD h0 hpos STEP REST0 T1 T2 N3 D3 HLT
      go_wp2_with fail
      clear y0_ y1_ f0_ f1_ hc3 hf3
      generalize wx.alloc (.cells #[.slice ga (natL gn).length gc, .slice ha (natL gd).length hc] 68) = w4 at *
      (with_reducible refine TI.out.mono ?_)
      rintro e w5 ⟨u1, u2, rfl, t1, t2, hg⟩
      have X5 := Lib.hid (gb_trans X3.out hg); have C5 := Lib.hid (block_kept hg C3.out rfl)
      have ST5 := Lib.hid (STEP2.out w5 u1 u2 X5.out t1 t2)
      obtain ⟨ua, uc, rfl⟩ := t1.shape; obtain ⟨va, vc, rfl⟩ := t2.shape
      clear hg t1 t2 TI STEP2 X3 C3 O3 F3 W3
      have hc5 := block_lt' C5.out
      have hf0 := frz C5.out 0; have hf1 := frz C5.out 1
      obtain ⟨p0_, p1_⟩ := cells2' C5.out
      generalize (natL gn).length = lgn at *
      generalize (natL gd).length = lgd at *
      generalize (natL (N * gn)).length = lu at *
      generalize (natL (D * gd)).length = lv at *
      have hn8_ := HL8.out; have hk8_ := HK8.out
      go_wp2_with fail
      go_roundw
      case rel => exact ⟨k + 1, N * gn, D * gd, _, _, by omega, by go_num, ST5.out, _, _, _, _, _, _, rfl, rfl⟩
      case measure => simp [intOf]; omega
    · have hd_ : decide ((k : Int) < (n : Int)) = false := decide_eq_false (by omega)
      have HEE : Hid (E = (0, N, D)) := Lib.hid (by
        have h2 := HNL.out
        rw [HE.out, ← hG.rest, List.drop_of_length_le (by omega)]
        rfl)
      clear hG
      have O3 := Lib.hid HG.out.out
      have hzz : w.heap.size ≤ z + 1 := by have := HZW.out; omega
      have N1 := HG.out.n.ne_block O3.out no_ints2; have N2 := HG.out.d.ne_block O3.out no_ints2
      have R1 := Lib.hid ((HG.out.n.setCell (k := 0) (x := .slice s1a s1n s1c) N1).setCell (k := 1) (x := .slice s2a s2n s2c) N1)
      have R2 := Lib.hid ((HG.out.d.setCell (k := 0) (x := .slice s1a s1n s1c) N2).setCell (k := 1) (x := .slice s2a s2n s2c) N2)
      have G9 := Lib.hid (gb_setCell (gb_setCell HG.out.gr (a := ⟨z + 1, 0, none⟩) (.inl hzz) (.slice s1a s1n s1c)) (a := ⟨z + 1, 1, none⟩) (.inl hzz) (.slice s2a s2n s2c))
      have hc3 := block_lt' O3.out; have hc4 := block_lt' HG.out.cur
      have hf0 := frz O3.out 0; have hf1 := frz O3.out 1
      obtain ⟨p0_, p1_⟩ := cells2' O3.out
      obtain ⟨y0_, y1_⟩ := cells2' HG.out.cur
      clear N1 N2 hzz
      go_wp2_with fail
      exact bodyPost_ret (v := .tuple #[.agg #[.slice s1a s1n s1c, .slice s2a s2n s2c], .int .i64 0]) (by simp [results, Tryz.results41, go_sem, p0_, p1_]) rfl ⟨_, _, by rw [HEE.out], by rw [HEE.out]; exact R1.out, by rw [HEE.out]; exact R2.out, G9.out⟩
end Go.Proofs.YtmgfdfbhfhmekaaGreat
