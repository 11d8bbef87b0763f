/- response: Valid. -/
import Derived.Test.YtmgfdfbhfhmekaaGreatRsp
namespace Go.Proofs.YtmgfdfbhfhmekaaGreat
set_option linter.all false
open Go.RowKit

def badS (x : Stv) : Bool := !x.s.ok
theorem badS_any (s : Stg) (tv : Value) (w : World) (hs : Sl w tv s.taps) :
    Calls Tryz.prog 79 #[s.val tv] w fun e w' => e = .returned (.bool (!s.ok)) ∧ w.grownBy w' none := by
  obtain ⟨kind, n0, n1, n2, d0, d1, d2, taps, fac, sh⟩ := s
  have HG := Lib.hid (gb_alloc (gb_refl w none) (.cells #[.int .i64 kind, .int .i64 n0, .int .i64 n1, .int .i64 n2, .int .i64 d0, .int .i64 d1, .int .i64 d2, tv, .int .i64 fac, .int .i64 sh] 53))
  have HV := Lib.hid (vstage_any ⟨kind, n0, n1, n2, d0, d1, d2, taps, fac, sh⟩ tv _ (hs.after HG.out))
  have ho : tv.oneCell' = true := by obtain ⟨a, c, rfl⟩ := hs.shape; rfl
  clear hs
  generalize Stg.ok ⟨kind, n0, n1, n2, d0, d1, d2, taps, fac, sh⟩ = ok at *
  simp only [Stg.val] at HV ⊢
  go_enter Tryz.func79, Tryz.ntmps79
  go_wp2_with fail
  (with_reducible refine HV.out.mono ?_)
  rintro e w1 ⟨rfl, hg⟩
  have HG2 := Lib.hid (gb_trans HG.out hg)
  clear hg HG HV
  go_wp2
  go_ret
  exact ⟨rfl, HG2.out⟩
theorem SlC.some {k n : Nat} {w : World} {v : Value} {ys : List Value} (h : SlC k w v n ys) (hn : 0 < n) : ∃ b off cap, v = .slice (some ⟨b, off, none⟩) n cap := by
  obtain ⟨b, off, cap, e, -⟩ := h.block hn
  exact ⟨b, off, cap, e⟩
/-- The stages of a slice, wherever it is read. -/
theorem StIn.at {w : World} {b off n cap : Nat} {L : List Stv} (h : StIn w (.slice (some ⟨b, off, none⟩) n cap) L) (k : Nat) (hk : k < L.length) :
    b < w.heap.size ∧ w.cell? ⟨b, off + k * 10, none⟩ = some (.int .i64 L[k].s.kind) ∧ w.cell? ⟨b, off + k * 10 + 1, none⟩ = some (.int .i64 L[k].s.n0) ∧ w.cell? ⟨b, off + k * 10 + 2, none⟩ = some (.int .i64 L[k].s.n1) ∧ w.cell? ⟨b, off + k * 10 + 3, none⟩ = some (.int .i64 L[k].s.n2) ∧
    w.cell? ⟨b, off + k * 10 + 4, none⟩ = some (.int .i64 L[k].s.d0) ∧ w.cell? ⟨b, off + k * 10 + 5, none⟩ = some (.int .i64 L[k].s.d1) ∧ w.cell? ⟨b, off + k * 10 + 6, none⟩ = some (.int .i64 L[k].s.d2) ∧ w.cell? ⟨b, off + k * 10 + 7, none⟩ = some L[k].tv ∧ w.cell? ⟨b, off + k * 10 + 8, none⟩ = some (.int .i64 L[k].s.factor) ∧ w.cell? ⟨b, off + k * 10 + 9, none⟩ = some (.int .i64 L[k].s.shift) := by
  obtain ⟨b', off', cap', e, hb, -, -, hc⟩ := h.1.block (by omega)
  simp only [Value.slice.injEq, Option.some.injEq, Addr.mk.injEq] at e
  obtain ⟨⟨rfl, rfl, -⟩, -, -⟩ := e
  exact ⟨hb, SlC.st hc k hk⟩
set_option maxHeartbeats 1000000 in
theorem indexS_any (L : List Stv) (v : Value) (w : World) (hs : StIn w v L) :
    Calls Tryz.prog 106 #[v, .func (.func 79) #[] #[]] w fun e w' => ∃ r : Int, e = .returned (.int .i64 r) ∧ w.grownBy w' none ∧ (0 ≤ r → L.any badS = true) ∧ (r < 0 → L.any badS = false) := by
  have HS := Lib.hid hs
  by_cases h0 : L.length = 0
  · obtain rfl : L = [] := List.length_eq_zero_iff.1 h0
    obtain ⟨a, c, rfl⟩ := hs.1.slice
    clear hs HS h0
    go_enter Tryz.func106, Tryz.ntmps106
    go_wp2
    go_rounds 1
    go_ret
    exact ⟨_, rfl, gb_refl _ _, by simp, by simp⟩
  obtain ⟨b, off, cap, rfl⟩ := hs.1.some (by omega)
  have hlen : L.length ≤ 9223372036854775807 := by
    obtain ⟨b', off', cap', e, -, h1, h2, -⟩ := hs.1.block (by omega); omega
  clear hs h0
  generalize hn : L.length = n at *
  have HNL := Lib.hid hn; clear hn
  go_enter Tryz.func106, Tryz.ntmps106
  go_wp2
  go_loopw [5, 8] (fun _ i wr => ∃ k : Nat, k ≤ n ∧ i = .int .i64 k ∧ (L.take k).any badS = false ∧ w.grownBy wr none) (fun _ i _ => n - (intOf i).toNat)
  case atStart => exact ⟨0, by omega, rfl, rfl, gb_refl _ _⟩
  case round =>
    obtain ⟨k, hk, rfl, hp, hgr⟩ := hrel
    have HP := Lib.hid hp; have HG := Lib.hid hgr; clear hp
    by_cases hlt : k < n
    · have hkL : k < L.length := by have := HNL.out; omega
      have hS := HS.out.after hgr
      obtain ⟨hbl, c0_, c1_, c2_, c3_, c4_, c5_, c6_, c7_, c8_, c9_⟩ := hS.at k hkL
      have BS := Lib.hid (badS_any L[k].s L[k].tv wr (hS.2 _ (List.getElem_mem hkL)))
      have HB : Hid (badS L[k] = !L[k].s.ok) := Lib.hid rfl
      have HT := Lib.hid (show (L.take (k + 1)).any badS = badS L[k] by rw [List.take_succ_eq_append_getElem hkL, List.any_append, HP.out]; simp)
      have HA := Lib.hid (fun (h : badS L[k] = true) => List.any_eq_true.2 ⟨_, List.getElem_mem hkL, h⟩)
      have htv : L[k].tv.oneCell' = true := by obtain ⟨a, c, e⟩ := (hS.2 _ (List.getElem_mem hkL)).shape; rw [e]; rfl
      clear hgr hS
      generalize L[k] = x at *
      obtain ⟨⟨kind, n0, n1, n2, d0, d1, d2, taps, fac, sh⟩, tv⟩ := x
      simp only [Stg.val] at *
      generalize Stg.ok ⟨kind, n0, n1, n2, d0, d1, d2, taps, fac, sh⟩ = ok at *
      go_wp2_with fail
      (with_reducible refine BS.out.mono ?_)
      rintro e w1 ⟨rfl, hg⟩
      have HG2 := Lib.hid (gb_trans HG.out hg)
      clear hg HG BS c0_ c1_ c2_ c3_ c4_ c5_ c6_ c7_ c8_ c9_
      cases ok
      · go_wp2
        go_ret
        exact ⟨_, rfl, HG2.out, fun _ => HA.out HB.out, fun h => by omega⟩
      · go_wp2
        go_roundw
        case rel => exact ⟨k + 1, by omega, by go_num, by rw [HT.out, HB.out]; rfl, HG2.out⟩
        case measure => simp [intOf]; omega
    · have hd_ : decide ((k : Int) < (n : Int)) = false := decide_eq_false (by omega)
      clear hgr
      go_wp2
      go_ret
      exact ⟨_, rfl, HG.out, fun h => by omega, fun _ => by have := HP.out; have h2 := HNL.out; rw [List.take_of_length_le (by omega)] at this; exact this⟩
theorem containsS_any (L : List Stv) (v : Value) (w : World) (hs : StIn w v L) :
    Calls Tryz.prog 78 #[v, .func (.func 79) #[] #[]] w fun e w' => e = .returned (.bool (L.any badS)) ∧ w.grownBy w' none := by
  have HS := Lib.hid (indexS_any L v w hs)
  have ho : v.oneCell' = true := by obtain ⟨a, c, rfl⟩ := hs.1.slice; rfl
  clear hs
  go_enter Tryz.func78, Tryz.ntmps78
  go_wp2_with fail
  (with_reducible refine HS.out.mono ?_)
  rintro e w' ⟨r, rfl, hg, h1, h2⟩
  have H1 := Lib.hid h1; have H2 := Lib.hid h2; have HG := Lib.hid hg; clear h1 h2 hg
  by_cases hr : 0 ≤ r
  · go_wp2
    go_ret
    exact ⟨by rw [H1.out hr]; rfl, HG.out⟩
  · go_wp2
    go_ret
    exact ⟨by rw [H2.out (by omega)]; simp; omega, HG.out⟩

theorem facOk_one {n : Int} {s : Stg} {l : List Stg} (h : s.kind = 2) : facOk n (s :: l) = if 64 < n * s.factor then false else facOk (n * s.factor) l := by
  rw [facOk, if_pos h]
theorem facOk_two {n : Int} {s : Stg} {l : List Stg} (h : s.kind ≠ 2) : facOk n (s :: l) = facOk n l := by
  rw [facOk, if_neg h]
theorem ok_factor {s : Stg} (h : s.ok = true) (hk : s.kind = 2) : 1 ≤ s.factor ∧ s.factor ≤ 64 := by
  unfold Stg.ok at h
  rw [if_neg (by omega), if_neg (by omega), if_pos hk] at h
  simp only [Bool.and_eq_true, inB_iff] at h
  omega
theorem good_all {L : List Stv} (h : L.any badS = false) (k : Nat) (hk : k < L.length) : L[k].s.ok = true := by
  have := List.any_eq_false.1 h L[k] (List.getElem_mem hk)
  simpa [badS] using this
theorem any_badS (L : List Stv) : L.any badS = !(L.map Stv.s).all Stg.ok := by
  induction L with
  | nil => rfl
  | cons a L ih => rw [List.any_cons, List.map_cons, List.all_cons, ih]; simp [badS]
set_option maxHeartbeats 1000000 in
theorem factor_any (L : List Stv) (v : Value) (w : World) (hs : StIn w v L) (hb : L.any badS = false) :
    Calls Tryz.prog 81 #[v] w fun e w' => ∃ r : Int, e = .returned (.int .i64 r) ∧ w.grownBy w' none ∧ decide (0 < r) = facOk 1 (L.map Stv.s) := by
  have HS := Lib.hid hs
  have HBAD := Lib.hid hb; clear hb
  by_cases h0 : L.length = 0
  · obtain rfl : L = [] := List.length_eq_zero_iff.1 h0
    obtain ⟨a, c, rfl⟩ := hs.1.slice
    clear hs HS h0
    go_enter Tryz.func81, Tryz.ntmps81
    go_wp2
    go_rounds 1
    go_ret
    exact ⟨_, rfl, gb_refl _ _, by simp [facOk]⟩
  obtain ⟨b, off, cap, rfl⟩ := hs.1.some (by omega)
  have hlen : L.length ≤ 9223372036854775807 := by
    obtain ⟨b', off', cap', e, -, h1, h2, -⟩ := hs.1.block (by omega); omega
  clear hs h0
  have HF0 : Hid (facOk 1 ((L.drop 0).map Stv.s) = facOk 1 (L.map Stv.s)) := Lib.hid rfl
  generalize hF : facOk 1 (L.map Stv.s) = F at *
  clear hF
  generalize hn : L.length = N at *
  have HNL := Lib.hid hn; clear hn
  go_enter Tryz.func81, Tryz.ntmps81
  go_wp2
  go_loopw [3, 5, 8] (fun n _ i wr => ∃ (k : Nat) (m : Int), k ≤ N ∧ i = .int .i64 k ∧ n = .int .i64 m ∧ 1 ≤ m ∧ m ≤ 64 ∧ facOk m ((L.drop k).map Stv.s) = F ∧ w.grownBy wr none) (fun _ _ i _ => N - (intOf i).toNat)
  case atStart => exact ⟨0, 1, by omega, rfl, rfl, by omega, by omega, HF0.out, gb_refl _ _⟩
  case round =>
    obtain ⟨k, m, hk, rfl, rfl, hm1, hm2, hp, hgr⟩ := hrel
    have HG := Lib.hid hgr
    by_cases hlt : k < N
    · have hkL : k < L.length := by have := HNL.out; omega
      have hS := HS.out.after hgr
      obtain ⟨hbl, c0_, c1_, c2_, c3_, c4_, c5_, c6_, c7_, c8_, c9_⟩ := hS.at k hkL
      rw [List.drop_eq_getElem_cons hkL, List.map_cons] at hp
      have HP := Lib.hid hp
      have HOK := Lib.hid (good_all HBAD.out k hkL)
      obtain ⟨ta, tc, htv⟩ := (hS.2 _ (List.getElem_mem hkL)).shape
      clear hgr hS hp
      generalize L[k] = x at *
      obtain ⟨⟨kind, n0, n1, n2, d0, d1, d2, taps, fac, sh⟩, tv⟩ := x
      simp only [] at *
      subst htv
      have hG := Lib.hid (gb_alloc HG.out (.cells #[.int .i64 kind, .int .i64 n0, .int .i64 n1, .int .i64 n2, .int .i64 d0, .int .i64 d1, .int .i64 d2, .slice ta taps.length tc, .int .i64 fac, .int .i64 sh] 53))
      by_cases h2 : kind = 2
      · subst h2
        have hf := ok_factor HOK.out rfl
        rw [facOk_one rfl] at HP
        simp only [] at hf HP
        have hq0 : 1 * 1 ≤ m * fac := Int.mul_le_mul (by omega) (by omega) (by omega) (by omega)
        have hq1 : m * fac ≤ 64 * 64 := Int.mul_le_mul (by omega) (by omega) (by omega) (by omega)
        generalize hq : m * fac = q at *
        have hwq : IntKind.i64.wrap q = q := by rw [IntKind.wrap_i64]; omega
        by_cases h64 : 64 < q
        · have h64' : decide (q > 64) = true := decide_eq_true h64
          rw [if_pos h64] at HP
          clear h64 hf HOK
          go_wp2
          go_ret
          exact ⟨_, rfl, hG.out, HP.out⟩
        · have h64' : decide (q > 64) = false := decide_eq_false h64
          rw [if_neg h64] at HP
          have H64 : Hid (q ≤ 64) := Lib.hid (by omega)
          clear h64 hf HOK
          go_wp2
          go_roundw
          case rel => exact ⟨k + 1, q, by omega, by go_num, rfl, by omega, H64.out, HP.out, hG.out⟩
          case measure => simp [intOf]; omega
      · have h2' : (kind != 2) = true := by simpa using h2
        rw [facOk_two h2] at HP
        clear h2 HOK
        go_wp2
        go_roundw
        case rel => exact ⟨k + 1, m, by omega, by go_num, rfl, hm1, hm2, HP.out, hG.out⟩
        case measure => simp [intOf]; omega
    · have hd_ : decide ((k : Int) < (N : Int)) = false := decide_eq_false (by omega)
      have HP : Hid (decide (0 < m) = F) := Lib.hid (by
        have h2 := HNL.out
        rw [List.drop_of_length_le (by omega)] at hp
        rw [← hp, decide_eq_true (by omega : 0 < m)]; rfl)
      clear hgr hp
      go_wp2
      go_ret
      exact ⟨_, rfl, HG.out, HP.out⟩
theorem rvalid_any18 (L : List Stv) (v : Value) (w : World) (hs : StIn w v L) :
    Calls Tryz.prog 64 #[.agg #[v]] w fun e w' => e = .returned (.bool (rspOk (L.map Stv.s))) ∧ w.grownBy w' none := by
  obtain ⟨a, c, rfl⟩ := hs.1.slice
  have HG := Lib.hid (gb_alloc (gb_refl w none) (.cells #[.slice a L.length c] 29))
  have hbl : w.heap.size < (w.alloc (.cells #[.slice a L.length c] 29)).heap.size := by simp
  have hc0 : (w.alloc (.cells #[.slice a L.length c] 29)).cell? ⟨w.heap.size, 0, none⟩ = some (.slice a L.length c) := by rw [cell_new]; rfl
  have CO := Lib.hid (fun (u : World) (h : w.grownBy u none) => containsS_any L _ u (hs.after h))
  have FA := Lib.hid (fun (u : World) (h : w.grownBy u none) (hb : L.any badS = false) => factor_any L _ u (hs.after h) hb)
  have HOK : Hid (rspOk (L.map Stv.s) = (decide (L.length ≤ 8) && !L.any badS && facOk 1 (L.map Stv.s))) := Lib.hid (by rw [any_badS]; unfold rspOk; simp)
  clear hs
  generalize L.length = n at *
  generalize L.any badS = bad at *
  generalize facOk 1 (L.map Stv.s) = fo at *
  generalize rspOk (L.map Stv.s) = ok at *
  go_enter Tryz.func64, Tryz.ntmps64
  by_cases h8 : 8 < n
  · have h8' : decide ((n : Int) > 8) = true := decide_eq_true (by omega)
    have HE : Hid (ok = false) := Lib.hid (by rw [HOK.out, decide_eq_false (by omega)]; rfl)
    go_wp2
    go_ret
    exact ⟨by rw [HE.out]; rfl, HG.out⟩
  have h8' : decide ((n : Int) > 8) = false := decide_eq_false (by omega)
  have HE : Hid (ok = (!bad && fo)) := Lib.hid (by rw [HOK.out, decide_eq_true (by omega)]; simp)
  clear h8 HOK
  go_wp2_with fail
  generalize w.alloc (.cells #[.slice a n c] 29) = w1 at *
  generalize w.heap.size = b at *
  (with_reducible refine (CO.out w1 HG.out).mono ?_)
  rintro e w2 ⟨rfl, hg⟩
  have HG2 := Lib.hid (gb_trans HG.out hg)
  have hc2 := (gb_cell hg hbl (by simp)).trans hc0
  clear hg hc0 HG CO
  cases bad
  · have FA2 := Lib.hid (FA.out w2 HG2.out rfl)
    clear FA
    go_wp2_with fail
    (with_reducible refine FA2.out.mono ?_)
    rintro e w3 ⟨r, rfl, hg, hr⟩
    have HG3 := Lib.hid (gb_trans HG2.out hg)
    have HR := Lib.hid hr
    clear hg hr HG2 FA2 hc2
    go_wp2
    go_ret
    exact ⟨by rw [HE.out, ← HR.out]; rfl, HG3.out⟩
  · clear FA
    go_wp2
    go_ret
    exact ⟨by rw [HE.out]; rfl, HG2.out⟩
end Go.Proofs.YtmgfdfbhfhmekaaGreat
