/- nat: multiply, Mul: the walks. -/
import Derived.Test.YtmgfdfbhfhmekaaGreatNatX
namespace Go.Proofs.YtmgfdfbhfhmekaaGreat
set_option linter.all false
open Go.RowKit

set_option maxRecDepth 100000 in
set_option maxHeartbeats 4000000 in
theorem multiply_nat (xs ys : List Int) (v u : Value) (w : World) (h1 : Sl w v xs) (h2 : Sl w u ys) (hdx : Dig xs) (hdy : Dig ys) (hx : xs.length ≤ 64) (hy : ys.length ≤ 64) :
    Calls Tryz.prog 87 #[v, u] w fun e w' => ∃ v' zs, e = .returned v' ∧ Sl w' v' zs ∧ IsNat zs (valL xs * valL ys) ∧ w.grownBy w' none := by
  obtain ⟨a1, c1, rfl⟩ := h1.shape; obtain ⟨a2, c2, rfl⟩ := h2.shape
  have H1 := Lib.hid h1; have H2 := Lib.hid h2
  have HDX := Lib.hid hdx; have HDY := Lib.hid hdy
  clear h1 h2 hdx hdy
  have ST := Lib.hid (MulAt.start xs ys)
  have FIN := Lib.hid (fun os (h : MulAt xs ys os xs.length) => h)
  generalize hlx : xs.length = lx at *
  generalize hly : ys.length = ly at *
  have HLX := Lib.hid hlx; have HLY := Lib.hid hly
  obtain ⟨N, hN⟩ : ∃ N, lx + ly = N := ⟨_, rfl⟩
  rw [hN] at ST
  have hw0 : IntKind.i64.wrap ((lx : Int) + (ly : Int)) = (N : Int) := by rw [IntKind.wrap_i64]; omega
  have hN1 : N ≤ 128 := by omega
  obtain ⟨i0, hi0, hz0, hz1, hz2⟩ := info_parts Tryz.infoInt
  have IB : Hid (i0.bytes * N ≤ 281474976710656 ∧ N ≤ maxLen) := Lib.hid ⟨by rw [hz2]; omega, by unfold maxLen; omega⟩
  have HN := Lib.hid hN
  clear hlx hly hN
  go_enter Tryz.func87, Tryz.ntmps87
  go_wp2_with (with_reducible refine wpList_make_full _ rfl _ _ 66 rfl w.heap.size 3 i0 (.int .i64 0) 1 Tryz.underlying66 hi0 hz0 hz1 .i64 .i64 (N : Int) (N : Int) N rfl rfl rfl rfl IB.out.1 IB.out.2 (Nat.le_refl _) ?_; refine Hid.out ?_)
  refine Lib.hid ?_
  intro w1 ho hg
  rw [toList_madeCells_one, show List.replicate N (Value.int .i64 0) = (List.replicate N (0 : Int)).map (Value.int .i64) by simp] at ho
  have HO := Lib.hid ho; have HG := Lib.hid hg
  clear ho hg hi0 hz0 hz1 hz2 IB hw0 i0
  go_wp2_with fail
  go_loopw [18] (fun i wr => ∃ (I : Nat) (os : List Int), I ≤ lx ∧ i = .int .i64 I ∧ MulAt xs ys os I ∧ wr.ownsRow w.heap.size 3 1 (.slice (some ⟨w.heap.size, 0, none⟩) N N) N (os.map (Value.int .i64)) ∧ w.grownBy wr none) (fun i _ => lx - (intOf i).toNat)
  case atStart => exact ⟨0, _, by omega, rfl, ST.out, HO.out, HG.out⟩
  case round =>
    obtain ⟨I, os, hI, rfl, hM, hown, hgr⟩ := hrel
    by_cases hlt : I < lx
    · have hIx : I < xs.length := by have := HLX.out; omega
      obtain ⟨b1, off1, cap1, e1, hb1, -, -, hc1⟩ := (H1.out.after hgr).block (by omega)
      have hx_ := hc1 I hIx
      rw [HLX.out] at e1
      simp only [Value.slice.injEq, true_and] at e1
      obtain ⟨rfl, rfl⟩ := e1
      have ME := Lib.hid hM.enter
      have STP := Lib.hid (fun (os : List Int) (K : Nat) (cy : Int) (hK : K ≤ ys.length) (h : MulIn xs ys os I K cy) => h.step HDX.out HDY.out hIx hK)
      have EXT := Lib.hid (fun (os : List Int) (cy : Int) (h : MulIn xs ys os I (ys.length + 1) cy) => h.exit hIx)
      unfold at0 at hx_
      have hxd := HDX.out.at I
      generalize xs[I]?.getD 0 = x at *
      have HO1 := Lib.hid hown; have HG1 := Lib.hid hgr
      have hwl : IntKind.i64.wrap ((ly : Int) + 1) = ((ly + 1 : Nat) : Int) := by rw [IntKind.wrap_i64]; omega
      clear hM hown hgr hc1 hIx
      go_wp2_with fail
      clear hx_ hb1
      go_loopw [8, 26] (fun c k wr => ∃ (K : Nat) (cy : Int) (os : List Int), K ≤ ly + 1 ∧ k = .int .i64 K ∧ c = .int .i64 cy ∧ MulIn xs ys os I K cy ∧ wr.ownsRow w.heap.size 3 1 (.slice (some ⟨w.heap.size, 0, none⟩) N N) N (os.map (Value.int .i64)) ∧ w.grownBy wr none) (fun _ k _ => ly + 1 - (intOf k).toNat)
      case atStart => exact ⟨0, 0, os, by omega, rfl, rfl, ME.out, HO1.out, HG1.out⟩
      case round =>
        obtain ⟨K, cy, os2, hK, rfl, rfl, hM, hown, hgr⟩ := hrel
        by_cases hlk : K < ly + 1
        · have hKy : K ≤ ys.length := by have := HLY.out; omega
          obtain ⟨s0, s1, hM2⟩ := STP.out os2 K cy hKy hM
          have hol : os2.length = N := by have := hM.len; have := HLX.out; have := HLY.out; have := HN.out; omega
          have hik : I + K < N := by have := HN.out; omega
          have hwik : IntKind.i64.wrap ((I : Int) + (K : Int)) = ((I + K : Nat) : Int) := by rw [IntKind.wrap_i64]; omega
          have ho_ : wr.cell? ⟨w.heap.size, I + K, none⟩ = some (.int .i64 (os2[I + K]?.getD 0)) := by
            rw [hown.cellAt _ (by omega), List.getElem?_map, List.getElem?_eq_getElem (by omega)]; rfl
          have hF := hown.frozenAt (I + K)
          have hgz := (hown.lt w.heap.size rfl).2
          have DG := Lib.hid (fun (u : World) (hu : wr.grownBy u none) => digit_any ys (.slice a2 ly c2) K u ((H2.out.after hgr).after hu) (by have := HLY.out; omega) (by omega))
          have hyd := HDY.out.at K; have hod := hM.dig.at (I + K)
          have hc0 := hM.c0; have hc1 := hM.c1
          have hp := mul_small (a := x) (b := ys[K]?.getD 0) (A := 1073741823) (B := 1073741823) hxd.1 (by omega) hyd.1 (by omega)
          have HM2 := Lib.hid hM2
          generalize os2[I + K]?.getD 0 = o at *
          generalize ys[K]?.getD 0 = y at *
          generalize hpe : x * y = p at *
          have hwp : IntKind.i64.wrap p = p := by rw [IntKind.wrap_i64]; omega
          have hwo : IntKind.i64.wrap (o + p) = o + p := by rw [IntKind.wrap_i64]; omega
          have hws : IntKind.i64.wrap (cy + (o + p)) = cy + (o + p) := by rw [IntKind.wrap_i64]; omega
          have HOW := Lib.hid hown; have HGR := Lib.hid hgr
          clear hM hM2 hown hgr
          have u1 := fun (z : Up wr) => (ever_cell z (o := I + K) hgz).trans ho_
          go_wp2_with fail
          (refine wp_region_grown (by kernel_rfl) (by kernel_rfl) ?_; (repeat (go_big_quiet_step (first | (go_at_call 112; exact Calls.grown_same (DG.out _ (ever_up _)))))); refine wpQuiet_nil ?_; intro wq hq)
          have HOQ := Lib.hid (owns_keep HOW.out hq); have HGQ := Lib.hid (gb_trans HGR.out hq)
          have hFq := HOQ.out.frozenAt (I + K)
          have hoq : wq.cell? ⟨w.heap.size, I + K, none⟩ = some (.int .i64 o) := (gb_cell hq hgz (by simp)).trans ho_
          generalize cy + (o + p) = s at *
          obtain ⟨sn, hsn⟩ : ∃ sn : Nat, s = (sn : Int) := ⟨s.toNat, by omega⟩
          subst hsn
          have OS := Lib.hid (HOQ.out.stored (I + K) (.int .i64 ((sn : Int) % 1073741824)))
          rw [← List.map_set] at OS
          have HGS := Lib.hid (gb_new HGQ.out OS.out.2 (fun q hq => by simp at hq; omega))
          clear ho_ hF hgz DG hyd hod hc0 hc1 hp hpe hwp hwo hws HOW HGR u1 hq HOQ HGQ
          go_wp2_with fail
          go_roundw
          case rel => exact ⟨K + 1, (sn : Int) / 1073741824, os2.set (I + K) ((sn : Int) % 1073741824), by omega, by go_num, rfl, HM2.out, OS.out.1, HGS.out⟩
          case measure => simp [intOf]; omega
        · have hKe : K = ys.length + 1 := by have := HLY.out; omega
          have hd_ : decide ((K : Int) < ((ly + 1 : Nat) : Int)) = false := decide_eq_false (by omega)
          subst hKe
          have MX := Lib.hid (EXT.out os2 cy hM)
          have HOW := Lib.hid hown; have HGR := Lib.hid hgr
          clear hM hown hgr
          go_wp2_with fail
          go_roundw
          case rel => exact ⟨I + 1, os2, by omega, by go_num, MX.out, HOW.out, HGR.out⟩
          case measure => simp [intOf]; omega
    · have hIe : I = lx := by omega
      have hd_ : decide ((I : Int) < (lx : Int)) = false := decide_eq_false (by omega)
      subst hIe
      have hol : os.length = N := by have := hM.len; have := HLX.out; have := HLY.out; have := HN.out; omega
      have hv := hM.val
      rw [← HLX.out, List.take_length] at hv
      have TR := Lib.hid (trim_any os (.slice (some ⟨w.heap.size, 0, none⟩) N N) wr (Sl_of_owns hown hol.symm) (by omega))
      have MK := Lib.hid (fun (k : Nat) (a : k ≤ os.length) (b : ∀ j, k ≤ j → j < os.length → os[j]?.getD 0 = 0) (c : 0 < k → os[k - 1]?.getD 0 ≠ 0) => IsNat.mk' hM.dig hv a b c)
      have HG1 := Lib.hid hgr
      clear hM hown hgr hv hol
      go_wp2_with fail
      (with_reducible refine TR.out.mono ?_)
      rintro e w' ⟨k, v', rfl, rfl, t1, t2, t3, t4⟩
      have HR := Lib.hid (MK.out k t2 t3 t4)
      obtain ⟨ta, tc, e⟩ := t1.shape
      rw [show (os.take k).length = k by simp; omega] at e
      subst e
      have HT := Lib.hid t1
      clear t1 t3 t4 MK TR
      go_wp2
      go_ret
      exact ⟨_, _, rfl, HT.out, HR.out, HG1.out⟩

theorem Mul_nat (xs ys : List Int) (v u : Value) (m n : Int) (w : World) (h1 : Sl w v xs) (h2 : Sl w u ys) (hm : IsNat xs m) (hn : IsNat ys n) (hx : xs.length ≤ 64) (hy : ys.length ≤ 64) (hmn : m * n < bpow 64) :
    Calls Tryz.prog 109 #[v, u] w fun e w' => ∃ v' zs, e = .returned (.tuple #[v', .int .i64 0]) ∧ Sl w' v' zs ∧ IsNat zs (m * n) ∧ zs.length ≤ 64 ∧ w.grownBy w' none := by
  have A := Lib.hid (both_nat xs ys v u m n w h1 h2 hm hn hx hy)
  have M := Lib.hid (multiply_nat xs ys v u w h1 h2 hm.dig hn.dig hx hy)
  rw [hm.val, hn.val] at M
  have hv : v.oneCell' = true := by obtain ⟨a, c, rfl⟩ := h1.shape; rfl
  have hu : u.oneCell' = true := by obtain ⟨a, c, rfl⟩ := h2.shape; rfl
  have HMN := Lib.hid hmn
  clear h1 h2 hm hn hmn
  generalize m * n = q at *
  go_enter Tryz.func109, Tryz.ntmps109
  go_wp2_with fail
  (with_reducible refine A.out.mono ?_)
  rintro e w' ⟨rfl, rfl⟩
  go_wp2_with fail
  (with_reducible refine M.out.mono ?_)
  rintro e w1 ⟨v1, zs, rfl, hs, hz, hg⟩
  have L := Lib.hid (limited_nat zs v1 q w1 hs (by have := hz.length_le HMN.out; omega) hz.dig hz.val HMN.out)
  have HG := Lib.hid hg
  obtain ⟨za, zc, rfl⟩ := hs.shape
  clear hs hz hg
  go_wp2_with fail
  (with_reducible refine L.out.mono ?_)
  rintro e w2 ⟨v2, ws, rfl, rfl, hs, hz, hl⟩
  have HS := Lib.hid hs; have HZ := Lib.hid hz; have HL := Lib.hid hl
  obtain ⟨wa, wc, rfl⟩ := hs.shape
  clear hs hz hl
  go_wp2_with fail
  exact bodyPost_ret (v := .tuple #[.slice wa ws.length wc, .int .i64 0]) (by simp [results, Tryz.results109, go_sem]) rfl ⟨_, _, rfl, HS.out, HZ.out, HL.out, HG.out⟩
end Go.Proofs.YtmgfdfbhfhmekaaGreat
