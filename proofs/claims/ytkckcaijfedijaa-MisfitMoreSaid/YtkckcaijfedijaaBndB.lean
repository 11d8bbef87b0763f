/- Layer 26: Zone, Meets. -/
import Derived.Test.YtkckcaijfedijaaBndA
namespace Go.Proofs.Ytkckcaijfedijaa
set_option linter.all false
open Go.RowKit Rg

def znE (step : Int) (ls hs : List Int) (x0 y0 z0 x1 y1 z1 px py pz e l n : Int) : Int :=
  if tOk step ls hs then (if bP x0 y0 z0 x1 y1 z1 then (if phP px py pz e l n then bndE step ls hs x0 y0 z0 x1 y1 z1 px py pz else 23) else 20) else 21
def znF (step : Int) (ls hs : List Int) (x0 y0 z0 x1 y1 z1 px py pz e l n : Int) : Int := if znE step ls hs x0 y0 z0 x1 y1 z1 px py pz e l n = 0 then e - bndB step ls hs x0 y0 z0 x1 y1 z1 px py pz else 0
def znT (step : Int) (ls hs : List Int) (x0 y0 z0 x1 y1 z1 px py pz e l n : Int) : Int := if znE step ls hs x0 y0 z0 x1 y1 z1 px py pz e l n = 0 then l - bndA step ls hs x0 y0 z0 x1 y1 z1 px py pz else 0
def znV (step : Int) (ls hs : List Int) (x0 y0 z0 x1 y1 z1 px py pz e l n : Int) : Value :=
  .tuple #[.agg #[.int .i64 (znF step ls hs x0 y0 z0 x1 y1 z1 px py pz e l n), .int .i64 (znT step ls hs x0 y0 z0 x1 y1 z1 px py pz e l n)], .int .i64 (znE step ls hs x0 y0 z0 x1 y1 z1 px py pz e l n)]
theorem zn_err {step : Int} {ls hs : List Int} {x0 y0 z0 x1 y1 z1 px py pz e l n : Int} (c : Int) (h : znE step ls hs x0 y0 z0 x1 y1 z1 px py pz e l n = c) (hc : c ≠ 0) : Value.tuple #[.agg #[.int .i64 0, .int .i64 0], .int .i64 c] = znV step ls hs x0 y0 z0 x1 y1 z1 px py pz e l n := by
  subst h; simp only [znV, znF, znT, if_neg hc]
theorem zn_ok {step : Int} {ls hs : List Int} {x0 y0 z0 x1 y1 z1 px py pz e l n : Int} (h : znE step ls hs x0 y0 z0 x1 y1 z1 px py pz e l n = 0) : Value.tuple #[.agg #[.int .i64 (e - bndB step ls hs x0 y0 z0 x1 y1 z1 px py pz), .int .i64 (l - bndA step ls hs x0 y0 z0 x1 y1 z1 px py pz)], .int .i64 0] = znV step ls hs x0 y0 z0 x1 y1 z1 px py pz e l n := by
  simp [znV, znF, znT, h]
theorem phP_iff {x y z e l n : Int} : phP x y z e l n = true ↔ vP x y z = true ∧ 0 ≤ e ∧ e ≤ l ∧ l ≤ 18014398509481984 ∧ 1 ≤ n ∧ n ≤ 100 := by simp [phP, and_assoc]
theorem cells2 {w : World} {b : Nat} {x y : Value} {t : TypeId} {fr : Nat × Nat} (h : w.heap[b]? = some (.cells #[x, y] t fr)) : w.cell? ⟨b, 0, none⟩ = some x ∧ w.cell? ⟨b, 1, none⟩ = some y := by simp [World.cell?, h]

set_option maxRecDepth 100000 in
set_option maxHeartbeats 2000000 in
theorem zone_any (step : Int) (vl vh : Value) (ls hs : List Int) (x0 y0 z0 x1 y1 z1 px py pz e l n : Int) (w : World) (h1 : Sl w vl ls) (h2 : Sl w vh hs) :
    Calls Try.prog 26 #[.agg #[.int .i64 step, vl, vh], .agg #[.int .i64 x0, .int .i64 y0, .int .i64 z0, .int .i64 x1, .int .i64 y1, .int .i64 z1], .agg #[.int .i64 px, .int .i64 py, .int .i64 pz, .int .i64 e, .int .i64 l, .int .i64 n]] w fun r w' =>
      r = .returned (znV step ls hs x0 y0 z0 x1 y1 z1 px py pz e l n) ∧ w.grownBy w' none := by
  go_enter Try.func26, Try.ntmps26
  have hg0 := gb_alloc (gb_alloc (gb_alloc (gb_alloc (gb_refl w none) (.cells #[.int .i64 step, vl, vh] 24)) (.cells #[.int .i64 x0, .int .i64 y0, .int .i64 z0, .int .i64 x1, .int .i64 y1, .int .i64 z1] 28)) (.cells #[.int .i64 px, .int .i64 py, .int .i64 pz, .int .i64 e, .int .i64 l, .int .i64 n] 30)) (.cells #[.int .i64 0, .int .i64 0] 32)
  have hR0 : ((((w.alloc (.cells #[.int .i64 step, vl, vh] 24)).alloc (.cells #[.int .i64 x0, .int .i64 y0, .int .i64 z0, .int .i64 x1, .int .i64 y1, .int .i64 z1] 28)).alloc (.cells #[.int .i64 px, .int .i64 py, .int .i64 pz, .int .i64 e, .int .i64 l, .int .i64 n] 30)).alloc (.cells #[.int .i64 0, .int .i64 0] 32)).heap[w.heap.size + 1 + 1 + 1]? = some (.cells #[.int .i64 0, .int .i64 0] 32 (0, 0)) := by
    simpa using heap_alloc_new (((w.alloc _).alloc _).alloc _) _
  have S1 := Lib.hid (h1.after hg0); have S2 := Lib.hid (h2.after hg0); have HG0 := Lib.hid hg0; have HR0 := Lib.hid hR0; clear h1 h2 hg0 hR0
  go_wp2_with fail
  (with_reducible refine (validate_any _ _ _ ls hs _ S1.out S2.out).mono ?_)
  rintro r w1 ⟨rfl, hg⟩
  obtain ⟨ca, hza⟩ := gb_at hg (b := w.heap.size) (by simp <;> omega)
  obtain ⟨cb, hzb⟩ := gb_at hg (b := w.heap.size + 1) (by simp <;> omega)
  obtain ⟨cc, hzc⟩ := gb_at hg (b := w.heap.size + 1 + 1) (by simp <;> omega)
  have S1a := Lib.hid (S1.out.after hg); have S2a := Lib.hid (S2.out.after hg); have HG1 := Lib.hid (gb_trans HG0.out hg); have HR1 := Lib.hid (block_kept hg HR0.out rfl); clear hg S1 S2 HG0 HR0
  have FIN : ∀ (u : World) (r a b : Int), w.grownBy u none → u.heap[w.heap.size + 1 + 1 + 1]? = some (.cells #[.int .i64 0, .int .i64 0] 32 (0, 0)) → w.grownBy (u.setRow (w.heap.size + 1 + 1 + 1) #[.int .i64 a, .int .i64 b]) none ∧ (u.setRow (w.heap.size + 1 + 1 + 1) #[.int .i64 a, .int .i64 b]).heap[w.heap.size + 1 + 1 + 1]? = some (.cells #[.int .i64 a, .int .i64 b] 32 (0, 0)) :=
    fun u r a b hg hR => ⟨gb_setRow hg (.inl (by omega)), setRow_at hR⟩
  have FN := Lib.hid FIN; clear FIN
  by_cases hok : tOk step ls hs
  rotate_left
  · have he : tE step ls hs = 21 := (tE_bad hok).symm
    have hR := HR1.out
    obtain ⟨k1, k2⟩ := FN.out w1 0 0 0 HG1.out HR1.out
    obtain ⟨e0, e1⟩ := cells2 k2
    have K1 := Lib.hid k1; clear k1 k2
    go_wp2_with (with_reducible refine wpList_store_row rfl _ _ _ rfl (w.heap.size + 1 + 1 + 1) #[.int .i64 0, .int .i64 0] rfl rfl _ _ hR (by kernel_rfl) rfl (by simp [Value.oneCell']) ?_)
    exact bodyPost_ret (v := .tuple #[.agg #[.int .i64 0, .int .i64 0], .int .i64 21]) (by simp [results, Try.results26, go_sem, e0, e1]) rfl ⟨congrArg Ending.returned (zn_err 21 (by simp [znE, hok]) (by omega)), K1.out⟩
  have he : tE step ls hs = 0 := (tE_ok hok).symm
  have HOK := Lib.hid hok; clear hok
  go_wp2_with fail
  (with_reducible refine (validBox_any _ _ _ _ _ _ _).mono ?_)
  rintro r w2 ⟨rfl, hg2⟩
  obtain ⟨ca2, hza2⟩ := gb_at hg2 hza
  obtain ⟨cb2, hzb2⟩ := gb_at hg2 hzb
  obtain ⟨cc2, hzc2⟩ := gb_at hg2 hzc
  have S1b := Lib.hid (S1a.out.after hg2); have S2b := Lib.hid (S2a.out.after hg2); have HG2 := Lib.hid (gb_trans HG1.out hg2); have HR2 := Lib.hid (block_kept hg2 HR1.out rfl); clear hg2 S1a S2a HG1 HR1 he
  cases hv0 : bP x0 y0 z0 x1 y1 z1
  · have hR := HR2.out
    obtain ⟨k1, k2⟩ := FN.out w2 0 0 0 HG2.out HR2.out
    obtain ⟨e0, e1⟩ := cells2 k2
    have K1 := Lib.hid k1; clear k1 k2
    go_wp2_with (with_reducible refine wpList_store_row rfl _ _ _ rfl (w.heap.size + 1 + 1 + 1) #[.int .i64 0, .int .i64 0] rfl rfl _ _ hR (by kernel_rfl) rfl (by simp [Value.oneCell']) ?_)
    exact bodyPost_ret (v := .tuple #[.agg #[.int .i64 0, .int .i64 0], .int .i64 20]) (by simp [results, Try.results26, go_sem, e0, e1]) rfl ⟨congrArg Ending.returned (zn_err 20 (by simp [znE, HOK.out, hv0]) (by omega)), K1.out⟩
  have HV0 := Lib.hid hv0; clear hv0
  go_wp2_with fail
  (with_reducible refine (validPhase_any _ _ _ _ _ _ _).mono ?_)
  rintro r w3 ⟨rfl, hg3⟩
  obtain ⟨ca3, hza3⟩ := gb_at hg3 hza2
  obtain ⟨cb3, hzb3⟩ := gb_at hg3 hzb2
  obtain ⟨cc3, hzc3⟩ := gb_at hg3 hzc2
  have S1c := Lib.hid (S1b.out.after hg3); have S2c := Lib.hid (S2b.out.after hg3); have HG3 := Lib.hid (gb_trans HG2.out hg3); have HR3 := Lib.hid (block_kept hg3 HR2.out rfl); clear hg3 S1b S2b HG2 HR2
  cases hv1 : phP px py pz e l n
  · have hR := HR3.out
    obtain ⟨k1, k2⟩ := FN.out w3 0 0 0 HG3.out HR3.out
    obtain ⟨e0, e1⟩ := cells2 k2
    have K1 := Lib.hid k1; clear k1 k2
    go_wp2_with (with_reducible refine wpList_store_row rfl _ _ _ rfl (w.heap.size + 1 + 1 + 1) #[.int .i64 0, .int .i64 0] rfl rfl _ _ hR (by kernel_rfl) rfl (by simp [Value.oneCell']) ?_)
    exact bodyPost_ret (v := .tuple #[.agg #[.int .i64 0, .int .i64 0], .int .i64 23]) (by simp [results, Try.results26, go_sem, e0, e1]) rfl ⟨congrArg Ending.returned (zn_err 23 (by simp [znE, HOK.out, HV0.out, hv1]) (by omega)), K1.out⟩
  have HV1 := Lib.hid hv1; clear hv1
  go_wp2_with fail
  (with_reducible refine (binterval_any _ _ _ ls hs _ _ _ _ _ _ _ _ _ _ S1c.out S2c.out).mono ?_)
  rintro r w4 ⟨rfl, hg4⟩
  obtain ⟨cc4, hzc4⟩ := gb_at hg4 hzc3
  have HG4 := Lib.hid (gb_trans HG3.out hg4); have HR4 := Lib.hid (block_kept hg4 HR3.out rfl); clear hg4 S1c S2c HG3 HR3 cb cb2 cb3 hzb hzb2 hzb3 ca ca2 ca3 hza hza2 hza3
  rw [show bndV step ls hs x0 y0 z0 x1 y1 z1 px py pz = .tuple #[.int .i64 (bndA step ls hs x0 y0 z0 x1 y1 z1 px py pz), .int .i64 (bndB step ls hs x0 y0 z0 x1 y1 z1 px py pz), .int .i64 (bndE step ls hs x0 y0 z0 x1 y1 z1 px py pz)] from rfl]
  have HE : Hid (znE step ls hs x0 y0 z0 x1 y1 z1 px py pz e l n = bndE step ls hs x0 y0 z0 x1 y1 z1 px py pz) := Lib.hid (by simp [znE, HOK.out, HV0.out, HV1.out])
  obtain ⟨bb1, bb2, bb3, bb4⟩ := bnd_bounds step ls hs x0 y0 z0 x1 y1 z1 px py pz
  have HZ := Lib.hid (zn_ok (step := step) (ls := ls) (hs := hs) (x0 := x0) (y0 := y0) (z0 := z0) (x1 := x1) (y1 := y1) (z1 := z1) (px := px) (py := py) (pz := pz) (e := e) (l := l) (n := n))
  obtain ⟨-, p1, p2, p3, -, -⟩ := phP_iff.1 HV1.out
  generalize bndA step ls hs x0 y0 z0 x1 y1 z1 px py pz = ba at *
  generalize bndB step ls hs x0 y0 z0 x1 y1 z1 px py pz = bb at *
  generalize bndE step ls hs x0 y0 z0 x1 y1 z1 px py pz = be at *
  by_cases hbe : be = 0
  · subst hbe
    have hR := HR4.out
    obtain ⟨k1, k2⟩ := FN.out w4 0 (e - bb) (l - ba) HG4.out HR4.out
    obtain ⟨e0, e1⟩ := cells2 k2
    have K1 := Lib.hid k1; clear k1 k2
    go_wp2_with (with_reducible refine wpList_store_row rfl _ _ _ rfl (w.heap.size + 1 + 1 + 1) #[.int .i64 (e - bb), .int .i64 (l - ba)] rfl rfl _ _ hR (by kernel_rfl) rfl (by simp [Value.oneCell']) ?_)
    exact bodyPost_ret (v := .tuple #[.agg #[.int .i64 (e - bb), .int .i64 (l - ba)], .int .i64 0]) (by simp [results, Try.results26, go_sem, e0, e1]) rfl ⟨congrArg Ending.returned (HZ.out HE.out), K1.out⟩
  · have hR := HR4.out
    obtain ⟨k1, k2⟩ := FN.out w4 0 0 0 HG4.out HR4.out
    obtain ⟨e0, e1⟩ := cells2 k2
    have K1 := Lib.hid k1; clear k1 k2
    go_wp2_with (with_reducible refine wpList_store_row rfl _ _ _ rfl (w.heap.size + 1 + 1 + 1) #[.int .i64 0, .int .i64 0] rfl rfl _ _ hR (by kernel_rfl) rfl (by simp [Value.oneCell']) ?_)
    exact bodyPost_ret (v := .tuple #[.agg #[.int .i64 0, .int .i64 0], .int .i64 be]) (by simp [results, Try.results26, go_sem, e0, e1]) rfl ⟨congrArg Ending.returned (zn_err be HE.out hbe), K1.out⟩

/-- What Meets returns. -/
def meV (a b c d : Int) : Value := if min b d < max a c then .tuple #[.agg #[.int .i64 0, .int .i64 0], .bool false] else .tuple #[.agg #[.int .i64 (max a c), .int .i64 (min b d)], .bool true]

set_option maxRecDepth 100000 in
set_option maxHeartbeats 1000000 in
theorem meets_any (a b c d : Int) (w : World) :
    Calls Try.prog 31 #[.agg #[.int .i64 a, .int .i64 b], .agg #[.int .i64 c, .int .i64 d]] w fun r w' => r = .returned (meV a b c d) ∧ w.grownBy w' none := by
  go_enter Try.func31, Try.ntmps31
  have h3 : (((w.alloc (.cells #[.int .i64 a, .int .i64 b] 32)).alloc (.cells #[.int .i64 c, .int .i64 d] 32)).alloc (.cells #[.int .i64 0, .int .i64 0] 32)).heap[w.heap.size + 1 + 1]? = some (.cells #[.int .i64 0, .int .i64 0] 32 (0, 0)) := by
    simpa using heap_alloc_new ((w.alloc _).alloc _) _
  have hg : w.grownBy (((w.alloc (.cells #[.int .i64 a, .int .i64 b] 32)).alloc (.cells #[.int .i64 c, .int .i64 d] 32)).alloc (.cells #[.int .i64 0, .int .i64 0] 32)) none := gb_alloc (gb_alloc (gb_alloc (gb_refl _ _) _) _) _
  have HG := Lib.hid hg; have H3 := Lib.hid h3; clear hg h3
  by_cases hm : min b d < max a c
  · have HM := Lib.hid (show meV a b c d = .tuple #[.agg #[.int .i64 0, .int .i64 0], .bool false] from if_pos hm)
    have h4 := Lib.hid (fun (o : Obj) => (heap_alloc_old _ o (block_lt' H3.out)).trans H3.out)
    have hR := h4.out (.cells #[.int .i64 (max a c), .int .i64 (min b d)] 32)
    obtain ⟨e0, e1⟩ := cells2 (setRow_at (cs := #[.int .i64 0, .int .i64 0]) hR)
    have K1 := Lib.hid (gb_setRow (g := w.heap.size + 1 + 1) (cs := #[.int .i64 0, .int .i64 0]) (gb_alloc HG.out (.cells #[.int .i64 (max a c), .int .i64 (min b d)] 32)) (.inl (by omega)))
    have HR := Lib.hid hR; clear hR
    go_wp2_with (with_reducible refine wpList_store_row rfl _ _ _ rfl (w.heap.size + 1 + 1) #[.int .i64 0, .int .i64 0] rfl rfl _ _ HR.out (by kernel_rfl) rfl (by simp [Value.oneCell']) ?_)
    exact bodyPost_ret (v := .tuple #[.agg #[.int .i64 0, .int .i64 0], .bool false]) (by simp [results, Try.results31, go_sem, e0, e1]) rfl ⟨by rw [HM.out], K1.out⟩
  · have HM := Lib.hid (show meV a b c d = .tuple #[.agg #[.int .i64 (max a c), .int .i64 (min b d)], .bool true] from if_neg hm)
    have h4 := Lib.hid (fun (o : Obj) => (heap_alloc_old _ o (block_lt' H3.out)).trans H3.out)
    have hR := h4.out (.cells #[.int .i64 (max a c), .int .i64 (min b d)] 32)
    obtain ⟨e0, e1⟩ := cells2 (setRow_at (cs := #[.int .i64 (max a c), .int .i64 (min b d)]) hR)
    have K1 := Lib.hid (gb_setRow (g := w.heap.size + 1 + 1) (cs := #[.int .i64 (max a c), .int .i64 (min b d)]) (gb_alloc HG.out (.cells #[.int .i64 (max a c), .int .i64 (min b d)] 32)) (.inl (by omega)))
    have HR := Lib.hid hR; clear hR
    go_wp2_with (with_reducible refine wpList_store_row rfl _ _ _ rfl (w.heap.size + 1 + 1) #[.int .i64 (max a c), .int .i64 (min b d)] rfl rfl _ _ HR.out (by kernel_rfl) rfl (by simp [Value.oneCell']) ?_)
    exact bodyPost_ret (v := .tuple #[.agg #[.int .i64 (max a c), .int .i64 (min b d)], .bool true]) (by simp [results, Try.results31, go_sem, e0, e1]) rfl ⟨by rw [HM.out], K1.out⟩
end Go.Proofs.Ytkckcaijfedijaa
