/- The walk of MagnitudeStations. Written by gen_law32s.py. -/
import Derived.Test.YtmgfdfbhfhmekaaGreatRStn
import Derived.Test.YtmgfdfbhfhmekaaGreatR18B
import Derived.Test.YtmgfdfbhfhmekaaGreatScl
import Derived.Test.YtmgfdfbhfhmekaaGreatRspD
import Derived.Test.YtmgfdfbhfhmekaaGreatLit
namespace Go.Proofs.YtmgfdfbhfhmekaaGreat
set_option linter.all false
open Go.RowKit Rg

theorem cells1s {w : World} {b : Nat} {x : Value} {t : TypeId} {fr : Nat × Nat} (h : w.heap[b]? = some (.cells #[x] t fr)) : w.cell? ⟨b, 0, none⟩ = some x := by simp [World.cell?, h]
theorem SlC.apart_s {k n : Nat} {u : World} {v : Value} {ys : List Value} {p : Nat} (h : SlC k u v n ys) (hp : u.heap.size ≤ p) : Apart p v := by
  intro b off len cap e hl
  rcases h.2 with ⟨h0, a, c, e2⟩ | ⟨b', off', cap', e2, hb, -⟩
  · rw [e] at e2; simp at e2; omega
  · rw [e] at e2; simp at e2; omega
/-- Stages in memory, apart from block q. -/
def StP (q : Nat) (u : World) (v : Value) (L : List Stv) : Prop := StIn u v L ∧ Apart q v ∧ ∀ x ∈ L, Apart q x.tv
theorem StP.later {q o : Nat} {u u' : World} {v : Value} {L : List Stv} (h : StP q u v L) (hg : u.grownBy u' (some o)) (h1 : Apart o v) (h2 : ∀ x ∈ L, Apart o x.tv) : StP q u' v L :=
  ⟨⟨h.1.1.draw hg h1, fun x hx => (h.1.2 x hx).later hg (fun b off len cap e hl => by have := h2 x hx b off len cap e hl; simpa using this)⟩, h.2⟩
theorem StP.draw {q : Nat} {u u' : World} {v : Value} {L : List Stv} (h : StP q u v L) (hg : u.grownBy u' (some q)) : StP q u' v L := h.later hg h.2.1 h.2.2
def RsIn (q : Nat) (u : World) (v : Value) : Prop := ∃ L, StP q u v L
theorem RsIn.draw {q : Nat} {u u' : World} {v : Value} (h : RsIn q u v) (hg : u.grownBy u' (some q)) : RsIn q u' v := by
  obtain ⟨L, h⟩ := h; exact ⟨L, h.draw hg⟩
theorem rowR {u : World} {b : Nat} {L : List Value} {T : TypeId} {fr : Nat × Nat} (h : u.heap[b]? = some (.cells L.toArray T fr)) (i : Nat) (hi : i < L.length) : u.cell? ⟨b, i, none⟩ = some L[i] := by
  simp [World.cell?, h, hi]
/-- A scale, as a row of five cells. -/
structure Scv where
  st : Int
  vl : Value
  vh : Value
  nu : Int
  de : Int
def Scv.cells (c : Scv) : List Value := [.int .i64 c.st, c.vl, c.vh, .int .i64 c.nu, .int .i64 c.de]
def flatC (L : List Scv) : List Value := L.flatMap Scv.cells
theorem flatC_at : ∀ (l : List Scv) (i : Nat) (hi : i < l.length) (j : Nat) (hj : j < 5), (flatC l)[i * 5 + j]? = l[i].cells[j]?
  | a :: l, 0, _, j, hj => by
    show (a.cells ++ flatC l)[0 * 5 + j]? = _
    rw [List.getElem?_append_left (by simp [Scv.cells]; omega)]; simp
  | a :: l, i + 1, hi, j, hj => by
    show (a.cells ++ flatC l)[(i + 1) * 5 + j]? = _
    rw [List.getElem?_append_right (by simp [Scv.cells]; omega), show (i + 1) * 5 + j - a.cells.length = i * 5 + j by simp [Scv.cells]; omega]
    exact flatC_at l i (by simpa using hi) j hj
theorem rowC {u : World} {b : Nat} {L : List Scv} {T : TypeId} {fr : Nat × Nat} (h : u.heap[b]? = some (.cells (flatC L).toArray T fr)) (i : Nat) (hi : i < L.length) :
    u.cell? ⟨b, i * 5, none⟩ = some (.int .i64 L[i].st) ∧ u.cell? ⟨b, i * 5 + 1, none⟩ = some L[i].vl ∧ u.cell? ⟨b, i * 5 + 2, none⟩ = some L[i].vh ∧ u.cell? ⟨b, i * 5 + 3, none⟩ = some (.int .i64 L[i].nu) ∧ u.cell? ⟨b, i * 5 + 4, none⟩ = some (.int .i64 L[i].de) := by
  have hc : ∀ j y, (flatC L)[j]? = some y → u.cell? ⟨b, j, none⟩ = some y := fun j y hj => by simpa [World.cell?, h] using hj
  exact ⟨hc _ _ (flatC_at L i hi 0 (by omega)), hc _ _ (flatC_at L i hi 1 (by omega)), hc _ _ (flatC_at L i hi 2 (by omega)), hc _ _ (flatC_at L i hi 3 (by omega)), hc _ _ (flatC_at L i hi 4 (by omega))⟩
def ScIn (q : Nat) (u : World) (c : Scv) : Prop := TbIn q u ⟨c.st, c.vl, c.vh⟩
theorem ScIn.draw {q : Nat} {u u' : World} {c : Scv} (h : ScIn q u c) (hg : u.grownBy u' (some q)) : ScIn q u' c := TbIn.draw h hg
theorem TbOf.far {q o : Nat} {u u' : World} {t : Tb} {ls hs : List Int} (h : TbOf q u t ls hs) (hg : u.grownBy u' (some o)) (a1 : Apart o t.vl) (a2 : Apart o t.vh) : TbOf q u' t ls hs :=
  ⟨h.1.later hg (fun b off len cap e hl => by have := a1 b off len cap e hl; simpa using this), h.2.1.later hg (fun b off len cap e hl => by have := a2 b off len cap e hl; simpa using this), h.2.2⟩
/-- What stays while the block o is written. -/
structure OddM (w0 : World) (q : Nat) (bs : List (Nat × Obj)) (r g : Tb) (rls rhs gls ghs : List Int) (rv sv : Value) (RL SL : List Stv) (u : World) : Prop where
  M : Mem w0 q bs [] u
  S : Src q u q
  R : TbOf q u r rls rhs
  G : TbOf q u g gls ghs
  RR : StP q u rv RL
  SR : StP q u sv SL
structure OddA (w0 : World) (q o : Nat) (bs : List (Nat × Obj)) (r g : Tb) (rv sv : Value) (RL SL : List Stv) : Prop where
  w0 : w0.heap.size ≤ o
  q : q < o
  bs : ∀ x ∈ bs, x.1 ≠ o
  r : Apart o r.vl ∧ Apart o r.vh
  g : Apart o g.vl ∧ Apart o g.vh
  rv : Apart o rv ∧ ∀ x ∈ RL, Apart o x.tv
  sv : Apart o sv ∧ ∀ x ∈ SL, Apart o x.tv
section
variable {w0 u u' : World} {q o : Nat} {bs : List (Nat × Obj)} {r g : Tb} {rls rhs gls ghs : List Int} {rv sv : Value} {RL SL : List Stv}
theorem OddM.draw (h : OddM w0 q bs r g rls rhs gls ghs rv sv RL SL u) (hq : w0.heap.size ≤ q) (hg : u.grownBy u' (some q)) (hS : Src q u' q) : OddM w0 q bs r g rls rhs gls ghs rv sv RL SL u' :=
  ⟨h.M.draw hg hq, hS, h.R.draw hg, h.G.draw hg, h.RR.draw hg, h.SR.draw hg⟩
theorem OddM.set (h : OddM w0 q bs r g rls rhs gls ghs rv sv RL SL u) (A : OddA w0 q o bs r g rv sv RL SL) (k : Nat) (x : Value) : OddM w0 q bs r g rls rhs gls ghs rv sv RL SL (u.setCell ⟨o, k, none⟩ x) := by
  have hg : u.grownBy (u.setCell ⟨o, k, none⟩ x) (some o) := gb_setCell (gb_refl _ _) (.inr rfl) _
  have hq := A.q
  refine ⟨⟨fun y hy => ⟨(setCell_far (a := ⟨o, k, none⟩) (A.bs y hy)).trans (h.M.blk y hy).1, (h.M.blk y hy).2⟩, by simp, gb_setCell h.M.gr (a := ⟨o, k, none⟩) (.inl A.w0) _⟩, h.S.later hg (fun p hp => by simp at hp; omega), h.R.far hg A.r.1 A.r.2, h.G.far hg A.g.1 A.g.2, h.RR.later hg A.rv.1 A.rv.2, h.SR.later hg A.sv.1 A.sv.2⟩
end

set_option maxRecDepth 100000 in
set_option maxHeartbeats 16000000 in
theorem magnitudeStations_walk (w : World) (rst rnu rde : Int) (rvl rvh : Value) (rls rhs : List Int) (hr1 : Sl w rvl rls) (hr2 : Sl w rvh rhs) (rrv : Value) (RL : List Stv) (hr3 : StIn w rrv RL) (am : Int) (_ha1 : -9223372036854775808 ≤ am) (_ha2 : am ≤ 9223372036854775807) (nr : Int) (_hn1 : -9223372036854775808 ≤ nr) (_hn2 : nr ≤ 9223372036854775807) (fr : Int) (_hf1 : -9223372036854775808 ≤ fr) (hf2 : fr ≤ 9223372036854775807) (v : Value) (xs : List Int) (hs : Sl w v xs) (_hx : ∀ x ∈ xs, -9223372036854775808 ≤ x ∧ x ≤ 9223372036854775807) :
    Calls Tryz.prog 3 #[.agg #[.int .i64 rst, rvl, rvh, .int .i64 rnu, .int .i64 rde], .agg #[rrv], .int .i64 am, .int .i64 nr, .int .i64 fr, v] w fun e w' => e = .returned (.bool true) ∧ Below w.heap.size w w' := by
  obtain ⟨ra, rn, rc, rfl⟩ := sl_slice hr1; obtain ⟨sa, sn, sc, rfl⟩ := sl_slice hr2; obtain ⟨ka, kc, rfl⟩ := hr3.1.slice
  generalize hkn : RL.length = kn at *
  clear hkn
  have hv : v.oneCell' = true := by obtain ⟨va, vn, vc, rfl⟩ := sl_slice hs; rfl
  have HFR := Lib.hid hf2; clear hf2
  go_enter Tryz.func3, Tryz.ntmps3
  have k0_0 : (w.alloc (.cells #[.int .i64 rst, .slice ra rn rc, .slice sa sn sc, .int .i64 rnu, .int .i64 rde] 26)).heap[w.heap.size]? = some (.cells #[.int .i64 rst, .slice ra rn rc, .slice sa sn sc, .int .i64 rnu, .int .i64 rde] 26 (0, 0)) := by exact heap_alloc_new _ _
  have k0_1 := block_kept (gb_alloc (gb_refl (w.alloc (.cells #[.int .i64 rst, .slice ra rn rc, .slice sa sn sc, .int .i64 rnu, .int .i64 rde] 26)) none) (.cells #[.slice ka kn kc] 29)) k0_0 rfl
  have k1_1 : ((w.alloc (.cells #[.int .i64 rst, .slice ra rn rc, .slice sa sn sc, .int .i64 rnu, .int .i64 rde] 26)).alloc (.cells #[.slice ka kn kc] 29)).heap[w.heap.size + 1]? = some (.cells #[.slice ka kn kc] 29 (0, 0)) := by simpa using heap_alloc_new (w.alloc (.cells #[.int .i64 rst, .slice ra rn rc, .slice sa sn sc, .int .i64 rnu, .int .i64 rde] 26)) (.cells #[.slice ka kn kc] 29)
  clear k0_0
  have hgw : w.grownBy ((w.alloc (.cells #[.int .i64 rst, .slice ra rn rc, .slice sa sn sc, .int .i64 rnu, .int .i64 rde] 26)).alloc (.cells #[.slice ka kn kc] 29)) none := gb_alloc (gb_alloc (gb_refl w none) _) _
  have K0 := Lib.hid k0_1
  have K1 := Lib.hid k1_1
  clear k0_1 k1_1
  have HR1 := Lib.hid (hr1.after hgw); have HR2 := Lib.hid (hr2.after hgw); have HR3 := Lib.hid (hr3.after hgw); have HV := Lib.hid (hs.after hgw); have GW := Lib.hid hgw
  clear hr1 hr2 hr3 hs hgw
  obtain ⟨e0_, e1_, e2_, e3_, e4_⟩ := cells5 K0.out
  go_wp2_with fail
  refine calls_name (fun w1 hw => ?_)
  clear e0_ e1_ e2_ e3_ e4_
  have K0 := Lib.hid (show w1.heap[w.heap.size]? = some (.cells #[.int .i64 rst, .slice ra rn rc, .slice sa sn sc, .int .i64 rnu, .int .i64 rde] 26 (0, 0)) from by rw [hw]; exact K0.out)
  have K1 := Lib.hid (show w1.heap[w.heap.size + 1]? = some (.cells #[.slice ka kn kc] 29 (0, 0)) from by rw [hw]; exact K1.out)
  have HR1 := Lib.hid (show Sl w1 _ _ from by rw [hw]; exact HR1.out); have HR2 := Lib.hid (show Sl w1 _ _ from by rw [hw]; exact HR2.out); have HR3 := Lib.hid (show StIn w1 _ _ from by rw [hw]; exact HR3.out); have HV := Lib.hid (show Sl w1 _ _ from by rw [hw]; exact HV.out); have GW := Lib.hid (show w.grownBy w1 none from by rw [hw]; exact GW.out)
  clear hw
  (with_reducible refine (smallTable_any _ _ _ rls rhs w1 HR1.out HR2.out).mono ?_)
  rintro r w2 ⟨rfl, hg⟩
  have K0 := Lib.hid (block_kept hg K0.out rfl)
  have K1 := Lib.hid (block_kept hg K1.out rfl)
  have HR1 := Lib.hid (HR1.out.after hg); have HR2 := Lib.hid (HR2.out.after hg); have HR3 := Lib.hid (HR3.out.after hg); have HV := Lib.hid (HV.out.after hg); have GW := Lib.hid (gb_trans GW.out hg)
  clear hg
  cases hsm : (decide (rls.length ≤ 300) && decide (rhs.length ≤ 300))
  · go_wp2_with fail
    (with_reducible refine (awake32_any _).mono ?_)
    rintro r w9 ⟨rfl, hg⟩
    have HGE := Lib.hid (gb_trans GW.out hg)
    go_wp2_with fail
    go_ret
    exact ⟨rfl, gb_end HGE.out⟩
  clear hsm
  have r0_ := cells1s K1.out
  have hrl_ := block_lt' K1.out
  go_wp2_with fail
  clear r0_ hrl_
  (with_reducible refine (smallResponse_any RL _ w2 HR3.out).mono ?_)
  rintro r w3 ⟨rfl, hg⟩
  have K0 := Lib.hid (block_kept hg K0.out rfl)
  have K1 := Lib.hid (block_kept hg K1.out rfl)
  have HR1 := Lib.hid (HR1.out.after hg); have HR2 := Lib.hid (HR2.out.after hg); have HR3 := Lib.hid (HR3.out.after hg); have HV := Lib.hid (HV.out.after hg); have GW := Lib.hid (gb_trans GW.out hg)
  clear hg
  cases hsm : smallR RL
  · go_wp2_with fail
    (with_reducible refine (awake32_any _).mono ?_)
    rintro r w9 ⟨rfl, hg⟩
    have HGE := Lib.hid (gb_trans GW.out hg)
    go_wp2_with fail
    go_ret
    exact ⟨rfl, gb_end HGE.out⟩
  clear hsm
  go_wp2_with fail
  (with_reducible refine (new_any w3 v xs HV.out).mono ?_)
  rintro e w4 ⟨rfl, hS, hg⟩
  have hlt := block_lt' K1.out; have hlt0 := block_lt' K0.out
  have S4 := Lib.hid hS
  have M4 := Lib.hid (((Mem.nil (w0 := w3) (p := w3.heap.size) hg).more (block_kept hg K0.out rfl) (by omega)).more (block_kept hg K1.out rfl) (by omega))
  have R4 := Lib.hid (show TbOf w3.heap.size w4 ⟨rst, .slice ra rn rc, .slice sa sn sc⟩ rls rhs from ⟨HR1.out.after hg, HR2.out.after hg, HR1.out.apart_lt (Nat.le_refl _), HR2.out.apart_lt (Nat.le_refl _)⟩)
  have Q4 := Lib.hid (show StP w3.heap.size w4 (.slice ka kn kc) RL from ⟨HR3.out.after hg, HR3.out.1.apart_s (Nat.le_refl _), fun x hx => (HR3.out.2 x hx).apart_lt (Nat.le_refl _)⟩)
  clear hg hS HR1 HR2 HR3 HV K0 K1 hlt hlt0
  go_wp2_with fail
  generalize hq : w3.heap.size = q at *
  have hq2 : w3.heap.size ≤ q := by omega
  clear hq
  have hq4 := S4.out.lt.2
  (with_reducible refine (scaleL_any q w4 q S4.out hq4).mono ?_)
  rintro e w5 ⟨s, vl, vh, rfl, -, hlen, s1, s2, ap1, ap2, hS, hg⟩
  obtain ⟨gst, gls, ghs, gnu, gde⟩ := s
  simp only [] at hlen s1 s2
  have HLEN := Lib.hid hlen
  have G5 := Lib.hid (show TbOf q w5 ⟨gst, vl, vh⟩ gls ghs from ⟨s1, s2, fun b off len cap e _ => by have := ap1 b off len cap e; omega, fun b off len cap e _ => by have := ap2 b off len cap e; omega⟩)
  obtain ⟨ga, gn, gc, rfl⟩ := sl_slice s1; obtain ⟨ha, hn, hc, rfl⟩ := sl_slice s2
  simp only [Sca.val]
  clear s1 s2 ap1 ap2 hlen hq4
  have M5 := Lib.hid (M4.out.draw hg hq2); have S5 := Lib.hid (hS); have R5 := Lib.hid (R4.out.draw hg); have Q5 := Lib.hid (Q4.out.draw hg)
  clear hg hS M4 S4 R4 Q4
  go_wp2_with fail
  have hq5 := S5.out.lt.2
  (with_reducible refine (resp_any q w5 q S5.out hq5).mono ?_)
  rintro e w6 ⟨SL, sv, rfl, r1, -, ap1, ap2, hS, hg⟩
  have P6 := Lib.hid (show StP q w6 sv SL from ⟨r1, fun b off len cap e _ => by have := ap1 b off len cap e; omega, fun x hx b off len cap e _ => by have := ap2 x hx b off len cap e; omega⟩)
  obtain ⟨pa, pc, rfl⟩ := r1.1.slice
  clear r1 ap1 ap2 hq5
  have M6 := Lib.hid (M5.out.draw hg hq2); have S6 := Lib.hid (hS); have R6 := Lib.hid (R5.out.draw hg); have Q6 := Lib.hid (Q5.out.draw hg); have G6 := Lib.hid (G5.out.draw hg)
  clear hg hS M5 S5 R5 Q5 G5
  generalize hpn : SL.length = pn at *
  clear hpn
  have hp_ := S6.out.lt.2
  have hl1_ : (w6.alloc (.cells #[.int .i64 gst, .slice ga gn gc, .slice ha hn hc, .int .i64 gnu, .int .i64 gde] 26)).heap.size = w6.heap.size + 1 := by simp
  have hl2_ : ((w6.alloc (.cells #[.int .i64 gst, .slice ga gn gc, .slice ha hn hc, .int .i64 gnu, .int .i64 gde] 26)).alloc (.cells #[.slice pa pn pc] 29)).heap.size = w6.heap.size + 1 + 1 := by simp
  have ha0_ : w6.grownBy (w6.alloc (.cells #[.int .i64 gst, .slice ga gn gc, .slice ha hn hc, .int .i64 gnu, .int .i64 gde] 26)) none := gb_alloc (gb_refl _ _) _
  have hb0_ := heap_alloc_new w6 (.cells #[.int .i64 gst, .slice ga gn gc, .slice ha hn hc, .int .i64 gnu, .int .i64 gde] 26)
  have ha1_ : (w6.alloc (.cells #[.int .i64 gst, .slice ga gn gc, .slice ha hn hc, .int .i64 gnu, .int .i64 gde] 26)).grownBy ((w6.alloc (.cells #[.int .i64 gst, .slice ga gn gc, .slice ha hn hc, .int .i64 gnu, .int .i64 gde] 26)).alloc (.cells #[.slice pa pn pc] 29)) none := gb_alloc (gb_refl _ _) _
  have hb1_ := heap_alloc_new (w6.alloc (.cells #[.int .i64 gst, .slice ga gn gc, .slice ha hn hc, .int .i64 gnu, .int .i64 gde] 26)) (.cells #[.slice pa pn pc] 29)
  rw [hl1_] at hb1_
  have ha2_ : ((w6.alloc (.cells #[.int .i64 gst, .slice ga gn gc, .slice ha hn hc, .int .i64 gnu, .int .i64 gde] 26)).alloc (.cells #[.slice pa pn pc] 29)).grownBy (((w6.alloc (.cells #[.int .i64 gst, .slice ga gn gc, .slice ha hn hc, .int .i64 gnu, .int .i64 gde] 26)).alloc (.cells #[.slice pa pn pc] 29)).alloc (.cells #[.int .i64 gst, .slice ga gn gc, .slice ha hn hc, .int .i64 gnu, .int .i64 gde] 26)) none := gb_alloc (gb_refl _ _) _
  have hb2_ := heap_alloc_new ((w6.alloc (.cells #[.int .i64 gst, .slice ga gn gc, .slice ha hn hc, .int .i64 gnu, .int .i64 gde] 26)).alloc (.cells #[.slice pa pn pc] 29)) (.cells #[.int .i64 gst, .slice ga gn gc, .slice ha hn hc, .int .i64 gnu, .int .i64 gde] 26)
  rw [hl2_] at hb2_
  have hb0_ := block_kept ha1_ hb0_ rfl
  have hb0_ := block_kept ha2_ hb0_ rfl
  have hb1_ := block_kept ha2_ hb1_ rfl
  have he_ := (gb_trans (gb_trans ha0_ ha1_) ha2_)
  have M9 := Lib.hid (M6.out.later he_); have S9 := Lib.hid (S6.out.later (row := none) he_ (by simp)); have R9 := Lib.hid (R6.out.draw (gb_none he_)); have Q9 := Lib.hid (Q6.out.draw (gb_none he_)); have G9 := Lib.hid (G6.out.draw (gb_none he_)); have P9 := Lib.hid (P6.out.draw (gb_none he_))
  have M9 := Lib.hid (((M9.out.more hb0_ (by omega)).more hb1_ (by omega)).more hb2_ (by omega))
  have AP : Hid (OddA w3 q (w6.heap.size + 1 + 1) [(w6.heap.size + 1, .cells #[.slice pa pn pc] 29 (0, 0)), (w6.heap.size, .cells #[.int .i64 gst, .slice ga gn gc, .slice ha hn hc, .int .i64 gnu, .int .i64 gde] 26 (0, 0)), (w.heap.size + 1, .cells #[.slice ka kn kc] 29 (0, 0)), (w.heap.size, .cells #[.int .i64 rst, .slice ra rn rc, .slice sa sn sc, .int .i64 rnu, .int .i64 rde] 26 (0, 0))] ⟨rst, .slice ra rn rc, .slice sa sn sc⟩ ⟨gst, .slice ga gn gc, .slice ha hn hc⟩ (.slice ka kn kc) (.slice pa pn pc) RL SL) := Lib.hid ⟨by have := M6.out.gr.size; omega, by omega, by
      intro x hx
      have h0 := M6.out.lt 0 rfl; have h1 := M6.out.lt 1 rfl
      simp only [List.mem_cons, List.not_mem_nil, or_false] at hx
      rcases hx with rfl | rfl | rfl | rfl <;> simp only [] <;> omega, ⟨R6.out.1.apart_lt (by omega), R6.out.2.1.apart_lt (by omega)⟩, ⟨G6.out.1.apart_lt (by omega), G6.out.2.1.apart_lt (by omega)⟩, ⟨Q6.out.1.1.apart_s (by omega), fun x hx => (Q6.out.1.2 x hx).apart_lt (by omega)⟩, ⟨P6.out.1.1.apart_s (by omega), fun x hx => (P6.out.1.2 x hx).apart_lt (by omega)⟩⟩
  have OM : Hid (OddM w3 q [(w6.heap.size + 1, .cells #[.slice pa pn pc] 29 (0, 0)), (w6.heap.size, .cells #[.int .i64 gst, .slice ga gn gc, .slice ha hn hc, .int .i64 gnu, .int .i64 gde] 26 (0, 0)), (w.heap.size + 1, .cells #[.slice ka kn kc] 29 (0, 0)), (w.heap.size, .cells #[.int .i64 rst, .slice ra rn rc, .slice sa sn sc, .int .i64 rnu, .int .i64 rde] 26 (0, 0))] ⟨rst, .slice ra rn rc, .slice sa sn sc⟩ ⟨gst, .slice ga gn gc, .slice ha hn hc⟩ rls rhs gls ghs (.slice ka kn kc) (.slice pa pn pc) RL SL (((w6.alloc (.cells #[.int .i64 gst, .slice ga gn gc, .slice ha hn hc, .int .i64 gnu, .int .i64 gde] 26)).alloc (.cells #[.slice pa pn pc] 29)).alloc (.cells #[.int .i64 gst, .slice ga gn gc, .slice ha hn hc, .int .i64 gnu, .int .i64 gde] 26))) := Lib.hid ⟨M9.out.drop, S9.out, R9.out, G9.out, Q9.out, P9.out⟩
  have OB := Lib.hid hb2_
  clear hp_ he_ hl1_ hl2_ ha0_ hb0_ ha1_ hb1_ ha2_ hb2_ M6 S6 R6 Q6 G6 P6
  go_wp2_with fail
  generalize (((w6.alloc (.cells #[.int .i64 gst, .slice ga gn gc, .slice ha hn hc, .int .i64 gnu, .int .i64 gde] 26)).alloc (.cells #[.slice pa pn pc] 29)).alloc (.cells #[.int .i64 gst, .slice ga gn gc, .slice ha hn hc, .int .i64 gnu, .int .i64 gde] 26)) = w9 at *
  generalize w6.heap.size = gb at *
  clear M9 S9 R9 G9 Q9 P9
  (with_reducible refine (n_any q w9 q 3 OM.out.S (by omega) (by omega)).mono ?_)
  rintro e w10 ⟨k, rfl, ⟨hk0, hk1⟩, hS, hg⟩
  have hoq : gb + 1 + 1 ≠ q := by have := AP.out.q; omega
  have OB := Lib.hid (block_keptp hg OB.out hoq); have OM := Lib.hid (OM.out.draw hq2 hg hS)
  clear hS hg
  go_upto_block 0 with fail
  go_cut [] from 48 to 64 (fun wc => ∃ c : Scv, OddM w3 q [(gb + 1, .cells #[.slice pa pn pc] 29 (0, 0)), (gb, .cells #[.int .i64 gst, .slice ga gn gc, .slice ha hn hc, .int .i64 gnu, .int .i64 gde] 26 (0, 0)), (w.heap.size + 1, .cells #[.slice ka kn kc] 29 (0, 0)), (w.heap.size, .cells #[.int .i64 rst, .slice ra rn rc, .slice sa sn sc, .int .i64 rnu, .int .i64 rde] 26 (0, 0))] ⟨rst, .slice ra rn rc, .slice sa sn sc⟩ ⟨gst, .slice ga gn gc, .slice ha hn hc⟩ rls rhs gls ghs (.slice ka kn kc) (.slice pa pn pc) RL SL wc ∧ wc.heap[gb + 1 + 1]? = some (.cells #[.int .i64 c.st, c.vl, c.vh, .int .i64 c.nu, .int .i64 c.de] 26 (0, 0)) ∧ ScIn q wc c)
  case first =>
    have hk : k = 0 ∨ k = 1 ∨ k = 2 := by omega
    clear hk0 hk1
    rcases hk with rfl | rfl | rfl
    · obtain ⟨x0_, x1_, x2_, x3_, x4_⟩ := cells5 (OM.out.M.at 1 rfl)
      have hxl := OM.out.M.lt 1 rfl
      go_wp2_with fail
      clear x0_ x1_ x2_ x3_ x4_ hxl
      have hG1 := OM.out.G.1; have hG2 := OM.out.G.2.1
      (with_reducible refine (bentTable_any q w10 q gst _ _ gls ghs OM.out.S hG1 hG2 HLEN.out.2.1 HLEN.out.2.2.1 HLEN.out.2.2.2).mono ?_)
      rintro e w11 ⟨bst, bvl, bvh, bls, bhs, rfl, h1, h2, h3, hS, hg⟩
      have hol := block_lt' OB.out
      have ab1 : Apart (gb + 1 + 1) bvl := fun b off len cap e _ => by have := h3 _ (.inl rfl) b off len cap e; omega
      have ab2 : Apart (gb + 1 + 1) bvh := fun b off len cap e _ => by have := h3 _ (.inr rfl) b off len cap e; omega
      have aq1 : Apart q bvl := fun b off len cap e _ => by have := h3 _ (.inl rfl) b off len cap e; have := AP.out.q; omega
      have aq2 : Apart q bvh := fun b off len cap e _ => by have := h3 _ (.inr rfl) b off len cap e; have := AP.out.q; omega
      have OB := Lib.hid (block_keptp hg OB.out hoq); have OM := Lib.hid (OM.out.draw hq2 hg hS)
      have TB : TbOf q w11 ⟨bst, bvl, bvh⟩ bls bhs := ⟨h1, h2, aq1, aq2⟩
      obtain ⟨ba, bn, bc, rfl⟩ := sl_slice h1; obtain ⟨ca, cn, cc, rfl⟩ := sl_slice h2
      have hs1 : w11.grownBy (w11.setCell ⟨gb + 1 + 1, 0, none⟩ (.int .i64 bst)) (some (gb + 1 + 1)) := gb_setCell (gb_refl _ _) (.inr rfl) _
      have hs2 : (w11.setCell ⟨gb + 1 + 1, 0, none⟩ (.int .i64 bst)).grownBy ((w11.setCell ⟨gb + 1 + 1, 0, none⟩ (.int .i64 bst)).setCell ⟨gb + 1 + 1, 1, none⟩ (.slice ba bn bc)) (some (gb + 1 + 1)) := gb_setCell (gb_refl _ _) (.inr rfl) _
      have hs3 : ((w11.setCell ⟨gb + 1 + 1, 0, none⟩ (.int .i64 bst)).setCell ⟨gb + 1 + 1, 1, none⟩ (.slice ba bn bc)).grownBy (((w11.setCell ⟨gb + 1 + 1, 0, none⟩ (.int .i64 bst)).setCell ⟨gb + 1 + 1, 1, none⟩ (.slice ba bn bc)).setCell ⟨gb + 1 + 1, 2, none⟩ (.slice ca cn cc)) (some (gb + 1 + 1)) := gb_setCell (gb_refl _ _) (.inr rfl) _
      have TB3 := Lib.hid (((TB.far hs1 ab1 ab2).far hs2 ab1 ab2).far hs3 ab1 ab2)
      have OB3 := Lib.hid (set_block (set_block (set_block OB.out 0 (.int .i64 bst)) 1 (.slice ba bn bc)) 2 (.slice ca cn cc))
      have OM3 := Lib.hid (((OM.out.set AP.out 0 (.int .i64 bst)).set AP.out 1 (.slice ba bn bc)).set AP.out 2 (.slice ca cn cc))
      have hol := block_lt' OB.out
      have hf0 := frz OB.out 0; have hf1 := frz OB.out 1; have hf2 := frz OB.out 2
      obtain ⟨y0_, y1_, y2_, y3_, y4_⟩ := cells5 OB.out
      clear hG1 hG2 h1 h2 h3 hS hg ab1 ab2 aq1 aq2 TB hs1 hs2 hs3
      go_wp2_with fail
      go_meet
      case rel => exact ⟨⟨bst, .slice ba bn bc, .slice ca cn cc, gnu, gde⟩, OM3.out, OB3.out, bls, bhs, TB3.out⟩
    · have PK := Lib.hid (pick32 q w10 q [-1, 0, 65536, 65537] 4 rfl #[.int .i64 (-1), .int .i64 0, .int .i64 65536, .int .i64 65537] rfl 3 OM.out.S _ rfl (by simp) (by simp))
      go_wp2_with fail
      (with_reducible refine PK.out.mono ?_)
      rintro e w11 ⟨p, rfl, -, hS, hg⟩
      have OB := Lib.hid (block_keptp hg OB.out hoq); have OM := Lib.hid (OM.out.draw hq2 hg hS)
      have OB3 := Lib.hid (set_block OB.out 3 (.int .i64 p))
      have OM3 := Lib.hid (OM.out.set AP.out 3 (.int .i64 p))
      have hol := block_lt' OB.out
      have hf0 := frz OB.out 3
      obtain ⟨y0_, y1_, y2_, y3_, y4_⟩ := cells5 OB.out
      clear hS hg PK
      go_wp2_with fail
      go_meet
      case rel => exact ⟨⟨gst, .slice ga gn gc, .slice ha hn hc, p, gde⟩, OM3.out, OB3.out, gls, ghs, OM3.out.G⟩
    · have PK := Lib.hid (pick32 q w10 q [-1, 0, 1, 65536, 65537] 5 rfl #[.int .i64 (-1), .int .i64 0, .int .i64 1, .int .i64 65536, .int .i64 65537] rfl 3 OM.out.S _ rfl (by simp) (by simp))
      go_wp2_with fail
      (with_reducible refine PK.out.mono ?_)
      rintro e w11 ⟨p, rfl, -, hS, hg⟩
      have OB := Lib.hid (block_keptp hg OB.out hoq); have OM := Lib.hid (OM.out.draw hq2 hg hS)
      have OB3 := Lib.hid (set_block OB.out 4 (.int .i64 p))
      have OM3 := Lib.hid (OM.out.set AP.out 4 (.int .i64 p))
      have hol := block_lt' OB.out
      have hf0 := frz OB.out 4
      obtain ⟨y0_, y1_, y2_, y3_, y4_⟩ := cells5 OB.out
      clear hS hg PK
      go_wp2_with fail
      go_meet
      case rel => exact ⟨⟨gst, .slice ga gn gc, .slice ha hn hc, gnu, p⟩, OM3.out, OB3.out, gls, ghs, OM3.out.G⟩
  case rest =>
  obtain ⟨⟨ost, ovl, ovh, onu, ode⟩, hOM, hOB, hC⟩ := hcut
  simp only [] at hOB
  obtain ⟨ols, ohs, hC⟩ := hC
  simp only [] at hC
  obtain ⟨oa, on, oc, rfl⟩ := sl_slice hC.1; obtain ⟨da, dn, dc, rfl⟩ := sl_slice hC.2.1
  have M20 := Lib.hid (hOM.M.more hOB hoq); have S20 := Lib.hid hOM.S; have R20 := Lib.hid hOM.R; have G20 := Lib.hid hOM.G; have Q20 := Lib.hid hOM.RR; have P20 := Lib.hid hOM.SR; have C20 := Lib.hid hC
  clear hOM hOB hC OM OB AP hoq HLEN hk0 hk1
  generalize wc = w20 at *
  generalize gb + 1 + 1 = ob at *
  generalize gb + 1 = pb at *
  obtain ⟨raw0_, raw1_, raw2_, raw3_, raw4_⟩ := cells5 (M20.out.at 4 rfl)
  obtain ⟨g0_, g1_, g2_, g3_, g4_⟩ := cells5 (M20.out.at 2 rfl)
  obtain ⟨o0_, o1_, o2_, o3_, o4_⟩ := cells5 (M20.out.at 0 rfl)
  have hp_ := S20.out.lt.2
  have ha_ : w20.grownBy (w20.alloc (.cells #[.int .i64 rst, .slice ra rn rc, .slice sa sn sc, .int .i64 rnu, .int .i64 rde, .int .i64 gst, .slice ga gn gc, .slice ha hn hc, .int .i64 gnu, .int .i64 gde, .int .i64 ost, .slice oa on oc, .slice da dn dc, .int .i64 onu, .int .i64 ode] 26)) none := gb_alloc (gb_refl _ _) _
  have HBnx : Hid ((w20.alloc (.cells #[.int .i64 rst, .slice ra rn rc, .slice sa sn sc, .int .i64 rnu, .int .i64 rde, .int .i64 gst, .slice ga gn gc, .slice ha hn hc, .int .i64 gnu, .int .i64 gde, .int .i64 ost, .slice oa on oc, .slice da dn dc, .int .i64 onu, .int .i64 ode] 26)).heap[w20.heap.size]? = some (.cells (flatC [⟨rst, .slice ra rn rc, .slice sa sn sc, rnu, rde⟩, ⟨gst, .slice ga gn gc, .slice ha hn hc, gnu, gde⟩, ⟨ost, .slice oa on oc, .slice da dn dc, onu, ode⟩]).toArray 26 (0, 0))) := Lib.hid (heap_alloc_new _ _)
  have hnnx : w20.heap.size ≠ q := by omega
  have M21 := Lib.hid (M20.out.later ha_); have S21 := Lib.hid (S20.out.later (row := none) ha_ (by simp)); have R21 := Lib.hid (R20.out.draw (gb_none ha_)); have Q21 := Lib.hid (Q20.out.draw (gb_none ha_)); have G21 := Lib.hid (G20.out.draw (gb_none ha_)); have P21 := Lib.hid (P20.out.draw (gb_none ha_)); have C21 := Lib.hid (C20.out.draw (gb_none ha_))
  clear ha_ M20 S20 R20 Q20 G20 P20 C20
  go_wp2_with fail
  clear raw0_ raw1_ raw2_ raw3_ raw4_ g0_ g1_ g2_ g3_ g4_ o0_ o1_ o2_ o3_ o4_
  generalize w20.alloc (.cells #[.int .i64 rst, .slice ra rn rc, .slice sa sn sc, .int .i64 rnu, .int .i64 rde, .int .i64 gst, .slice ga gn gc, .slice ha hn hc, .int .i64 gnu, .int .i64 gde, .int .i64 ost, .slice oa on oc, .slice da dn dc, .int .i64 onu, .int .i64 ode] 26) = w21 at *
  generalize w20.heap.size = nx at *
  obtain ⟨Lnx, hL, hLnx⟩ : ∃ Lnx : List Scv, Lnx = [⟨rst, .slice ra rn rc, .slice sa sn sc, rnu, rde⟩, ⟨gst, .slice ga gn gc, .slice ha hn hc, gnu, gde⟩, ⟨ost, .slice oa on oc, .slice da dn dc, onu, ode⟩] ∧ Lnx.length = 3 := ⟨_, rfl, rfl⟩
  have HXnx : Hid (∀ c ∈ ([⟨rst, .slice ra rn rc, .slice sa sn sc, rnu, rde⟩, ⟨gst, .slice ga gn gc, .slice ha hn hc, gnu, gde⟩, ⟨ost, .slice oa on oc, .slice da dn dc, onu, ode⟩] : List Scv), ScIn q w21 c) := Lib.hid (by
      intro c hc
      simp only [List.mem_cons, List.not_mem_nil, or_false] at hc
      rcases hc with rfl | rfl | rfl
      · exact R21.out.in
      · exact G21.out.in
      · exact C21.out.in)
  rw [← hL] at HBnx HXnx
  clear hL hp_
  go_loopw [70] (fun i wr => ∃ k : Nat, k ≤ 3 ∧ i = .int .i64 k ∧ Src q wr q ∧ w21.grownBy wr (some q)) (fun i _ => 3 - (intOf i).toNat)
  case atStart => exact ⟨0, by omega, rfl, S21.out, gb_refl _ _⟩
  case round =>
    obtain ⟨knx, hknx, rfl, hS, hgr⟩ := hrel
    by_cases hltnx : knx < 3
    · have hkLnx : knx < Lnx.length := by omega
      have hkdnx : decide ((knx : Int) < 3) = true := decide_eq_true (by omega)
      obtain ⟨r0_, r1_, r2_, r3_, r4_⟩ := rowC (block_keptp hgr HBnx.out hnnx) knx hkLnx
      generalize wr = w100 at *
      have Gnx_21 := Lib.hid (gb_refl w21 (some q))
      have M100 := Lib.hid (M21.out.draw hgr hq2); have S100 := Lib.hid (hS); have R100 := Lib.hid (R21.out.draw hgr); have Q100 := Lib.hid (Q21.out.draw hgr); have G100 := Lib.hid (G21.out.draw hgr); have P100 := Lib.hid (P21.out.draw hgr); have C100 := Lib.hid (C21.out.draw hgr); have Gnx_100 := Lib.hid (gb_trans Gnx_21.out hgr)
      clear hgr hS
      have hin := (HXnx.out _ (List.getElem_mem hkLnx)).draw Gnx_100.out
      generalize Lnx[knx] = tp at *
      obtain ⟨est, evl, evh, enu, ede⟩ := tp
      obtain ⟨els, ehs, hin⟩ := hin
      simp only [] at hin r0_ r1_ r2_ r3_ r4_
      obtain ⟨ea, en, ec, he⟩ := sl_slice hin.1; obtain ⟨fa, fn, fc, he'⟩ := sl_slice hin.2.1
      simp only [] at he he'
      subst he; subst he'
      have TE100 := Lib.hid hin; clear hin
      clear R100 G100 C100
      have VA := Lib.hid (fun (u : World) (h : TbOf q u ⟨est, .slice ea en ec, .slice fa fn fc⟩ els ehs) => vscale_any ⟨est, els, ehs, enu, ede⟩ _ _ u h.1 h.2.1); have VB := Lib.hid (fun (u : World) (h : TbOf q u ⟨est, .slice ea en ec, .slice fa fn fc⟩ els ehs) => rvscale_any ⟨est, els, ehs, enu, ede⟩ _ _ u h.1 h.2.1)
      have SA := Lib.hid (fun (L : List Stv) (v : Value) (a x y : Int) (hy : y ≤ 9223372036854775807) (u : World) (h : TbOf q u ⟨est, .slice ea en ec, .slice fa fn fc⟩ els ehs) (h3 : StP q u v L) => station_any ⟨est, els, ehs, enu, ede⟩ _ _ v L a x y u h.1 h.2.1 h3.1 hy); have SB := Lib.hid (fun (L : List Stv) (v : Value) (a x y : Int) (hy : y ≤ 9223372036854775807) (u : World) (h : TbOf q u ⟨est, .slice ea en ec, .slice fa fn fc⟩ els ehs) (h3 : StP q u v L) => rstation_any ⟨est, els, ehs, enu, ede⟩ _ _ v L a x y u h.1 h.2.1 h3.1 hy)
      simp only [Sca.val, stnV] at VA VB SA SB
      generalize Sca.ok ⟨est, els, ehs, enu, ede⟩ = ok at *
      generalize stnL ⟨est, els, ehs, enu, ede⟩ = fL at *
      generalize stnH ⟨est, els, ehs, enu, ede⟩ = fH at *
      generalize stnE ⟨est, els, ehs, enu, ede⟩ = fE at *
      have hp_ := S100.out.lt.2
      have ha_ : w100.grownBy (w100.alloc (.cells #[.int .i64 est, .slice ea en ec, .slice fa fn fc, .int .i64 enu, .int .i64 ede] 26)) none := gb_alloc (gb_refl _ _) _
      have hb_ := heap_alloc_new w100 (.cells #[.int .i64 est, .slice ea en ec, .slice fa fn fc, .int .i64 enu, .int .i64 ede] 26)
      have M101 := Lib.hid (M100.out.later ha_); have S101 := Lib.hid (S100.out.later (row := none) ha_ (by simp)); have Q101 := Lib.hid (Q100.out.draw (gb_none ha_)); have P101 := Lib.hid (P100.out.draw (gb_none ha_)); have Gnx_101 := Lib.hid (gb_trans Gnx_100.out (gb_none ha_)); have TE101 := Lib.hid (TE100.out.draw (gb_none ha_))
      have M101 := Lib.hid (M101.out.more hb_ (by omega))
      clear hp_ ha_ hb_ M100 S100 Q100 P100 Gnx_100 TE100
      go_wp2_with fail
      generalize w100.alloc (.cells #[.int .i64 est, .slice ea en ec, .slice fa fn fc, .int .i64 enu, .int .i64 ede] 26) = w101 at *
      generalize w100.heap.size = xb at *
      clear r0_ r1_ r2_ r3_ r4_
      obtain ⟨x0_, x1_, x2_, x3_, x4_⟩ := cells5 (M101.out.at 0 rfl)
      have ux_ := M101.out.made 0 rfl
      refine Rg.region (Made w101) Makes (fun k => if k = 1 then some (isV (.bool ok)) else if k = 3 then some (isV (.bool ok)) else none) (fun _ => false) 0 5 (by kernel_rfl) (by kernel_rfl) (by kernel_rfl) (by kernel_rfl) (by kernel_rfl) (by kernel_rfl) (by kernel_rfl) Makes.size (Made.start w101) (fun hne => ?_)
      (repeat (refine rLexL_quiet (by rfl) (by rfl) (by rfl) (by rfl) ?_; go_big_quiet_step (fail); refine wpQuiet_nil ?_))
      refine rg_fix (.bool ok) 13 #[.agg #[.int .i64 est, .slice ea en ec, .slice fa fn fc, .int .i64 enu, .int .i64 ede]] rfl rfl rfl (fun _ => by go_simp) (fun u hu => VA.out u (TE101.out.draw (gb_none hu))) ?_
      simp only [Act.put, List.setIfInBounds_toArray, List.set_cons_zero, List.set_cons_succ]
      (repeat (refine rLexL_quiet (by rfl) (by rfl) (by rfl) (by rfl) ?_; go_big_quiet_step (fail); refine wpQuiet_nil ?_))
      refine rg_fix (.bool ok) 14 #[.agg #[.int .i64 est, .slice ea en ec, .slice fa fn fc, .int .i64 enu, .int .i64 ede]] rfl rfl rfl (fun _ => by go_simp) (fun u hu => VB.out u (TE101.out.draw (gb_none hu))) ?_
      simp only [Act.put, List.setIfInBounds_toArray, List.set_cons_zero, List.set_cons_succ]
      (repeat (refine rLexL_quiet (by rfl) (by rfl) (by rfl) (by rfl) ?_; go_big_quiet_step (fail); refine wpQuiet_nil ?_))
      rintro wq hq_ - -
      refine wpList_nil ?_
      generalize wq = w102 at *
      clear hne x0_ x1_ x2_ x3_ x4_ ux_ VA VB
      have M102 := Lib.hid (M101.out.later hq_); have S102 := Lib.hid (S101.out.later (row := none) hq_ (by simp)); have Q102 := Lib.hid (Q101.out.draw (gb_none hq_)); have P102 := Lib.hid (P101.out.draw (gb_none hq_)); have Gnx_102 := Lib.hid (gb_trans Gnx_101.out (gb_none hq_)); have TE102 := Lib.hid (TE101.out.draw (gb_none hq_))
      clear hq_ M101 S101 Q101 P101 Gnx_101 TE101
      have rr0_ := cells1s (M102.out.at 4 rfl)
      have p0_ := cells1s (M102.out.at 2 rfl)
      have hp_ := S102.out.lt.2
      have ha_ : w102.grownBy (w102.alloc (.cells #[.slice ka kn kc, .slice pa pn pc, .slice none 0 0] 29)) none := gb_alloc (gb_refl _ _) _
      have HBny : Hid ((w102.alloc (.cells #[.slice ka kn kc, .slice pa pn pc, .slice none 0 0] 29)).heap[w102.heap.size]? = some (.cells (([.slice ka kn kc, .slice pa pn pc, .slice none 0 0] : List Value)).toArray 29 (0, 0))) := Lib.hid (heap_alloc_new _ _)
      have hnny : w102.heap.size ≠ q := by omega
      have M103 := Lib.hid (M102.out.later ha_); have S103 := Lib.hid (S102.out.later (row := none) ha_ (by simp)); have Q103 := Lib.hid (Q102.out.draw (gb_none ha_)); have P103 := Lib.hid (P102.out.draw (gb_none ha_)); have Gnx_103 := Lib.hid (gb_trans Gnx_102.out (gb_none ha_)); have TE103 := Lib.hid (TE102.out.draw (gb_none ha_))
      clear ha_ M102 S102 Q102 P102 Gnx_102 TE102
      go_wp2_with fail
      clear rr0_ p0_
      generalize w102.alloc (.cells #[.slice ka kn kc, .slice pa pn pc, .slice none 0 0] 29) = w103 at *
      generalize w102.heap.size = ny at *
      obtain ⟨Lny, hL, hLny⟩ : ∃ Lny : List Value, Lny = [.slice ka kn kc, .slice pa pn pc, .slice none 0 0] ∧ Lny.length = 3 := ⟨_, rfl, rfl⟩
      have HXny : Hid (∀ c ∈ ([.slice ka kn kc, .slice pa pn pc, .slice none 0 0] : List Value), RsIn q w103 c) := Lib.hid (by
          intro c hc
          simp only [List.mem_cons, List.not_mem_nil, or_false] at hc
          rcases hc with rfl | rfl | rfl
          · exact ⟨_, Q103.out⟩
          · exact ⟨_, P103.out⟩
          · exact ⟨[], ⟨⟨rfl, .inl ⟨rfl, _, _, rfl⟩⟩, by simp⟩, fun b off len cap e hl => (by simp at e), by simp⟩)
      rw [← hL] at HBny HXny
      clear hL hp_
      go_loopw [84] (fun i wr => ∃ k : Nat, k ≤ 3 ∧ i = .int .i64 k ∧ Src q wr q ∧ w103.grownBy wr (some q)) (fun i _ => 3 - (intOf i).toNat)
      case atStart => exact ⟨0, by omega, rfl, S103.out, gb_refl _ _⟩
      case round =>
        obtain ⟨kny, hkny, rfl, hS, hgr⟩ := hrel
        by_cases hltny : kny < 3
        · have hkLny : kny < Lny.length := by omega
          have hkdny : decide ((kny : Int) < 3) = true := decide_eq_true (by omega)
          have r0_ := rowR (block_keptp hgr HBny.out hnny) kny hkLny
          generalize wr = w200 at *
          have Gny_103 := Lib.hid (gb_refl w103 (some q))
          have M200 := Lib.hid (M103.out.draw hgr hq2); have S200 := Lib.hid (hS); have Q200 := Lib.hid (Q103.out.draw hgr); have P200 := Lib.hid (P103.out.draw hgr); have Gnx_200 := Lib.hid (gb_trans Gnx_103.out hgr); have TE200 := Lib.hid (TE103.out.draw hgr); have Gny_200 := Lib.hid (gb_trans Gny_103.out hgr)
          clear hgr hS
          have hin := (HXny.out _ (List.getElem_mem hkLny)).draw Gny_200.out
          generalize Lny[kny] = yv at *
          obtain ⟨YL, hin⟩ := hin
          obtain ⟨ya, yc, rfl⟩ := hin.1.1.slice
          generalize hyn : YL.length = yn at *
          clear hyn
          have Y200 := Lib.hid hin; clear hin
          clear Q200 P200
          have SA := Lib.hid (SA.out YL (.slice ya yn yc)); have SB := Lib.hid (SB.out YL (.slice ya yn yc))
          generalize fL (YL.map Stv.s) = iL at *
          generalize fH (YL.map Stv.s) = iH at *
          generalize fE (YL.map Stv.s) = iE at *
          have hp_ := S200.out.lt.2
          have ha_ : w200.grownBy (w200.alloc (.cells #[.slice ya yn yc] 29)) none := gb_alloc (gb_refl _ _) _
          have hb_ := heap_alloc_new w200 (.cells #[.slice ya yn yc] 29)
          have M201 := Lib.hid (M200.out.later ha_); have S201 := Lib.hid (S200.out.later (row := none) ha_ (by simp)); have Gnx_201 := Lib.hid (gb_trans Gnx_200.out (gb_none ha_)); have TE201 := Lib.hid (TE200.out.draw (gb_none ha_)); have Gny_201 := Lib.hid (gb_trans Gny_200.out (gb_none ha_)); have Y201 := Lib.hid (Y200.out.draw (gb_none ha_))
          have M201 := Lib.hid (M201.out.more hb_ (by omega))
          clear hp_ ha_ hb_ M200 S200 Gnx_200 TE200 Gny_200 Y200
          go_wp2_with fail
          generalize w200.alloc (.cells #[.slice ya yn yc] 29) = w201 at *
          generalize w200.heap.size = yb at *
          clear r0_
          (with_reducible refine (n_any q w201 q 100000 S201.out (by omega) (by omega)).mono ?_)
          rintro r w202 ⟨n1, rfl, hn1, hS, hg⟩
          have M202 := Lib.hid (M201.out.draw hg hq2); have S202 := Lib.hid (hS); have Gnx_202 := Lib.hid (gb_trans Gnx_201.out hg); have TE202 := Lib.hid (TE201.out.draw hg); have Gny_202 := Lib.hid (gb_trans Gny_201.out hg); have Y202 := Lib.hid (Y201.out.draw hg)
          clear hg hS M201 S201 Gnx_201 TE201 Gny_201 Y201
          have hw1_ : IntKind.i64.wrap (1 + n1) = 1 + n1 := by rw [IntKind.wrap_i64]; omega
          have PK := Lib.hid (pick32 q w202 q [0, 1, 1073741823, 1073741824] 4 rfl #[.int .i64 0, .int .i64 1, .int .i64 1073741823, .int .i64 1073741824] rfl 3 S202.out _ rfl (by simp) (by simp))
          go_wp2_with fail
          (with_reducible refine (PK.out).mono ?_)
          rintro r w203 ⟨p1, rfl, -, hS, hg⟩
          clear PK
          have M203 := Lib.hid (M202.out.draw hg hq2); have S203 := Lib.hid (hS); have Gnx_203 := Lib.hid (gb_trans Gnx_202.out hg); have TE203 := Lib.hid (TE202.out.draw hg); have Gny_203 := Lib.hid (gb_trans Gny_202.out hg); have Y203 := Lib.hid (Y202.out.draw hg)
          clear hg hS M202 S202 Gnx_202 TE202 Gny_202 Y202
          have hp_ := S203.out.lt.2
          have ha_ : w203.grownBy (w203.alloc (.cells #[.int .i64 am, .int .i64 (1 + n1), .int .i64 p1] 3)) none := gb_alloc (gb_refl _ _) _
          have HBna : Hid ((w203.alloc (.cells #[.int .i64 am, .int .i64 (1 + n1), .int .i64 p1] 3)).heap[w203.heap.size]? = some (.cells (([am, 1 + n1, p1] : List Int).map (Value.int .i64)).toArray 3 (0, 0))) := Lib.hid (heap_alloc_new _ _)
          have hnna : w203.heap.size ≠ q := by omega
          have M204 := Lib.hid (M203.out.later ha_); have S204 := Lib.hid (S203.out.later (row := none) ha_ (by simp)); have Gnx_204 := Lib.hid (gb_trans Gnx_203.out (gb_none ha_)); have TE204 := Lib.hid (TE203.out.draw (gb_none ha_)); have Gny_204 := Lib.hid (gb_trans Gny_203.out (gb_none ha_)); have Y204 := Lib.hid (Y203.out.draw (gb_none ha_))
          clear ha_ M203 S203 Gnx_203 TE203 Gny_203 Y203
          go_wp2_with fail
          generalize w203.alloc (.cells #[.int .i64 am, .int .i64 (1 + n1), .int .i64 p1] 3) = w204 at *
          generalize w203.heap.size = na at *
          obtain ⟨Lna, hL, hLna⟩ : ∃ Lna : List Int, Lna = [am, 1 + n1, p1] ∧ Lna.length = 3 := ⟨_, rfl, rfl⟩
          rw [← hL] at HBna
          clear hL hp_
          go_loopw [97] (fun i wr => ∃ k : Nat, k ≤ 3 ∧ i = .int .i64 k ∧ Src q wr q ∧ w204.grownBy wr (some q)) (fun i _ => 3 - (intOf i).toNat)
          case atStart => exact ⟨0, by omega, rfl, S204.out, gb_refl _ _⟩
          case round =>
            obtain ⟨kna, hkna, rfl, hS, hgr⟩ := hrel
            by_cases hltna : kna < 3
            · have hkLna : kna < Lna.length := by omega
              have hkdna : decide ((kna : Int) < 3) = true := decide_eq_true (by omega)
              have r0_ := row1 (block_keptp hgr HBna.out hnna) kna hkLna
              generalize wr = w300 at *
              have Gna_204 := Lib.hid (gb_refl w204 (some q))
              have M300 := Lib.hid (M204.out.draw hgr hq2); have S300 := Lib.hid (hS); have Gnx_300 := Lib.hid (gb_trans Gnx_204.out hgr); have TE300 := Lib.hid (TE204.out.draw hgr); have Gny_300 := Lib.hid (gb_trans Gny_204.out hgr); have Y300 := Lib.hid (Y204.out.draw hgr); have Gna_300 := Lib.hid (gb_trans Gna_204.out hgr)
              clear hgr hS
              generalize Lna[kna]?.getD 0 = o at *
              have SA := Lib.hid (SA.out o); have SB := Lib.hid (SB.out o)
              generalize iL o = jL at *
              generalize iH o = jH at *
              generalize iE o = jE at *
              go_wp2_with fail
              (with_reducible refine (n_any q w300 q 9000 S300.out (by omega) (by omega)).mono ?_)
              rintro r w301 ⟨n2, rfl, hn2, hS, hg⟩
              have M301 := Lib.hid (M300.out.draw hg hq2); have S301 := Lib.hid (hS); have Gnx_301 := Lib.hid (gb_trans Gnx_300.out hg); have TE301 := Lib.hid (TE300.out.draw hg); have Gny_301 := Lib.hid (gb_trans Gny_300.out hg); have Y301 := Lib.hid (Y300.out.draw hg); have Gna_301 := Lib.hid (gb_trans Gna_300.out hg)
              clear hg hS M300 S300 Gnx_300 TE300 Gny_300 Y300 Gna_300
              go_wp2_with fail
              (with_reducible refine (n_any q w301 q 160000 S301.out (by omega) (by omega)).mono ?_)
              rintro r w302 ⟨n3, rfl, hn3, hS, hg⟩
              have M302 := Lib.hid (M301.out.draw hg hq2); have S302 := Lib.hid (hS); have Gnx_302 := Lib.hid (gb_trans Gnx_301.out hg); have TE302 := Lib.hid (TE301.out.draw hg); have Gny_302 := Lib.hid (gb_trans Gny_301.out hg); have Y302 := Lib.hid (Y301.out.draw hg); have Gna_302 := Lib.hid (gb_trans Gna_301.out hg)
              clear hg hS M301 S301 Gnx_301 TE301 Gny_301 Y301 Gna_301
              have hp_ := S302.out.lt.2
              have ha_ : w302.grownBy (w302.alloc (.cells #[.int .i64 nr, .int .i64 fr, .int .i64 n2, .int .i64 n3] 43)) none := gb_alloc (gb_refl _ _) _
              have HBnz : Hid ((w302.alloc (.cells #[.int .i64 nr, .int .i64 fr, .int .i64 n2, .int .i64 n3] 43)).heap[w302.heap.size]? = some (.cells (flatZ [⟨nr, fr⟩, ⟨n2, n3⟩]).toArray 43 (0, 0))) := Lib.hid (heap_alloc_new _ _)
              have hnnz : w302.heap.size ≠ q := by omega
              have M303 := Lib.hid (M302.out.later ha_); have S303 := Lib.hid (S302.out.later (row := none) ha_ (by simp)); have Gnx_303 := Lib.hid (gb_trans Gnx_302.out (gb_none ha_)); have TE303 := Lib.hid (TE302.out.draw (gb_none ha_)); have Gny_303 := Lib.hid (gb_trans Gny_302.out (gb_none ha_)); have Y303 := Lib.hid (Y302.out.draw (gb_none ha_)); have Gna_303 := Lib.hid (gb_trans Gna_302.out (gb_none ha_))
              clear ha_ M302 S302 Gnx_302 TE302 Gny_302 Y302 Gna_302
              go_wp2_with fail
              generalize w302.alloc (.cells #[.int .i64 nr, .int .i64 fr, .int .i64 n2, .int .i64 n3] 43) = w303 at *
              generalize w302.heap.size = nz at *
              obtain ⟨Lnz, hL, hLnz⟩ : ∃ Lnz : List Zn, Lnz = [⟨nr, fr⟩, ⟨n2, n3⟩] ∧ Lnz.length = 2 := ⟨_, rfl, rfl⟩
              have HXnz : Hid (∀ z ∈ ([⟨nr, fr⟩, ⟨n2, n3⟩] : List Zn), z.t ≤ 9223372036854775807) := Lib.hid (by
                  intro z hz
                  have := HFR.out
                  simp only [List.mem_cons, List.not_mem_nil, or_false] at hz
                  rcases hz with rfl | rfl <;> simp only [] <;> omega)
              rw [← hL] at HBnz HXnz
              clear hL hp_
              go_loopw [111] (fun i wr => ∃ k : Nat, k ≤ 2 ∧ i = .int .i64 k ∧ Src q wr q ∧ w303.grownBy wr (some q)) (fun i _ => 2 - (intOf i).toNat)
              case atStart => exact ⟨0, by omega, rfl, S303.out, gb_refl _ _⟩
              case round =>
                obtain ⟨knz, hknz, rfl, hS, hgr⟩ := hrel
                by_cases hltnz : knz < 2
                · have hkLnz : knz < Lnz.length := by omega
                  have hkdnz : decide ((knz : Int) < 2) = true := decide_eq_true (by omega)
                  obtain ⟨z0_, z1_⟩ := rowZ (block_keptp hgr HBnz.out hnnz) knz hkLnz
                  generalize wr = w400 at *
                  have Gnz_303 := Lib.hid (gb_refl w303 (some q))
                  have M400 := Lib.hid (M303.out.draw hgr hq2); have S400 := Lib.hid (hS); have Gnx_400 := Lib.hid (gb_trans Gnx_303.out hgr); have TE400 := Lib.hid (TE303.out.draw hgr); have Gny_400 := Lib.hid (gb_trans Gny_303.out hgr); have Y400 := Lib.hid (Y303.out.draw hgr); have Gna_400 := Lib.hid (gb_trans Gna_303.out hgr); have Gnz_400 := Lib.hid (gb_trans Gnz_303.out hgr)
                  clear hgr hS
                  have hy := HXnz.out _ (List.getElem_mem hkLnz)
                  generalize Lnz[knz] = tb at *
                  obtain ⟨x, y⟩ := tb
                  simp only [] at z0_ z1_ hy
                  have SA := Lib.hid (SA.out x y hy); have SB := Lib.hid (SB.out x y hy)
                  generalize jL x y = m0 at *
                  generalize jH x y = m1 at *
                  generalize jE x y = mE at *
                  clear hy
                  have hp_ := S400.out.lt.2
                  have ha_ : w400.grownBy (w400.alloc (.cells #[.int .i64 x, .int .i64 y] 43)) none := gb_alloc (gb_refl _ _) _
                  have hb_ := heap_alloc_new w400 (.cells #[.int .i64 x, .int .i64 y] 43)
                  have M401 := Lib.hid (M400.out.later ha_); have S401 := Lib.hid (S400.out.later (row := none) ha_ (by simp)); have Gnx_401 := Lib.hid (gb_trans Gnx_400.out (gb_none ha_)); have TE401 := Lib.hid (TE400.out.draw (gb_none ha_)); have Gny_401 := Lib.hid (gb_trans Gny_400.out (gb_none ha_)); have Y401 := Lib.hid (Y400.out.draw (gb_none ha_)); have Gna_401 := Lib.hid (gb_trans Gna_400.out (gb_none ha_)); have Gnz_401 := Lib.hid (gb_trans Gnz_400.out (gb_none ha_))
                  have M401 := Lib.hid (M401.out.more hb_ (by omega))
                  clear hp_ ha_ hb_ M400 S400 Gnx_400 TE400 Gny_400 Y400 Gna_400 Gnz_400
                  obtain ⟨x0_, x1_, x2_, x3_, x4_⟩ := cells5 (M401.out.at 2 rfl)
                  have y0_ := cells1s (M401.out.at 1 rfl)
                  obtain ⟨rg0_, rg1_⟩ := cells2' (M401.out.at 0 rfl)
                  go_wp2_with fail
                  generalize w400.alloc (.cells #[.int .i64 x, .int .i64 y] 43) = w401 at *
                  generalize w400.heap.size = rgb at *
                  clear z0_ z1_
                  (with_reducible refine (SA.out w401 TE401.out Y401.out).mono ?_)
                  rintro r w402 ⟨rfl, hg⟩
                  clear x0_ x1_ x2_ x3_ x4_ y0_ rg0_ rg1_ SA
                  have M402 := Lib.hid (M401.out.later hg); have S402 := Lib.hid (S401.out.later (row := none) hg (by simp)); have Gnx_402 := Lib.hid (gb_trans Gnx_401.out (gb_none hg)); have TE402 := Lib.hid (TE401.out.draw (gb_none hg)); have Gny_402 := Lib.hid (gb_trans Gny_401.out (gb_none hg)); have Y402 := Lib.hid (Y401.out.draw (gb_none hg)); have Gna_402 := Lib.hid (gb_trans Gna_401.out (gb_none hg)); have Gnz_402 := Lib.hid (gb_trans Gnz_401.out (gb_none hg))
                  clear hg M401 S401 Gnx_401 TE401 Gny_401 Y401 Gna_401 Gnz_401
                  have hp_ := S402.out.lt.2
                  have ha_ : w402.grownBy (w402.alloc (.cells #[.int .i64 m0, .int .i64 m1] 46)) none := gb_alloc (gb_refl _ _) _
                  have hb_ := heap_alloc_new w402 (.cells #[.int .i64 m0, .int .i64 m1] 46)
                  have M403 := Lib.hid (M402.out.later ha_); have S403 := Lib.hid (S402.out.later (row := none) ha_ (by simp)); have Gnx_403 := Lib.hid (gb_trans Gnx_402.out (gb_none ha_)); have TE403 := Lib.hid (TE402.out.draw (gb_none ha_)); have Gny_403 := Lib.hid (gb_trans Gny_402.out (gb_none ha_)); have Y403 := Lib.hid (Y402.out.draw (gb_none ha_)); have Gna_403 := Lib.hid (gb_trans Gna_402.out (gb_none ha_)); have Gnz_403 := Lib.hid (gb_trans Gnz_402.out (gb_none ha_))
                  have M403 := Lib.hid (M403.out.more hb_ (by omega))
                  clear hp_ ha_ hb_ M402 S402 Gnx_402 TE402 Gny_402 Y402 Gna_402 Gnz_402
                  obtain ⟨x0_, x1_, x2_, x3_, x4_⟩ := cells5 (M403.out.at 3 rfl)
                  have y0_ := cells1s (M403.out.at 2 rfl)
                  obtain ⟨rg0_, rg1_⟩ := cells2' (M403.out.at 1 rfl)
                  go_wp2_with fail
                  generalize w402.alloc (.cells #[.int .i64 m0, .int .i64 m1] 46) = w403 at *
                  generalize w402.heap.size = mb at *
                  (with_reducible refine (SB.out w403 TE403.out Y403.out).mono ?_)
                  rintro r w404 ⟨rfl, hg⟩
                  clear x0_ x1_ x2_ x3_ x4_ y0_ rg0_ rg1_ SB
                  have M404 := Lib.hid (M403.out.later hg); have S404 := Lib.hid (S403.out.later (row := none) hg (by simp)); have Gnx_404 := Lib.hid (gb_trans Gnx_403.out (gb_none hg)); have TE404 := Lib.hid (TE403.out.draw (gb_none hg)); have Gny_404 := Lib.hid (gb_trans Gny_403.out (gb_none hg)); have Y404 := Lib.hid (Y403.out.draw (gb_none hg)); have Gna_404 := Lib.hid (gb_trans Gna_403.out (gb_none hg)); have Gnz_404 := Lib.hid (gb_trans Gnz_403.out (gb_none hg))
                  clear hg M403 S403 Gnx_403 TE403 Gny_403 Y403 Gna_403 Gnz_403
                  obtain ⟨m0_, m1_⟩ := cells2' (M404.out.at 0 rfl)
                  have HGN := Lib.hid (gb_trans Gnz_404.out (gb_none (gb_alloc (gb_refl w404 none) (.cells #[.int .i64 m0, .int .i64 m1] 46))))
                  have HSN := Lib.hid (S404.out.later (row := none) (gb_alloc (gb_refl w404 none) (.cells #[.int .i64 m0, .int .i64 m1] 46)) (by simp))
                  have hse_ : same2E m0 m1 m0 m1 = true := same2E_self _ _
                  have hml_ := M404.out.lt 0 rfl
                  go_wp2_with fail
                  go_roundw
                  case rel => exact ⟨knz + 1, by omega, by go_num, HSN.out, HGN.out⟩
                  case measure => simp [intOf]; omega
                · have hkdnz : decide ((knz : Int) < 2) = false := decide_eq_false (by omega)
                  generalize wr = w500 at *
                  have M500 := Lib.hid (M303.out.draw hgr hq2); have S500 := Lib.hid (hS); have Gnx_500 := Lib.hid (gb_trans Gnx_303.out hgr); have TE500 := Lib.hid (TE303.out.draw hgr); have Gny_500 := Lib.hid (gb_trans Gny_303.out hgr); have Y500 := Lib.hid (Y303.out.draw hgr); have Gna_500 := Lib.hid (gb_trans Gna_303.out hgr)
                  clear hgr hS M303 S303 Gnx_303 TE303 Gny_303 Y303 Gna_303 HBnz SA SB
                  have HGN := Gna_500; have HSN := S500
                  go_wp2_with fail
                  go_roundw
                  case rel => exact ⟨kna + 1, by omega, by go_num, HSN.out, HGN.out⟩
                  case measure => simp [intOf]; omega
            · have hkdna : decide ((kna : Int) < 3) = false := decide_eq_false (by omega)
              generalize wr = w600 at *
              have M600 := Lib.hid (M204.out.draw hgr hq2); have S600 := Lib.hid (hS); have Gnx_600 := Lib.hid (gb_trans Gnx_204.out hgr); have TE600 := Lib.hid (TE204.out.draw hgr); have Gny_600 := Lib.hid (gb_trans Gny_204.out hgr); have Y600 := Lib.hid (Y204.out.draw hgr)
              clear hgr hS M204 S204 Gnx_204 TE204 Gny_204 Y204 HBna SA SB
              have HGN := Gny_600; have HSN := S600
              go_wp2_with fail
              go_roundw
              case rel => exact ⟨kny + 1, by omega, by go_num, HSN.out, HGN.out⟩
              case measure => simp [intOf]; omega
        · have hkdny : decide ((kny : Int) < 3) = false := decide_eq_false (by omega)
          generalize wr = w700 at *
          have M700 := Lib.hid (M103.out.draw hgr hq2); have S700 := Lib.hid (hS); have Q700 := Lib.hid (Q103.out.draw hgr); have P700 := Lib.hid (P103.out.draw hgr); have Gnx_700 := Lib.hid (gb_trans Gnx_103.out hgr); have TE700 := Lib.hid (TE103.out.draw hgr)
          clear hgr hS M103 S103 Q103 P103 Gnx_103 TE103 HBny SA SB
          have HGN := Gnx_700; have HSN := S700
          go_wp2_with fail
          go_roundw
          case rel => exact ⟨knx + 1, by omega, by go_num, HSN.out, HGN.out⟩
          case measure => simp [intOf]; omega
    · have hkdnx : decide ((knx : Int) < 3) = false := decide_eq_false (by omega)
      generalize wr = w800 at *
      have M800 := Lib.hid (M21.out.draw hgr hq2); have S800 := Lib.hid (hS); have R800 := Lib.hid (R21.out.draw hgr); have Q800 := Lib.hid (Q21.out.draw hgr); have G800 := Lib.hid (G21.out.draw hgr); have P800 := Lib.hid (P21.out.draw hgr); have C800 := Lib.hid (C21.out.draw hgr)
      clear hgr hS M21 S21 R21 Q21 G21 P21 C21 HBnx
      have HGM := Lib.hid (gb_trans GW.out M800.out.gr)
      go_wp2_with fail
      (with_reducible refine (awake32_any _).mono ?_)
      rintro r w8 ⟨rfl, hg⟩
      have HGE := Lib.hid (gb_trans HGM.out hg)
      go_wp2_with fail
      go_ret
      exact ⟨rfl, gb_end HGE.out⟩
end Go.Proofs.YtmgfdfbhfhmekaaGreat
