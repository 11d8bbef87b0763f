/- The walk of LocateFinds. Written by gen_law28f.py. -/
import Derived.Test.YtcealhikmbchoaaAwake28
import Derived.Test.YtcealhikmbchoaaQrA
import Derived.Test.YtcealhikmbchoaaFnd
import Derived.Test.YtcealhikmbchoaaZer
namespace Go.Proofs.Ytcealhikmbchoaa
set_option linter.all false
open Go.RowKit Rg

/-- Where the law's own blocks lie, and what they hold. -/
structure FiAt (w : World) (q Q X : Nat) (x0 y0 z0 x1 y1 z1 step : Int) (ls hs : List Int) (vl vh : Value) (cap px py pz : Int) (l : List Ph) (vp : Value) (u : World) : Prop where
  prob : u.heap[Q]? = some (.cells #[.int .i64 x0, .int .i64 y0, .int .i64 z0, .int .i64 x1, .int .i64 y1, .int .i64 z1, .int .i64 step, vl, vh, vp, .int .i64 cap] 36 (0, 0))
  pos : u.heap[X]? = some (.cells #[.int .i64 px, .int .i64 py, .int .i64 pz] 24 (0, 0))
  own : u.ownsRow (X + 1) 59 6 vp l.length (flatP l)
  low : Sl u vl ls
  high : Sl u vh hs
  lowAt : ∀ b off len cap, vl = .slice (some ⟨b, off, none⟩) len cap → 0 < len → q < b ∧ b < Q
  highAt : ∀ b off len cap, vh = .slice (some ⟨b, off, none⟩) len cap → 0 < len → q < b ∧ b < Q
  order : w.heap.size ≤ q ∧ q < Q ∧ Q < X
  src : Src q u q
  grown : w.grownBy u none
section
variable {w : World} {q Q X : Nat} {x0 y0 z0 x1 y1 z1 step : Int} {ls hs : List Int} {vl vh : Value} {cap px py pz : Int} {l : List Ph} {vp : Value} {u u' : World}
/-- One block a that is none of its own is written. -/
theorem FiAt.other {a : Nat} (h : FiAt w q Q X x0 y0 z0 x1 y1 z1 step ls hs vl vh cap px py pz l vp u) (hg : u.grownBy u' (some a)) (ha : X < a) (hv : vp.ownBlock ≠ some a) : FiAt w q Q X x0 y0 z0 x1 y1 z1 step ls hs vl vh cap px py pz l vp u' := by
  obtain ⟨o1, o2, o3⟩ := h.order
  exact ⟨block_keptp hg h.prob (by omega), block_keptp hg h.pos (by omega), h.own.kept hg (.inr hv), h.low.later hg (fun b off len cap e h0 => by have := (h.lowAt b off len cap e h0).2; simp; omega), h.high.later hg (fun b off len cap e h0 => by have := (h.highAt b off len cap e h0).2; simp; omega), h.lowAt, h.highAt, h.order, h.src.later hg (fun k hk => by simp at hk; omega), gb_new h.grown hg (fun k hk => by simp at hk; omega)⟩
theorem FiAt.later (h : FiAt w q Q X x0 y0 z0 x1 y1 z1 step ls hs vl vh cap px py pz l vp u) (hg : u.grownBy u' none) : FiAt w q Q X x0 y0 z0 x1 y1 z1 step ls hs vl vh cap px py pz l vp u' :=
  ⟨block_kept hg h.prob rfl, block_kept hg h.pos rfl, owns_keep h.own hg, h.low.after hg, h.high.after hg, h.lowAt, h.highAt, h.order, h.src.later hg (by simp), gb_trans h.grown hg⟩
theorem FiAt.draw (h : FiAt w q Q X x0 y0 z0 x1 y1 z1 step ls hs vl vh cap px py pz l vp u) (hg : u.grownBy u' (some q)) (hs' : Src q u' q) : FiAt w q Q X x0 y0 z0 x1 y1 z1 step ls hs vl vh cap px py pz l vp u' := by
  obtain ⟨o1, o2, o3⟩ := h.order
  exact ⟨block_keptp hg h.prob (by omega), block_keptp hg h.pos (by omega), owns_keepp h.own hg (by omega), h.low.later hg (fun b off len cap e h0 => by have := (h.lowAt b off len cap e h0).1; simp; omega), h.high.later hg (fun b off len cap e h0 => by have := (h.highAt b off len cap e h0).1; simp; omega), h.lowAt, h.highAt, h.order, hs', gb_new h.grown hg (fun k hk => by simp at hk; omega)⟩
theorem FiAt.prob9 (h : FiAt w q Q X x0 y0 z0 x1 y1 z1 step ls hs vl vh cap px py pz l vp u) (hg : u.grownBy u' vp.ownBlock) : u'.heap[Q]? = some (.cells #[.int .i64 x0, .int .i64 y0, .int .i64 z0, .int .i64 x1, .int .i64 y1, .int .i64 z1, .int .i64 step, vl, vh, vp, .int .i64 cap] 36 (0, 0)) := by
  rw [hg.block Q (Array.getElem?_eq_some_iff.1 h.prob).1 (fun e => by have := (h.own.lt Q e.symm).1; have := h.order; omega)]; exact h.prob
theorem FiAt.fro {o : Nat} (h : FiAt w q Q X x0 y0 z0 x1 y1 z1 step ls hs vl vh cap px py pz l vp u) (hg : u.grownBy u' vp.ownBlock) : u'.frozen? ⟨Q, o, none⟩ = false := by simp [World.frozen?, h.prob9 hg]
theorem FiAt.nine (h : FiAt w q Q X x0 y0 z0 x1 y1 z1 step ls hs vl vh cap px py pz l vp u) (hg : u.grownBy u' vp.ownBlock) : u'.cell? ⟨Q, 9, none⟩ = some vp := by simp [World.cell?, h.prob9 hg]
/-- The row of phases has grown, and its new value is stored. -/
theorem FiAt.push {a : Ph} {vp' : Value} (h : FiAt w q Q X x0 y0 z0 x1 y1 z1 step ls hs vl vh cap px py pz l vp u) (hg : u.grownBy u' vp.ownBlock) (ho : u'.ownsRow (X + 1) 59 6 vp' (l.length + 1) (flatP l ++ a.cells)) :
    FiAt w q Q X x0 y0 z0 x1 y1 z1 step ls hs vl vh cap px py pz (l ++ [a]) vp' (u'.setCell ⟨Q, 9, none⟩ vp') := by
  obtain ⟨o1, o2, o3⟩ := h.order
  have hne : ∀ b, vp.ownBlock = some b → X + 1 ≤ b := fun b hb => (h.own.lt b hb).1
  have far : ∀ {b : Nat} {o : Obj}, u.heap[b]? = some o → b ≤ X → u'.heap[b]? = some o := fun {b} {o} hb hX => by
    rw [hg.block b (Array.getElem?_eq_some_iff.1 hb).1 (fun e => by have := hne b e.symm; omega)]; exact hb
  have sgr : u'.grownBy (u'.setCell ⟨Q, 9, none⟩ vp') (some Q) := gb_setCell (gb_refl _ _) (.inr rfl) _
  refine ⟨set_block (far h.prob (by omega)) 9 vp', (setCell_far (by show X ≠ Q; omega)).trans (far h.pos (by omega)), ?_, ?_, ?_, h.lowAt, h.highAt, h.order, ?_, ?_⟩
  · rw [List.length_append, show flatP (l ++ [a]) = flatP l ++ a.cells by simp [flatP]]
    exact ho.kept sgr (.inr (fun e => by have := (ho.lt Q e).1; omega))
  · exact (h.low.later hg (fun b off len cap e h0 he => by have := hne b he.symm; have := (h.lowAt b off len cap e h0).2; omega)).later sgr (fun b off len cap e h0 => by have := (h.lowAt b off len cap e h0).2; simp; omega)
  · exact (h.high.later hg (fun b off len cap e h0 he => by have := hne b he.symm; have := (h.highAt b off len cap e h0).2; omega)).later sgr (fun b off len cap e h0 => by have := (h.highAt b off len cap e h0).2; simp; omega)
  · exact (h.src.later hg (fun k hk => by have := hne k hk; have := h.src.lt; omega)).later sgr (fun k hk => by simp at hk; have := h.src.lt; omega)
  · exact gb_new (gb_new h.grown hg (fun k hk => by have := hne k hk; omega)) sgr (fun k hk => by simp at hk; omega)
/-- The problem that it holds. -/
theorem FiAt.inn (h : FiAt w q Q X x0 y0 z0 x1 y1 z1 step ls hs vl vh cap px py pz l vp u) : ProbIn ⟨x0, y0, z0, x1, y1, z1, step, ls, hs, l, cap⟩ vl vh vp u := ⟨h.low, h.high, SlC.of_owns h.own⟩
end

set_option maxRecDepth 100000 in
set_option maxHeartbeats 20000000 in
theorem locateFinds_walk (w : World) (v : Value) (xs : List Int) (hs0 : Sl w v xs) (_hx : ∀ x ∈ xs, -9223372036854775808 ≤ x ∧ x ≤ 9223372036854775807) :
    Calls Try.prog 6 #[v] w fun e w' => e = .returned (.bool true) ∧ Below w.heap.size w w' := by
  go_enter Try.func6, Try.ntmps6
  go_wp2_with fail
  (with_reducible refine (new_any w v xs hs0).mono ?_)
  rintro e w2 ⟨rfl, hS, hg⟩
  have S2 := Lib.hid hS; have G2 := Lib.hid hg
  clear hS hg hs0
  generalize hqw : w.heap.size = q at S2 ⊢
  have hq : w.heap.size ≤ q := by omega
  go_wp2_with fail
  (with_reducible refine (problem_any q w2 q 5 1 S2.out (by omega) (by omega) (by omega) (by omega)).mono ?_)
  rintro e w3 ⟨P, vl, vh, vp, rfl, hB, hT, hre, -, hcap, hlen, hph, hin, hap, hS, hg⟩
  have hq2 := S2.out.lt.2
  have HAP : Hid ((∀ b off len cap, vl = .slice (some ⟨b, off, none⟩) len cap → 0 < len → q < b ∧ b < w3.heap.size) ∧ (∀ b off len cap, vh = .slice (some ⟨b, off, none⟩) len cap → 0 < len → q < b ∧ b < w3.heap.size)) := Lib.hid ⟨fun b off len cap e h0 => ⟨by have := hap _ (.inl rfl) b off len cap e; omega, hin.l.older b off len cap e h0⟩, fun b off len cap e h0 => ⟨by have := hap _ (.inr (.inl rfl)) b off len cap e; omega, hin.h.older b off len cap e h0⟩⟩
  have S3 := Lib.hid hS; have G3 := Lib.hid (gb_new G2.out hg (fun k hk => by simp at hk; omega))
  obtain ⟨x0, y0, z0, x1, y1, z1, step, ls, hs, ph0, cap⟩ := P
  dsimp only at hB hT hre hcap hin
  obtain ⟨gl, goff, lc, rfl, -⟩ := hin.l.block (by have := hT.2.2.2.1; show 0 < ls.length; omega)
  obtain ⟨ha, hn, hc, rfl⟩ := sl_slice hin.h
  obtain ⟨pa, pc, rfl⟩ := hin.p.slice
  have HB := Lib.hid hB; have HT := Lib.hid hT; have HRE := Lib.hid hre.1; have HCAP := Lib.hid hcap
  have L3 := Lib.hid hin.l; have H3 := Lib.hid hin.h
  clear hS hg S2 G2 hT hre hcap hlen hph hap hin
  rw [show Prob.val ⟨x0, y0, z0, x1, y1, z1, step, ls, hs, ph0, cap⟩ (.slice (some ⟨gl, goff, none⟩) ls.length lc) (.slice ha hn hc) (.slice pa ph0.length pc) = #[.int .i64 x0, .int .i64 y0, .int .i64 z0, .int .i64 x1, .int .i64 y1, .int .i64 z1, .int .i64 step, .slice (some ⟨gl, goff, none⟩) ls.length lc, .slice ha hn hc, .slice pa ph0.length pc, .int .i64 cap] from rfl]
  have hg4 : w3.grownBy (w3.alloc (.cells #[.int .i64 x0, .int .i64 y0, .int .i64 z0, .int .i64 x1, .int .i64 y1, .int .i64 z1, .int .i64 step, .slice (some ⟨gl, goff, none⟩) ls.length lc, .slice ha hn hc, .slice pa ph0.length pc, .int .i64 cap] 36)) none := gb_alloc (gb_refl _ _) _
  have S4 := Lib.hid (S3.out.later (row := none) hg4 (by simp)); have G4 := Lib.hid (gb_trans G3.out hg4); have L4 := Lib.hid (L3.out.after hg4); have H4 := Lib.hid (H3.out.after hg4)
  have Q4 := Lib.hid (heap_alloc_new w3 (.cells #[.int .i64 x0, .int .i64 y0, .int .i64 z0, .int .i64 x1, .int .i64 y1, .int .i64 z1, .int .i64 step, .slice (some ⟨gl, goff, none⟩) ls.length lc, .slice ha hn hc, .slice pa ph0.length pc, .int .i64 cap] 36))
  have hqQ : q < w3.heap.size := S3.out.lt.2
  clear hg4 S3 G3 L3 H3
  have e_ := fun (k : Nat) (v : Value) hk => cell_of Q4.out k v hk
  have e0_ := e_ 0 _ rfl; have e1_ := e_ 1 _ rfl; have e2_ := e_ 2 _ rfl; have e3_ := e_ 3 _ rfl; have e4_ := e_ 4 _ rfl; have e5_ := e_ 5 _ rfl
  clear e_
  go_wp2_with fail
  clear e0_ e1_ e2_ e3_ e4_ e5_
  generalize w3.alloc (.cells #[.int .i64 x0, .int .i64 y0, .int .i64 z0, .int .i64 x1, .int .i64 y1, .int .i64 z1, .int .i64 step, .slice (some ⟨gl, goff, none⟩) ls.length lc, .slice ha hn hc, .slice pa ph0.length pc, .int .i64 cap] 36) = w4 at *
  generalize w3.heap.size = Q at *
  have hB := HB.out
  unfold boxIn placeIn at hB
  (with_reducible refine (point_any q w4 q x0 y0 z0 x1 y1 z1 S4.out (by omega) (by omega) (by omega)).mono ?_)
  rintro e w5 ⟨px, py, pz, rfl, hpt, hS, hg⟩
  have HPT := Lib.hid hpt
  have hgq : ∀ (v : Value) (xs : List Int), Sl w4 v xs → (∀ b off len cap, v = .slice (some ⟨b, off, none⟩) len cap → 0 < len → q < b ∧ b < Q) → Sl w5 v xs := fun v xs h hb => h.later hg (fun b off len cap e h0 => by have := (hb b off len cap e h0).1; simp; omega)
  have S5 := Lib.hid hS; have G5 := Lib.hid (gb_new G4.out hg (fun k hk => by simp at hk; omega)); have Q5 := Lib.hid (block_keptp hg Q4.out (by omega)); have L5 := Lib.hid (hgq _ _ L4.out HAP.out.1); have H5 := Lib.hid (hgq _ _ H4.out HAP.out.2)
  clear hS hg hB hpt hgq S4 G4 Q4 L4 H4
  go_wp2_with fail
  (with_reducible refine (n_any q w5 q 400 S5.out (by omega) (by omega)).mono ?_)
  rintro e w6 ⟨tn, rfl, htn, hS, hg⟩
  have hgq : ∀ (v : Value) (xs : List Int), Sl w5 v xs → (∀ b off len cap, v = .slice (some ⟨b, off, none⟩) len cap → 0 < len → q < b ∧ b < Q) → Sl w6 v xs := fun v xs h hb => h.later hg (fun b off len cap e h0 => by have := (hb b off len cap e h0).1; simp; omega)
  have hg7 : w6.grownBy (w6.alloc (.cells #[.int .i64 px, .int .i64 py, .int .i64 pz] 24)) none := gb_alloc (gb_refl _ _) _
  have Q6 := Lib.hid (block_keptp hg Q5.out (by omega))
  have hQX : Q < w6.heap.size := block_lt' Q6.out
  have S7 := Lib.hid (hS.later (row := none) hg7 (by simp)); have G7 := Lib.hid (gb_trans (gb_new G5.out hg (fun k hk => by simp at hk; omega)) hg7); have Q7 := Lib.hid (block_kept hg7 Q6.out rfl); have L7 := Lib.hid ((hgq _ _ L5.out HAP.out.1).after hg7); have H7 := Lib.hid ((hgq _ _ H5.out HAP.out.2).after hg7)
  have X7 := Lib.hid (heap_alloc_new w6 (.cells #[.int .i64 px, .int .i64 py, .int .i64 pz] 24))
  clear hS hg hg7 hgq S5 G5 Q5 Q6 L5 H5
  go_upto_region 4 with fail
  generalize w6.alloc (.cells #[.int .i64 px, .int .i64 py, .int .i64 pz] 24) = w7 at *
  generalize w6.heap.size = X at *
  obtain ⟨t, ht, ht0⟩ : ∃ t : Int, t = 1000 + tn ∧ 1000 ≤ t ∧ t ≤ 1400 := ⟨_, rfl, by omega, by omega⟩
  rw [← ht]
  clear ht htn
  have hQf : w7.frozen? ⟨Q, 9, none⟩ = false := by simp [World.frozen?, Q7.out]
  have e9_ := cell_of Q7.out 9 _ rfl
  have sgr : w7.grownBy (w7.setCell ⟨Q, 9, none⟩ (.slice none 0 0)) (some Q) := gb_setCell (gb_refl _ _) (.inr rfl) _
  have Q8 := Lib.hid (set_block Q7.out 9 (.slice none 0 0)); have X8 := Lib.hid ((setCell_far (a := ⟨Q, 9, none⟩) (u := .slice none 0 0) (by show X ≠ Q; omega)).trans X7.out); have S8 := Lib.hid (S7.out.later (row := some Q) sgr (fun k hk => by simp at hk; omega)); have G8 := Lib.hid (gb_new G7.out sgr (fun k hk => by simp at hk; omega))
  have hgq : ∀ (v : Value) (xs : List Int), Sl w7 v xs → (∀ b off len cap, v = .slice (some ⟨b, off, none⟩) len cap → 0 < len → q < b ∧ b < Q) → Sl (w7.setCell ⟨Q, 9, none⟩ (.slice none 0 0)) v xs := fun v xs h hb => h.later sgr (fun b off len cap e h0 => by have := (hb b off len cap e h0).2; simp; omega)
  have L8 := Lib.hid (hgq _ _ L7.out HAP.out.1); have H8 := Lib.hid (hgq _ _ H7.out HAP.out.2)
  clear sgr hgq S7 G7 Q7 L7 H7 X7
  go_wp2_with fail
  clear hQf e9_
  generalize w7.setCell ⟨Q, 9, none⟩ (.slice none 0 0) = w8 at *
  (with_reducible refine (n_any q w8 q 6 S8.out (by omega) (by omega)).mono ?_)
  rintro e w9 ⟨kn, rfl, hkn, hS, hg⟩
  have M8 : FiAt w q Q X x0 y0 z0 x1 y1 z1 step ls hs (.slice (some ⟨gl, goff, none⟩) ls.length lc) (.slice ha hn hc) cap px py pz [] (.slice none 0 0) w8 := ⟨Q8.out, X8.out, World.ownsRow_nil _ _ _ _, L8.out, H8.out, HAP.out.1, HAP.out.2, ⟨hq, hqQ, hQX⟩, S8.out, G8.out⟩
  have M0 := Lib.hid (M8.draw hg hS)
  clear hS hg M8 Q8 X8 L8 H8 HAP S8 G8
  go_wp2_with fail
  go_loopw [7] (fun k wr => ∃ (m : Nat) (l : List Ph) (vp : Value), k = .int .i64 m ∧ (l.length : Int) + m = 1 + kn ∧ (∀ a ∈ l, goodPh a ∧ Fits step ls px py pz t a) ∧ FiAt w q Q X x0 y0 z0 x1 y1 z1 step ls hs (.slice (some ⟨gl, goff, none⟩) ls.length lc) (.slice ha hn hc) cap px py pz l vp wr) (fun k _ => (intOf k).toNat)
  case atStart => exact ⟨(1 + kn).toNat, [], .slice none 0 0, by rw [Int.toNat_of_nonneg (by omega)], by simp; omega, by simp, M0.out⟩
  case round =>
    obtain ⟨m, l, vp, rfl, hlm, hgood, hM⟩ := hrel
    have MR := Lib.hid hM; have GOOD := Lib.hid hgood
    obtain ⟨oa, oc, rfl⟩ := owns_slice hM.own
    clear hM hgood M0
    by_cases hm : 0 < m
    rotate_left
    · obtain rfl : m = 0 := by omega
      have hM := MR.out
      have HIN := Lib.hid hM.inn
      have hgd : Good ⟨x0, y0, z0, x1, y1, z1, step, ls, hs, l, cap⟩ := good_mk (side := 5) HB.out (by omega) HT.out HRE.out HCAP.out (by show 0 < l.length; omega) (by show (l.length : Int) ≤ 30; omega) (fun a ha => (GOOD.out a ha).1)
      have hpts : Bx.pts (Prob.reg ⟨x0, y0, z0, x1, y1, z1, step, ls, hs, l, cap⟩) ≤ 1500 := by
        have hB' := HB.out
        unfold boxIn placeIn at hB'
        exact pts_side (by show x1 - x0 ≤ 8; omega) (by show y1 - y0 ≤ 8; omega) (by show z1 - z0 ≤ 8; omega) hgd.sound.vb
      obtain ⟨y, hy, hym, hyw, hyt, hyr⟩ := finds_plain hgd (px := px) (py := py) (pz := pz) (t := t) HPT.out (fun a ha => (GOOD.out a ha).2) hpts
      have hLX : y.val = #[.int .i64 y.px, .int .i64 y.py, .int .i64 y.pz, .int .i64 y.t, .int .i64 y.m, .int .i64 y.l, .int .i64 y.a0, .int .i64 y.a1, .int .i64 y.a2, .int .i64 y.a3, .int .i64 y.a4, .int .i64 y.a5] := rfl
      have LOC := Lib.hid (fun (u : World) (h : ProbIn ⟨x0, y0, z0, x1, y1, z1, step, ls, hs, l, cap⟩ (.slice (some ⟨gl, goff, none⟩) ls.length lc) (.slice ha hn hc) (.slice oa l.length oc) u) => locate_any _ _ _ _ 0 u h (by show l.length ≤ 1000000000; omega))
      rw [hy] at LOC
      dsimp only at LOC
      rw [hLX, show Prob.val ⟨x0, y0, z0, x1, y1, z1, step, ls, hs, l, cap⟩ (.slice (some ⟨gl, goff, none⟩) ls.length lc) (.slice ha hn hc) (.slice oa l.length oc) = #[.int .i64 x0, .int .i64 y0, .int .i64 z0, .int .i64 x1, .int .i64 y1, .int .i64 z1, .int .i64 step, .slice (some ⟨gl, goff, none⟩) ls.length lc, .slice ha hn hc, .slice oa l.length oc, .int .i64 cap] from rfl] at LOC
      have RES := Lib.hid (fun (u : World) (h : ProbIn ⟨x0, y0, z0, x1, y1, z1, step, ls, hs, l, cap⟩ (.slice (some ⟨gl, goff, none⟩) ls.length lc) (.slice ha hn hc) (.slice oa l.length oc) u) => hgd.resC (cs := #[.int .i64 x0, .int .i64 y0, .int .i64 z0, .int .i64 x1, .int .i64 y1, .int .i64 z1, .int .i64 step, .slice (some ⟨gl, goff, none⟩) ls.length lc, .slice ha hn hc, .slice oa l.length oc, .int .i64 cap]) rfl y.px y.py y.pz u hyw h)
      rw [← hyt] at RES hyr
      have HRL : (resL (zonesL ⟨x0, y0, z0, x1, y1, z1, step, ls, hs, l, cap⟩ y.px y.py y.pz y.px y.py y.pz) y.t).length = l.length := by simp [resL, zonesL]
      have HZR := Lib.hid hyr; have HYM := Lib.hid hym
      have hl0 : 0 < l.length := by omega
      have hl9 : l.length ≤ 100 := by omega
      generalize resL (zonesL ⟨x0, y0, z0, x1, y1, z1, step, ls, hs, l, cap⟩ y.px y.py y.pz y.px y.py y.pz) y.t = rl at *
      have hcells := hM.prob
      have G9 := Lib.hid hM.grown; have P9 := Lib.hid hM.prob
      clear hy hym hyt hyw hyr hgd hpts hM MR GOOD HB HT HRE HCAP HPT hcells
      obtain ⟨e0_, e1_, e2_, e3_, e4_, e5_, e6_, e7_, e8_, e9_, e10_⟩ := cells11 P9.out
      go_wp2_with fail
      clear e0_ e1_ e2_ e3_ e4_ e5_ e6_ e7_ e8_ e9_ e10_
      (with_reducible refine (LOC.out wr HIN.out).mono ?_)
      rintro e w10 ⟨rfl, hg⟩
      have hg11 : w10.grownBy (w10.alloc (.cells #[.int .i64 y.px, .int .i64 y.py, .int .i64 y.pz, .int .i64 y.t, .int .i64 y.m, .int .i64 y.l, .int .i64 y.a0, .int .i64 y.a1, .int .i64 y.a2, .int .i64 y.a3, .int .i64 y.a4, .int .i64 y.a5] 28)) none := gb_alloc (gb_refl _ _) _
      have I11 := Lib.hid ((HIN.out.after hg).after hg11); have G11 := Lib.hid (gb_trans (gb_trans G9.out hg) hg11); have P11 := Lib.hid (block_kept hg11 (block_kept hg P9.out rfl) rfl); have Z11 := Lib.hid (heap_alloc_new w10 (.cells #[.int .i64 y.px, .int .i64 y.py, .int .i64 y.pz, .int .i64 y.t, .int .i64 y.m, .int .i64 y.l, .int .i64 y.a0, .int .i64 y.a1, .int .i64 y.a2, .int .i64 y.a3, .int .i64 y.a4, .int .i64 y.a5] 28))
      clear hg hg11 LOC HIN G9 P9
      obtain ⟨e0_, e1_, e2_, e3_, e4_, e5_, e6_, e7_, e8_, e9_, e10_⟩ := cells11 P11.out
      obtain ⟨d0_, d1_, d2_, d3_, d4_, d5_, d6_, d7_, d8_, d9_, d10_, d11_⟩ := cells12 Z11.out
      go_wp2_with fail
      clear e0_ e1_ e2_ e3_ e4_ e5_ e6_ e7_ e8_ e9_ e10_
      clear d0_ d1_ d2_ d3_ d4_ d5_ d6_ d7_ d8_ d9_ d10_ d11_
      generalize w10.alloc (.cells #[.int .i64 y.px, .int .i64 y.py, .int .i64 y.pz, .int .i64 y.t, .int .i64 y.m, .int .i64 y.l, .int .i64 y.a0, .int .i64 y.a1, .int .i64 y.a2, .int .i64 y.a3, .int .i64 y.a4, .int .i64 y.a5] 28) = w11 at *
      generalize w10.heap.size = bz at *
      (with_reducible refine (RES.out w11 I11.out).mono ?_)
      rintro e w12 ⟨rv, rfl, hsl, hg⟩
      have G12 := Lib.hid (gb_trans G11.out hg); have P12 := Lib.hid (block_kept hg P11.out rfl); have Z12 := Lib.hid (block_kept hg Z11.out rfl)
      clear hg I11 G11 P11 Z11 RES
      obtain ⟨rb, roff, rcap, hrv, hrb, hr1, hr2, hrc⟩ := hsl.block (by omega)
      rw [HRL] at hrv
      subst hrv
      have RC := Lib.hid hrc
      clear hrc hsl
      obtain ⟨e0_, e1_, e2_, e3_, e4_, e5_, e6_, e7_, e8_, e9_, e10_⟩ := cells11 P12.out
      obtain ⟨d0_, d1_, d2_, d3_, d4_, d5_, d6_, d7_, d8_, d9_, d10_, d11_⟩ := cells12 Z12.out
      have n1_ : (y.m != 0) = false := by simp [HYM.out]
      have n2_ : ((l.length : Int) != (l.length : Int)) = false := by simp
      go_wp2_with fail
      clear e0_ e1_ e2_ e3_ e4_ e5_ e6_ e7_ e8_ e9_ e10_
      clear d0_ d1_ d2_ d3_ d4_ d5_ d6_ d7_ d8_ d9_ d10_ d11_ n1_ n2_
      go_loopg [115] l.length (fun gk i wr => ∃ k : Nat, k + gk = l.length ∧ i = .int .i64 k ∧ w12 = wr)
      case atStart => exact ⟨0, by omega, rfl, rfl⟩
      case round =>
        obtain ⟨k, hk, rfl, rfl⟩ := hrel
        by_cases hlt : k < l.length
        rotate_left
        · have hkd : decide ((k : Int) < (l.length : Int)) = false := decide_eq_false (by omega)
          go_wp2_with fail
          (with_reducible refine (awake28_any w12).mono ?_)
          rintro e w17 ⟨rfl, hg⟩
          have GE := Lib.hid (gb_end (gb_trans G12.out hg))
          clear hg
          go_wp2_with fail
          go_ret
          exact ⟨rfl, GE.out⟩
        have hkd : decide ((k : Int) < (l.length : Int)) = true := decide_eq_true (by omega)
        have hgi : gk - 1 < gk ∧ k + 1 + (gk - 1) = l.length := by omega
        have c0_ := RC.out k (by omega)
        rw [show at0 rl k = 0 from HZR.out _ (by rw [show at0 rl k = rl[k]'(by omega) by simp [at0, HRL, hlt]]; exact List.getElem_mem _)] at c0_
        go_wp2_with fail
        go_roundg (gk - 1)
        case measure => exact hgi.1
        case rel => exact ⟨k + 1, hgi.2, by go_num, rfl⟩
    have hmd : decide ((m : Int) > 0) = true := decide_eq_true (by omega)
    go_wp2_with fail
    clear hmd
    (with_reducible refine (phase_any q wr q MR.out.src).mono ?_)
    rintro e w10 ⟨ax, ay, az, ae, al, an, rfl, hph, hS, hg⟩
    have hvb : (Value.slice oa l.length oc).ownBlock ≠ some w10.heap.size := fun e => by have := (MR.out.own.lt _ e).2; have := hg.size; omega
    have hXA : X < w10.heap.size := by have := block_lt' MR.out.pos; have := hg.size; omega
    have M1 := Lib.hid ((MR.out.draw hg hS).later (gb_alloc (gb_refl w10 none) (.cells #[.int .i64 ax, .int .i64 ay, .int .i64 az, .int .i64 ae, .int .i64 al, .int .i64 an] 59)))
    have A1 := Lib.hid (heap_alloc_new w10 (.cells #[.int .i64 ax, .int .i64 ay, .int .i64 az, .int .i64 ae, .int .i64 al, .int .i64 an] 59))
    clear hS hg MR
    go_upto_region 9 with fail
    generalize w10.alloc (.cells #[.int .i64 ax, .int .i64 ay, .int .i64 az, .int .i64 ae, .int .i64 al, .int .i64 an] 59) = w11 at *
    generalize w10.heap.size = A at *
    have hBx := HB.out; have hQx := HPT.out
    unfold phaseIn at hph
    have hN := near_mk HT.out HRE.out hBx hph.1 (by omega) (by omega) (by omega)
    have hvp := boxIn_ok hBx (by omega) (by omega)
    have hsq : sqP ax ay az px py pz = sqD ax ay az px py pz := by
      have h1 := hN.vp
      have h2 : vP px py pz = true := by
        unfold boxIn placeIn at hBx
        exact vP_mk (by omega)
      unfold sqP; rw [h1, h2]; rfl
    have hfar := (near_point (px := ax) (py := ay) (pz := az) ⟨hQx.1, hQx.2.1⟩ ⟨hQx.2.2.1, hQx.2.2.2.1⟩ ⟨hQx.2.2.2.2.1, hQx.2.2.2.2.2⟩ : nearD x0 y0 z0 x1 y1 z1 ax ay az ≤ sqD px py pz ax ay az ∧ sqD px py pz ax ay az ≤ farD x0 y0 z0 x1 y1 z1 ax ay az).2
    obtain ⟨n0, n1, n2⟩ := far_small hN.vb hN.vp
    have hre := hN.reach
    have hfl : floorI (sqD ax ay az px py pz) ≤ reachS step ls := by
      rw [sqD_comm]
      exact Int.le_trans (floorI_mono hfar) (Int.le_trans (ceilI_ge _) hre)
    have hsb : sqD ax ay az px py pz ≤ 9223372036854775807 := by rw [sqD_comm]; omega
    obtain ⟨t1, t2, t3, t4, t5, -⟩ := HT.out
    have hfit : Hid (∀ e' l' : Int, e' = t + at0 ls (loI step (floorI (sqD ax ay az px py pz))) → e' ≤ l' → Fits step ls px py pz t ⟨ax, ay, az, e', l', an⟩) := Lib.hid (fun e' l' h1 h2 => ⟨h1, h2⟩)
    have SQ := Lib.hid (fun (u : World) => square_any ax ay az px py pz u)
    rw [hsq] at SQ
    have FL := Lib.hid (fun (u : World) => gfloor_any (sqD ax ay az px py pz) u hsb)
    obtain ⟨dn, hdn⟩ : ∃ dn : Nat, floorI (sqD ax ay az px py pz) = (dn : Int) := ⟨_, rfl⟩
    rw [hdn] at FL hfl hfit
    unfold reachS at hfl
    obtain ⟨di1, di2⟩ := loI_spec (d := (dn : Int)) (n := ls.length) t1 (by omega) hfl t4
    have htv := tOk_at HT.out di2
    have hib : ((loI step (dn : Int) : Nat) : Int) ≤ 255 := by omega
    clear hBx hQx hN hvp hsq hfar n0 n1 n2 hre hfl hsb hdn t2 t3 t4 t5
    generalize sqD ax ay az px py pz = sd at *
    generalize loI step (dn : Int) = i at *
    generalize htve : at0 ls i = tv at *
    generalize at0 hs i = tvh at *
    obtain ⟨a0_, a1_, a2_, a3_, a4_, a5_⟩ := six A1.out
    obtain ⟨x0_, x1_, x2_⟩ := cells3 M1.out.pos
    have hXlt := block_lt' M1.out.pos
    go_wp2_with fail
    clear a0_ a1_ a2_ a3_ a4_ a5_ x0_ x1_ x2_ hXlt
    (with_reducible refine (SQ.out w11).mono ?_)
    rintro e w12 ⟨rfl, hg⟩
    have M2 := Lib.hid (M1.out.later hg); have A2 := Lib.hid (block_kept hg A1.out rfl)
    clear hg M1 A1 SQ
    go_wp2_with fail
    (with_reducible refine (FL.out w12).mono ?_)
    rintro e w13 ⟨rfl, rfl⟩
    clear FL
    have PQ := M2.out.prob
    have q6_ := cell_of PQ 6 _ rfl; have q7_ := cell_of PQ 7 _ rfl
    have hQl := block_lt' PQ
    have u1 := fun (x : Up w12) (c : Nat) => ever_cell x (b := Q) (o := c) hQl
    have g1_ : decide ((dn : Int) < 0) = false := decide_eq_false (by omega)
    have g2_ : decide ((ls.length : Int) ≤ (i : Int)) = false := decide_eq_false (by omega)
    clear PQ
    go_wp2_with fail
    (refine wp_region_grown (by kernel_rfl) (by kernel_rfl) ?_; (repeat (go_big_quiet_step (fail))); refine wpQuiet_nil ?_; intro wq hq)
    have M3 := Lib.hid (M2.out.later hq); have A3 := Lib.hid (block_kept hq A2.out rfl)
    clear hq u1 q6_ q7_ g1_ g2_ M2 A2 hQl
    generalize wq = w13 at *
    go_upto_region 12 with fail
    have PQ := M3.out.prob
    have q6_ := cell_of PQ 6 _ rfl; have q7_ := cell_of PQ 7 _ rfl
    have hQl := block_lt' PQ
    obtain ⟨gl', goff', gcap', hlv, hgl, hgc, hgm, hgcell⟩ := M3.out.low.block (by omega)
    simp only [Value.slice.injEq, Option.some.injEq, Addr.mk.injEq, true_and, and_true] at hlv
    obtain ⟨⟨rfl, rfl⟩, rfl⟩ := hlv
    have hgi := hgcell _ di2
    rw [htve] at hgi
    have d6 := Made.cell q6_ hQl; have d7 := Made.cell q7_ hQl
    have dgi := Made.cell hgi hgl
    have we : IntKind.i64.wrap (t + tv) = t + tv := by rw [IntKind.wrap_i64]; omega
    clear PQ hgcell
    refine Rg.region (Made w13) Makes (fun _ => none) (fun _ => false) 0 12 (by kernel_rfl) (by kernel_rfl) (by kernel_rfl) (by kernel_rfl) (by kernel_rfl) (by kernel_rfl) (by kernel_rfl) Makes.size (Made.start w13) (fun hne => ?_)
    (repeat (refine rLexL_quiet (by rfl) (by rfl) (by rfl) (by rfl) ?_; go_big_quiet_step (fail); refine wpQuiet_nil ?_))
    rintro w14 hg14 - -
    have hg14 : w13.grownBy w14 none := hg14
    have M4 := Lib.hid (M3.out.later hg14)
    have hA4 := block_kept hg14 A3.out rfl
    have hF4 := frozen3 hA4
    obtain ⟨b0_, b1_, b2_, b3_, b4_, b5_⟩ := six hA4
    have A5 := Lib.hid (set_block hA4 3 (.int .i64 (t + tv)))
    have M5 := Lib.hid (M4.out.other (a := A) (gb_setCell (gb_refl w14 _) (a := ⟨A, 3, none⟩) (.inr rfl) (.int .i64 (t + tv))) hXA hvb)
    clear hg14 hA4 M3 A3 M4 d6 d7 dgi q6_ q7_ hne we hgi hQl hgl
    go_wp2_with fail
    generalize w14.setCell ⟨A, 3, none⟩ (.int .i64 (t + tv)) = w15 at *
    clear hF4 b0_ b1_ b2_ b3_ b4_ b5_
    obtain ⟨E, hE, hE0, hE1⟩ : ∃ E : Int, E = t + tv ∧ 0 ≤ E ∧ E ≤ 1199511627776 := ⟨_, rfl, by omega, by omega⟩
    rw [← hE] at A5
    have HE := Lib.hid hE
    clear hE
    have hAq : A ≠ q := by have := M5.out.order; omega
    obtain ⟨s0_, s1_, s2_, s3_, s4_, s5_⟩ := six A5.out
    have d3 := Pulled.cell (B := q) (p := q) s3_ (block_lt' A5.out) hAq
    refine Rg.region (Pulled w15 q q) (Pull q) (fun k => if k = 3 then some (isInt fun x => 0 ≤ x ∧ x < 5) else none) (fun _ => false) 0 5 (by kernel_rfl) (by kernel_rfl) (by kernel_rfl) (by kernel_rfl) (by kernel_rfl) (by kernel_rfl) (by kernel_rfl) Pull.size (Pulled.start M5.out.src) (fun hne => ?_)
    (repeat (refine rLexL_quiet (by rfl) (by rfl) (by rfl) (by rfl) ?_; go_big_quiet_step (fail); refine wpQuiet_nil ?_))
    refine rg_draw (fun x => 0 ≤ x ∧ x < 5) 12 #[.pointer (some ⟨q, 0, none⟩), .int .i64 5] rfl rfl (fun _ => by go_simp) (fun u hu _ => n_any q u q _ hu.2 (by omega) (by omega)) (fun n8 hn8 => ?_)
    simp only [Act.put, List.setIfInBounds_toArray, List.set_cons_zero, List.set_cons_succ]
    have wg : IntKind.i64.wrap (E + n8) = E + n8 := by rw [IntKind.wrap_i64]; omega
    (repeat (refine rLexL_quiet (by rfl) (by rfl) (by rfl) (by rfl) ?_; go_big_quiet_step (fail); refine wpQuiet_nil ?_))
    rintro w16 ⟨hg16, hs16⟩ - -
    have M6 := Lib.hid (M5.out.draw hg16 hs16)
    have hA6 := block_keptp hg16 A5.out hAq
    have hF6 := frozen3 hA6
    obtain ⟨b0_, b1_, b2_, b3_, b4_, b5_⟩ := six hA6
    have hsz : (w16.setCell ⟨A, 4, none⟩ (.int .i64 (E + n8))).heap.size = w16.heap.size := by simp [World.setCell]
    have A7 := Lib.hid (set_block hA6 4 (.int .i64 (E + n8)))
    have M7 := Lib.hid (M6.out.other (a := A) (gb_setCell (gb_refl w16 _) (a := ⟨A, 4, none⟩) (.inr rfl) (.int .i64 (E + n8))) hXA hvb)
    clear hg16 hs16 hA6 M5 A5 M6 d3 s0_ s1_ s2_ s3_ s4_ s5_ hne wg
    have hlen6 : (flatP l).length = l.length * 6 := flatP_length l
    have hown := M7.out.own
    have AL := Lib.hid (block_lt' A7.out)
    have PUSH := Lib.hid (fun (v' : Value) (u' : World) (h : u'.ownsRow (X + 1) 59 6 v' (l.length + 1) (flatP l ++ [.int .i64 ax, .int .i64 ay, .int .i64 az, .int .i64 E, .int .i64 (E + n8), .int .i64 an])) (hg : ((w16.setCell ⟨A, 4, none⟩ (.int .i64 (E + n8))).alloc (.cells #[.int .i64 ax, .int .i64 ay, .int .i64 az, .int .i64 E, .int .i64 (E + n8), .int .i64 an] 59)).grownBy u' (Value.slice oa l.length oc).ownBlock) =>
      FiAt.push (a := ⟨ax, ay, az, E, (E + n8), an⟩) (M7.out.later (gb_alloc (gb_refl _ _) (.cells #[.int .i64 ax, .int .i64 ay, .int .i64 az, .int .i64 E, .int .i64 (E + n8), .int .i64 an] 59))) hg h)
    have PQ := M7.out.prob
    have q0_ := cell_of PQ 0 _ rfl; have q1_ := cell_of PQ 1 _ rfl; have q2_ := cell_of PQ 2 _ rfl; have q3_ := cell_of PQ 3 _ rfl; have q4_ := cell_of PQ 4 _ rfl; have q5_ := cell_of PQ 5 _ rfl; have q6_ := cell_of PQ 6 _ rfl; have q7_ := cell_of PQ 7 _ rfl; have q8_ := cell_of PQ 8 _ rfl; have q9_ := cell_of PQ 9 _ rfl; have q10_ := cell_of PQ 10 _ rfl
    have hXu := Nat.lt_of_lt_of_le AL.out (Nat.le_refl (w16.setCell ⟨A, 4, none⟩ (.int .i64 (E + n8))).heap.size)
    have HQX := Lib.hid M7.out.order
    have HPX := Lib.hid (block_lt' M7.out.pos)
    obtain ⟨k0, k1, k2, k3, k4, k5⟩ := six A7.out
    go_wp2_with (at_builtin; generalize w16.setCell ⟨A, 4, none⟩ (.int .i64 (E + n8)) = w17 at *; refine wpList_push rfl _ _ 34 rfl (X + 1) 59 (.agg #[.int .i64 0, .int .i64 0, .int .i64 0, .int .i64 0, .int .i64 0, .int .i64 0]) 6 48 Try.underlying34 Try.infoPhaseT rfl (by decide) (by decide) _ _ _ rfl (hown.alloc _) w16.heap.size 1 [.int .i64 ax, .int .i64 ay, .int .i64 az, .int .i64 E, .int .i64 (E + n8), .int .i64 an] 59 rfl (by rw [← hsz]; exact heap_alloc_new _ _) rfl (by simp [Value.oneCell']) (by omega) (by have := HPX.out; simp; omega) ?_; intro v' w9 hown' hg'; obtain ⟨na, nc, rfl⟩ := owns_slice hown'; have HN := Lib.hid (PUSH.out _ w9 hown' hg'); have hqf := FiAt.fro ((M7.out.later (gb_alloc (gb_refl _ _) (.cells #[.int .i64 ax, .int .i64 ay, .int .i64 az, .int .i64 E, .int .i64 (E + n8), .int .i64 an] 59)))) hg' (o := 9); have hqc := FiAt.nine ((M7.out.later (gb_alloc (gb_refl _ _) (.cells #[.int .i64 ax, .int .i64 ay, .int .i64 az, .int .i64 E, .int .i64 (E + n8), .int .i64 an] 59)))) hg'; clear hown' hg')
    go_roundw
    case rel =>
      refine ⟨m - 1, l ++ [⟨ax, ay, az, E, (E + n8), an⟩], _, by congr 1; omega, by simp; omega, ?_, HN.out⟩
      intro a ha
      rcases List.mem_append.1 ha with h | h
      · exact GOOD.out a h
      · rw [List.mem_singleton.1 h]; exact ⟨⟨hph.1, by show 0 ≤ E; omega, by show E ≤ E + n8; omega, by show E + n8 ≤ _; omega, by show 1 ≤ an; omega, by show an ≤ 4; omega⟩, hfit.out _ _ HE.out (by omega)⟩
    case measure => simp [intOf]; omega
end Go.Proofs.Ytcealhikmbchoaa
