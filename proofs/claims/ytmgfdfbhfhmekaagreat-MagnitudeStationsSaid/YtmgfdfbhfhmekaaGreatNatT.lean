/- nat.Times; response's squares and gains. -/
import Derived.Test.YtmgfdfbhfhmekaaGreatNatA
import Derived.Test.YtmgfdfbhfhmekaaGreatRsp2
namespace Go.Proofs.YtmgfdfbhfhmekaaGreat
set_option linter.all false
open Go.RowKit

theorem natL_lt64 {n : Nat} (h : (n : Int) < bpow 64) : (natL n).length ≤ 64 := natL_le h
theorem vfrac_nat (a b : Nat) (v u : Value) (w : World) (h1 : Sl w v (natL a)) (h2 : Sl w u (natL b)) (ha : (a : Int) < bpow 64) (hb : (b : Int) < bpow 64) (hb0 : 0 < b) :
    Calls Tryz.prog 85 #[.agg #[v, u]] w fun e w' => e = .returned (.bool true) ∧ w.grownBy w' none := by
  have HG := Lib.hid (gb_alloc (gb_refl w none) (.cells #[v, u] 68))
  have A := Lib.hid (nvalid_any _ _ _ (h1.after HG.out)); have B := Lib.hid (nvalid_any _ _ _ (h2.after HG.out))
  rw [(natL_is a).valid (natL_lt64 ha)] at A; rw [(natL_is b).valid (natL_lt64 hb)] at B
  have hl := natL_pos_len hb0
  obtain ⟨va, vc, rfl⟩ := h1.shape; obtain ⟨ua, uc, rfl⟩ := h2.shape
  clear h1 h2 ha hb
  generalize (natL a).length = na at *
  generalize (natL b).length = nb at *
  have hl' : decide ((nb : Int) > 0) = true := decide_eq_true (by omega)
  go_enter Tryz.func85, Tryz.ntmps85
  go_wp2_with fail
  (with_reducible refine A.out.mono ?_)
  rintro e w' ⟨rfl, rfl⟩
  go_wp2_with fail
  (with_reducible refine B.out.mono ?_)
  rintro e w' ⟨rfl, rfl⟩
  go_wp2
  go_ret
  exact ⟨rfl, HG.out⟩
theorem frz {w : World} {b : Nat} {cs : Array Value} {t : TypeId} (h : w.heap[b]? = some (.cells cs t (0, 0))) (o : Nat) : w.frozen? ⟨b, o, none⟩ = false := by simp [World.frozen?, h]
/-- A row of numbers does not lie in a block without numbers. -/
theorem Sl.ne_block {w : World} {v : Value} {xs : List Int} {r : Nat} {cs : Array Value} {t : TypeId} {fr : Nat × Nat} (h : Sl w v xs) (hb : w.heap[r]? = some (.cells cs t fr)) (hc : ∀ (j : Nat) (x : Int), cs[j]? ≠ some (.int .i64 x)) :
    ∀ b off len cap, v = .slice (some ⟨b, off, none⟩) len cap → 0 < len → b ≠ r := by
  rintro b off len cap rfl hl rfl
  obtain ⟨b', off', cap', e, -, -, -, h3⟩ := h.block (by
    rcases h with ⟨-, a, c, e⟩ | ⟨b', off', cap', e, -⟩
    · simp only [Value.slice.injEq] at e; omega
    · simp only [Value.slice.injEq] at e; omega)
  simp only [Value.slice.injEq, Option.some.injEq, Addr.mk.injEq] at e
  obtain ⟨⟨rfl, rfl, -⟩, rfl, -⟩ := e
  have := h3 0 hl
  simp only [World.cell?, hb, Nat.add_zero] at this
  exact hc _ _ this
theorem Sl.setCell {w : World} {v x : Value} {xs : List Int} {r k : Nat} (h : Sl w v xs) (hr : ∀ b off len cap, v = .slice (some ⟨b, off, none⟩) len cap → 0 < len → b ≠ r) : Sl (w.setCell ⟨r, k, none⟩ x) v xs :=
  h.later (row := some r) (gb_setCell (gb_refl _ _) (.inr rfl) _) (fun b off len cap e hl => by simpa using hr b off len cap e hl)
theorem no_ints2 : ∀ (j : Nat) (x : Int), (#[Value.slice none 0 0, Value.slice none 0 0] : Array Value)[j]? ≠ some (.int .i64 x) := by
  intro j x
  match j with
  | 0 => simp
  | 1 => simp
  | j + 2 => simp
theorem cells2' {w : World} {b : Nat} {x y : Value} {t : TypeId} {fr : Nat × Nat} (h : w.heap[b]? = some (.cells #[x, y] t fr)) :
    w.cell? ⟨b, 0, none⟩ = some x ∧ w.cell? ⟨b, 1, none⟩ = some y := by simp [World.cell?, h]

set_option maxRecDepth 100000 in
set_option maxHeartbeats 2000000 in
theorem times_nat (a b c d : Nat) (v1 v2 v3 v4 : Value) (w : World) (h1 : Sl w v1 (natL a)) (h2 : Sl w v2 (natL b)) (h3 : Sl w v3 (natL c)) (h4 : Sl w v4 (natL d))
    (ha : (a : Int) < bpow 64) (hb : (b : Int) < bpow 64) (hc : (c : Int) < bpow 64) (hd : (d : Int) < bpow 64) (hb0 : 0 < b) (hd0 : 0 < d) (hac : ((a * c : Nat) : Int) < bpow 64) (hbd : ((b * d : Nat) : Int) < bpow 64) :
    Calls Tryz.prog 67 #[.agg #[v1, v2], .agg #[v3, v4]] w fun e w' => ∃ u1 u2, e = .returned (.tuple #[.agg #[u1, u2], .int .i64 0]) ∧ Sl w' u1 (natL (a * c)) ∧ Sl w' u2 (natL (b * d)) ∧ w.grownBy w' none := by
  have VA := Lib.hid (fun (u : World) (hg : w.grownBy u none) => vfrac_nat a b v1 v2 u (h1.after hg) (h2.after hg) ha hb hb0)
  have VB := Lib.hid (fun (u : World) (hg : w.grownBy u none) => vfrac_nat c d v3 v4 u (h3.after hg) (h4.after hg) hc hd hd0)
  have MN := Lib.hid (fun (u : World) (hg : w.grownBy u none) => multiply_nat (natL a) (natL c) v1 v3 u (h1.after hg) (h3.after hg) (natL_is a).dig (natL_is c).dig (natL_lt64 ha) (natL_lt64 hc))
  have MD := Lib.hid (fun (u : World) (hg : w.grownBy u none) => multiply_nat (natL b) (natL d) v2 v4 u (h2.after hg) (h4.after hg) (natL_is b).dig (natL_is d).dig (natL_lt64 hb) (natL_lt64 hd))
  rw [(natL_is a).val, (natL_is c).val, ← Int.natCast_mul] at MN
  rw [(natL_is b).val, (natL_is d).val, ← Int.natCast_mul] at MD
  have LN := Lib.hid (fun (zs : List Int) (z : Value) (u : World) (hs : Sl u z zs) (hz : IsNat zs ((a * c : Nat) : Int)) => limited_nat zs z _ u hs (by have := hz.length_le hac; omega) hz.dig hz.val hac)
  have LD := Lib.hid (fun (zs : List Int) (z : Value) (u : World) (hs : Sl u z zs) (hz : IsNat zs ((b * d : Nat) : Int)) => limited_nat zs z _ u hs (by have := hz.length_le hbd; omega) hz.dig hz.val hbd)
  obtain ⟨a1, c1, rfl⟩ := h1.shape; obtain ⟨a2, c2, rfl⟩ := h2.shape; obtain ⟨a3, c3, rfl⟩ := h3.shape; obtain ⟨a4, c4, rfl⟩ := h4.shape
  clear h1 h2 h3 h4 ha hb hc hd hb0 hd0 hac hbd
  generalize (natL a).length = n1 at *
  generalize (natL b).length = n2 at *
  generalize (natL c).length = n3 at *
  generalize (natL d).length = n4 at *
  generalize a * c = p at *
  generalize b * d = q at *
  have g1 := gb_alloc (gb_refl w none) (.cells #[.slice a1 n1 c1, .slice a2 n2 c2] 68)
  have b1 := heap_alloc_new w (.cells #[.slice a1 n1 c1, .slice a2 n2 c2] 68)
  have l1 : (w.alloc (.cells #[.slice a1 n1 c1, .slice a2 n2 c2] 68)).heap.size = w.heap.size + 1 := by simp
  have W1 := Lib.hid g1; have B1 := Lib.hid b1
  have g2 := gb_alloc (gb_refl (w.alloc (.cells #[.slice a1 n1 c1, .slice a2 n2 c2] 68)) none) (.cells #[.slice a3 n3 c3, .slice a4 n4 c4] 68)
  have b2 := heap_alloc_new (w.alloc (.cells #[.slice a1 n1 c1, .slice a2 n2 c2] 68)) (.cells #[.slice a3 n3 c3, .slice a4 n4 c4] 68)
  rw [l1] at b2
  have l2 : ((w.alloc (.cells #[.slice a1 n1 c1, .slice a2 n2 c2] 68)).alloc (.cells #[.slice a3 n3 c3, .slice a4 n4 c4] 68)).heap.size = w.heap.size + 1 + 1 := by simp
  have W2 := Lib.hid (gb_trans g1 g2); have A2 := Lib.hid (block_kept g2 b1 rfl); have B2 := Lib.hid b2
  have g3 := gb_alloc (gb_refl ((w.alloc (.cells #[.slice a1 n1 c1, .slice a2 n2 c2] 68)).alloc (.cells #[.slice a3 n3 c3, .slice a4 n4 c4] 68)) none) (.cells #[.slice none 0 0, .slice none 0 0] 68)
  have b3 := heap_alloc_new ((w.alloc (.cells #[.slice a1 n1 c1, .slice a2 n2 c2] 68)).alloc (.cells #[.slice a3 n3 c3, .slice a4 n4 c4] 68)) (.cells #[.slice none 0 0, .slice none 0 0] 68)
  rw [l2] at b3
  have A3 := Lib.hid (block_kept g3 A2.out rfl); have B3 := Lib.hid (block_kept g3 b2 rfl); have C3 := Lib.hid b3; have W3 := Lib.hid (gb_trans W2.out g3)
  clear g1 b1 l1 W1 B1 g2 b2 l2 W2 A2 B2 g3 b3
  go_enter Tryz.func67, Tryz.ntmps67
  go_wp2_with fail
  generalize ((w.alloc (.cells #[.slice a1 n1 c1, .slice a2 n2 c2] 68)).alloc (.cells #[.slice a3 n3 c3, .slice a4 n4 c4] 68)).alloc (.cells #[.slice none 0 0, .slice none 0 0] 68) = w3 at *
  have HSZ : Hid (w.heap.size ≤ w.heap.size) := Lib.hid (Nat.le_refl _)
  generalize hz : w.heap.size = z at *
  have HZ := Lib.hid hz
  clear hz HSZ
  (with_reducible refine (VA.out w3 W3.out).mono ?_)
  rintro e w4 ⟨rfl, hg⟩
  have A4 := Lib.hid (block_kept hg A3.out rfl); have B4 := Lib.hid (block_kept hg B3.out rfl); have C4 := Lib.hid (block_kept hg C3.out rfl); have W4 := Lib.hid (gb_trans W3.out hg)
  clear hg A3 B3 C3 W3 VA
  obtain ⟨p0_, p1_⟩ := cells2' B4.out
  go_wp2_with fail
  clear p0_ p1_
  (with_reducible refine (VB.out w4 W4.out).mono ?_)
  rintro e w5 ⟨rfl, hg⟩
  have A5 := Lib.hid (block_kept hg A4.out rfl); have B5 := Lib.hid (block_kept hg B4.out rfl); have C5 := Lib.hid (block_kept hg C4.out rfl); have W5 := Lib.hid (gb_trans W4.out hg)
  clear hg A4 B4 C4 W4 VB
  obtain ⟨p0_, p1_⟩ := cells2' A5.out
  obtain ⟨q0_, q1_⟩ := cells2' B5.out
  go_wp2_with fail
  clear p0_ p1_ q0_ q1_
  (with_reducible refine (MN.out w5 W5.out).mono ?_)
  rintro e w6 ⟨v6, z6, rfl, hs, hz, hg⟩
  have A6 := Lib.hid (block_kept hg A5.out rfl); have B6 := Lib.hid (block_kept hg B5.out rfl); have C6 := Lib.hid (block_kept hg C5.out rfl); have W6 := Lib.hid (gb_trans W5.out hg)
  have L6 := Lib.hid (LN.out z6 v6 w6 hs hz)
  obtain ⟨xa, xc, rfl⟩ := hs.shape
  clear hg hs hz A5 B5 C5 W5 LN MN
  go_wp2_with fail
  (with_reducible refine L6.out.mono ?_)
  rintro e w7 ⟨v7, z7, rfl, rfl, hs, hz, hl⟩
  have S7 := Lib.hid hs; have Z7 := Lib.hid hz.eq
  obtain ⟨ya, yc, rfl⟩ := hs.shape
  clear hs hz hl L6
  obtain ⟨p0_, p1_⟩ := cells2' A6.out
  obtain ⟨q0_, q1_⟩ := cells2' B6.out
  go_wp2_with fail
  clear p0_ p1_ q0_ q1_
  (with_reducible refine (MD.out w6 W6.out).mono ?_)
  rintro e w8 ⟨v8, z8, rfl, hs, hz, hg⟩
  have C8 := Lib.hid (block_kept hg C6.out rfl); have W8 := Lib.hid (gb_trans W6.out hg); have S8 := Lib.hid (S7.out.after hg)
  have L8 := Lib.hid (LD.out z8 v8 w8 hs hz)
  obtain ⟨xa, xc, rfl⟩ := hs.shape
  clear hg hs hz A6 B6 C6 W6 S7 LD MD
  go_wp2_with fail
  (with_reducible refine L8.out.mono ?_)
  rintro e w9 ⟨v9, z9, rfl, rfl, hs, hz, hl⟩
  have S9 := Lib.hid hs; have Z9 := Lib.hid hz.eq
  obtain ⟨ua, uc, rfl⟩ := hs.shape
  clear hs hz hl L8
  have N8 := S8.out.ne_block C8.out no_ints2; have N9 := S9.out.ne_block C8.out no_ints2
  have R8 := Lib.hid ((S8.out.setCell (k := 0) (x := .slice ya z7.length yc) N8).setCell (k := 1) (x := .slice ua z9.length uc) N8)
  have R9 := Lib.hid ((S9.out.setCell (k := 0) (x := .slice ya z7.length yc) N9).setCell (k := 1) (x := .slice ua z9.length uc) N9)
  have hzz : w.heap.size ≤ z + 1 + 1 := by have := HZ.out; omega
  have G9 := Lib.hid (gb_setCell (gb_setCell W8.out (a := ⟨z + 1 + 1, 0, none⟩) (.inl hzz) (.slice ya z7.length yc)) (a := ⟨z + 1 + 1, 1, none⟩) (.inl hzz) (.slice ua z9.length uc))
  have hc3 := block_lt' C8.out
  have hf0 := frz C8.out 0; have hf1 := frz C8.out 1
  obtain ⟨p0_, p1_⟩ := cells2' C8.out
  clear N8 N9 hzz
  go_wp2_with fail
  exact bodyPost_ret (v := .tuple #[.agg #[.slice ya z7.length yc, .slice ua z9.length uc], .int .i64 0]) (by simp [results, Tryz.results67, go_sem, p0_, p1_]) rfl ⟨_, _, rfl, by rw [← Z7.out]; exact R8.out, by rw [← Z9.out]; exact R9.out, G9.out⟩
end Go.Proofs.YtmgfdfbhfhmekaaGreat
