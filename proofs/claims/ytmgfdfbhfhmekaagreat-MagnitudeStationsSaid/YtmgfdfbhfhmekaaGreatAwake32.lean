/- The law's awake. -/
import Derived.Test.YtmgfdfbhfhmekaaGreatNet
namespace Go.Proofs.YtmgfdfbhfhmekaaGreat
set_option linter.all false
open Go.RowKit Rg

def same2E (a b x y : Int) : Bool := a == x && b == y
theorem run_eqE (a b x y : Int) (w : World) :
    (binOp .eql 46 (.agg #[.int .i64 a, .int .i64 b]) (.agg #[.int .i64 x, .int .i64 y])).run Tryz.prog w = .ok (.bool (same2E a b x y)) w := by
  unfold same2E
  by_cases h0 : a = x <;> by_cases h1 : b = y <;> simp [go_sem, h0, h1]
attribute [go_sem high] run_eqE
theorem run_neE (a b x y : Int) (w : World) :
    (binOp .neq 46 (.agg #[.int .i64 a, .int .i64 b]) (.agg #[.int .i64 x, .int .i64 y])).run Tryz.prog w = .ok (.bool (!same2E a b x y)) w := by
  unfold same2E
  by_cases h0 : a = x <;> by_cases h1 : b = y <;> simp [go_sem, h0, h1]
attribute [go_sem high] run_neE
theorem same2E_self (a b : Int) : same2E a b a b = true := by simp [same2E]
theorem Sl.two {w : World} {b : Nat} {x y : Int} {e : TypeId} {fr : Nat × Nat} (h : w.heap[b]? = some (.cells #[.int .i64 x, .int .i64 y] e fr)) (hf : fr = (0, 0)) : Sl w (.slice (some ⟨b, 0, none⟩) 2 2) [x, y] := by
  subst hf
  refine .inr ⟨b, 0, 2, rfl, (Array.getElem?_eq_some_iff.1 h).1, by simp, by omega, fun k hk => ?_⟩
  match k, hk with
  | 0, _ => simp [World.cell?, h]
  | 1, _ => simp [World.cell?, h]

def flat32 : Sca := ⟨1048576, [0, 0], [0, 0], 0, 1⟩
theorem flat32_ok : flat32.ok = true := by decide +kernel
theorem flat32_b : btwE 1048576 [0, 0] [0, 0] 0 0 = 0 ∧ btwA 1048576 [0, 0] [0, 0] 0 0 = 0 ∧ btwB 1048576 [0, 0] [0, 0] 0 0 = 0 := by decide +kernel
theorem flat32_g : gainE [] 0 1 = (0, 1, 1) := by decide +kernel
theorem flat32_v : stnV flat32 [] 1 0 0 = .tuple #[.agg #[.int .i64 (-1), .int .i64 1], .int .i64 0] := by
  have b := flat32_b
  have e : stnE flat32 [] 1 0 0 = 0 := by
    unfold stnE
    rw [if_neg (by rw [flat32_ok]; decide), if_neg (by decide), show gainE [] flat32.num flat32.den = (0, 1, 1) from flat32_g]
    exact b.1
  have g : stnG flat32 [] 1 = 0 := by
    unfold stnG grd
    rw [show gainE [] flat32.num flat32.den = (0, 1, 1) from flat32_g]
    dsimp only
    rw [logNat_one (by omega) (by omega)]
    have : logS 1 = 0 := logS_one
    simp [this]
  unfold stnV stnL stnH
  rw [e, if_pos rfl, if_pos rfl, g, show btwA flat32.step flat32.ls flat32.hs 0 0 = 0 from b.2.1, show btwB flat32.step flat32.ls flat32.hs 0 0 = 0 from b.2.2]
  rfl
def exE : List Est := [⟨1, 3⟩, ⟨10, 11⟩, ⟨2, 9⟩]
theorem exE_v : netV exE = .tuple #[.agg #[.int .i64 2, .int .i64 9], .int .i64 0] := by
  have e : netE exE = 0 := by decide
  have m1 : med (exE.map Est.lo) = 2 := by
    unfold med
    rw [show srt (exE.map Est.lo) = [1, 2, 10] from srt_of (by decide) (by decide)]; rfl
  have m2 : med (exE.map Est.hi) = 9 := by
    unfold med
    rw [show srt (exE.map Est.hi) = [3, 9, 11] from srt_of (by decide) (by decide)]; rfl
  unfold netV netL netH
  rw [e, if_pos rfl, if_pos rfl, m1, m2]

set_option maxHeartbeats 1000000 in
theorem flat32_any (w : World) :
    Calls Tryz.prog 17 #[] w fun e w' => ∃ v1 v2, e = .returned (.agg #[.int .i64 1048576, v1, v2, .int .i64 0, .int .i64 1]) ∧ Sl w' v1 [0, 0] ∧ Sl w' v2 [0, 0] ∧ w.grownBy w' none := by
  have l1 : (w.alloc (.cells #[.int .i64 0, .slice none 0 0, .slice none 0 0, .int .i64 0, .int .i64 0] 26)).heap.size = w.heap.size + 1 := by simp
  have l2 : ((w.alloc (.cells #[.int .i64 0, .slice none 0 0, .slice none 0 0, .int .i64 0, .int .i64 0] 26)).alloc (.cells #[.int .i64 0, .int .i64 0] 3)).heap.size = w.heap.size + 1 + 1 := by simp
  have b1 := heap_alloc_new w (.cells #[.int .i64 0, .slice none 0 0, .slice none 0 0, .int .i64 0, .int .i64 0] 26)
  have b2 := heap_alloc_new (w.alloc (.cells #[.int .i64 0, .slice none 0 0, .slice none 0 0, .int .i64 0, .int .i64 0] 26)) (.cells #[.int .i64 0, .int .i64 0] 3)
  have b3 := heap_alloc_new ((w.alloc (.cells #[.int .i64 0, .slice none 0 0, .slice none 0 0, .int .i64 0, .int .i64 0] 26)).alloc (.cells #[.int .i64 0, .int .i64 0] 3)) (.cells #[.int .i64 0, .int .i64 0] 3)
  rw [l1] at b2
  rw [l2] at b3
  have k2 := gb_alloc (gb_refl (w.alloc (.cells #[.int .i64 0, .slice none 0 0, .slice none 0 0, .int .i64 0, .int .i64 0] 26)) none) (.cells #[.int .i64 0, .int .i64 0] 3)
  have k3 := gb_alloc (gb_refl ((w.alloc (.cells #[.int .i64 0, .slice none 0 0, .slice none 0 0, .int .i64 0, .int .i64 0] 26)).alloc (.cells #[.int .i64 0, .int .i64 0] 3)) none) (.cells #[.int .i64 0, .int .i64 0] 3)
  have W3 := Lib.hid (gb_trans (gb_trans (gb_alloc (gb_refl w none) (.cells #[.int .i64 0, .slice none 0 0, .slice none 0 0, .int .i64 0, .int .i64 0] 26)) k2) k3)
  have A3 := Lib.hid (block_kept k3 (block_kept k2 b1 rfl) rfl); have B3 := Lib.hid (block_kept k3 b2 rfl); have C3 := Lib.hid b3
  clear l1 l2 b1 b2 b3 k2 k3
  have hba := block_lt' A3.out
  have f0 := frz A3.out 0; have f1 := frz A3.out 1; have f2 := frz A3.out 2; have f3 := frz A3.out 3; have f4 := frz A3.out 4
  obtain ⟨c0_, c1_, c2_, c3_, c4_⟩ := cells5 A3.out
  go_enter Tryz.func17, Tryz.ntmps17
  go_wp2_with (with_reducible refine wpList_store_row rfl _ _ _ rfl w.heap.size #[.int .i64 1048576, .slice (some ⟨w.heap.size + 1, 0, none⟩) 2 2, .slice (some ⟨w.heap.size + 1 + 1, 0, none⟩) 2 2, .int .i64 0, .int .i64 1] rfl rfl _ _ A3.out (by kernel_rfl) rfl (by simp [Value.oneCell']) ?_)
  have hN := setRow_at (cs := #[.int .i64 1048576, .slice (some ⟨w.heap.size + 1, 0, none⟩) 2 2, .slice (some ⟨w.heap.size + 1 + 1, 0, none⟩) 2 2, .int .i64 0, .int .i64 1]) A3.out
  have hB := (setRow_far (cs := #[.int .i64 1048576, .slice (some ⟨w.heap.size + 1, 0, none⟩) 2 2, .slice (some ⟨w.heap.size + 1 + 1, 0, none⟩) 2 2, .int .i64 0, .int .i64 1]) (show w.heap.size + 1 ≠ w.heap.size by omega)).trans B3.out
  have hC := (setRow_far (cs := #[.int .i64 1048576, .slice (some ⟨w.heap.size + 1, 0, none⟩) 2 2, .slice (some ⟨w.heap.size + 1 + 1, 0, none⟩) 2 2, .int .i64 0, .int .i64 1]) (show w.heap.size + 1 + 1 ≠ w.heap.size by omega)).trans C3.out
  obtain ⟨e0_, e1_, e2_, e3_, e4_⟩ := cells5 hN
  exact bodyPost_ret (v := .agg #[.int .i64 1048576, .slice (some ⟨w.heap.size + 1, 0, none⟩) 2 2, .slice (some ⟨w.heap.size + 1 + 1, 0, none⟩) 2 2, .int .i64 0, .int .i64 1]) (by simp [results, Tryz.results17, go_sem, e0_, e1_, e2_, e3_, e4_]) rfl ⟨_, _, rfl, Sl.two hB rfl, Sl.two hC rfl, gb_setRow W3.out (.inl (Nat.le_refl _))⟩

set_option maxHeartbeats 2000000 in
theorem awake32_any (w : World) :
    Calls Tryz.prog 6 #[] w fun e w' => e = .returned (.bool true) ∧ w.grownBy w' none := by
  have FA := Lib.hid (flat32_any w)
  go_enter Tryz.func6, Tryz.ntmps6
  go_wp2_with fail
  (with_reducible refine FA.out.mono ?_)
  rintro e w1 ⟨v1, v2, rfl, s1, s2, hg⟩
  have ST := Lib.hid (station_any flat32 v1 v2 (.slice none 0 0) [] 1 0 0 w1 s1 s2 ⟨⟨rfl, .inl ⟨rfl, _, _, rfl⟩⟩, by simp⟩ (by omega))
  rw [show List.map Stv.s [] = [] from rfl, flat32_v] at ST
  simp only [Sca.val, flat32] at ST
  have W1 := Lib.hid hg
  obtain ⟨a1, c1, rfl⟩ := s1.shape; obtain ⟨a2, c2, rfl⟩ := s2.shape
  clear s1 s2 hg FA
  simp only [List.length_cons, List.length_nil, Nat.zero_add, Nat.reduceAdd] at ST
  go_wp2_with fail
  (with_reducible refine ST.out.mono ?_)
  rintro e w2 ⟨rfl, hg⟩
  have W2 := Lib.hid (gb_trans W1.out hg)
  clear hg ST W1
  have g3 := gb_alloc (gb_refl w2 none) (.cells #[.int .i64 (-1), .int .i64 1] 46)
  have A3 := Lib.hid (heap_alloc_new w2 (.cells #[.int .i64 (-1), .int .i64 1] 46))
  have LE : Hid ((flatE exE).toArray = #[.int .i64 1, .int .i64 3, .int .i64 10, .int .i64 11, .int .i64 2, .int .i64 9]) := Lib.hid rfl
  have l3 : (w2.alloc (.cells #[.int .i64 (-1), .int .i64 1] 46)).heap.size = w2.heap.size + 1 := by simp
  have g4 := gb_alloc (gb_refl (w2.alloc (.cells #[.int .i64 (-1), .int .i64 1] 46)) none) (.cells #[.int .i64 1, .int .i64 3, .int .i64 10, .int .i64 11, .int .i64 2, .int .i64 9] 46)
  have b4 := heap_alloc_new (w2.alloc (.cells #[.int .i64 (-1), .int .i64 1] 46)) (.cells #[.int .i64 1, .int .i64 3, .int .i64 10, .int .i64 11, .int .i64 2, .int .i64 9] 46)
  rw [l3] at b4
  have W4 := Lib.hid (gb_trans (gb_trans W2.out g3) g4); have A4 := Lib.hid (block_kept g4 A3.out rfl)
  have SE : SlC 2 ((w2.alloc (.cells #[.int .i64 (-1), .int .i64 1] 46)).alloc (.cells #[.int .i64 1, .int .i64 3, .int .i64 10, .int .i64 11, .int .i64 2, .int .i64 9] 46)) (.slice (some ⟨w2.heap.size + 1, 0, none⟩) 3 3) exE.length (flatE exE) := by
    refine ⟨rfl, .inr ⟨w2.heap.size + 1, 0, 3, rfl, (Array.getElem?_eq_some_iff.1 b4).1, by decide, by omega, fun j u hj => ?_⟩⟩
    have hj' : (flatE exE).toArray[j]? = some u := by simpa using hj
    rw [LE.out] at hj'
    simp only [World.cell?, b4, Nat.zero_add]
    simpa using hj'
  have NE := Lib.hid (network_any exE _ _ SE (by decide))
  rw [exE_v] at NE
  clear g3 A3 LE l3 g4 b4 SE W2
  go_wp2_with fail
  (with_reducible refine NE.out.mono ?_)
  rintro e w5 ⟨rfl, hg⟩
  have W5 := Lib.hid (gb_trans W4.out hg); have A5 := Lib.hid (block_kept hg A4.out rfl)
  clear hg NE W4 A4
  have g6 := gb_alloc (gb_refl w5 none) (.cells #[.int .i64 2, .int .i64 9] 46)
  have b6 := heap_alloc_new w5 (.cells #[.int .i64 2, .int .i64 9] 46)
  have W6 := Lib.hid (gb_trans W5.out g6)
  have hq1 : same2E (-1) 1 (-1) 1 = true := same2E_self _ _
  have hq2 : same2E 2 9 2 9 = true := same2E_self _ _
  obtain ⟨c0_, c1_⟩ := cells2' (block_kept g6 A5.out rfl)
  obtain ⟨d0_, d1_⟩ := cells2' b6
  have hl1 := block_lt' (block_kept g6 A5.out rfl); have hl2 := block_lt' b6
  clear g6 b6 A5
  go_wp2_with fail
  go_ret
  exact ⟨rfl, W6.out⟩
end Go.Proofs.YtmgfdfbhfhmekaaGreat
