/- Dic -/
import Derived.Maps.AppendAt
import Derived.Deep.MidRow
import Derived.Test.YtlddgafbgaaiiaaGreatDoorTsRgOwn
namespace Go.Proofs.YtlddgafbgaaiiaaGreatDoor
set_option linter.all false
open Go.RowKit Rg
theorem Tryz.infoIntD : (Tryz.prog.info? 3).map (fun i => (i.zero, i.size, i.bytes)) = some (some (.int .i64 0), 1, 8) := by kernel_rfl
theorem kept0 {w w' : World} (h : w.grownBy w' none) {b : Nat} {x : Obj} (hb : w.heap[b]? = some x) : w'.heap[b]? = some x := by
  rw [h.block b (Array.getElem?_eq_some_iff.1 hb).1 (by simp)]; exact hb
theorem keptp {w w' : World} {p : Nat} (h : w.grownBy w' (some p)) {b : Nat} {x : Obj} (hb : w.heap[b]? = some x) (hp : b ≠ p) : w'.heap[b]? = some x := by
  rw [h.block b (Array.getElem?_eq_some_iff.1 hb).1 (by simpa using hp)]; exact hb
theorem keptv {w w' : World} {v : Option Nat} (h : w.grownBy w' v) {b : Nat} {x : Obj} (hb : w.heap[b]? = some x) (hp : some b ≠ v) : w'.heap[b]? = some x := by
  rw [h.block b (Array.getElem?_eq_some_iff.1 hb).1 hp]; exact hb
theorem blkLt {w : World} {b : Nat} {x : Obj} (h : w.heap[b]? = some x) : b < w.heap.size := (Array.getElem?_eq_some_iff.1 h).1
theorem heapOld {w : World} {b : Nat} {x o : Obj} (h : w.heap[b]? = some x) : (w.alloc o).heap[b]? = some x := by rw [heap_alloc_old _ _ (blkLt h)]; exact h
/-- A write into a block that is new is none. -/
theorem gbNew {a b c : World} {row r : Option Nat} (h : a.grownBy b row) (k : b.grownBy c r) (hq : ∀ q, r = some q → a.heap.size ≤ q) : a.grownBy c row :=
  ⟨k.os.trans h.os, k.tape.trans h.tape, k.output.trans h.output, Nat.le_trans h.size k.size,
    fun i hi hr => (k.block i (Nat.lt_of_lt_of_le hi h.size) (fun e => by have := hq i e.symm; omega)).trans (h.block i hi hr)⟩
theorem blkLe {w w' : World} {r : Option Nat} (h : w.grownBy w' r) : w.heap.size ≤ w'.heap.size := h.size
theorem frozD {w : World} {b : Nat} {cs : Array Value} {t : TypeId} (h : w.heap[b]? = some (.cells cs t (0, 0))) (o : Nat) : w.frozen? ⟨b, o, none⟩ = false := by simp [World.frozen?, h]
theorem cellD {u : World} {b : Nat} {cs : Array Value} {T : TypeId} {fr : Nat × Nat} (h : u.heap[b]? = some (.cells cs T fr)) (k : Nat) (v : Value) (hk : cs[k]? = some v) : u.cell? ⟨b, k, none⟩ = some v := by simp [World.cell?, h, hk]
theorem ownMono {w : World} {B B' e s : Nat} {v : Value} {n : Nat} {xs : List Value} (h : w.ownsRow B e s v n xs) (hb : B' ≤ B) : w.ownsRow B' e s v n xs :=
  ⟨h.1, h.2.imp id fun ⟨g, cap, cur, a, b, c⟩ => ⟨g, cap, cur, a, Nat.le_trans hb b, c⟩⟩
/-- Block p is the dice over an argument's memory (blocks below B). -/
def Dc (B : Nat) (w : World) (p : Nat) : Prop :=
  ∃ (v : Value) (xs : List Int) (k : Nat), B ≤ p ∧ w.heap[p]? = some (.cells #[v, .int .i64 k] 102 (0, 0)) ∧ Sl w v xs ∧ (∀ b off len cap, v = .slice (some ⟨b, off, none⟩) len cap → 0 < len → b < B) ∧ k ≤ xs.length ∧ xs.length ≤ 2000
theorem Dc.later {B : Nat} {w w' : World} {p : Nat} {row : Option Nat} (h : Dc B w p) (hg : w.grownBy w' row) (hr : ∀ q, row = some q → B ≤ q ∧ q ≠ p) : Dc B w' p := by
  obtain ⟨v, xs, k, h0, h1, h2, h3, h4, h5⟩ := h
  refine ⟨v, xs, k, h0, ?_, h2.later hg ?_, h3, h4, h5⟩
  · rw [hg.block p (Array.getElem?_eq_some_iff.1 h1).1 (fun e => (hr p e.symm).2 rfl)]; exact h1
  · rintro b off len cap hv hl e
    have := h3 b off len cap hv hl
    have := hr b e.symm
    omega
theorem Dc.lt {B : Nat} {w : World} {p : Nat} (h : Dc B w p) : B ≤ p ∧ p < w.heap.size := by
  obtain ⟨v, xs, k, h0, h1, _⟩ := h
  exact ⟨h0, (Array.getElem?_eq_some_iff.1 h1).1⟩
/-- Some number n with P n is returned; the dice go on. -/
def Rolled (B p : Nat) (P : Int → Prop) (w : World) (e : Ending) (w' : World) : Prop :=
  ∃ n : Int, e = .returned (.int .i64 n) ∧ P n ∧ Dc B w' p ∧ w.grownBy w' (some p)
set_option maxHeartbeats 400000 in
theorem dnext_any (B : Nat) (w : World) (p : Nat) (n : Int) (h : Dc B w p) (hn : n ≤ 9223372036854775807) (h1n : 1 ≤ n) :
    Calls Tryz.prog 10 #[.pointer (some ⟨p, 0, none⟩), .int .i64 n] w (Rolled B p (fun x => 0 ≤ x ∧ x < n) w) := by
  have hS := Lib.hid h
  obtain ⟨v, xs, k, hBp, h1, h2, h3, h4, h5⟩ := h
  have hfin : k < xs.length → Dc B (w.setCell ⟨p, 1, none⟩ (.int .i64 ((k : Int) + 1))) p := by
    intro hk
    refine ⟨v, xs, k + 1, hBp, ?_, h2.later (row := some p) (gb_setCell (gb_refl w _) (.inr rfl) _) ?_, h3, by omega, h5⟩
    · simp only [World.setCell, Array.getElem?_modify, if_true, h1]; rfl
    · rintro b off len cap hv hl e
      have := h3 b off len cap hv hl
      simp at e; omega
  have HF := Lib.hid hfin; clear hfin
  have hc1 : w.cell? ⟨p, 1, none⟩ = some (.int .i64 k) := by simp [World.cell?, h1]
  have hf1 : w.frozen? ⟨p, 1, none⟩ = false := by simp [World.frozen?, h1]
  have hz : Hid (0 ≤ (0 : Int) ∧ (0 : Int) < n) := Lib.hid ⟨Int.le_refl _, by omega⟩
  rcases h2 with ⟨rfl, a, cap, rfl⟩ | ⟨b, off, cap, rfl, hb, hcap, hcap2, hc⟩
  · have hc0 : w.cell? ⟨p, 0, none⟩ = some (.slice a 0 cap) := by simp [World.cell?, h1]
    clear h1 h3
    go_enter Tryz.func10, Tryz.ntmps10
    go_wp2
    go_quiet (fail)
    go_wp2
    go_ret
    exact ⟨0, rfl, hz.out, hS.out.later (gb_drewN (gb_refl w none) _) (by simp), gb_drewN (gb_refl _ _) _⟩
  · have HC := Lib.hid hc; clear hc
    have hc0 : w.cell? ⟨p, 0, none⟩ = some (.slice (some ⟨b, off, none⟩) xs.length cap) := by simp [World.cell?, h1]
    have H1 := Lib.hid h1; clear h1
    by_cases hlt : k < xs.length
    · have hbp : ¬ b = p := by have := h3 _ _ _ _ rfl (by omega); omega
      clear h3
      obtain ⟨x, hx⟩ : ∃ x, xs[k]?.getD 0 = x := ⟨_, rfl⟩
      have hcell := (HC.out k hlt).trans (by rw [hx])
      clear hx
      have hn1 : ¬ n < 1 := by omega
      have hn0 : ¬ n = 0 := by omega
      go_enter Tryz.func10, Tryz.ntmps10
      go_wp2
      go_quiet (fail)
      go_wp2
      go_quiet (fail)
      go_wp2
      · go_ret
        have ht : x.tmod n < 0 := by assumption
        have h2 := tmod_neg_iff _ n h1n ht
        have h3 := Int.emod_nonneg x (by omega : n ≠ 0)
        have h4 := Int.emod_lt_of_pos x (by omega : 0 < n)
        refine ⟨_, ret_int (by rw [h2, IntWalk.wrap64_in _ (by omega)]), ⟨h3, h4⟩, (HF.out hlt).later (row := none) ?_ (by simp), ?_⟩
        · exact gb_drewN (gb_refl (w.setCell ⟨p, 1, none⟩ (.int .i64 ((k : Int) + 1))) none) _
        · repeat (first | exact gb_refl _ _ | refine gb_drewN ?_ _ | refine gb_setCell ?_ (.inr rfl) _)
      · go_ret
        have h2 := tmod_nonneg_iff _ n h1n (by assumption)
        have h3 := Int.emod_nonneg x (by omega : n ≠ 0)
        have h4 := Int.emod_lt_of_pos x (by omega : 0 < n)
        refine ⟨_, ret_int h2, ⟨h3, h4⟩, (HF.out hlt).later (row := none) ?_ (by simp), ?_⟩
        · exact gb_drewN (gb_refl (w.setCell ⟨p, 1, none⟩ (.int .i64 ((k : Int) + 1))) none) _
        · repeat (first | exact gb_refl _ _ | refine gb_drewN ?_ _ | refine gb_setCell ?_ (.inr rfl) _)
    · clear h3
      go_enter Tryz.func10, Tryz.ntmps10
      go_wp2
      go_quiet (fail)
      go_wp2
      go_ret
      exact ⟨0, rfl, hz.out, hS.out.later (gb_drewN (gb_refl w none) _) (by simp), gb_drewN (gb_refl _ _) _⟩
/-- One of the numbers of a list. -/
theorem dpick_any (B : Nat) (w : World) (p : Nat) (v : Value) (xs : List Int) (h : Dc B w p) (hs : Sl w v xs) (h0 : 0 < xs.length) (hl : xs.length ≤ 1000) (hb : ∀ b off len cap, v = .slice (some ⟨b, off, none⟩) len cap → b ≠ p) :
    Calls Tryz.prog 27 #[.pointer (some ⟨p, 0, none⟩), v] w (Rolled B p (fun x => x ∈ xs) w) := by
  rcases hs with ⟨rfl, _⟩ | ⟨b, off, cap, rfl, hbl, hcap, hcap2, hc⟩
  · simp at h0
  have hbp := hb _ _ _ _ rfl; clear hb
  have hS := Lib.hid h; clear h
  have HC := Lib.hid hc; clear hc
  go_enter Tryz.func27, Tryz.ntmps27
  go_wp2_with fail
  refine (dnext_any B w p xs.length hS.out (by omega) (by omega)).mono ?_
  rintro e w' ⟨x, rfl, ⟨hx0, hx1⟩, hs, hg⟩
  have hS' := Lib.hid hs; clear hs
  obtain ⟨k, rfl⟩ := Int.eq_ofNat_of_zero_le hx0
  have hcell := (gb_cell hg hbl (o := off + k) (by simpa using hbp)).trans (HC.out k (by omega))
  have hG := Lib.hid hg; clear hg
  go_wp2
  go_ret
  refine ⟨_, rfl, ?_, hS'.out, hG.out⟩
  rw [List.getElem?_eq_getElem (by omega)]
  exact List.getElem_mem (by omega)
theorem Sl.lit (w : World) (xs : List Int) (e : TypeId) (h : xs.length ≤ 1000) : Sl (w.alloc (.cells (xs.map (Value.int .i64)).toArray e)) (.slice (some ⟨w.heap.size, 0, none⟩) xs.length xs.length) xs := by
  refine .inr ⟨w.heap.size, 0, xs.length, rfl, by simp, by simp, by omega, fun k hk => ?_⟩
  rw [cell_new]
  simp [List.getElem?_eq_getElem hk]
/-- One of the numbers of a literal. -/
theorem dpickL_any (B : Nat) (w : World) (p : Nat) (xs : List Int) (e : TypeId) (h : Dc B w p) (g : Nat) (hz : w.heap.size = g) (h0 : 0 < xs.length) (hl : xs.length ≤ 1000) :
    Calls Tryz.prog 27 #[.pointer (some ⟨p, 0, none⟩), .slice (some ⟨g, 0, none⟩) xs.length xs.length] (w.alloc (.cells (xs.map (Value.int .i64)).toArray e))
      (fun r w' => ∃ x : Int, r = .returned (.int .i64 x) ∧ x ∈ xs ∧ Dc B w' p ∧ w.grownBy w' (some p)) := by
  subst hz
  refine (dpick_any B _ p _ xs (h.later (gb_alloc (gb_refl w none) _) (by simp)) (Sl.lit w xs e hl) h0 hl ?_).mono ?_
  · rintro b' off len cap he
    have := h.lt
    simp at he
    omega
  · rintro r w' ⟨x, rfl, hx, hs, hg⟩
    exact ⟨x, rfl, hx, hs, gb_trans (gb_none (gb_alloc (gb_refl w none) _)) hg⟩
theorem dpick4_any (B : Nat) (w : World) (p : Nat) (a b c d : Int) (h : Dc B w p) (g : Nat) (hz : w.heap.size = g) :
    Calls Tryz.prog 27 #[.pointer (some ⟨p, 0, none⟩), .slice (some ⟨g, 0, none⟩) 4 4] (w.alloc (.cells #[.int .i64 a, .int .i64 b, .int .i64 c, .int .i64 d] 3))
      (fun r w' => ∃ x : Int, r = .returned (.int .i64 x) ∧ x ∈ [a, b, c, d] ∧ Dc B w' p ∧ w.grownBy w' (some p)) := dpickL_any B w p [a, b, c, d] _ h g hz (by simp) (by simp)
theorem dpick3_any (B : Nat) (w : World) (p : Nat) (a b c : Int) (h : Dc B w p) (g : Nat) (hz : w.heap.size = g) :
    Calls Tryz.prog 27 #[.pointer (some ⟨p, 0, none⟩), .slice (some ⟨g, 0, none⟩) 3 3] (w.alloc (.cells #[.int .i64 a, .int .i64 b, .int .i64 c] 3))
      (fun r w' => ∃ x : Int, r = .returned (.int .i64 x) ∧ x ∈ [a, b, c] ∧ Dc B w' p ∧ w.grownBy w' (some p)) := dpickL_any B w p [a, b, c] _ h g hz (by simp) (by simp)
theorem pushAt {P : Program} {w : World} {ops : Array Oper} {rest : List Oper} {o : Oper} {a : Act} {Q : Exit → Act → World → Prop} (hgd : o.guard = none) (s x : Operand) (t : TypeId)
    (ho : o.op = .call { callee := .builtin .append, args := #[s, x], argTypes := #[t, t] })
    (base : Nat) (e : TypeId) (z : Value) (size bytes : Nat) (ht : P.underlying t = some (.slice e)) (hinfo : (P.info? e).map (fun i => (i.zero, i.size, i.bytes)) = some (some z, size, bytes)) (hzs : z.cells.size = size) (hsz : 0 < size) (hby : 0 < bytes)
    (v : Value) (n : Nat) (xs : List Value) (hs : a.eval s = v) (hown : w.ownsRow base e size v n xs)
    (b c : Nat) (news : List Value) (e' : TypeId) (hx : a.eval x = .slice (some ⟨b, 0, none⟩) 1 c) (hblk : w.heap[b]? = some (.cells news.toArray e' (0, 0))) (hl : news.length = size) (h1 : ∀ u ∈ news, u.oneCell' = true)
    (hbytes : (n + 1) * bytes ≤ 140737488355328) (hbase : base ≤ w.heap.size)
    (h : ∀ v' w', w'.ownsRow base e size v' (n + 1) (xs ++ news) → w.grownBy w' v.ownBlock → (v'.ownBlock = v.ownBlock ∨ v'.ownBlock = some w.heap.size) → wpList P ops Q rest (a.put o.dst v') w') : wpList P ops Q (o :: rest) a w := by
  obtain ⟨i0, hi, hz0, hz1, hz2⟩ := info_parts hinfo
  refine wpList_append_own_at w hgd s x t ho base e i0 z size bytes ht hi hz0 hz1 hz2 hzs hsz v n xs hs hown ⟨b, 0, none⟩ 1 c news hx (by omega) ?_ h1 ?_ hbytes hbase (fun v' w' h2 h3 _ h4 => h v' w' h2 h3 h4)
  · intro j u hj
    have hadd : (⟨b, 0, none⟩ : Addr).add j = ⟨b, j, none⟩ := by unfold Addr.add; split <;> simp_all
    rw [hadd]
    simp [World.cell?, hblk]
    exact hj
  · have := Nat.le_mul_of_pos_right (n + 1) hby
    simp only [maxLen]; omega
/-- Light, Roll. -/
theorem light_any (w : World) (v : Value) (xs : List Int) (h : Sl w v xs) (hl : xs.length ≤ 9223372036854775807) :
    Calls Tryz.prog 5 #[v] w fun e w' => e = .returned (.bool (decide (xs.length ≤ 500))) ∧ w = w' := by
  rcases h with ⟨rfl, a, cap, rfl⟩ | ⟨b, off, cap, rfl, hb, hcap, hcap2, hc⟩
  · go_enter Tryz.func5, Tryz.ntmps5
    go_wp2
    go_ret
    exact ⟨rfl, rfl⟩
  · clear hc
    go_enter Tryz.func5, Tryz.ntmps5
    go_wp2
    go_ret
    exact ⟨ret_bool (by simp; omega), rfl⟩
theorem roll_any (w : World) (v : Value) (xs : List Int) (h : Sl w v xs) (hl : xs.length ≤ 500) :
    Calls Tryz.prog 6 #[v] w fun e w' => e = .returned (.pointer (some ⟨w.heap.size, 0, none⟩)) ∧ Dc w.heap.size w' w.heap.size ∧ w.grownBy w' none := by
  have hd : Dc w.heap.size (w.alloc (.cells #[v, .int .i64 0] 102)) w.heap.size := by
    refine ⟨v, xs, 0, Nat.le_refl _, heap_alloc_new w _, h.later (gb_alloc (gb_refl w none) _) (by simp), ?_, Nat.zero_le _, by omega⟩
    rintro b off len cap rfl h0
    rcases h with ⟨-, a, c, e⟩ | ⟨b', off', cap', e, hb, -⟩
    · simp at e; omega
    · simp at e; omega
  have HD := Lib.hid hd; clear hd
  have HO : Hid (∃ a n c, v = .slice a n c) := Lib.hid (by rcases h with ⟨-, a, c, e⟩ | ⟨b', off', cap', e, -⟩ <;> exact ⟨_, _, _, e⟩)
  clear h
  obtain ⟨a, n, c, rfl⟩ := HO.out
  clear HO
  go_enter Tryz.func6, Tryz.ntmps6
  go_wp2
  go_ret
  exact ⟨rfl, HD.out, gb_alloc (gb_refl _ _) _⟩
end Go.Proofs.YtlddgafbgaaiiaaGreatDoor
