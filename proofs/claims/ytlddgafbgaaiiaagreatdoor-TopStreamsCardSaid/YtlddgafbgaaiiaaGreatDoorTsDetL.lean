/- DetL -/
import Derived.BigRegion
import Derived.Deep.CutRange
import Derived.Test.YtlddgafbgaaiiaaGreatDoorTsDet
import Derived.Test.YtlddgafbgaaiiaaGreatDoorTsRgOwn
namespace Go.Proofs.YtlddgafbgaaiiaaGreatDoor
set_option linter.all false
open Go.RowKit Rg
theorem Tryz.infoTrigT : (Tryz.prog.info? 41).map (fun i => (i.zero, i.size, i.bytes)) = some (some (.agg #[.int .i64 0, .int .i64 0, .int .i64 0]), 3, 24) := by kernel_rfl
structure Tg where
  on : Int
  off : Int
  pk : Int
def Tg.cells (t : Tg) : List Value := [.int .i64 t.on, .int .i64 t.off, .int .i64 t.pk]
def flatT (l : List Tg) : List Value := l.flatMap Tg.cells
theorem flatT_snoc (l : List Tg) (t : Tg) : flatT (l ++ [t]) = flatT l ++ t.cells := by simp [flatT]
/-- The values that a watch looks back at; what it has counted; the trigger that is open. -/
structure Wt where
  past : List Int
  count : Int
  on : Int
  off : Int
  pk : Int
/-- The short sum of what was looked at. -/
def shS (s : Int) (past : List Int) : Int := (past.drop (past.length + 1 - s.toNat)).sum
/-- Open or ended. -/
def sw (s l n f cnt sh lo on off pk : Int) : Tg × List Tg :=
  if l ≤ cnt then (if 0 ≤ on then (if reachB s l sh lo f then (⟨on, off, pk⟩, []) else (⟨-1, 0, 0⟩, [⟨on, cnt - 1, pk⟩])) else (if reachB s l sh lo n then (⟨cnt - 1, -1, 0⟩, []) else (⟨on, off, pk⟩, []))) else (⟨on, off, pk⟩, [])
def pkM (on pk a : Int) : Int := if 0 ≤ on then max pk a else pk
def cutP (l : Int) (p : List Int) : List Int := if (p.length : Int) = l then p.tail else p
/-- One sample more. -/
def lookV (s l n f : Int) (t : Wt) (x : Int) : Wt × List Tg :=
  let a := max x (-x)
  let r := sw s l n f (t.count + 1) (shS s t.past + a) (t.past.sum + a) t.on t.off t.pk
  (⟨cutP l (t.past ++ [a]), t.count + 1, r.1.on, r.1.off, pkM r.1.on r.1.pk a⟩, r.2)
theorem sum_bound {l : List Int} (h : ∀ y ∈ l, 0 ≤ y ∧ y ≤ 1000) (hl : l.length ≤ 8) : 0 ≤ l.sum ∧ l.sum ≤ 8000 := by
  have h2 : ∀ l : List Int, (∀ y ∈ l, 0 ≤ y ∧ y ≤ 1000) → 0 ≤ l.sum ∧ l.sum ≤ l.length * 1000 := by
    intro l
    induction l with
    | nil => simp
    | cons a l ih =>
      intro h
      have h1 := ih (fun x hx => h x (List.mem_cons_of_mem _ hx))
      have h3 := h a List.mem_cons_self
      have e : ((l.length + 1 : Nat) : Int) * 1000 = l.length * 1000 + 1000 := by omega
      rw [List.length_cons, e, List.sum_cons]
      omega
  have := h2 l h
  omega
/-- The window: its block p, the row of its past in block g, what has ended. -/
structure WinAt (w0 : World) (p g E : Nat) (s l n f : Int) (past : List Int) (count on off pk sh lo : Int) (o : Nat) (ev : Value) (L : List Tg) (u : World) : Prop where
  win : u.heap[p]? = some (.cells #[.int .i64 s, .int .i64 l, .int .i64 n, .int .i64 f, .slice (some ⟨g, o, none⟩) past.length (E - o), .int .i64 count, .int .i64 on, .int .i64 off, .int .i64 pk, .int .i64 sh, .int .i64 lo, ev] 120 (0, 0))
  row : ∃ cur : Array Value, u.heap[g]? = some (.cells cur 3 (0, 0)) ∧ cur.size = E ∧ ∀ j, j < past.length → cur[o + j]? = some (.int .i64 (past[j]?.getD 0))
  own : u.ownsRow w0.heap.size 41 3 ev L.length (flatT L)
  room : o + past.length ≤ E
  pg : p ≠ g
  np : ev.ownBlock ≠ some p
  ng : ev.ownBlock ≠ some g
  lp : w0.heap.size ≤ p
  lg : w0.heap.size ≤ g
  gr : w0.grownBy u none
section
variable {w0 u u' : World} {p g E : Nat} {s l n f : Int} {past : List Int} {count on off pk sh lo : Int} {o : Nat} {ev : Value} {L : List Tg}
theorem WinAt.keep (h : WinAt w0 p g E s l n f past count on off pk sh lo o ev L u) (hg : u.grownBy u' none) : WinAt w0 p g E s l n f past count on off pk sh lo o ev L u' := by
  obtain ⟨cur, h1, h2, h3⟩ := h.row
  exact ⟨kept0 hg h.win, ⟨cur, kept0 hg h1, h2, h3⟩, owns_keep h.own hg, h.room, h.pg, h.np, h.ng, h.lp, h.lg, gb_trans h.gr hg⟩
/-- A change in the window's own block. -/
theorem WinAt.turn {past' : List Int} {count' on' off' pk' sh' lo' : Int} {o' : Nat} (h : WinAt w0 p g E s l n f past count on off pk sh lo o ev L u) (hg : u.grownBy u' (some p)) (hw : u'.heap[p]? = some (.cells #[.int .i64 s, .int .i64 l, .int .i64 n, .int .i64 f, .slice (some ⟨g, o', none⟩) past'.length (E - o'), .int .i64 count', .int .i64 on', .int .i64 off', .int .i64 pk', .int .i64 sh', .int .i64 lo', ev] 120 (0, 0)))
    (hp : past' = past ∧ o' = o ∨ past' = past.tail ∧ o' = o + 1 ∧ 0 < past.length) : WinAt w0 p g E s l n f past' count' on' off' pk' sh' lo' o' ev L u' := by
  obtain ⟨cur, h1, h2, h3⟩ := h.row
  have hr := h.room
  refine ⟨hw, ⟨cur, keptp hg h1 (fun e => h.pg e.symm), h2, ?_⟩, h.own.kept hg (.inr h.np), ?_, h.pg, h.np, h.ng, h.lp, h.lg, gbNew h.gr hg (fun k hk => by simp at hk; have := h.lp; omega)⟩
  · rcases hp with ⟨rfl, rfl⟩ | ⟨rfl, rfl, h0⟩
    · exact h3
    · intro j hj
      simp at hj
      have := h3 (j + 1) (by omega)
      rw [show o + 1 + j = o + (j + 1) by omega, this]
      simp
  · rcases hp with ⟨rfl, rfl⟩ | ⟨rfl, rfl, h0⟩
    · exact hr
    · simp; omega
/-- A trigger more. -/
theorem WinAt.ended {v' : Value} {t : Tg} (h : WinAt w0 p g E s l n f past count on off pk sh lo o ev L u) (hg : u.grownBy u' ev.ownBlock) (ho : u'.ownsRow w0.heap.size 41 3 v' (L.length + 1) (flatT L ++ t.cells)) (hb : ∀ k, v'.ownBlock = some k → ev.ownBlock = some k ∨ u.heap.size ≤ k) :
    WinAt w0 p g E s l n f past count on off pk sh lo o v' (L ++ [t]) (u'.setCell ⟨p, 11, none⟩ v') := by
  obtain ⟨cur, h1, h2, h3⟩ := h.row
  have hwp := keptv hg h.win (fun e => h.np e.symm)
  have hwg := keptv hg h1 (fun e => h.ng e.symm)
  have hp := blkLt h.win
  have hgl := blkLt h1
  have gs : u'.grownBy (u'.setCell ⟨p, 11, none⟩ v') (some p) := gb_setCell (gb_refl _ _) (.inr rfl) _
  have np' : v'.ownBlock ≠ some p := fun e => by rcases hb p e with k | k; (exact h.np k); omega
  have ng' : v'.ownBlock ≠ some g := fun e => by rcases hb g e with k | k; (exact h.ng k); omega
  refine ⟨set_block hwp 11 v', ⟨cur, keptp gs hwg (fun e => h.pg e.symm), h2, h3⟩, ?_, h.room, h.pg, np', ng', h.lp, h.lg, ?_⟩
  · rw [List.length_append, flatT_snoc]
    exact ho.kept gs (.inr np')
  · exact gbNew (gbNew h.gr hg (fun k hk => (h.own.lt k hk).1)) gs (fun k hk => by simp at hk; have := h.lp; omega)
end
/-- A number more, in place. -/
theorem WinAt.grow {w0 u : World} {p g E : Nat} {s l n f : Int} {past : List Int} {count on off pk sh lo : Int} {o : Nat} {ev : Value} {L : List Tg} {a : Int} {X : Obj} (h : WinAt w0 p g E s l n f past count on off pk sh lo o ev L u) (hr : o + past.length + 1 ≤ E) :
    WinAt w0 p g E s l n f (past ++ [a]) count on off pk sh lo o ev L (((u.setCell ⟨g, o + past.length, none⟩ (.int .i64 a)).setCell ⟨p, 4, none⟩ (.slice (some ⟨g, o, none⟩) (past.length + 1) (E - o))).alloc X) := by
  refine WinAt.keep ?_ (gb_alloc (gb_refl _ none) X)
  obtain ⟨cur, h1, h2, h3⟩ := h.row
  have gg : u.grownBy (u.setCell ⟨g, o + past.length, none⟩ (.int .i64 a)) (some g) := gb_setCell (a := ⟨g, o + past.length, none⟩) (gb_refl _ _) (.inr rfl) _
  have gp : (u.setCell ⟨g, o + past.length, none⟩ (.int .i64 a)).grownBy ((u.setCell ⟨g, o + past.length, none⟩ (.int .i64 a)).setCell ⟨p, 4, none⟩ (.slice (some ⟨g, o, none⟩) (past.length + 1) (E - o))) (some p) := gb_setCell (a := ⟨p, 4, none⟩) (gb_refl _ _) (.inr rfl) _
  refine ⟨?_, ⟨cur.set! (o + past.length) (.int .i64 a), keptp gp (set_block h1 _ _) (fun e => h.pg e.symm), by simp [h2], ?_⟩, (h.own.kept gg (.inr h.ng)).kept gp (.inr h.np), by simp; omega, h.pg, h.np, h.ng, h.lp, h.lg, gbNew (gbNew h.gr gg (fun k hk => by simp at hk; have := h.lg; omega)) gp (fun k hk => by simp at hk; have := h.lp; omega)⟩
  · have e := set_block (keptp gg h.win h.pg) 4 (.slice (some ⟨g, o, none⟩) (past.length + 1) (E - o))
    rw [List.length_append]
    exact e
  · intro j hj
    simp at hj
    rw [Array.set!_eq_setIfInBounds, Array.getElem?_setIfInBounds]
    by_cases hjl : j = past.length
    · subst hjl
      rw [if_pos rfl, if_pos (by omega)]
      simp
    · rw [if_neg (by omega), h3 j (by omega), List.getElem?_append_left (by omega)]
theorem shS_push {S : Nat} (past : List Int) (a : Int) (h1 : 1 ≤ S) : shS S (past ++ [a]) = if S ≤ past.length + 1 then shS S past + a - ((past ++ [a])[past.length + 1 - S]?.getD 0) else shS S past + a := by
  simp only [shS, Int.toNat_natCast]
  split
  · have e : (past ++ [a]).length + 1 - S = (past.length + 1 - S) + 1 := by simp; omega
    have hlt : past.length + 1 - S < (past ++ [a]).length := by simp; omega
    have hd := List.drop_eq_getElem_cons hlt
    have hs := congrArg List.sum hd
    rw [List.sum_cons, List.drop_append_of_le_length (by omega), List.sum_append] at hs
    rw [e, List.getElem?_eq_getElem hlt, Option.getD_some]
    simp at hs
    omega
  · rw [show (past ++ [a]).length + 1 - S = 0 by simp; omega, show past.length + 1 - S = 0 by omega]
    simp
theorem shS_tail {S : Nat} (q : List Int) (h1 : S ≤ q.length) (h0 : 0 < q.length) : shS S q.tail = shS S q := by
  simp only [shS, Int.toNat_natCast]
  rw [List.length_tail, ← List.drop_one, List.drop_drop]
  congr 2
  omega
theorem sum_tail (q : List Int) (h0 : 0 < q.length) : q.tail.sum = q.sum - (q[0]?.getD 0) := by
  cases q with
  | nil => simp at h0
  | cons a q => simp only [List.tail_cons, List.sum_cons, List.getElem?_cons_zero, Option.getD_some]; omega
set_option maxRecDepth 100000 in
set_option maxHeartbeats 20000000 in
theorem dlook_any (w0 : World) (p g E : Nat) (s l n f : Int) (past : List Int) (count on off pk : Int) (o : Nat) (ev : Value) (L : List Tg) (x : Int) (w : World) (hd : DetOk s l n f) (h : WinAt w0 p g E s l n f past count on off pk (shS s past) past.sum o ev L w)
    (hx : ∀ y ∈ past, 0 ≤ y ∧ y ≤ 1000) (hxx : -1000 ≤ x ∧ x ≤ 1000) (hl : past.length < l) (hc : 0 ≤ count ∧ count ≤ 100000) (hE : o + past.length + 1 ≤ E) (hE2 : E ≤ 100000) (hL : L.length ≤ 10000) (hon : -1 ≤ on ∧ on ≤ 100000) :
    Calls Tryz.prog 40 #[.pointer (some ⟨p, 0, none⟩), .int .i64 x] w fun e w' => e = .returned (.tuple #[]) ∧ ∃ (o' : Nat) (ev' : Value), o' + (lookV s l n f ⟨past, count, on, off, pk⟩ x).1.past.length = o + past.length + 1 ∧
      WinAt w0 p g E s l n f (lookV s l n f ⟨past, count, on, off, pk⟩ x).1.past (lookV s l n f ⟨past, count, on, off, pk⟩ x).1.count (lookV s l n f ⟨past, count, on, off, pk⟩ x).1.on (lookV s l n f ⟨past, count, on, off, pk⟩ x).1.off (lookV s l n f ⟨past, count, on, off, pk⟩ x).1.pk
        (shS s (lookV s l n f ⟨past, count, on, off, pk⟩ x).1.past) (lookV s l n f ⟨past, count, on, off, pk⟩ x).1.past.sum o' ev' (L ++ (lookV s l n f ⟨past, count, on, off, pk⟩ x).2) w' := by
  have hls := hd.l1; have hs1 := hd.s1; have hf1 := hd.f1
  obtain ⟨a, ha⟩ : ∃ a, max x (-x) = a := ⟨_, rfl⟩
  have hab : 0 ≤ a ∧ a ≤ 1000 := by omega
  have HA := Lib.hid (fun (u : World) => ha ▸ dabs_any x u (by omega))
  have HLK : Hid (lookV s l n f ⟨past, count, on, off, pk⟩ x = (⟨cutP l (past ++ [a]), count + 1, (sw s l n f (count + 1) (shS s past + a) (past.sum + a) on off pk).1.on, (sw s l n f (count + 1) (shS s past + a) (past.sum + a) on off pk).1.off, pkM (sw s l n f (count + 1) (shS s past + a) (past.sum + a) on off pk).1.on (sw s l n f (count + 1) (shS s past + a) (past.sum + a) on off pk).1.pk a⟩, (sw s l n f (count + 1) (shS s past + a) (past.sum + a) on off pk).2)) := Lib.hid (by simp only [lookV, ha])
  have hsum : 0 ≤ past.sum ∧ past.sum ≤ 8000 := sum_bound hx (by omega)
  have hshs : 0 ≤ shS s past ∧ shS s past ≤ 8000 := sum_bound (l := past.drop _) (fun y hy => hx y (List.mem_of_mem_drop hy)) (by simp; omega)
  clear ha
  generalize hlk : lookV s l n f ⟨past, count, on, off, pk⟩ x = R at *
  clear hlk
  have HSH : Hid (shS s past = shS s past) := Lib.hid rfl
  obtain ⟨sh, hsh⟩ : ∃ sh, shS s past = sh := ⟨_, rfl⟩
  obtain ⟨lo, hlo⟩ : ∃ lo, past.sum = lo := ⟨_, rfl⟩
  rw [hsh, hlo] at h HLK
  rw [hsh] at hshs; rw [hlo] at hsum
  have HS := Lib.hid hsh; have HL := Lib.hid hlo
  clear HSH hsh hlo
  have RC := Lib.hid (fun (u : World) (sh lo q : Int) (h1 : 0 ≤ sh ∧ sh ≤ 100000) (h2 : 0 ≤ lo ∧ lo ≤ 100000) (hq : 0 ≤ q ∧ q ≤ 1000) => dreaches_any s l n f sh lo q u hd h1 h2 hq)
  have gD := gb_alloc (gb_refl w none) (.cells #[.int .i64 s, .int .i64 l, .int .i64 n, .int .i64 f] 31)
  have W1 := Lib.hid (h.keep gD)
  have D1 := kbox (w := w) #[.int .i64 s, .int .i64 l, .int .i64 n, .int .i64 f] 31
  have c0_ := cellD h.win 0 _ rfl
  have c1_ := cellD h.win 1 _ rfl
  have c2_ := cellD h.win 2 _ rfl
  have c3_ := cellD h.win 3 _ rfl
  have hpd : p < w.heap.size := blkLt h.win
  have hgd : g < w.heap.size := by obtain ⟨cur, h1, -⟩ := h.row; exact blkLt h1
  have hod : Hid (∀ k, ev.ownBlock = some k → k < w.heap.size) := Lib.hid (fun k hk => (h.own.lt k hk).2)
  have HX := Lib.hid hx
  clear gD hd hx h
  go_enter Tryz.func40, Tryz.ntmps40
  go_wp2_with (go_at_call 70; refine (HA.out _).mono ?_; rintro e w' ⟨rfl, rfl⟩)

  generalize w.alloc (.cells #[.int .i64 s, .int .i64 l, .int .i64 n, .int .i64 f] 31) = w1 at *
  generalize w.heap.size = dz at *
  clear c0_ c1_ c2_ c3_ HA
  have c9_ := cellD W1.out.win 9 _ rfl
  have c10_ := cellD W1.out.win 10 _ rfl
  have cz_ := frozD W1.out.win
  go_region
  have W2 := Lib.hid (W1.out.turn (u' := ((w1.setCell ⟨p, 9, none⟩ (.int .i64 (sh + a))).setCell ⟨p, 10, none⟩ (.int .i64 (lo + a))).drew) (sh' := sh + a) (lo' := lo + a) (gb_drew (gb_setCell (a := ⟨p, 10, none⟩) (gb_setCell (a := ⟨p, 9, none⟩) (gb_refl _ _) (.inr rfl) _) (.inr rfl) _)) (set_block (set_block W1.out.win 9 _) 10 _) (.inl ⟨rfl, rfl⟩))
  have D2 := Lib.hid (keptp (gb_drew (gb_setCell (a := ⟨p, 10, none⟩) (gb_setCell (a := ⟨p, 9, none⟩) (gb_refl w1 (some p)) (.inr rfl) (.int .i64 (sh + a))) (.inr rfl) (.int .i64 (lo + a)))) D1.out (show dz ≠ p by omega))
  clear W1 D1 c9_ c10_ cz_
  generalize ((w1.setCell ⟨p, 9, none⟩ (.int .i64 (sh + a))).setCell ⟨p, 10, none⟩ (.int .i64 (lo + a))).drew = w2 at *
  have c5_ := cellD W2.out.win 5 _ rfl
  have cz_ := frozD W2.out.win
  go_upto_region 4 with fail
  have g3 : w2.grownBy (w2.setCell ⟨p, 5, none⟩ (.int .i64 (count + 1))) (some p) := gb_setCell (a := ⟨p, 5, none⟩) (gb_refl _ _) (.inr rfl) _
  have W3 := Lib.hid (W2.out.turn (count' := count + 1) g3 (set_block W2.out.win 5 _) (.inl ⟨rfl, rfl⟩))
  have D3 := Lib.hid (keptp g3 D2.out (show dz ≠ p by omega))
  clear g3 W2 D2 c5_ cz_
  generalize w2.setCell ⟨p, 5, none⟩ (.int .i64 (count + 1)) = w3 at *
  have c5_ := cellD W3.out.win 5 _ rfl
  have d1_ := cellD D3.out 1 _ rfl
  have hlw : ¬ dz = p := by omega
  go_region
  have W3d := Lib.hid (W3.out.keep (gb_drew (gb_refl w3 none)))
  have D3d := Lib.hid (kept0 (gb_drew (gb_refl w3 none)) D3.out)
  clear c5_ d1_ W3 D3
  have W3 := W3d; have D3 := D3d
  clear W3d D3d
  generalize w3.drew = w3d at *
  go_upto_if 47 with fail
  obtain ⟨r, hr⟩ : ∃ r, sw s l n f (count + 1) (sh + a) (lo + a) on off pk = r := ⟨_, rfl⟩
  rw [hr] at HLK
  have HSW := Lib.hid hr
  clear hr
  go_cut [] from 6 (fun wc => ∃ ev', WinAt w0 p g E s l n f past (count + 1) r.1.on r.1.off r.1.pk (sh + a) (lo + a) o ev' (L ++ r.2) wc ∧ wc.heap[dz]? = some (.cells #[.int .i64 s, .int .i64 l, .int .i64 n, .int .i64 f] 31 (0, 0)))
  case first => as_aux_lemma =>
    by_cases hlc : l ≤ count + 1
    rotate_left
    · have e := HSW.out
      rw [show sw s l n f (count + 1) (sh + a) (lo + a) on off pk = (⟨on, off, pk⟩, []) from if_neg hlc] at e
      subst e
      go_wp2
      go_meet
      case rel => exact ⟨ev, by rw [List.append_nil]; exact W3.out, D3.out⟩
    have e1 := HSW.out
    rw [show sw s l n f (count + 1) (sh + a) (lo + a) on off pk = (if 0 ≤ on then (if reachB s l (sh + a) (lo + a) f then (⟨on, off, pk⟩, []) else (⟨-1, 0, 0⟩, [⟨on, count, pk⟩])) else (if reachB s l (sh + a) (lo + a) n then (⟨count, -1, 0⟩, []) else (⟨on, off, pk⟩, []))) by rw [sw, if_pos hlc, Int.add_sub_cancel]] at e1
    by_cases hon0 : 0 ≤ on
    · rw [if_pos hon0] at e1
      have hnl : ¬ on < 0 := by omega
      have hdn : decide (on < 0) = false := decide_eq_false hnl
      generalize hrb : reachB s l (sh + a) (lo + a) f = rb at *
      have HRB := Lib.hid hrb
      have HE1 := Lib.hid e1
      clear hrb e1
      have c6_ := cellD W3.out.win 6 _ rfl
      have c9_ := cellD W3.out.win 9 _ rfl
      have c10_ := cellD W3.out.win 10 _ rfl
      have d0_ := cellD D3.out 0 _ rfl
      have d1_ := cellD D3.out 1 _ rfl
      have d2_ := cellD D3.out 2 _ rfl
      have d3_ := cellD D3.out 3 _ rfl
      have up_ := fun (x : Up w3d) (k : Nat) => ever_cell x (o := k) (blkLt W3.out.win)
      have ud_ := fun (x : Up w3d) (k : Nat) => ever_cell x (o := k) (blkLt D3.out)
      go_wp2_with fail
      (refine wp_region_grown (by kernel_rfl) (by kernel_rfl) ?_; (repeat (go_big_quiet_step ((go_at_call 71; exact Calls.grown_of (RC.out _ _ _ _ (by omega) (by omega) (by omega)))))); refine wpQuiet_nil ?_; intro wq hq)
      have W4 := Lib.hid (W3.out.keep hq); have D4 := Lib.hid (kept0 hq D3.out)
      generalize wq = w4 at *
      clear hq W3 D3
      clear c6_ c9_ c10_ d0_ d1_ d2_ d3_ up_ ud_
      rw [HRB.out]
      cases rb
      rotate_left
      · have e := HE1.out
        rw [if_pos rfl] at e
        subst e
        have c6_ := cellD W4.out.win 6 _ rfl
        have c9_ := cellD W4.out.win 9 _ rfl
        have c10_ := cellD W4.out.win 10 _ rfl
        have d0_ := cellD D4.out 0 _ rfl
        have d1_ := cellD D4.out 1 _ rfl
        have d2_ := cellD D4.out 2 _ rfl
        have d3_ := cellD D4.out 3 _ rfl
        have up_ := fun (x : Up w4) (k : Nat) => ever_cell x (o := k) (blkLt W4.out.win)
        have ud_ := fun (x : Up w4) (k : Nat) => ever_cell x (o := k) (blkLt D4.out)
        go_wp2_with fail
        (refine wp_region_grown (by kernel_rfl) (by kernel_rfl) ?_; (repeat (go_big_quiet_step (fail))); refine wpQuiet_nil ?_; intro wq hq)
        have W5 := Lib.hid (W4.out.keep hq); have D5 := Lib.hid (kept0 hq D4.out)
        clear c6_ c9_ c10_ d0_ d1_ d2_ d3_ up_ ud_
        go_wp2
        go_meet
        case rel => exact ⟨ev, by rw [List.append_nil]; exact W5.out, D5.out⟩
      have e := HE1.out
      rw [if_neg (by decide)] at e
      subst e
      have c5_ := cellD W4.out.win 5 _ rfl
      have c7_ := cellD W4.out.win 7 _ rfl
      have cz_ := frozD W4.out.win
      have g5 : w4.grownBy (w4.setCell ⟨p, 7, none⟩ (.int .i64 (count))) (some p) := gb_setCell (a := ⟨p, 7, none⟩) (gb_refl _ _) (.inr rfl) _
      have W5 := Lib.hid (W4.out.turn (off' := count) g5 (set_block W4.out.win 7 _) (.inl ⟨rfl, rfl⟩))
      have D5 := Lib.hid (keptp g5 D4.out hlw)
      clear g5
      go_upto_region 7 with fail
      clear c5_ c7_ cz_ W4 D4
      generalize hw5 : w4.setCell ⟨p, 7, none⟩ _ = w5 at *
      clear hw5
      obtain ⟨ea, ec, hev⟩ := owns_slice W5.out.own
      subst hev
      have hq5 : ∀ g, (Value.slice ea L.length ec).ownBlock = some g → g < w5.heap.size := fun g hg => (W5.out.own.lt g hg).2
      have hze := blkLe W5.out.gr
      have k6_ := cellD W5.out.win 6 _ rfl
      have k7_ := cellD W5.out.win 7 _ rfl
      have k8_ := cellD W5.out.win 8 _ rfl
      have k11_ := cellD W5.out.win 11 _ rfl
      have up_ := fun (u : Cls (OwG (.slice ea L.length ec) w0.heap.size 41 3 L.length (flatT L) w5)) (k : Nat) => OwG.cell (blkLt W5.out.win) (fun e => W5.out.np e.symm) k u
      refine Rg.region (OwG (.slice ea L.length ec) w0.heap.size 41 3 L.length (flatT L) w5) (OwR (.slice ea L.length ec) 11) (fun k => if k = 10 then some (isOneO w5 #[.int .i64 on, .int .i64 (count), .int .i64 pk] 41) else if k = 11 then some (isGrownO w5 w0.heap.size 41 3 L.length (flatT L) (Tg.cells ⟨on, count, pk⟩) (.slice ea L.length ec)) else none) (fun _ => false) 0 12 (by kernel_rfl) (by kernel_rfl) (by kernel_rfl) (by kernel_rfl) (by kernel_rfl) (by kernel_rfl) (by kernel_rfl) OwR.size (OwG.start W5.out.own) (fun hne => ?_)
      (repeat (refine rLexL_quiet (by rfl) (by rfl) (by rfl) (by rfl) ?_; go_big_quiet_step (fail); refine wpQuiet_nil ?_))
      refine rLexL_val (.pointer (some ⟨p, 0, none⟩)) (by rfl) (by rfl) (by rfl) (by rfl) (fun _ => by go_simp) ?_
      simp only [Act.put, List.setIfInBounds_toArray, List.set_cons_zero, List.set_cons_succ]
      (repeat (refine rLexL_quiet (by rfl) (by rfl) (by rfl) (by rfl) ?_; go_big_quiet_step (fail); refine wpQuiet_nil ?_))
      refine rLexL_val (.pointer (some ⟨p, 0, none⟩)) (by rfl) (by rfl) (by rfl) (by rfl) (fun _ => by go_simp) ?_
      simp only [Act.put, List.setIfInBounds_toArray, List.set_cons_zero, List.set_cons_succ]
      (repeat (refine rLexL_quiet (by rfl) (by rfl) (by rfl) (by rfl) ?_; go_big_quiet_step (fail); refine wpQuiet_nil ?_))
      refine rg_litO (by decide) hq5 #[.int .i64 on, .int .i64 (count), .int .i64 pk] 41 rfl rfl (fun _ => by go_simp) (fun b10 hb10 => ?_)
      simp only [Act.put, List.setIfInBounds_toArray, List.set_cons_zero, List.set_cons_succ]
      (repeat (refine rLexL_quiet (by rfl) (by rfl) (by rfl) (by rfl) ?_; go_big_quiet_step (fail); refine wpQuiet_nil ?_))
      refine rg_pushO rfl hze (Tg.cells ⟨on, count, pk⟩) _ _ 46 41 (.agg #[.int .i64 0, .int .i64 0, .int .i64 0]) 24 Tryz.underlying46 Tryz.infoTrigT rfl (by decide) b10 10 rfl rfl rfl rfl rfl ⟨⟨10, .data⟩, by simp, rfl, rfl⟩ rfl rfl (by simp [Tg.cells, Value.oneCell']) (by omega) (by omega) (fun v11 u11 hv11 => ?_)
      obtain ⟨ea', ec', hev⟩ := owns_slice hv11.1
      subst hev
      simp only [Act.put, List.setIfInBounds_toArray, List.set_cons_zero, List.set_cons_succ]
      rintro wq ⟨hgq, hoq⟩ hf -
      obtain ⟨ho7, hb7⟩ := hf 11
      have hb7' : ∀ k, (Value.slice ea' (L.length + 1) ec').ownBlock = some k → (Value.slice ea L.length ec).ownBlock = some k ∨ w5.heap.size ≤ k := fun k hk => by
        rcases hb7 with h | h
        · exact .inl (h ▸ hk)
        · exact .inr (h k hk)
      have W7 := Lib.hid (W5.out.ended hgq ho7 hb7')
      have D7 := Lib.hid (keptp (gb_setCell (a := ⟨p, 11, none⟩) (gb_refl wq (some p)) (.inr rfl) (.slice ea' (L.length + 1) ec')) (keptv hgq D5.out (fun e => by have := hod.out dz e.symm; omega)) hlw)
      have x11_ := cellD (keptv hgq W5.out.win (fun e => W5.out.np e.symm)) 11 _ rfl
      have xz_ := frozD (keptv hgq W5.out.win (fun e => W5.out.np e.symm))
      clear hf hgq hoq ho7 hb7 hb7' hv11 W5 D5 up_ k6_ k7_ k8_ k11_ hne hq5
      go_upto_region 8 with fail
      clear x11_ xz_
      generalize wq.setCell ⟨p, 11, none⟩ (.slice ea' (L.length + 1) ec') = w7 at *
      have c6_ := cellD W7.out.win 6 _ rfl
      have c7_ := cellD W7.out.win 7 _ rfl
      have c8_ := cellD W7.out.win 8 _ rfl
      have cz_ := frozD W7.out.win
      have g8 : w7.grownBy (((w7.setCell ⟨p, 6, none⟩ (.int .i64 (-1))).setCell ⟨p, 7, none⟩ (.int .i64 0)).setCell ⟨p, 8, none⟩ (.int .i64 0)) (some p) := gb_setCell (a := ⟨p, 8, none⟩) (gb_setCell (a := ⟨p, 7, none⟩) (gb_setCell (a := ⟨p, 6, none⟩) (gb_refl _ _) (.inr rfl) _) (.inr rfl) _) (.inr rfl) _
      have W8 := Lib.hid (W7.out.turn (on' := -1) (off' := 0) (pk' := 0) g8 (set_block (set_block (set_block W7.out.win 6 _) 7 _) 8 _) (.inl ⟨rfl, rfl⟩))
      have D8 := Lib.hid (keptp g8 D7.out hlw)
      clear g8 W7 D7
      go_wp2
      go_meet
      case rel => exact ⟨_, W8.out, D8.out⟩
    · rw [if_neg hon0] at e1
      have hnl : on < 0 := by omega
      have hdn : decide (on < 0) = true := decide_eq_true hnl
      have hdp : decide (0 ≤ on) = false := decide_eq_false hon0
      generalize hrb : reachB s l (sh + a) (lo + a) n = rb at *
      have HRB := Lib.hid hrb
      have HE1 := Lib.hid e1
      clear hrb e1
      have c6_ := cellD W3.out.win 6 _ rfl
      have c9_ := cellD W3.out.win 9 _ rfl
      have c10_ := cellD W3.out.win 10 _ rfl
      have d0_ := cellD D3.out 0 _ rfl
      have d1_ := cellD D3.out 1 _ rfl
      have d2_ := cellD D3.out 2 _ rfl
      have d3_ := cellD D3.out 3 _ rfl
      have up_ := fun (x : Up w3d) (k : Nat) => ever_cell x (o := k) (blkLt W3.out.win)
      have ud_ := fun (x : Up w3d) (k : Nat) => ever_cell x (o := k) (blkLt D3.out)
      go_wp2_with fail
      (refine wp_region_grown (by kernel_rfl) (by kernel_rfl) ?_; (repeat (go_big_quiet_step (fail))); refine wpQuiet_nil ?_; intro wq hq)
      have W4 := Lib.hid (W3.out.keep hq); have D4 := Lib.hid (kept0 hq D3.out)
      generalize wq = w4 at *
      clear hq W3 D3
      clear c6_ c9_ c10_ d0_ d1_ d2_ d3_ up_ ud_
      have c6_ := cellD W4.out.win 6 _ rfl
      have c9_ := cellD W4.out.win 9 _ rfl
      have c10_ := cellD W4.out.win 10 _ rfl
      have d0_ := cellD D4.out 0 _ rfl
      have d1_ := cellD D4.out 1 _ rfl
      have d2_ := cellD D4.out 2 _ rfl
      have d3_ := cellD D4.out 3 _ rfl
      have up_ := fun (x : Up w4) (k : Nat) => ever_cell x (o := k) (blkLt W4.out.win)
      have ud_ := fun (x : Up w4) (k : Nat) => ever_cell x (o := k) (blkLt D4.out)
      go_wp2_with fail
      (refine wp_region_grown (by kernel_rfl) (by kernel_rfl) ?_; (repeat (go_big_quiet_step ((go_at_call 71; exact Calls.grown_of (RC.out _ _ _ _ (by omega) (by omega) (by omega)))))); refine wpQuiet_nil ?_; intro wq hq)
      have W5 := Lib.hid (W4.out.keep hq); have D5 := Lib.hid (kept0 hq D4.out)
      generalize wq = w5 at *
      clear hq W4 D4
      clear c6_ c9_ c10_ d0_ d1_ d2_ d3_ up_ ud_
      rw [HRB.out]
      cases rb
      · have e := HE1.out
        rw [if_neg (by decide)] at e
        subst e
        go_wp2
        go_meet
        case rel => exact ⟨ev, by rw [List.append_nil]; exact W5.out, D5.out⟩
      · have e := HE1.out
        rw [if_pos rfl] at e
        subst e
        have c5_ := cellD W5.out.win 5 _ rfl
        have c6_ := cellD W5.out.win 6 _ rfl
        have c7_ := cellD W5.out.win 7 _ rfl
        have c8_ := cellD W5.out.win 8 _ rfl
        have cz_ := frozD W5.out.win
        have g8 : w5.grownBy (((w5.setCell ⟨p, 6, none⟩ (.int .i64 count)).setCell ⟨p, 7, none⟩ (.int .i64 (-1))).setCell ⟨p, 8, none⟩ (.int .i64 0)) (some p) := gb_setCell (a := ⟨p, 8, none⟩) (gb_setCell (a := ⟨p, 7, none⟩) (gb_setCell (a := ⟨p, 6, none⟩) (gb_refl _ _) (.inr rfl) _) (.inr rfl) _) (.inr rfl) _
        have W8 := Lib.hid (W5.out.turn (on' := count) (off' := -1) (pk' := 0) g8 (set_block (set_block (set_block W5.out.win 6 _) 7 _) 8 _) (.inl ⟨rfl, rfl⟩))
        have D8 := Lib.hid (keptp g8 D5.out hlw)
        clear g8 W5 D5
        go_wp2
        go_meet
        case rel => exact ⟨ev, by rw [List.append_nil]; exact W8.out, D8.out⟩
  case rest => as_aux_lemma =>
    obtain ⟨ev', hw4, hd4⟩ := hcut
    obtain ⟨⟨ron, roff, rpk⟩, rL⟩ := r
    simp only at hw4 HLK
    have W4 := Lib.hid hw4; have D4 := Lib.hid hd4
    clear hw4 hd4 W3 D3 HSW RC
    have c6_ := cellD W4.out.win 6 _ rfl
    go_upto_if 140 with fail
    go_cut [] from 6 (fun wc => WinAt w0 p g E s l n f past (count + 1) ron roff (pkM ron rpk a) (sh + a) (lo + a) o ev' (L ++ rL) wc ∧ wc.heap[dz]? = some (.cells #[.int .i64 s, .int .i64 l, .int .i64 n, .int .i64 f] 31 (0, 0)))
    case first => as_aux_lemma =>
      by_cases hro : 0 ≤ ron
      · have c8_ := cellD W4.out.win 8 _ rfl
        have cz_ := frozD W4.out.win
        have e8 : pkM ron rpk a = max rpk a := if_pos hro
        have g5 : wc.grownBy (wc.setCell ⟨p, 8, none⟩ (.int .i64 (max rpk a))) (some p) := gb_setCell (a := ⟨p, 8, none⟩) (gb_refl _ _) (.inr rfl) _
        have W5 := Lib.hid (W4.out.turn (pk' := max rpk a) g5 (set_block W4.out.win 8 _) (.inl ⟨rfl, rfl⟩))
        have D5 := Lib.hid (keptp g5 D4.out hlw)
        have E8 := Lib.hid e8
        clear g5 e8
        obtain ⟨m, hm⟩ : ∃ m, max rpk a = m := ⟨_, rfl⟩
        rw [hm] at W5 D5 E8
        have HM := Lib.hid hm
        clear hm
        go_wp2
        all_goals go_meet
        all_goals
          have hM := HM.out
          first
          | (obtain rfl : m = rpk := by omega
             exact ⟨by rw [E8.out]; exact W5.out, D5.out⟩)
          | (obtain rfl : m = a := by omega
             exact ⟨by rw [E8.out]; exact W5.out, D5.out⟩)
      · have e8 : pkM ron rpk a = rpk := if_neg hro
        have E8 := Lib.hid e8
        clear e8
        go_wp2
        go_meet
        case rel => exact ⟨by rw [E8.out]; exact W4.out, D4.out⟩
    case rest => as_aux_lemma =>
      clear W4 D4 c6_
      obtain ⟨hw6, hd6⟩ := hcut
      have W6 := Lib.hid hw6; have D6 := Lib.hid hd6
      clear hw6 hd6
      generalize pkM ron rpk a = npk at *
      have c4_ := cellD W6.out.win 4 _ rfl
      have cz_ := frozD W6.out.win
      have hcap : past.length + 1 ≤ E - o := by omega
      obtain ⟨cur, hg1, hcs, -⟩ := W6.out.row
      have hgz := blkLt hg1
      obtain ⟨cv, hcv⟩ : ∃ cv, cur[o + past.length]? = some cv := ⟨_, Array.getElem?_eq_getElem (by omega)⟩
      have q_ : wc.cell? ⟨g, o + past.length, none⟩ = some cv := cellD hg1 _ _ hcv
      have qz_ : wc.frozen? ⟨g, o + past.length, none⟩ = false := frozD hg1 _
      have hpg : ¬ p = g := W6.out.pg
      have hgp : ¬ g = p := fun e => W6.out.pg e.symm
      have hpz := blkLt W6.out.win
      have W7 := Lib.hid (W6.out.grow (a := a) (X := .cells #[.int .i64 a] 3) (by omega))
      have D7 := Lib.hid (heapOld (o := .cells #[.int .i64 a] 3) (keptp (gb_setCell (a := ⟨p, 4, none⟩) (gb_refl (wc.setCell ⟨g, o + past.length, none⟩ (.int .i64 a)) (some p)) (.inr rfl) (.slice (some ⟨g, o, none⟩) (past.length + 1) (E - o))) (keptp (gb_setCell (a := ⟨g, o + past.length, none⟩) (gb_refl wc (some g)) (.inr rfl) (.int .i64 a)) D6.out (show dz ≠ g by omega)) hlw))
      have HPL := Lib.hid (shS_push (S := s.toNat) past a (by omega))
      clear hg1 hcs hcv
      go_upto_region 14 with fail
      generalize (((wc.setCell ⟨g, o + past.length, none⟩ (.int .i64 a)).setCell ⟨p, 4, none⟩ (.slice (some ⟨g, o, none⟩) (past.length + 1) (E - o))).alloc (.cells #[.int .i64 a] 3)) = w7 at *
      clear W6 D6 c4_ cz_ q_ qz_
      have hql : (past ++ [a]).length = past.length + 1 := by simp
      have HQ0 : Hid (past ++ [a] = past ++ [a]) := Lib.hid rfl
      obtain ⟨S, hS⟩ : ∃ S : Nat, s = (S : Int) := ⟨s.toNat, by omega⟩
      subst hS
      rw [Int.toNat_natCast] at HPL
      obtain ⟨q, hq⟩ : ∃ q, past ++ [a] = q := ⟨_, rfl⟩
      rw [hq] at W7 HPL hql HLK
      have HQ := Lib.hid hq
      have HQL := Lib.hid hql
      have hqb : q.length ≤ 9 ∧ 1 ≤ q.length := by omega
      have HSQ : Hid (q.sum = lo + a) := Lib.hid (by rw [← hq, List.sum_append, HL.out]; simp)
      have HQB : Hid (∀ k : Nat, 0 ≤ q[k]?.getD 0 ∧ q[k]?.getD 0 ≤ 1000) := Lib.hid (fun k => by
        cases e : q[k]? with
        | none => simp
        | some y =>
          have hm := List.mem_of_getElem? e
          rw [← hq] at hm
          rcases List.mem_append.1 hm with h | h
          · exact HX.out y h
          · simp at h; subst h; exact hab)
      clear hq hql HQ0
      have c4_ := cellD W7.out.win 4 _ rfl
      have d0_ := cellD D7.out 0 _ rfl
      go_upto_if 175 with fail
      clear c4_ d0_
      go_cut [] from 6 (fun wc => WinAt w0 p g E S l n f q (count + 1) ron roff npk (shS S q) (lo + a) o ev' (L ++ rL) wc ∧ wc.heap[dz]? = some (.cells #[.int .i64 S, .int .i64 l, .int .i64 n, .int .i64 f] 31 (0, 0)))
      case first => as_aux_lemma =>
        by_cases hsn : S ≤ q.length
        · have hsq : S ≤ past.length + 1 := by have := HQL.out; omega
          have e9 := HPL.out.trans (if_pos hsq)
          rw [HS.out] at e9
          obtain ⟨y, hy⟩ : ∃ y, q[past.length + 1 - S]?.getD 0 = y := ⟨_, rfl⟩
          rw [hy] at e9
          have wi_ : (q.length : Int) - (S : Int) = ((q.length - S : Nat) : Int) := by omega
          obtain ⟨cur, hg1, hcs, hcc⟩ := W7.out.row
          have q_ : w7.cell? ⟨g, o + (q.length - S), none⟩ = some (.int .i64 y) := cellD hg1 _ _ (by rw [hcc _ (by omega), show q.length - S = past.length + 1 - S by have := HQL.out; omega, hy])
          have E9 := Lib.hid e9
          have hys : 0 ≤ y ∧ y ≤ 1000 := by
            rw [← hy]
            exact HQB.out _
          clear hg1 hcs hcc e9 hy
          have c4_ := cellD W7.out.win 4 _ rfl
          have c9_ := cellD W7.out.win 9 _ rfl
          have cz_ := frozD W7.out.win
          have d0_ := cellD D7.out 0 _ rfl
          have g8 : w7.grownBy ((w7.setCell ⟨p, 9, none⟩ (.int .i64 (sh + a - y))).drew) (some p) := gb_drew (gb_setCell (a := ⟨p, 9, none⟩) (gb_refl _ _) (.inr rfl) _)
          have W8 := Lib.hid (W7.out.turn (sh' := sh + a - y) g8 (set_block W7.out.win 9 _) (.inl ⟨rfl, rfl⟩))
          have D8 := Lib.hid (keptp g8 D7.out hlw)
          clear g8
          go_wp2_with fail
          go_region
          go_wp2
          go_meet
          case rel => exact ⟨by rw [E9.out]; exact W8.out, D8.out⟩
        · have e9 := HPL.out.trans (if_neg (by have := HQL.out; omega))
          rw [HS.out] at e9
          have E9 := Lib.hid e9
          clear e9
          go_wp2
          go_meet
          case rel => exact ⟨by rw [E9.out]; exact W7.out, D7.out⟩
      case rest => as_aux_lemma =>
        clear W7 D7
        obtain ⟨hw9, hd9⟩ := hcut
        have W9 := Lib.hid hw9; have D9 := Lib.hid hd9
        clear hw9 hd9 HPL
        have hsumb : 0 ≤ lo + a ∧ lo + a ≤ 9000 := by omega
        have c4_ := cellD W9.out.win 4 _ rfl
        have d1_ := cellD D9.out 1 _ rfl
        go_wp2_with fail
        go_region
        by_cases hqe : (q.length : Int) = l
        · have hqe' : q.length = l.toNat := by omega
          have hct : cutP l q = q.tail := if_pos hqe
          rw [hct] at HLK
          have HST := Lib.hid (shS_tail (S := S) q (by omega) (by omega))
          have HTT := Lib.hid (sum_tail q (by omega))
          have HTL := Lib.hid (List.length_tail (l := q))
          have hT0 : 0 < q.length := by omega
          obtain ⟨y, hy⟩ : ∃ y, q[0]?.getD 0 = y := ⟨_, rfl⟩
          rw [hy] at HTT
          have hys : 0 ≤ y ∧ y ≤ 1000 := by rw [← hy]; exact HQB.out _
          obtain ⟨cur, hg1, hcs, hcc⟩ := W9.out.row
          have q_ : wc.cell? ⟨g, o, none⟩ = some (.int .i64 y) := cellD hg1 _ _ (by have := hcc 0 (by omega); rw [Nat.add_zero] at this; rw [this, hy])
          clear hg1 hcs hcc hy c4_ d1_ hct
          have hcap1 : 1 < E - o := by have := HQL.out; omega
          have c4_ := cellD W9.out.win 4 _ rfl
          have c10_ := cellD W9.out.win 10 _ rfl
          have cz_ := frozD W9.out.win
          have g8 : wc.grownBy ((wc.setCell ⟨p, 10, none⟩ (.int .i64 (lo + a - y))).drew) (some p) := gb_drew (gb_setCell (a := ⟨p, 10, none⟩) (gb_refl _ _) (.inr rfl) _)
          have W10 := Lib.hid (W9.out.turn (lo' := lo + a - y) g8 (set_block W9.out.win 10 _) (.inl ⟨rfl, rfl⟩))
          clear g8 hqe'
          go_wp2_with fail
          go_region
          clear W9 D9 c4_ c10_ cz_ q_
          have W11 := Lib.hid (W10.out.keep (gb_drew (gb_refl _ none)))
          clear W10
          generalize (wc.setCell ⟨p, 10, none⟩ (.int .i64 (lo + a - y))).drew.drew = w10 at *
          have c4_ := cellD W11.out.win 4 _ rfl
          have cz_ := frozD W11.out.win
          have g12 : w10.grownBy (w10.setCell ⟨p, 4, none⟩ (.slice (some ⟨g, o + 1, none⟩) (q.length - 1) (E - o - 1))) (some p) := gb_setCell (a := ⟨p, 4, none⟩) (gb_refl _ _) (.inr rfl) _
          have W12 := Lib.hid (W11.out.turn (past' := q.tail) (o' := o + 1) g12 (by have e := set_block W11.out.win 4 (.slice (some ⟨g, o + 1, none⟩) (q.length - 1) (E - o - 1)); rw [List.length_tail, show E - (o + 1) = E - o - 1 by omega]; exact e) (.inr ⟨rfl, rfl, hT0⟩))
          clear g12
          go_wp2_with fail
          refine bodyPost_end (v := .tuple #[]) (by simp [results, Tryz.results40, go_sem]) rfl ⟨rfl, ?_⟩
          rw [HLK.out]
          exact ⟨o + 1, ev', by simp only []; rw [HTL.out]; have := HQL.out; omega, by simp only []; rw [HST.out, HTT.out, HSQ.out]; exact W12.out⟩
        · have hct : cutP l q = q := if_neg hqe
          rw [hct] at HLK
          clear hct
          go_wp2_with fail
          refine bodyPost_end (v := .tuple #[]) (by simp [results, Tryz.results40, go_sem]) rfl ⟨rfl, ?_⟩
          rw [HLK.out]
          exact ⟨o, ev', by simp only []; have := HQL.out; omega, by simp only []; rw [HSQ.out]; exact W9.out.keep (gb_drew (gb_refl _ none))⟩
