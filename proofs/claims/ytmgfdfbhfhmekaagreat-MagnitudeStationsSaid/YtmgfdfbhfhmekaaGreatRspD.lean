/- keep.Src.Response. Written by gen_rspd.py. -/
import Derived.Test.YtmgfdfbhfhmekaaGreatMem
import Derived.Test.YtmgfdfbhfhmekaaGreatRsp2
import Derived.Test.YtmgfdfbhfhmekaaGreatNatT
import Derived.Maps.AppendAt
namespace Go.Proofs.YtmgfdfbhfhmekaaGreat
set_option linter.all false
open Go.RowKit Rg

theorem wpList_push32 {P : Program} {w : World} {ops : Array Oper} {rest : List Oper} {o : Oper} {a : Act} {Q : Exit → Act → World → Prop} (hgd : o.guard = none) (s x : Operand) (t : TypeId)
    (ho : o.op = .call { callee := .builtin .append, args := #[s, x], argTypes := #[t, t] })
    (base : Nat) (e : TypeId) (z : Value) (size bytes : Nat) (ht : P.underlying t = some (.slice e)) (hinfo : (P.info? e).map (fun i => (i.zero, i.size, i.bytes)) = some (some z, size, bytes)) (hzs : z.cells.size = size) (hsz : 0 < size) (hby : 0 < bytes)
    (v : Value) (n : Nat) (xs : List Value) (hs : a.eval s = v) (hown : w.ownsRow base e size v n xs)
    (b c : Nat) (news : List Value) (e' : TypeId) (hx : a.eval x = .slice (some ⟨b, 0, none⟩) 1 c) (hblk : w.heap[b]? = some (.cells news.toArray e' (0, 0))) (hl : news.length = size) (h1 : ∀ u ∈ news, u.oneCell' = true)
    (hbytes : (n + 1) * bytes ≤ 140737488355328) (hbase : base ≤ w.heap.size)
    (h : ∀ v' w', w'.ownsRow base e size v' (n + 1) (xs ++ news) → w.grownBy w' v.ownBlock → (v'.ownBlock = v.ownBlock ∨ v'.ownBlock = some w.heap.size) → wpList P ops Q rest (a.put o.dst v') w') : wpList P ops Q (o :: rest) a w := by
  obtain ⟨i0, hi, hz0, hz1, hz2⟩ := info_parts hinfo
  refine wpList_append_own_at w hgd s x t ho base e i0 z size bytes ht hi hz0 hz1 hz2 hzs hsz v n xs hs hown ⟨b, 0, none⟩ 1 c news hx (by omega) ?_ h1 ?_ hbytes hbase (fun v' w' h2 h3 _ h4 => h v' w' h2 h3 h4)
  · intro j u hj
    have hadd : (⟨b, 0, none⟩ : Addr).add j = ⟨b, j, none⟩ := by unfold Addr.add; split <;> simp_all
    rw [hadd]
    simp [World.cell?, hblk]
    exact hj
  · have := Nat.le_mul_of_pos_right (n + 1) hby
    simp only [maxLen]; omega
theorem pick32 (B : Nat) (w : World) (p : Nat) (xs : List Int) (n : Nat) (hn : xs.length = n) (cs : Array Value) (hcs : (xs.map (Value.int .i64)).toArray = cs) (e : TypeId) (h : Src B w p) (g : Nat) (hz : w.heap.size = g) (h0 : 0 < xs.length) (hl : xs.length ≤ 1000) :
    Calls Tryz.prog 12 #[.pointer (some ⟨p, 0, none⟩), .slice (some ⟨g, 0, none⟩) n n] (w.alloc (.cells cs e)) (fun r w' => ∃ x : Int, r = .returned (.int .i64 x) ∧ x ∈ xs ∧ Src B w' p ∧ w.grownBy w' (some p)) := by
  subst hz; subst hn; subst hcs
  have hp := h.lt.2
  have hs : Sl (w.alloc (.cells (xs.map (Value.int .i64)).toArray e)) (.slice (some ⟨w.heap.size, 0, none⟩) xs.length xs.length) xs :=
    .inr ⟨w.heap.size, 0, xs.length, rfl, by simp, Nat.le_refl _, by omega, fun k hk => by rw [cell_new]; simp [hk]⟩
  refine (pick_any B _ p _ xs (h.later (gb_alloc (gb_refl w none) _) (by simp)) hs h0 hl (fun b off len cap he => by simp at he; omega)).mono ?_
  rintro r w' ⟨x, rfl, hx, hS, hg⟩
  exact ⟨x, rfl, hx, hS, gb_trans (gb_none (gb_alloc (gb_refl w none) _)) hg⟩

structure RsAt (w : World) (B p R O : Nat) (L : List Stv) (v : Value) (u : World) : Prop where
  var : u.heap[R]? = some (.cells #[v] 29 (0, 0))
  out : u.heap[O]? = some (.cells #[.slice none 0 0] 29 (0, 0))
  own : u.ownsRow w.heap.size 53 10 v L.length (flatS L)
  taps : ∀ x ∈ L, Sl u x.tv x.s.taps ∧ ∀ b off len cap, x.tv = .slice (some ⟨b, off, none⟩) len cap → w.heap.size ≤ b ∧ b < u.heap.size ∧ v.ownBlock ≠ some b
  src : Src B u p
  gr : w.grownBy u (some p)
  rw : w.heap.size ≤ R
  ow : w.heap.size ≤ O
  ne : R ≠ O
  pw : p < w.heap.size
theorem RsAt.draw {w : World} {B p R O : Nat} {L : List Stv} {v : Value} {u u' : World} (h : RsAt w B p R O L v u) (hg : u.grownBy u' (some p)) (hs : Src B u' p) : RsAt w B p R O L v u' := by
  have h1 := h.rw; have h2 := h.ow; have h3 := h.pw
  refine ⟨block_keptp hg h.var (by omega), block_keptp hg h.out (by omega), owns_keepp h.own hg (by omega), fun x hx => ?_, hs, gb_trans h.gr hg, h1, h2, h.ne, h3⟩
  obtain ⟨t1, t2⟩ := h.taps x hx
  refine ⟨t1.later hg (fun b off len cap e _ => by have := (t2 b off len cap e).1; simp; omega), fun b off len cap e => ?_⟩
  obtain ⟨a1, a2, a3⟩ := t2 b off len cap e
  exact ⟨a1, Nat.lt_of_lt_of_le a2 hg.size, a3⟩
theorem RsAt.later {w : World} {B p R O : Nat} {L : List Stv} {v : Value} {u u' : World} (h : RsAt w B p R O L v u) (hg : u.grownBy u' none) : RsAt w B p R O L v u' := h.draw (gb_none hg) (h.src.later hg (by simp))
theorem slice_no_int {v : Value} (hv : ∃ a n c, v = .slice a n c) : ∀ (j : Nat) (x : Int), (#[v] : Array Value)[j]? ≠ some (.int .i64 x) := by
  obtain ⟨a, n, c, rfl⟩ := hv
  intro j x
  match j with
  | 0 => simp
  | j + 1 => simp
theorem RsAt.other {w : World} {B p R O : Nat} {L : List Stv} {v : Value} {u : World} (h : RsAt w B p R O L v u) (b k : Nat) (x : Value) (hw : w.heap.size ≤ b) (hR : b ≠ R) (hO : b ≠ O) (hv : v.ownBlock ≠ some b) (ht : ∀ x ∈ L, ∀ b' off len cap, x.tv = .slice (some ⟨b', off, none⟩) len cap → b' ≠ b) : RsAt w B p R O L v (u.setCell ⟨b, k, none⟩ x) := by
  have g : u.grownBy (u.setCell ⟨b, k, none⟩ x) (some b) := gb_setCell (gb_refl _ _) (.inr rfl) _
  have hpw := h.pw
  refine ⟨(setCell_far (a := ⟨b, k, none⟩) (Ne.symm hR)).trans h.var, (setCell_far (a := ⟨b, k, none⟩) (Ne.symm hO)).trans h.out, h.own.kept g (.inr hv), fun y hy => ?_, h.src.later g (fun q hq => by simp at hq; have := h.src.lt; omega), gb_setCell h.gr (.inl hw) _, h.rw, h.ow, h.ne, h.pw⟩
  obtain ⟨t1, t2⟩ := h.taps y hy
  refine ⟨t1.later g (fun b' off len cap e _ => by have := ht y hy b' off len cap e; simpa using this), fun b' off len cap e => ?_⟩
  obtain ⟨a1, a2, a3⟩ := t2 b' off len cap e
  exact ⟨a1, Nat.lt_of_lt_of_le a2 g.size, a3⟩
theorem RsAt.varKept {w : World} {B p R O : Nat} {L : List Stv} {v : Value} {u u6 : World} (h : RsAt w B p R O L v u) (hg : u.grownBy u6 v.ownBlock) : u6.heap[R]? = some (.cells #[v] 29 (0, 0)) := by
  refine (hg.block R (Array.getElem?_eq_some_iff.1 h.var).1 (fun e => ?_)).trans h.var
  have hb := h.var
  rcases h.own.2 with ⟨rfl, -⟩ | ⟨g, cap, cur, rfl, -, hh, -⟩
  · simp [Value.ownBlock] at e
  · simp [Value.ownBlock] at e
    subst e
    rw [hh] at hb
    simp at hb
theorem RsAt.push {w : World} {B p R O : Nat} {L : List Stv} {v v' : Value} {u u6 : World} {x : Stv} (h : RsAt w B p R O L v u) (hown : u6.ownsRow w.heap.size 53 10 v' (L.length + 1) (flatS L ++ x.cells)) (hg : u.grownBy u6 v.ownBlock)
    (hv : v'.ownBlock = v.ownBlock ∨ v'.ownBlock = some u.heap.size) (ht : Sl u x.tv x.s.taps) (htb : ∀ b off len cap, x.tv = .slice (some ⟨b, off, none⟩) len cap → w.heap.size ≤ b ∧ b < u.heap.size ∧ v.ownBlock ≠ some b) :
    RsAt w B p R O (L ++ [x]) v' (u6.setCell ⟨R, 0, none⟩ v') := by
  have hpw := h.pw; have hrw := h.rw; have hlt := h.src.lt
  -- the row's block is neither R nor O: the types differ
  have key : ∀ (y : Value) (m : Nat) (ys : List Value) (uu : World) (b : Nat) (cs : Array Value), uu.ownsRow w.heap.size 53 10 y m ys → uu.heap[b]? = some (.cells cs 29 (0, 0)) → y.ownBlock ≠ some b := by
    intro y m ys uu b cs ho hb e
    rcases ho.2 with ⟨rfl, -⟩ | ⟨g, cap, cur, rfl, -, hh, -⟩
    · simp [Value.ownBlock] at e
    · simp [Value.ownBlock] at e
      subst e
      rw [hh] at hb
      simp at hb
  have hvR := key _ _ _ _ _ _ h.own h.var
  have hvO := key _ _ _ _ _ _ h.own h.out
  have var6 : u6.heap[R]? = some (.cells #[v] 29 (0, 0)) := (hg.block R (Array.getElem?_eq_some_iff.1 h.var).1 (fun e => hvR e.symm)).trans h.var
  have out6 : u6.heap[O]? = some (.cells #[.slice none 0 0] 29 (0, 0)) := (hg.block O (Array.getElem?_eq_some_iff.1 h.out).1 (fun e => hvO e.symm)).trans h.out
  have hv'R := key _ _ _ _ _ _ hown var6
  have g6 : u6.grownBy (u6.setCell ⟨R, 0, none⟩ v') (some R) := gb_setCell (gb_refl _ _) (.inr rfl) _
  have hvs : ∃ a n c, v = .slice a n c := by obtain ⟨a, c, e⟩ := owns_slice h.own; exact ⟨a, _, c, e⟩
  have tap : ∀ (y : Stv), Sl u y.tv y.s.taps → (∀ b off len cap, y.tv = .slice (some ⟨b, off, none⟩) len cap → w.heap.size ≤ b ∧ b < u.heap.size ∧ v.ownBlock ≠ some b) →
      Sl (u6.setCell ⟨R, 0, none⟩ v') y.tv y.s.taps ∧ ∀ b off len cap, y.tv = .slice (some ⟨b, off, none⟩) len cap → w.heap.size ≤ b ∧ b < (u6.setCell ⟨R, 0, none⟩ v').heap.size ∧ v'.ownBlock ≠ some b := by
    intro y t1 t2
    have s6 : Sl u6 y.tv y.s.taps := t1.later hg (fun b off len cap e _ => fun e2 => (t2 b off len cap e).2.2 e2.symm)
    have nR := s6.ne_block var6 (slice_no_int hvs)
    refine ⟨s6.setCell nR, fun b off len cap e => ?_⟩
    obtain ⟨a1, a2, a3⟩ := t2 b off len cap e
    refine ⟨a1, Nat.lt_of_lt_of_le (Nat.lt_of_lt_of_le a2 hg.size) g6.size, fun e2 => ?_⟩
    rcases hv with hv | hv
    · exact a3 (hv ▸ e2)
    · rw [hv] at e2; simp at e2; omega
  refine ⟨?_, (setCell_far (a := ⟨R, 0, none⟩) (Ne.symm h.ne)).trans out6, ?_, ?_, ?_, ?_, hrw, h.ow, h.ne, hpw⟩
  · exact set_block var6 0 v'
  · have e : flatS (L ++ [x]) = flatS L ++ x.cells := by simp [flatS]
    rw [e, List.length_append]
    exact hown.kept g6 (.inr hv'R)
  · intro y hy
    rcases List.mem_append.1 hy with hy | hy
    · exact tap y (h.taps y hy).1 (h.taps y hy).2
    · simp only [List.mem_singleton] at hy; subst hy; exact tap y ht htb
  · refine (h.src.later hg (fun q hq => ?_)).later g6 (fun q hq => by simp at hq; omega)
    have := (h.own.lt q hq).1
    omega
  · have g2 : w.grownBy u6 (some p) := ⟨hg.os.trans h.gr.os, hg.tape.trans h.gr.tape, hg.output.trans h.gr.output, Nat.le_trans h.gr.size hg.size, fun i hi hr => (hg.block i (Nat.lt_of_lt_of_le hi h.gr.size) (fun e => by have := (h.own.lt i e.symm).1; omega)).trans (h.gr.block i hi hr)⟩
    exact gb_setCell g2 (.inl hrw) _
theorem Tryz.infoStage : (Tryz.prog.info? 53).map (fun i => (i.zero, i.size, i.bytes)) = some (some (.agg #[.int .i64 0, .int .i64 0, .int .i64 0, .int .i64 0, .int .i64 0, .int .i64 0, .int .i64 0, .slice none 0 0, .int .i64 0, .int .i64 0]), 10, 96) := by kernel_rfl
/-- A response is returned, in new memory. -/
def NewResp (B p : Nat) (w : World) (e : Ending) (w' : World) : Prop :=
  ∃ (L : List Stv) (v : Value), e = .returned (.agg #[v]) ∧ StIn w' v L ∧ L.length ≤ 3 ∧ (∀ b off len cap, v = .slice (some ⟨b, off, none⟩) len cap → w.heap.size ≤ b) ∧ (∀ x ∈ L, ∀ b off len cap, x.tv = .slice (some ⟨b, off, none⟩) len cap → w.heap.size ≤ b) ∧ Src B w' p ∧ w.grownBy w' (some p)
set_option maxRecDepth 100000 in
set_option maxHeartbeats 8000000 in
theorem resp_any (B : Nat) (w : World) (p : Nat) (h : Src B w p) (hp : p < w.heap.size) :
    Calls Tryz.prog 9 #[.pointer (some ⟨p, 0, none⟩)] w (NewResp B p w) := by
  have g1 := gb_alloc (gb_refl w none) (.cells #[.slice none 0 0] 29)
  have b1 := heap_alloc_new w (.cells #[.slice none 0 0] 29)
  have l1 : (w.alloc (.cells #[.slice none 0 0] 29)).heap.size = w.heap.size + 1 := by simp
  have g2 := gb_alloc (gb_refl (w.alloc (.cells #[.slice none 0 0] 29)) none) (.cells #[.slice none 0 0] 29)
  have b2 := heap_alloc_new (w.alloc (.cells #[.slice none 0 0] 29)) (.cells #[.slice none 0 0] 29)
  rw [l1] at b2
  have A2 : Hid (RsAt w B p (w.heap.size + 1) w.heap.size [] (.slice none 0 0) ((w.alloc (.cells #[.slice none 0 0] 29)).alloc (.cells #[.slice none 0 0] 29))) := Lib.hid
    ⟨b2, block_kept g2 b1 rfl, World.ownsRow_nil _ _ _ _, fun x hx => by simp at hx, (h.later g1 (by simp)).later g2 (by simp), gb_none (gb_trans g1 g2), by omega, Nat.le_refl _, by omega, hp⟩
  clear g1 b1 l1 g2 b2 h
  go_enter Tryz.func9, Tryz.ntmps9
  go_wp2_with fail
  generalize (w.alloc (.cells #[.slice none 0 0] 29)).alloc (.cells #[.slice none 0 0] 29) = w2 at *
  generalize hz : w.heap.size = O at *
  have HZ := Lib.hid hz; clear hz
  (with_reducible refine (n_any B w2 p 4 A2.out.src (by omega) (by omega)).mono ?_)
  rintro e w3 ⟨kn, rfl, ⟨hk0, hk1⟩, hS, hg⟩
  have A3 := Lib.hid (A2.out.draw hg hS)
  obtain ⟨k, rfl⟩ : ∃ k : Nat, kn = k := ⟨kn.toNat, by omega⟩
  have HK : Hid (k ≤ 3) := Lib.hid (by omega)
  clear hS hg A2 hk0 hk1
  go_wp2_with fail
  go_loopw [4, 5] (fun kv _ wr => ∃ (j : Nat) (L : List Stv) (v : Value), j + L.length ≤ 3 ∧ kv = .int .i64 j ∧ RsAt w B p (O + 1) O L v wr) (fun kv _ _ => (intOf kv).toNat)
  case atStart => exact ⟨k, [], _, by have := HK.out; simpa using this, rfl, A3.out⟩
  case round =>
    obtain ⟨j, L, v, hjL, rfl, hA⟩ := hrel
    have HA := Lib.hid hA
    have HJL := Lib.hid hjL
    clear hA hjL
    by_cases hj : 0 < j
    · have hj' : decide ((j : Int) > 0) = true := decide_eq_true (by omega)
      go_wp2_with fail
      (with_reducible refine (n_any B wr p 3 HA.out.src (by omega) (by omega)).mono ?_)
      rintro e wa ⟨c, rfl, ⟨hc0, hc1⟩, hS, hg⟩
      have A4 := Lib.hid (HA.out.draw hg hS)
      clear hS hg HA
      have gx := gb_alloc (gb_refl wa none) (.cells #[.int .i64 c, .int .i64 0, .int .i64 0, .int .i64 0, .int .i64 0, .int .i64 0, .int .i64 0, .slice none 0 0, .int .i64 0, .int .i64 0] 53)
      have A5 := Lib.hid (A4.out.later gx)
      have X5 := Lib.hid (heap_alloc_new wa (.cells #[.int .i64 c, .int .i64 0, .int .i64 0, .int .i64 0, .int .i64 0, .int .i64 0, .int .i64 0, .slice none 0 0, .int .i64 0, .int .i64 0] 53))
      have HXO : Hid (wa.heap.size ≠ O + 1 ∧ wa.heap.size ≠ O ∧ O ≤ wa.heap.size ∧ p < wa.heap.size) := Lib.hid (by
        have h1 := block_lt' A4.out.var; have h2 := block_lt' A4.out.out; have h3 := A4.out.src.lt; omega)
      have HXV : Hid (v.ownBlock ≠ some wa.heap.size ∧ ∀ x ∈ L, ∀ b' off len cap, x.tv = .slice (some ⟨b', off, none⟩) len cap → b' ≠ wa.heap.size) := Lib.hid (by
        refine ⟨fun e => ?_, fun x hx b' off len cap e => by have := ((A4.out.taps x hx).2 b' off len cap e).2.1; omega⟩
        have := (A4.out.own.lt _ e).2; omega)
      have hx5 := block_lt' X5.out
      clear gx A4
      rcases (show c = 0 ∨ c = 1 ∨ c = 2 by omega) with rfl | rfl | rfl
      · have hz5 : (wa.alloc (.cells #[.int .i64 0, .int .i64 0, .int .i64 0, .int .i64 0, .int .i64 0, .int .i64 0, .int .i64 0, .slice none 0 0, .int .i64 0, .int .i64 0] 53)).heap.size = wa.heap.size + 1 := by simp
        obtain ⟨i0_, i1_, i2_, i3_, i4_, i5_, i6_, i7_, i8_, i9_⟩ := cells10 X5.out
        go_wp2_with fail
        clear i0_ i1_ i2_ i3_ i4_ i5_ i6_ i7_ i8_ i9_
        generalize wa.alloc (.cells #[.int .i64 0, .int .i64 0, .int .i64 0, .int .i64 0, .int .i64 0, .int .i64 0, .int .i64 0, .slice none 0 0, .int .i64 0, .int .i64 0] 53) = w5 at *
        (with_reducible refine (pick32 B w5 p [0, 1, 9, 99, 1048575] 5 rfl #[.int .i64 0, .int .i64 1, .int .i64 9, .int .i64 99, .int .i64 1048575] rfl 3 A5.out.src (wa.heap.size + 1) hz5 (by decide) (by decide)).mono ?_)
        rintro e w6 ⟨x1, rfl, hx1, hS, hg⟩
        have hb1 : 0 ≤ x1 ∧ x1 ≤ 1048575 := by
          simp only [List.mem_cons, List.not_mem_nil, or_false] at hx1; omega
        have A6 := Lib.hid (A5.out.draw hg hS); have X6 := Lib.hid (block_keptp hg X5.out (by have := HXO.out; omega))
        clear hg hS A5 X5
        have hw1 : IntKind.i64.wrap (1 + x1) = 1 + x1 := by rw [IntKind.wrap_i64]; omega
        clear hx1 hz5
        go_wp2_with fail
        (with_reducible refine (pick32 B w6 p [0, 0, 2, 9, 999] 5 rfl #[.int .i64 0, .int .i64 0, .int .i64 2, .int .i64 9, .int .i64 999] rfl 3 A6.out.src w6.heap.size rfl (by decide) (by decide)).mono ?_)
        rintro e w7 ⟨x2, rfl, hx2, hS, hg⟩
        have hb2 : 0 ≤ x2 ∧ x2 ≤ 999 := by
          simp only [List.mem_cons, List.not_mem_nil, or_false] at hx2; omega
        have A7 := Lib.hid (A6.out.draw hg hS); have X7 := Lib.hid (block_keptp hg X6.out (by have := HXO.out; omega))
        clear hg hS A6 X6
        have hw2 : IntKind.i64.wrap (1 + x2) = 1 + x2 := by rw [IntKind.wrap_i64]; omega
        clear hx2 hb1 hb2
        have AU : Hid (RsAt w B p (O + 1) O L v ((w7.setCell ⟨wa.heap.size, 1, none⟩ (.int .i64 (1 + x1))).setCell ⟨wa.heap.size, 4, none⟩ (.int .i64 (1 + x2)))) := Lib.hid ((A7.out.other wa.heap.size 1 (.int .i64 (1 + x1)) (by have := HXO.out; have := HZ.out; omega) HXO.out.1 HXO.out.2.1 HXV.out.1 HXV.out.2).other wa.heap.size 4 (.int .i64 (1 + x2)) (by have := HXO.out; have := HZ.out; omega) HXO.out.1 HXO.out.2.1 HXV.out.1 HXV.out.2)
        have XU : Hid (((w7.setCell ⟨wa.heap.size, 1, none⟩ (.int .i64 (1 + x1))).setCell ⟨wa.heap.size, 4, none⟩ (.int .i64 (1 + x2))).heap[wa.heap.size]? = some (.cells #[.int .i64 0, .int .i64 (1 + x1), .int .i64 0, .int .i64 0, .int .i64 (1 + x2), .int .i64 0, .int .i64 0, .slice none 0 0, .int .i64 0, .int .i64 0] 53 (0, 0))) := Lib.hid (set_block (set_block X7.out 1 (.int .i64 (1 + x1))) 4 (.int .i64 (1 + x2)))
        have gr_ := gb_alloc (gb_refl ((w7.setCell ⟨wa.heap.size, 1, none⟩ (.int .i64 (1 + x1))).setCell ⟨wa.heap.size, 4, none⟩ (.int .i64 (1 + x2))) none) (.cells #[.int .i64 0, .int .i64 (1 + x1), .int .i64 0, .int .i64 0, .int .i64 (1 + x2), .int .i64 0, .int .i64 0, .slice none 0 0, .int .i64 0, .int .i64 0] 53)
        have AV := Lib.hid (AU.out.later gr_); have XV := heap_alloc_new ((w7.setCell ⟨wa.heap.size, 1, none⟩ (.int .i64 (1 + x1))).setCell ⟨wa.heap.size, 4, none⟩ (.int .i64 (1 + x2))) (.cells #[.int .i64 0, .int .i64 (1 + x1), .int .i64 0, .int .i64 0, .int .i64 (1 + x2), .int .i64 0, .int .i64 0, .slice none 0 0, .int .i64 0, .int .i64 0] 53)
        obtain ⟨c0_, c1_, c2_, c3_, c4_, c5_, c6_, c7_, c8_, c9_⟩ := cells10 XU.out
        obtain ⟨i0_, i1_, i2_, i3_, i4_, i5_, i6_, i7_, i8_, i9_⟩ := cells10 X7.out
        have f_ := frz X7.out
        have f1_ := f_ 1 ; have f4_ := f_ 4
        have hxl := block_lt' X7.out; have hxu := block_lt' XU.out
        have hcv : ((w7.setCell ⟨wa.heap.size, 1, none⟩ (.int .i64 (1 + x1))).setCell ⟨wa.heap.size, 4, none⟩ (.int .i64 (1 + x2))).cell? ⟨O + 1, 0, none⟩ = some v := cell_of AU.out.var 0 _ rfl
        have hrl := block_lt' AU.out.var
        have hown_ := AV.out.own
        have HOW := Lib.hid hown_; have HLL : Hid (L.length ≤ 3) := Lib.hid (by have := HJL.out; omega)
        have hbs_ : w.heap.size ≤ ((w7.setCell ⟨wa.heap.size, 1, none⟩ (.int .i64 (1 + x1))).setCell ⟨wa.heap.size, 4, none⟩ (.int .i64 (1 + x2))).heap.size := by have := HZ.out; have := HXO.out; simp at hxu ⊢; omega
        have HBS := Lib.hid hbs_
        have hus_ : ((w7.setCell ⟨wa.heap.size, 1, none⟩ (.int .i64 (1 + x1))).setCell ⟨wa.heap.size, 4, none⟩ (.int .i64 (1 + x2))).heap.size = w7.heap.size := by simp [World.setCell]
        rw [hus_] at XV
        have HNV := Lib.hid XV
        clear gr_ hown_ hbs_ XV f_ A7 X7 AU XU
        go_wp2_with (at_builtin; go_loud (refine wpList_push32 rfl _ _ 27 rfl w.heap.size 53 (.agg #[.int .i64 0, .int .i64 0, .int .i64 0, .int .i64 0, .int .i64 0, .int .i64 0, .int .i64 0, .slice none 0 0, .int .i64 0, .int .i64 0]) 10 96 Tryz.underlying27 Tryz.infoStage rfl (by decide) (by decide) v L.length (flatS L) rfl HOW.out w7.heap.size 1 #[.int .i64 0, .int .i64 (1 + x1), .int .i64 0, .int .i64 0, .int .i64 (1 + x2), .int .i64 0, .int .i64 0, .slice none 0 0, .int .i64 0, .int .i64 0].toList 53 rfl HNV.out rfl (by simp [Value.oneCell']) (by have := HLL.out; omega) (by have := HBS.out; simp at this ⊢; omega) ?_); refine Hid.out ?_)
        refine Lib.hid ?_
        intro v' wz hown' hg' hv'
        have AN := Lib.hid (AV.out.push (x := ⟨⟨0, 1 + x1, 0, 0, 1 + x2, 0, 0, [], 0, 0⟩, .slice none 0 0⟩) hown' hg' (hv'.imp id (fun e => by rw [e]; simp [World.setCell])) (.inl ⟨rfl, _, _, rfl⟩) (fun b off len cap e => by simp at e))
        obtain ⟨va, vc, hve⟩ := owns_slice hown'
        subst hve
        have HRV := Lib.hid (AV.out.varKept hg')
        have hr6_ := cell_of HRV.out 0 _ rfl; have hrz_ := block_lt' HRV.out; have hrf_ := frz HRV.out 0
        have hwj : IntKind.i64.wrap ((j : Int) - 1) = ((j - 1 : Nat) : Int) := by have := HJL.out; rw [IntKind.wrap_i64]; omega
        clear hown' hg' hv' AV HOW HNV HBS
        go_wp2_with fail
        go_roundw
        case rel => exact ⟨j - 1, _, _, by have := HJL.out; simp; omega, rfl, AN.out⟩
        case measure => simp [intOf]; omega
      · have hz5 : (wa.alloc (.cells #[.int .i64 1, .int .i64 0, .int .i64 0, .int .i64 0, .int .i64 0, .int .i64 0, .int .i64 0, .slice none 0 0, .int .i64 0, .int .i64 0] 53)).heap.size = wa.heap.size + 1 := by simp
        obtain ⟨i0_, i1_, i2_, i3_, i4_, i5_, i6_, i7_, i8_, i9_⟩ := cells10 X5.out
        go_wp2_with fail
        clear i0_ i1_ i2_ i3_ i4_ i5_ i6_ i7_ i8_ i9_
        generalize wa.alloc (.cells #[.int .i64 1, .int .i64 0, .int .i64 0, .int .i64 0, .int .i64 0, .int .i64 0, .int .i64 0, .slice none 0 0, .int .i64 0, .int .i64 0] 53) = w5 at *
        (with_reducible refine (n_any B w5 p 5 A5.out.src (by omega) (by omega)).mono ?_)
        rintro e w6 ⟨a1, rfl, ha1, hS, hg⟩
        have A6 := Lib.hid (A5.out.draw hg hS); have X6 := Lib.hid (block_keptp hg X5.out (by have := HXO.out; omega))
        clear hg hS A5 X5
        go_wp2_with fail
        (with_reducible refine (n_any B w6 p 7 A6.out.src (by omega) (by omega)).mono ?_)
        rintro e w7 ⟨a2, rfl, ha2, hS, hg⟩
        have A7 := Lib.hid (A6.out.draw hg hS); have X7 := Lib.hid (block_keptp hg X6.out (by have := HXO.out; omega))
        clear hg hS A6 X6
        go_wp2_with fail
        (with_reducible refine (n_any B w7 p 3 A7.out.src (by omega) (by omega)).mono ?_)
        rintro e w8 ⟨a3, rfl, ha3, hS, hg⟩
        have A8 := Lib.hid (A7.out.draw hg hS); have X8 := Lib.hid (block_keptp hg X7.out (by have := HXO.out; omega))
        clear hg hS A7 X7
        go_wp2_with fail
        (with_reducible refine (n_any B w8 p 5 A8.out.src (by omega) (by omega)).mono ?_)
        rintro e w9 ⟨a4, rfl, ha4, hS, hg⟩
        have A9 := Lib.hid (A8.out.draw hg hS); have X9 := Lib.hid (block_keptp hg X8.out (by have := HXO.out; omega))
        clear hg hS A8 X8
        go_wp2_with fail
        (with_reducible refine (n_any B w9 p 7 A9.out.src (by omega) (by omega)).mono ?_)
        rintro e w10 ⟨a5, rfl, ha5, hS, hg⟩
        have A10 := Lib.hid (A9.out.draw hg hS); have X10 := Lib.hid (block_keptp hg X9.out (by have := HXO.out; omega))
        clear hg hS A9 X9
        go_wp2_with fail
        (with_reducible refine (n_any B w10 p 3 A10.out.src (by omega) (by omega)).mono ?_)
        rintro e w11 ⟨a6, rfl, ha6, hS, hg⟩
        have A11 := Lib.hid (A10.out.draw hg hS); have X11 := Lib.hid (block_keptp hg X10.out (by have := HXO.out; omega))
        clear hg hS A10 X10
        have hv2 : IntKind.i64.wrap (a2 - 3) = a2 - 3 := by rw [IntKind.wrap_i64]; omega
        have hv3 : IntKind.i64.wrap (a3 - 1) = a3 - 1 := by rw [IntKind.wrap_i64]; omega
        have hv4 : IntKind.i64.wrap (1 + a4) = 1 + a4 := by rw [IntKind.wrap_i64]; omega
        clear hz5 ha1 ha2 ha3 ha4 ha5 ha6
        have AU : Hid (RsAt w B p (O + 1) O L v ((((((w11.setCell ⟨wa.heap.size, 1, none⟩ (.int .i64 a1)).setCell ⟨wa.heap.size, 2, none⟩ (.int .i64 (a2 - 3))).setCell ⟨wa.heap.size, 3, none⟩ (.int .i64 (a3 - 1))).setCell ⟨wa.heap.size, 4, none⟩ (.int .i64 (1 + a4))).setCell ⟨wa.heap.size, 5, none⟩ (.int .i64 a5)).setCell ⟨wa.heap.size, 6, none⟩ (.int .i64 a6))) := Lib.hid ((((((A11.out.other wa.heap.size 1 (.int .i64 a1) (by have := HXO.out; have := HZ.out; omega) HXO.out.1 HXO.out.2.1 HXV.out.1 HXV.out.2).other wa.heap.size 2 (.int .i64 (a2 - 3)) (by have := HXO.out; have := HZ.out; omega) HXO.out.1 HXO.out.2.1 HXV.out.1 HXV.out.2).other wa.heap.size 3 (.int .i64 (a3 - 1)) (by have := HXO.out; have := HZ.out; omega) HXO.out.1 HXO.out.2.1 HXV.out.1 HXV.out.2).other wa.heap.size 4 (.int .i64 (1 + a4)) (by have := HXO.out; have := HZ.out; omega) HXO.out.1 HXO.out.2.1 HXV.out.1 HXV.out.2).other wa.heap.size 5 (.int .i64 a5) (by have := HXO.out; have := HZ.out; omega) HXO.out.1 HXO.out.2.1 HXV.out.1 HXV.out.2).other wa.heap.size 6 (.int .i64 a6) (by have := HXO.out; have := HZ.out; omega) HXO.out.1 HXO.out.2.1 HXV.out.1 HXV.out.2)
        have XU : Hid (((((((w11.setCell ⟨wa.heap.size, 1, none⟩ (.int .i64 a1)).setCell ⟨wa.heap.size, 2, none⟩ (.int .i64 (a2 - 3))).setCell ⟨wa.heap.size, 3, none⟩ (.int .i64 (a3 - 1))).setCell ⟨wa.heap.size, 4, none⟩ (.int .i64 (1 + a4))).setCell ⟨wa.heap.size, 5, none⟩ (.int .i64 a5)).setCell ⟨wa.heap.size, 6, none⟩ (.int .i64 a6)).heap[wa.heap.size]? = some (.cells #[.int .i64 1, .int .i64 a1, .int .i64 (a2 - 3), .int .i64 (a3 - 1), .int .i64 (1 + a4), .int .i64 a5, .int .i64 a6, .slice none 0 0, .int .i64 0, .int .i64 0] 53 (0, 0))) := Lib.hid (set_block (set_block (set_block (set_block (set_block (set_block X11.out 1 (.int .i64 a1)) 2 (.int .i64 (a2 - 3))) 3 (.int .i64 (a3 - 1))) 4 (.int .i64 (1 + a4))) 5 (.int .i64 a5)) 6 (.int .i64 a6))
        have gr_ := gb_alloc (gb_refl ((((((w11.setCell ⟨wa.heap.size, 1, none⟩ (.int .i64 a1)).setCell ⟨wa.heap.size, 2, none⟩ (.int .i64 (a2 - 3))).setCell ⟨wa.heap.size, 3, none⟩ (.int .i64 (a3 - 1))).setCell ⟨wa.heap.size, 4, none⟩ (.int .i64 (1 + a4))).setCell ⟨wa.heap.size, 5, none⟩ (.int .i64 a5)).setCell ⟨wa.heap.size, 6, none⟩ (.int .i64 a6)) none) (.cells #[.int .i64 1, .int .i64 a1, .int .i64 (a2 - 3), .int .i64 (a3 - 1), .int .i64 (1 + a4), .int .i64 a5, .int .i64 a6, .slice none 0 0, .int .i64 0, .int .i64 0] 53)
        have AV := Lib.hid (AU.out.later gr_); have XV := heap_alloc_new ((((((w11.setCell ⟨wa.heap.size, 1, none⟩ (.int .i64 a1)).setCell ⟨wa.heap.size, 2, none⟩ (.int .i64 (a2 - 3))).setCell ⟨wa.heap.size, 3, none⟩ (.int .i64 (a3 - 1))).setCell ⟨wa.heap.size, 4, none⟩ (.int .i64 (1 + a4))).setCell ⟨wa.heap.size, 5, none⟩ (.int .i64 a5)).setCell ⟨wa.heap.size, 6, none⟩ (.int .i64 a6)) (.cells #[.int .i64 1, .int .i64 a1, .int .i64 (a2 - 3), .int .i64 (a3 - 1), .int .i64 (1 + a4), .int .i64 a5, .int .i64 a6, .slice none 0 0, .int .i64 0, .int .i64 0] 53)
        obtain ⟨c0_, c1_, c2_, c3_, c4_, c5_, c6_, c7_, c8_, c9_⟩ := cells10 XU.out
        obtain ⟨i0_, i1_, i2_, i3_, i4_, i5_, i6_, i7_, i8_, i9_⟩ := cells10 X11.out
        have f_ := frz X11.out
        have f1_ := f_ 1 ; have f2_ := f_ 2 ; have f3_ := f_ 3 ; have f4_ := f_ 4 ; have f5_ := f_ 5 ; have f6_ := f_ 6
        have hxl := block_lt' X11.out; have hxu := block_lt' XU.out
        have hcv : ((((((w11.setCell ⟨wa.heap.size, 1, none⟩ (.int .i64 a1)).setCell ⟨wa.heap.size, 2, none⟩ (.int .i64 (a2 - 3))).setCell ⟨wa.heap.size, 3, none⟩ (.int .i64 (a3 - 1))).setCell ⟨wa.heap.size, 4, none⟩ (.int .i64 (1 + a4))).setCell ⟨wa.heap.size, 5, none⟩ (.int .i64 a5)).setCell ⟨wa.heap.size, 6, none⟩ (.int .i64 a6)).cell? ⟨O + 1, 0, none⟩ = some v := cell_of AU.out.var 0 _ rfl
        have hrl := block_lt' AU.out.var
        have hown_ := AV.out.own
        have HOW := Lib.hid hown_; have HLL : Hid (L.length ≤ 3) := Lib.hid (by have := HJL.out; omega)
        have hbs_ : w.heap.size ≤ ((((((w11.setCell ⟨wa.heap.size, 1, none⟩ (.int .i64 a1)).setCell ⟨wa.heap.size, 2, none⟩ (.int .i64 (a2 - 3))).setCell ⟨wa.heap.size, 3, none⟩ (.int .i64 (a3 - 1))).setCell ⟨wa.heap.size, 4, none⟩ (.int .i64 (1 + a4))).setCell ⟨wa.heap.size, 5, none⟩ (.int .i64 a5)).setCell ⟨wa.heap.size, 6, none⟩ (.int .i64 a6)).heap.size := by have := HZ.out; have := HXO.out; simp at hxu ⊢; omega
        have HBS := Lib.hid hbs_
        have hus_ : ((((((w11.setCell ⟨wa.heap.size, 1, none⟩ (.int .i64 a1)).setCell ⟨wa.heap.size, 2, none⟩ (.int .i64 (a2 - 3))).setCell ⟨wa.heap.size, 3, none⟩ (.int .i64 (a3 - 1))).setCell ⟨wa.heap.size, 4, none⟩ (.int .i64 (1 + a4))).setCell ⟨wa.heap.size, 5, none⟩ (.int .i64 a5)).setCell ⟨wa.heap.size, 6, none⟩ (.int .i64 a6)).heap.size = w11.heap.size := by simp [World.setCell]
        rw [hus_] at XV
        have HNV := Lib.hid XV
        clear gr_ hown_ hbs_ XV f_ A11 X11 AU XU
        go_wp2_with (at_builtin; go_loud (refine wpList_push32 rfl _ _ 27 rfl w.heap.size 53 (.agg #[.int .i64 0, .int .i64 0, .int .i64 0, .int .i64 0, .int .i64 0, .int .i64 0, .int .i64 0, .slice none 0 0, .int .i64 0, .int .i64 0]) 10 96 Tryz.underlying27 Tryz.infoStage rfl (by decide) (by decide) v L.length (flatS L) rfl HOW.out w11.heap.size 1 #[.int .i64 1, .int .i64 a1, .int .i64 (a2 - 3), .int .i64 (a3 - 1), .int .i64 (1 + a4), .int .i64 a5, .int .i64 a6, .slice none 0 0, .int .i64 0, .int .i64 0].toList 53 rfl HNV.out rfl (by simp [Value.oneCell']) (by have := HLL.out; omega) (by have := HBS.out; simp at this ⊢; omega) ?_); refine Hid.out ?_)
        refine Lib.hid ?_
        intro v' wz hown' hg' hv'
        have AN := Lib.hid (AV.out.push (x := ⟨⟨1, a1, a2 - 3, a3 - 1, 1 + a4, a5, a6, [], 0, 0⟩, .slice none 0 0⟩) hown' hg' (hv'.imp id (fun e => by rw [e]; simp [World.setCell])) (.inl ⟨rfl, _, _, rfl⟩) (fun b off len cap e => by simp at e))
        obtain ⟨va, vc, hve⟩ := owns_slice hown'
        subst hve
        have HRV := Lib.hid (AV.out.varKept hg')
        have hr6_ := cell_of HRV.out 0 _ rfl; have hrz_ := block_lt' HRV.out; have hrf_ := frz HRV.out 0
        have hwj : IntKind.i64.wrap ((j : Int) - 1) = ((j - 1 : Nat) : Int) := by have := HJL.out; rw [IntKind.wrap_i64]; omega
        clear hown' hg' hv' AV HOW HNV HBS
        go_wp2_with fail
        go_roundw
        case rel => exact ⟨j - 1, _, _, by have := HJL.out; simp; omega, rfl, AN.out⟩
        case measure => simp [intOf]; omega
      · have hz5 : (wa.alloc (.cells #[.int .i64 2, .int .i64 0, .int .i64 0, .int .i64 0, .int .i64 0, .int .i64 0, .int .i64 0, .slice none 0 0, .int .i64 0, .int .i64 0] 53)).heap.size = wa.heap.size + 1 := by simp
        obtain ⟨i0_, i1_, i2_, i3_, i4_, i5_, i6_, i7_, i8_, i9_⟩ := cells10 X5.out
        go_wp2_with fail
        clear i0_ i1_ i2_ i3_ i4_ i5_ i6_ i7_ i8_ i9_
        generalize wa.alloc (.cells #[.int .i64 2, .int .i64 0, .int .i64 0, .int .i64 0, .int .i64 0, .int .i64 0, .int .i64 0, .slice none 0 0, .int .i64 0, .int .i64 0] 53) = w5 at *
        (with_reducible refine (n_any B w5 p 3 A5.out.src (by omega) (by omega)).mono ?_)
        rintro e w6 ⟨a1, rfl, ha1, hS, hg⟩
        have A6 := Lib.hid (A5.out.draw hg hS); have X6 := Lib.hid (block_keptp hg X5.out (by have := HXO.out; omega))
        clear hg hS A5 X5
        have hv1 : IntKind.i64.wrap (1 + a1) = 1 + a1 := by rw [IntKind.wrap_i64]; omega
        have gt_ := gb_alloc (gb_refl w6 none) (.cells #[.int .i64 (1 + a1), .int .i64 2, .int .i64 1] 3)
        have bt_ := heap_alloc_new w6 (.cells #[.int .i64 (1 + a1), .int .i64 2, .int .i64 1] 3)
        have A7 := Lib.hid (A6.out.later gt_); have X7 := Lib.hid (block_kept gt_ X6.out rfl)
        have TS7 := Lib.hid (sl3 (block_lt' bt_) (off := 0) (cells3 bt_).1 (cells3 bt_).2.1 (cells3 bt_).2.2)
        have HTB : Hid (wa.heap.size < w6.heap.size ∧ O ≤ w6.heap.size) := Lib.hid (by have h1 := block_lt' X6.out; have h2 := HXO.out; omega)
        have HTV : Hid (v.ownBlock ≠ some w6.heap.size) := Lib.hid (fun e => by have := (A6.out.own.lt _ e).2; omega)
        clear gt_ bt_ A6 X6 ha1 hz5
        go_wp2_with fail
        generalize w6.alloc (.cells #[.int .i64 (1 + a1), .int .i64 2, .int .i64 1] 3) = w7 at *
        have HT6 : Hid (w6.heap.size < w7.heap.size) := Lib.hid (by obtain ⟨b', off', cap', e, hb, -⟩ := TS7.out.block (by simp); simp at e; omega)
        generalize w6.heap.size = tb at *
        (with_reducible refine (n_any B w7 p 4 A7.out.src (by omega) (by omega)).mono ?_)
        rintro e w8 ⟨a2, rfl, ha2, hS, hg⟩
        have TS8 := Lib.hid (TS7.out.later hg (fun b off len cap e _ => by simp at e; have := HTB.out; have := HXO.out; simp; omega)); have HT8 : Hid (tb < w8.heap.size) := Lib.hid (by have := HT6.out; have := hg.size; omega)
        have A8 := Lib.hid (A7.out.draw hg hS); have X8 := Lib.hid (block_keptp hg X7.out (by have := HXO.out; omega))
        clear hg hS A7 X7
        clear TS7 HT6 ha2
        have AU : Hid (RsAt w B p (O + 1) O L v (((w8.setCell ⟨wa.heap.size, 7, none⟩ (.slice (some ⟨tb, 0, none⟩) 3 3)).setCell ⟨wa.heap.size, 8, none⟩ (.int .i64 1)).setCell ⟨wa.heap.size, 9, none⟩ (.int .i64 a2))) := Lib.hid (((A8.out.other wa.heap.size 7 (.slice (some ⟨tb, 0, none⟩) 3 3) (by have := HXO.out; have := HZ.out; omega) HXO.out.1 HXO.out.2.1 HXV.out.1 HXV.out.2).other wa.heap.size 8 (.int .i64 1) (by have := HXO.out; have := HZ.out; omega) HXO.out.1 HXO.out.2.1 HXV.out.1 HXV.out.2).other wa.heap.size 9 (.int .i64 a2) (by have := HXO.out; have := HZ.out; omega) HXO.out.1 HXO.out.2.1 HXV.out.1 HXV.out.2)
        have XU : Hid ((((w8.setCell ⟨wa.heap.size, 7, none⟩ (.slice (some ⟨tb, 0, none⟩) 3 3)).setCell ⟨wa.heap.size, 8, none⟩ (.int .i64 1)).setCell ⟨wa.heap.size, 9, none⟩ (.int .i64 a2)).heap[wa.heap.size]? = some (.cells #[.int .i64 2, .int .i64 0, .int .i64 0, .int .i64 0, .int .i64 0, .int .i64 0, .int .i64 0, .slice (some ⟨tb, 0, none⟩) 3 3, .int .i64 1, .int .i64 a2] 53 (0, 0))) := Lib.hid (set_block (set_block (set_block X8.out 7 (.slice (some ⟨tb, 0, none⟩) 3 3)) 8 (.int .i64 1)) 9 (.int .i64 a2))
        have gr_ := gb_alloc (gb_refl (((w8.setCell ⟨wa.heap.size, 7, none⟩ (.slice (some ⟨tb, 0, none⟩) 3 3)).setCell ⟨wa.heap.size, 8, none⟩ (.int .i64 1)).setCell ⟨wa.heap.size, 9, none⟩ (.int .i64 a2)) none) (.cells #[.int .i64 2, .int .i64 0, .int .i64 0, .int .i64 0, .int .i64 0, .int .i64 0, .int .i64 0, .slice (some ⟨tb, 0, none⟩) 3 3, .int .i64 1, .int .i64 a2] 53)
        have AV := Lib.hid (AU.out.later gr_); have XV := heap_alloc_new (((w8.setCell ⟨wa.heap.size, 7, none⟩ (.slice (some ⟨tb, 0, none⟩) 3 3)).setCell ⟨wa.heap.size, 8, none⟩ (.int .i64 1)).setCell ⟨wa.heap.size, 9, none⟩ (.int .i64 a2)) (.cells #[.int .i64 2, .int .i64 0, .int .i64 0, .int .i64 0, .int .i64 0, .int .i64 0, .int .i64 0, .slice (some ⟨tb, 0, none⟩) 3 3, .int .i64 1, .int .i64 a2] 53)
        obtain ⟨c0_, c1_, c2_, c3_, c4_, c5_, c6_, c7_, c8_, c9_⟩ := cells10 XU.out
        obtain ⟨i0_, i1_, i2_, i3_, i4_, i5_, i6_, i7_, i8_, i9_⟩ := cells10 X8.out
        have f_ := frz X8.out
        have f7_ := f_ 7 ; have f8_ := f_ 8 ; have f9_ := f_ 9
        have hxl := block_lt' X8.out; have hxu := block_lt' XU.out
        have hcv : (((w8.setCell ⟨wa.heap.size, 7, none⟩ (.slice (some ⟨tb, 0, none⟩) 3 3)).setCell ⟨wa.heap.size, 8, none⟩ (.int .i64 1)).setCell ⟨wa.heap.size, 9, none⟩ (.int .i64 a2)).cell? ⟨O + 1, 0, none⟩ = some v := cell_of AU.out.var 0 _ rfl
        have hrl := block_lt' AU.out.var
        have TU : Hid (Sl ((((w8.setCell ⟨wa.heap.size, 7, none⟩ (.slice (some ⟨tb, 0, none⟩) 3 3)).setCell ⟨wa.heap.size, 8, none⟩ (.int .i64 1)).setCell ⟨wa.heap.size, 9, none⟩ (.int .i64 a2)).alloc (.cells #[.int .i64 2, .int .i64 0, .int .i64 0, .int .i64 0, .int .i64 0, .int .i64 0, .int .i64 0, .slice (some ⟨tb, 0, none⟩) 3 3, .int .i64 1, .int .i64 a2] 53)) (.slice (some ⟨tb, 0, none⟩) 3 3) [1 + a1, 2, 1]) := Lib.hid ((((TS8.out.setCell (fun b off len cap e _ => by simp at e; have := HTB.out; omega)).setCell (fun b off len cap e _ => by simp at e; have := HTB.out; omega)).setCell (fun b off len cap e _ => by simp at e; have := HTB.out; omega)).after gr_)
        have hown_ := AV.out.own
        have HOW := Lib.hid hown_; have HLL : Hid (L.length ≤ 3) := Lib.hid (by have := HJL.out; omega)
        have hbs_ : w.heap.size ≤ (((w8.setCell ⟨wa.heap.size, 7, none⟩ (.slice (some ⟨tb, 0, none⟩) 3 3)).setCell ⟨wa.heap.size, 8, none⟩ (.int .i64 1)).setCell ⟨wa.heap.size, 9, none⟩ (.int .i64 a2)).heap.size := by have := HZ.out; have := HXO.out; simp at hxu ⊢; omega
        have HBS := Lib.hid hbs_
        have hus_ : (((w8.setCell ⟨wa.heap.size, 7, none⟩ (.slice (some ⟨tb, 0, none⟩) 3 3)).setCell ⟨wa.heap.size, 8, none⟩ (.int .i64 1)).setCell ⟨wa.heap.size, 9, none⟩ (.int .i64 a2)).heap.size = w8.heap.size := by simp [World.setCell]
        rw [hus_] at XV
        have HNV := Lib.hid XV
        clear gr_ hown_ hbs_ XV f_ A8 X8 AU XU
        go_wp2_with (at_builtin; go_loud (refine wpList_push32 rfl _ _ 27 rfl w.heap.size 53 (.agg #[.int .i64 0, .int .i64 0, .int .i64 0, .int .i64 0, .int .i64 0, .int .i64 0, .int .i64 0, .slice none 0 0, .int .i64 0, .int .i64 0]) 10 96 Tryz.underlying27 Tryz.infoStage rfl (by decide) (by decide) v L.length (flatS L) rfl HOW.out w8.heap.size 1 #[.int .i64 2, .int .i64 0, .int .i64 0, .int .i64 0, .int .i64 0, .int .i64 0, .int .i64 0, .slice (some ⟨tb, 0, none⟩) 3 3, .int .i64 1, .int .i64 a2].toList 53 rfl HNV.out rfl (by simp [Value.oneCell']) (by have := HLL.out; omega) (by have := HBS.out; simp at this ⊢; omega) ?_); refine Hid.out ?_)
        refine Lib.hid ?_
        intro v' wz hown' hg' hv'
        have AN := Lib.hid (AV.out.push (x := ⟨⟨2, 0, 0, 0, 0, 0, 0, [1 + a1, 2, 1], 1, a2⟩, .slice (some ⟨tb, 0, none⟩) 3 3⟩) hown' hg' (hv'.imp id (fun e => by rw [e]; simp [World.setCell])) TU.out (fun b off len cap e => by simp at e; have := HTB.out; have := HZ.out; have := HT8.out; simp [World.setCell]; refine ⟨by omega, by omega, fun e2 => ?_⟩; exact HTV.out (by rw [e2, e.1.1])))
        obtain ⟨va, vc, hve⟩ := owns_slice hown'
        subst hve
        have HRV := Lib.hid (AV.out.varKept hg')
        have hr6_ := cell_of HRV.out 0 _ rfl; have hrz_ := block_lt' HRV.out; have hrf_ := frz HRV.out 0
        have hwj : IntKind.i64.wrap ((j : Int) - 1) = ((j - 1 : Nat) : Int) := by have := HJL.out; rw [IntKind.wrap_i64]; omega
        clear hown' hg' hv' AV HOW HNV HBS
        go_wp2_with fail
        go_roundw
        case rel => exact ⟨j - 1, _, _, by have := HJL.out; simp; omega, rfl, AN.out⟩
        case measure => simp [intOf]; omega
    · have hj0 : j = 0 := by omega
      have hj' : decide ((j : Int) > 0) = false := decide_eq_false (by omega)
      have hvs : ∃ a c, v = .slice a L.length c := owns_slice HA.out.own
      obtain ⟨va, vc, rfl⟩ := hvs
      have hO := HA.out.out
      have hzz := HZ.out
      have hrl := HA.out.rw
      have gz : wr.grownBy (wr.setCell ⟨O, 0, none⟩ (.slice va L.length vc)) (some O) := gb_setCell (gb_refl _ _) (.inr rfl) _
      have hvO : (Value.slice va L.length vc).ownBlock ≠ some O := by
        intro e
        rcases HA.out.own.2 with ⟨e1, -⟩ | ⟨g, cap, cur, e1, -, hh, -⟩
        · rw [e1] at e; simp [Value.ownBlock] at e
        · rw [e1] at e; simp [Value.ownBlock] at e
          subst e
          rw [hh] at hO
          simp at hO
      have own2 := HA.out.own.kept gz (.inr hvO)
      have HE : Hid (NewResp B p w (.returned (.agg #[.slice va L.length vc])) (wr.setCell ⟨O, 0, none⟩ (.slice va L.length vc))) := Lib.hid ⟨L, _, rfl, ⟨SlC.of_owns own2, fun x hx => (HA.out.taps x hx).1.setCell (fun b off len cap e hl => ((HA.out.taps x hx).1.ne_block hO (slice_no_int ⟨_, _, _, rfl⟩)) b off len cap e hl)⟩, by have := HJL.out; omega,
        fun b off len cap e => by
          rw [hzz]
          rcases own2.2 with ⟨e1, -⟩ | ⟨g, cap', cur, e1, hb, -⟩
          · rw [e] at e1; simp at e1
          · rw [e] at e1; simp at e1; omega,
        fun x hx b off len cap e => by rw [hzz]; have := ((HA.out.taps x hx).2 b off len cap e).1; omega,
        HA.out.src.later gz (fun q hq => by simp at hq; have := HA.out.src.lt; have := HA.out.pw; omega), gb_setCell HA.out.gr (.inl (by show w.heap.size ≤ O; omega)) _⟩
      have hcv := cell_of HA.out.var 0 _ rfl
      have hcv : wr.cell? ⟨O + 1, 0, none⟩ = some (.slice va L.length vc) := hcv
      have hco : wr.cell? ⟨O, 0, none⟩ = some (.slice none 0 0) := cell_of hO 0 _ rfl
      have hfo := frz hO 0
      have hl1 := block_lt' HA.out.var; have hl2 := block_lt' hO
      clear hO hzz hrl gz hvO own2 hj0 HA
      go_wp2_with fail
      exact bodyPost_ret (v := .agg #[.slice va L.length vc]) (by simp [results, Tryz.results9, go_sem, hco, hl2]) rfl HE.out
end Go.Proofs.YtmgfdfbhfhmekaaGreat
