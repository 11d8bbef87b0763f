/- TopS -/
import Derived.Test.YtlddgafbgaaiiaaGreatDoorTsStrL
import Derived.Test.YtlddgafbgaaiiaaGreatDoorTsRgStr
import Derived.Test.YtlddgafbgaaiiaaGreatDoorTsDicW
import Derived.Test.YtlddgafbgaaiiaaGreatDoorTsDetP
import Derived.Test.YtlddgafbgaaiiaaGreatDoorTsAwkS
set_option linter.all false
namespace Go.Proofs.YtlddgafbgaaiiaaGreatDoor
open Go.RowKit Rg
/-- The blocks of a value lie below hi. -/
def Top (hi : Nat) (v : Value) : Prop := ∀ b off n c, v = .slice (some ⟨b, off, none⟩) n c → 0 < n → b < hi
theorem Slb.nil (B : Nat) (w : World) : Slb B w (.slice Option.none 0 0) [] := ⟨.inl ⟨rfl, _, _, rfl⟩, fun k c e => by simp at e; omega, fun b off n c e h0 => by simp at e, fun b off n c e h0 => by simp at e⟩
/-- What the loop keeps. -/
structure StrAt (w0 : World) (p K X Y : Nat) (ta : Option Addr) (tc : Nat) (fa sh : Int) (taps : List Int) (s l n f : Int) (xv : Value) (xs : List Int) (num : Int) (m : Nat) (ov : Value) (u : World) : Prop where
  dc : Dc p u p
  g : w0.grownBy u none
  df : u.heap[K]? = some (.cells #[.slice ta taps.length tc, .int .i64 fa, .int .i64 sh] 28 (0, 0))
  dd : u.heap[K + 1]? = some (.cells #[.int .i64 s, .int .i64 l, .int .i64 n, .int .i64 f] 31 (0, 0))
  fs : Slb (p + 1) u (.slice ta taps.length tc) taps
  xs_ : Slb (p + 1) u xv xs
  fd : ∃ v' pv, u.heap[X]? = some (.cells #[v', .int .i64 fa, .int .i64 sh, pv, .int .i64 (num + m)] 36 (0, 0)) ∧ Slb (p + 1) u v' taps ∧ Slb (p + 1) u pv (pastW taps.length xs m)
  wt : ∃ qv, u.heap[Y]? = some (.cells #[.int .i64 s, .int .i64 l, .int .i64 n, .int .i64 f, qv, .int .i64 (tw s l n f taps fa sh xs num m).1.count, .int .i64 (tw s l n f taps fa sh xs num m).1.on, .int .i64 (tw s l n f taps fa sh xs num m).1.off, .int .i64 (tw s l n f taps fa sh xs num m).1.pk] 43 (0, 0)) ∧ Slb (p + 1) u qv (tw s l n f taps fa sh xs num m).1.past
  ow : u.ownsRow (Y + 1) 41 3 ov (tw s l n f taps fa sh xs num m).2.length (flatT (tw s l n f taps fa sh xs num m).2)
  ord : w0.heap.size ≤ p ∧ p < K ∧ K + 1 < X ∧ X < Y
  ft : Top K (.slice ta taps.length tc)
  xt : Top K xv
theorem StrAt.later {w0 : World} {p K X Y : Nat} {ta : Option Addr} {tc : Nat} {fa sh : Int} {taps : List Int} {s l n f : Int} {xv : Value} {xs : List Int} {num : Int} {m : Nat} {ov : Value} {u u' : World} (h : StrAt w0 p K X Y ta tc fa sh taps s l n f xv xs num m ov u) (hg : u.grownBy u' none) : StrAt w0 p K X Y ta tc fa sh taps s l n f xv xs num m ov u' := by
  obtain ⟨v', pv, d1, d2, d3⟩ := h.fd
  obtain ⟨qv, t1, t2⟩ := h.wt
  exact ⟨h.dc.later hg (by simp), gb_trans h.g hg, kept0 hg h.df, kept0 hg h.dd, h.fs.later hg, h.xs_.later hg, ⟨v', pv, kept0 hg d1, d2.later hg, d3.later hg⟩, ⟨qv, kept0 hg t1, t2.later hg⟩, owns_keep h.ow hg, h.ord, h.ft, h.xt⟩
theorem StrAt.draw {w0 : World} {p K X Y : Nat} {ta : Option Addr} {tc : Nat} {fa sh : Int} {taps : List Int} {s l n f : Int} {xv : Value} {xs : List Int} {num : Int} {m : Nat} {ov : Value} {u u' : World} (h : StrAt w0 p K X Y ta tc fa sh taps s l n f xv xs num m ov u) (hd : Dc p u' p) (hg : u.grownBy u' (some p)) : StrAt w0 p K X Y ta tc fa sh taps s l n f xv xs num m ov u' := by
  obtain ⟨v', pv, d1, d2, d3⟩ := h.fd
  obtain ⟨qv, t1, t2⟩ := h.wt
  have ho := h.ord
  exact ⟨hd, gbNew h.g hg (fun q e => by simp at e; omega), keptp hg h.df (by omega), keptp hg h.dd (by omega), h.fs.laterp hg (by omega), h.xs_.laterp hg (by omega), ⟨v', pv, keptp hg d1 (by omega), d2.laterp hg (by omega), d3.laterp hg (by omega)⟩, ⟨qv, keptp hg t1 (by omega), t2.laterp hg (by omega)⟩, owns_keepp h.ow hg (by omega), h.ord, h.ft, h.xt⟩
/-- What filter.Push returns in the loop. -/
def PushG (S0 : Nat) (fa sh : Int) (taps xs : List Int) (num : Int) (m b : Nat) (r : Value) (u : World) : Prop :=
  ∃ a1 c1 a2 c2 a3 c3, r = .tuple #[.agg #[.slice a1 taps.length c1, .int .i64 fa, .int .i64 sh, .slice a2 (pastW taps.length xs b).length c2, .int .i64 (num + b)], .slice a3 (outR taps fa sh xs num m (b - m)).length c3, .int .i64 0] ∧
    Slb S0 u (.slice a1 taps.length c1) taps ∧ Slb S0 u (.slice a2 (pastW taps.length xs b).length c2) (pastW taps.length xs b) ∧ Slb S0 u (.slice a3 (outR taps fa sh xs num m (b - m)).length c3) (outR taps fa sh xs num m (b - m))
theorem PushG.stF {S0 : Nat} {fa sh : Int} {taps xs : List Int} {num : Int} {m b : Nat} {r : Value} {u u' : World} (h : PushG S0 fa sh taps xs num m b r u) (hs : StF 36 u u') : PushG S0 fa sh taps xs num m b r u' := by
  obtain ⟨a1, c1, a2, c2, a3, c3, e, h1, h2, h3⟩ := h
  exact ⟨a1, c1, a2, c2, a3, c3, e, h1.stF hs (by decide), h2.stF hs (by decide), h3.stF hs (by decide)⟩
theorem PushG.later {S0 : Nat} {fa sh : Int} {taps xs : List Int} {num : Int} {m b : Nat} {r : Value} {u u' : World} (h : PushG S0 fa sh taps xs num m b r u) (hs : u.grownBy u' none) : PushG S0 fa sh taps xs num m b r u' := by
  obtain ⟨a1, c1, a2, c2, a3, c3, e, h1, h2, h3⟩ := h
  exact ⟨a1, c1, a2, c2, a3, c3, e, h1.later hs, h2.later hs, h3.later hs⟩
theorem PushG.known {S0 : Nat} {fa sh : Int} {taps xs : List Int} {num : Int} {m b : Nat} {a1 a2 a3 : Option Addr} {c1 c2 c3 : Nat} {u : World} (h : PushG S0 fa sh taps xs num m b (.tuple #[.agg #[.slice a1 taps.length c1, .int .i64 fa, .int .i64 sh, .slice a2 (pastW taps.length xs b).length c2, .int .i64 (num + b)], .slice a3 (outR taps fa sh xs num m (b - m)).length c3, .int .i64 0]) u) :
    Slb S0 u (.slice a1 taps.length c1) taps ∧ Slb S0 u (.slice a2 (pastW taps.length xs b).length c2) (pastW taps.length xs b) ∧ Slb S0 u (.slice a3 (outR taps fa sh xs num m (b - m)).length c3) (outR taps fa sh xs num m (b - m)) := by
  obtain ⟨a1', c1', a2', c2', a3', c3', e, h⟩ := h
  simp only [Value.tuple.injEq, Array.mk.injEq, List.cons.injEq, Value.agg.injEq, Value.slice.injEq, and_true, true_and] at e
  obtain ⟨⟨⟨rfl, rfl⟩, rfl, rfl⟩, rfl, rfl⟩ := e
  exact h
theorem owns_keepv {w w' : World} {B e size n : Nat} {v : Value} {xs : List Value} {row : Option Nat} (h : w.ownsRow B e size v n xs) (hg : w.grownBy w' row) (hr : ∀ q, row = some q → q < B) : w'.ownsRow B e size v n xs := by
  cases row with
  | none => exact owns_keep h hg
  | some q => exact owns_keepp h hg (hr q rfl)
/-- A piece more. -/
theorem StrAt.next {w0 : World} {p K X Y : Nat} {ta : Option Addr} {tc : Nat} {fa sh : Int} {taps : List Int} {s l n f : Int} {xv : Value} {xs : List Int} {num : Int} {m b S0 : Nat} {ov ov' v' pv qv : Value} {L : List Tg} {u u' : World} (h : StrAt w0 p K X Y ta tc fa sh taps s l n f xv xs num m ov u)
    (hT : T2 u X Y 5 9 36 43 ov (Y + 1) 41 3 (tw s l n f taps fa sh xs num m).2.length (flatT (tw s l n f taps fa sh xs num m).2) u')
    (hX : u'.heap[X]? = some (.cells #[v', .int .i64 fa, .int .i64 sh, pv, .int .i64 (num + b)] 36 (0, 0))) (hY : u'.heap[Y]? = some (.cells #[.int .i64 s, .int .i64 l, .int .i64 n, .int .i64 f, qv, .int .i64 (tw s l n f taps fa sh xs num b).1.count, .int .i64 (tw s l n f taps fa sh xs num b).1.on, .int .i64 (tw s l n f taps fa sh xs num b).1.off, .int .i64 (tw s l n f taps fa sh xs num b).1.pk] 43 (0, 0)))
    (hv : Slb S0 u v' taps) (hpv : Slb S0 u pv (pastW taps.length xs b)) (hqv : Slb S0 u qv (tw s l n f taps fa sh xs num b).1.past) (hS : ∀ g, ov.ownBlock = some g → g < S0) (hYS : Y < S0)
    (hL : (tw s l n f taps fa sh xs num b).2 = (tw s l n f taps fa sh xs num m).2 ++ L) (ho : u'.ownsRow (Y + 1) 41 3 ov' ((tw s l n f taps fa sh xs num m).2.length + L.length) (flatT (tw s l n f taps fa sh xs num m).2 ++ flatT L)) : StrAt w0 p K X Y ta tc fa sh taps s l n f xv xs num b ov' u' := by
  have hord := h.ord
  have hov : ∀ g, ov.ownBlock = some g → Y + 1 ≤ g := fun g e => (h.ow.lt g e).1
  have hlow : ∀ i, i < X → i < u.heap.size → u'.heap[i]? = u.heap[i]? := fun i hi hs => hT.block i hs (by omega) (by omega) (fun e => by have := hov i e.symm; omega)
  have hnew : ∀ {z : Value} {ys : List Int}, Slb S0 u z ys → Slb (p + 1) u' z ys := fun hz => (hz.keepH hT.sz fun b off n c e h0 => by
    have h1 := hz.low b off n c e h0
    obtain ⟨cs, hc⟩ := hz.ty b off n c e h0
    exact hT.block b (blkLt hc) (by omega) (by omega) (fun e => by have := hS b e.symm; omega)).mono (by omega)
  have hold : ∀ {z : Value} {ys : List Int}, Top K z → Slb (p + 1) u z ys → Slb (p + 1) u' z ys := fun ht hz => hz.keepH hT.sz fun b off n c e h0 => by
    have h1 := ht b off n c e h0
    obtain ⟨cs, hc⟩ := hz.ty b off n c e h0
    exact hlow b (by omega) (blkLt hc)
  refine ⟨h.dc.keepH hT.sz fun b hb hs => hlow b (by omega) hs, ⟨hT.os.trans h.g.os, hT.tape.trans h.g.tape, hT.output.trans h.g.output, Nat.le_trans h.g.size hT.sz, fun i hi hr => (hT.block i (Nat.lt_of_lt_of_le hi h.g.size) (by omega) (by omega) (fun e => by have := hov i e.symm; omega)).trans (h.g.block i hi hr)⟩,
    (hlow K (by omega) (blkLt h.df)).trans h.df, (hlow (K + 1) (by omega) (blkLt h.dd)).trans h.dd, hold h.ft h.fs, hold h.xt h.xs_, ⟨_, _, hX, hnew hv, hnew hpv⟩, ⟨_, hY, hnew hqv⟩, ?_, h.ord, h.ft, h.xt⟩
  rw [hL, List.length_append, flatT_append]
  exact ho
set_option maxRecDepth 100000 in
set_option maxHeartbeats 20000000 in
theorem topStreams_walk (w : World) (v : Value) (zs : List Int) (hs : Sl w v zs) (_hx : ∀ x ∈ zs, -9223372036854775808 ≤ x ∧ x ≤ 9223372036854775807) :
    Calls Tryz.prog 3 #[v] w fun e w' => e = .returned (.bool true) ∧ Below w.heap.size w w' := by
  have hlm : zs.length ≤ 9223372036854775807 := by
    rcases hs with ⟨rfl, -⟩ | ⟨b, off, cap, -, -, h1, h2, -⟩
    · simp
    · omega
  go_enter Tryz.func3, Tryz.ntmps3
  go_wp2_with fail
  (with_reducible refine (Awk.awake_any w).mono ?_)
  rintro r w1 ⟨rfl, hg⟩
  have S1 := Lib.hid (hs.later (row := none) hg (by simp)); have G1 := Lib.hid hg
  clear hg hs
  go_wp2_with fail
  by_cases hl : zs.length ≤ 500
  case neg =>
    (with_reducible refine (light_any w1 v zs S1.out hlm).mono ?_)
    rintro r w2 ⟨rfl, rfl⟩
    simp only [hl, decide_false]
    go_wp2_with fail
    (with_reducible refine (Awk.awake_any w1).mono ?_)
    rintro r w2 ⟨rfl, hg⟩
    have GE := Lib.hid (gb_end (gb_trans G1.out hg))
    go_wp2_with fail
    go_ret
    exact ⟨rfl, GE.out⟩
  case pos =>
  (with_reducible refine (light_any w1 v zs S1.out hlm).mono ?_)
  rintro r w2 ⟨rfl, rfl⟩
  simp only [hl, decide_true]
  go_wp2_with fail
  (with_reducible refine (roll_any w1 v zs S1.out hl).mono ?_)
  rintro r w2 ⟨rfl, hd, hg⟩
  have D2 := Lib.hid hd; have G2 := Lib.hid (gb_trans G1.out hg)
  have hp : w.heap.size ≤ w1.heap.size := blkLe G1.out
  generalize w1.heap.size = p at *
  clear hd hg S1 G1 hlm hl _hx
  go_wp2_with fail
  (with_reducible refine (dfilter_any p w2 p D2.out).mono ?_)
  rintro r w3 ⟨tv, fa, sh, taps, rfl, hfa, hsh, hl1, hl5, habs, hown, hd, hg⟩
  have hp2 := D2.out.lt.2
  have FOK : Hid (FilOk fa sh taps) := Lib.hid ⟨hfa, hsh, ⟨hl1, hl5⟩, habs⟩
  have G3 := Lib.hid (gbNew G2.out hg (fun q e => by simp at e; omega)); have D3 := Lib.hid hd
  have FS3 := Lib.hid ((Slb.of hown rfl).mono (show p + 1 ≤ w2.heap.size by omega))
  obtain ⟨ta, tc, rfl⟩ := owns_slice hown
  have FT3 : Hid (Top w3.heap.size (.slice ta taps.length tc)) := Lib.hid fun b off n c e _ => (hown.lt b (by rw [e]; rfl)).2
  have h23 := blkLe hg
  clear hown hd hg G2 D2 habs
  go_wp2_with fail
  (with_reducible refine (ddetector_any p w3 p D3.out).mono ?_)
  rintro r w4 ⟨s, l, n, f, rfl, hdok, hd, hg⟩
  have DOK := Lib.hid hdok
  have G4 := Lib.hid (gbNew G3.out hg (fun q e => by simp at e; omega)); have D4 := Lib.hid hd
  have FS4 := Lib.hid (FS3.out.laterp hg (by omega))
  have h34 := blkLe hg
  clear hd hg hdok G3 D3 FS3
  go_wp2_with fail
  (with_reducible refine (dwave_any p w4 p D4.out).mono ?_)
  rintro r w5 ⟨xv, xs, rfl, hown, hx1, hx80, hxb, hd, hg⟩
  have HXB := Lib.hid hxb
  have G5 := Lib.hid (gbNew G4.out hg (fun q e => by simp at e; omega)); have D5 := Lib.hid hd
  have FS5 := Lib.hid (FS4.out.laterp hg (by omega))
  have XS5 := Lib.hid ((Slb.of hown rfl).mono (show p + 1 ≤ w4.heap.size by omega))
  obtain ⟨xb, xc, rfl, hxc1, hxc2⟩ : ∃ xb xc, xv = .slice (some ⟨xb, 0, none⟩) xs.length xc ∧ xs.length ≤ xc ∧ xc ≤ 9223372036854775807 := by
    rcases hown.2 with ⟨-, h0⟩ | ⟨g, c, cur, e, -, -, c1, c2, -⟩
    · omega
    · exact ⟨g, c, e, c1, by unfold maxLen at c2; omega⟩
  have h45 := blkLe hg
  have XT : Hid (Top w5.heap.size (.slice (some ⟨xb, 0, none⟩) xs.length xc)) := Lib.hid fun b off n c e _ => (hown.lt b (by rw [e]; rfl)).2
  have FT : Hid (Top w5.heap.size (.slice ta taps.length tc)) := Lib.hid fun b off n c e h0 => by have := FT3.out b off n c e h0; omega
  have hpK : p < w5.heap.size := by omega
  clear hown hd hg hxb G4 D4 FS4 FT3
  go_upto_region 5 with fail
  have g6 := gb_alloc (gb_alloc (gb_refl w5 none) (.cells #[.slice ta taps.length tc, .int .i64 fa, .int .i64 sh] 28)) (.cells #[.int .i64 s, .int .i64 l, .int .i64 n, .int .i64 f] 31)
  have K6 := Lib.hid (show ((w5.alloc (.cells #[.slice ta taps.length tc, .int .i64 fa, .int .i64 sh] 28)).alloc (.cells #[.int .i64 s, .int .i64 l, .int .i64 n, .int .i64 f] 31)).heap[w5.heap.size]? = some (.cells #[.slice ta taps.length tc, .int .i64 fa, .int .i64 sh] 28 (0, 0)) from heapOld (kbox _ _).out)
  have E6 := Lib.hid (show ((w5.alloc (.cells #[.slice ta taps.length tc, .int .i64 fa, .int .i64 sh] 28)).alloc (.cells #[.int .i64 s, .int .i64 l, .int .i64 n, .int .i64 f] 31)).heap[w5.heap.size + 1]? = some (.cells #[.int .i64 s, .int .i64 l, .int .i64 n, .int .i64 f] 31 (0, 0)) from by simpa using (kbox (w := w5.alloc (.cells #[.slice ta taps.length tc, .int .i64 fa, .int .i64 sh] 28)) #[.int .i64 s, .int .i64 l, .int .i64 n, .int .i64 f] 31).out)
  have G6 := Lib.hid (gb_trans G5.out g6); have D6 := Lib.hid (D5.out.later g6 (by simp)); have FS6 := Lib.hid (FS5.out.later g6); have XS6 := Lib.hid (XS5.out.later g6)
  clear g6 G5 D5 FS5 XS5 h23 h34 h45
  generalize (w5.alloc (.cells #[.slice ta taps.length tc, .int .i64 fa, .int .i64 sh] 28)).alloc (.cells #[.int .i64 s, .int .i64 l, .int .i64 n, .int .i64 f] 31) = w6 at *
  generalize w5.heap.size = K at *
  go_wp2_with fail
  (with_reducible refine (dnext_any p w6 p 100 D6.out (by omega) (by omega)).mono ?_)
  rintro r w7 ⟨num, rfl, hnum, hd, hg⟩
  have G7 := Lib.hid (gbNew G6.out hg (fun q e => by simp at e; omega)); have D7 := Lib.hid hd; have FS7 := Lib.hid (FS6.out.laterp hg (by omega)); have XS7 := Lib.hid (XS6.out.laterp hg (by omega))
  have K7 := Lib.hid (keptp hg K6.out (by omega)); have E7 := Lib.hid (keptp hg E6.out (by omega))
  clear hd hg G6 D6 FS6 XS6 K6 E6
  have k0_ := cellD K7.out 0 _ rfl; have k1_ := cellD K7.out 1 _ rfl; have k2_ := cellD K7.out 2 _ rfl
  go_wp2_with fail
  (with_reducible refine (fstart_any fa sh taps _ num w7 FOK.out FS7.out.sl FS7.out.nn (by omega)).mono ?_)
  rintro r w8 ⟨v1, rfl, hv, hg⟩
  obtain ⟨a1, c1, rfl⟩ := hv.sl.shape'
  clear k0_ k1_ k2_
  have hK7 := blkLt E7.out
  have G8 := Lib.hid (gb_trans G7.out hg); have D8 := Lib.hid (D7.out.later hg (by simp)); have FS8 := Lib.hid (FS7.out.later hg); have XS8 := Lib.hid (XS7.out.later hg)
  have K8 := Lib.hid (kept0 hg K7.out); have E8 := Lib.hid (kept0 hg E7.out); have V8 := Lib.hid (hv.mono (show p + 1 ≤ w7.heap.size by omega))
  have hK8 := blkLt E8.out
  clear hv hg G7 D7 FS7 XS7 K7 E7 hK7
  go_upto_region 7 with fail
  have g9 := gb_alloc (gb_refl w8 none) (.cells #[.slice a1 taps.length c1, .int .i64 fa, .int .i64 sh, .slice none 0 0, .int .i64 num] 36)
  have X9 := kbox (w := w8) #[.slice a1 taps.length c1, .int .i64 fa, .int .i64 sh, .slice none 0 0, .int .i64 num] 36
  have G9 := Lib.hid (gb_trans G8.out g9); have D9 := Lib.hid (D8.out.later g9 (by simp)); have FS9 := Lib.hid (FS8.out.later g9); have XS9 := Lib.hid (XS8.out.later g9)
  have K9 := Lib.hid (kept0 g9 K8.out); have E9 := Lib.hid (kept0 g9 E8.out); have V9 := Lib.hid (V8.out.later g9)
  clear g9 G8 D8 FS8 XS8 K8 E8 V8
  generalize w8.alloc (.cells #[.slice a1 taps.length c1, .int .i64 fa, .int .i64 sh, .slice none 0 0, .int .i64 num] 36) = w9 at *
  generalize w8.heap.size = X at *
  have e0_ := cellD E9.out 0 _ rfl; have e1_ := cellD E9.out 1 _ rfl; have e2_ := cellD E9.out 2 _ rfl; have e3_ := cellD E9.out 3 _ rfl
  go_wp2_with fail
  (with_reducible refine (dstart_any s l n f w9 DOK.out).mono ?_)
  rintro r w10 ⟨rfl, hg⟩
  clear e0_ e1_ e2_ e3_
  go_upto_region 8 with fail
  have g11 := gb_trans hg (gb_alloc (gb_refl w10 none) (.cells #[.int .i64 s, .int .i64 l, .int .i64 n, .int .i64 f, .slice none 0 0, .int .i64 0, .int .i64 (-1), .int .i64 0, .int .i64 0] 43))
  have Y11 := kbox (w := w10) #[.int .i64 s, .int .i64 l, .int .i64 n, .int .i64 f, .slice none 0 0, .int .i64 0, .int .i64 (-1), .int .i64 0, .int .i64 0] 43
  have hXY : X < w10.heap.size := by have := blkLt X9.out; have := blkLe hg; omega
  have A0 : Hid (StrAt w p K X w10.heap.size ta tc fa sh taps s l n f (.slice (some ⟨xb, 0, none⟩) xs.length xc) xs num 0 (.slice none 0 0) (w10.alloc (.cells #[.int .i64 s, .int .i64 l, .int .i64 n, .int .i64 f, .slice none 0 0, .int .i64 0, .int .i64 (-1), .int .i64 0, .int .i64 0] 43))) := Lib.hid ⟨D9.out.later g11 (by simp), gb_trans G9.out g11, kept0 g11 K9.out, kept0 g11 E9.out, FS9.out.later g11, XS9.out.later g11,
    ⟨_, _, by simpa using kept0 g11 X9.out, V9.out.later g11, by simpa [pastW] using Slb.nil (p + 1) _⟩, ⟨_, by rw [tw_zero]; exact Y11.out, by rw [tw_zero]; exact Slb.nil (p + 1) _⟩, by rw [tw_zero]; exact World.ownsRow_nil _ _ _ _, ⟨hp, hpK, hK8, hXY⟩, FT.out, XT.out⟩
  clear g11 hg Y11 D9 G9 K9 E9 FS9 XS9 X9 V9 FT XT
  generalize w10.alloc (.cells #[.int .i64 s, .int .i64 l, .int .i64 n, .int .i64 f, .slice none 0 0, .int .i64 0, .int .i64 (-1), .int .i64 0, .int .i64 0] 43) = w11 at *
  generalize w10.heap.size = Y at *
  go_wp2_with fail
  go_loopw [12, 13] (fun ov av wr => ∃ m : Nat, av = .int .i64 m ∧ m ≤ xs.length ∧ StrAt w p K X Y ta tc fa sh taps s l n f (.slice (some ⟨xb, 0, none⟩) xs.length xc) xs num m ov wr) (fun _ av _ => xs.length - (intOf av).toNat)
  case atStart => exact ⟨0, rfl, by omega, A0.out⟩
  case round =>
    obtain ⟨m, rfl, hm, hA⟩ := hrel
    have AR := Lib.hid hA
    have HOV : Hid (∀ g, u12.ownBlock = some g → g < wr.heap.size) := Lib.hid fun g e => (hA.ow.lt g e).2
    clear hA A0
    by_cases hlt : m < xs.length
    · go_wp2_with fail
      (with_reducible refine (dnext_any p _ p 11 AR.out.dc (by omega) (by omega)).mono ?_)
      rintro r w12 ⟨q, rfl, hq, hd, hg⟩
      have A12 := Lib.hid (AR.out.draw hd hg)
      clear hd hg AR
      obtain ⟨j, rfl⟩ : ∃ j : Nat, q = (j : Int) := ⟨q.toNat, by omega⟩
      go_upto_region 14 with fail
      obtain ⟨b, hbe, hb1, hb2⟩ : ∃ b : Nat, (if (xs.length : Int) < (m : Int) + 1 + (j : Int) then (xs.length : Int) else (m : Int) + 1 + (j : Int)) = (b : Int) ∧ m < b ∧ b ≤ xs.length := by
        by_cases hc : (xs.length : Int) < (m : Int) + 1 + (j : Int)
        · exact ⟨xs.length, if_pos hc, hlt, Nat.le_refl _⟩
        · exact ⟨m + 1 + j, by rw [if_neg hc]; omega, by omega, by omega⟩
      have hbm : min ((m : Int) + 1 + (j : Int)) (xs.length : Int) = (b : Int) := by
        rw [← hbe]; split <;> omega
      simp only [hbe, hbm]
      clear hbe hbm hq
      have HF := A12.out.fd
      obtain ⟨v0, pv0, hfd, hv0, hpv0⟩ := HF
      obtain ⟨va0, vc0, rfl⟩ := hv0.sl.shape'
      obtain ⟨pa0, pc0, rfl⟩ := hpv0.sl.shape'
      obtain ⟨pn, hpn⟩ : ∃ pn, (pastW taps.length xs m).length = pn := ⟨_, rfl⟩
      have PC := Lib.hid (Slb.cut A12.out.xs_ (m := m) (k := b) (by omega) hb2)
      have hX12 := blkLt hfd
      have FPU : Hid (∀ u, w12.grownBy u none → Calls Tryz.prog 13 #[.agg #[.slice va0 taps.length vc0, .int .i64 fa, .int .i64 sh, .slice pa0 (pastW taps.length xs m).length pc0, .int .i64 (num + m)], .slice (some ⟨xb, m, none⟩) (b - m) (xc - m)] u fun e w' => ∃ r, e = .returned r ∧ PushG w12.heap.size fa sh taps xs num m b r w' ∧ u.grownBy w' none) := Lib.hid fun u hu => by
        have hpl := pastW_len (xs := xs) (n := m) hl1 hm
        have hcl := piece_len (xs := xs) (a := m) hb2
        have hnx := past_next (T := taps.length) (xs := xs) (a := m) (b := b) (by omega) hb2 hl1
        have hop := outR_piece taps fa sh xs num m b (by omega) hb2 hl1
        refine (fpush_any fa sh taps (pastW taps.length xs m) (piece xs m b) _ _ _ (num + m) u FOK.out (hv0.sl.later hu (by simp)) hv0.nn (hpv0.sl.later hu (by simp)) hpv0.nn (PC.out.sl.later hu (by simp)) PC.out.nn (fun x hx => by have := HXB.out x (pastW_mem x hx); omega) (fun x hx => by have := HXB.out x (piece_mem x hx); omega) (by omega) (by omega) (by omega) (by omega)).mono ?_
        rintro e w' ⟨v', pv', o', rfl, h1, h2, h3, hg⟩
        have hsz := blkLe hu
        have hnb : num + (m : Int) + ((piece xs m b).length : Int) = num + (b : Int) := by rw [hcl]; omega
        rw [hnx] at h2
        rw [hop] at h3
        obtain ⟨a1, c1, rfl⟩ := h1.sl.shape'
        obtain ⟨a2, c2, rfl⟩ := h2.sl.shape'
        obtain ⟨a3, c3, rfl⟩ := h3.sl.shape'
        exact ⟨_, rfl, ⟨a1, c1, a2, c2, a3, c3, by rw [hnb], h1.mono hsz, h2.mono hsz, h3.mono hsz⟩, hg⟩
      have e0_ := cellD hfd 0 _ rfl; have e1_ := cellD hfd 1 _ rfl; have e2_ := cellD hfd 2 _ rfl; have e3_ := cellD hfd 3 _ rfl; have e4_ := cellD hfd 4 _ rfl
      have ux_ := Made.cells hX12
      clear hfd hv0 hpv0 hpn
      refine Rg.region (Made w12) (StR 11 36) (fun k => if k = 5 then some (fun _ v u => PushG w12.heap.size fa sh taps xs num m b v u) else if k = 10 then some (isVar w12 5 36) else if k = 11 then some (isRowF 36) else none) (fun _ => false) 0 14 (by kernel_rfl) (by kernel_rfl) (by kernel_rfl) (by kernel_rfl) (by kernel_rfl) (by kernel_rfl) (by kernel_rfl) StR.size (Made.start w12) (fun hne => ?_)
      (repeat (refine rLexL_quiet (by rfl) (by rfl) (by rfl) (by rfl) ?_; go_big_quiet_step (fail); refine wpQuiet_nil ?_))
      refine rg_callF (by omega) (fun v u => PushG w12.heap.size fa sh taps xs num m b v u) (fun v u u' hu h => h.stF hu) (fun v u u' hu h => h.later hu) 13 _ rfl rfl (fun _ => by go_simp) (fun u hu => FPU.out u hu) (fun r u hr => ?_)
      obtain ⟨a1, c1, a2, c2, a3, c3, rfl, -⟩ := hr
      simp only [Act.put, List.setIfInBounds_toArray, List.set_cons_zero, List.set_cons_succ]
      (repeat (refine rLexL_quiet (by rfl) (by rfl) (by rfl) (by rfl) ?_; go_big_quiet_step (fail); refine wpQuiet_nil ?_))
      refine rg_varF #[.slice none 0 0, .int .i64 0, .int .i64 0, .slice none 0 0, .int .i64 0] (by omega) rfl rfl (fun _ => by go_simp) (fun nb hnb => ?_)
      simp only [Act.put, List.setIfInBounds_toArray, List.set_cons_zero, List.set_cons_succ]
      refine rg_storeF rfl nb #[.slice a1 taps.length c1, .int .i64 fa, .int .i64 sh, .slice a2 (pastW taps.length xs b).length c2, .int .i64 (num + b)] _ _ _ 10 ⟨⟨10, .data⟩, by simp, rfl, rfl⟩ rfl rfl rfl rfl (by kernel_rfl) (by simp [Value.oneCell']) hnb rfl rfl rfl ?_
      simp only [Act.put, List.setIfInBounds_toArray, List.set_cons_zero, List.set_cons_succ]
      (repeat (refine rLexL_quiet (by rfl) (by rfl) (by rfl) (by rfl) ?_; go_big_quiet_step (fail); refine wpQuiet_nil ?_))
      rintro wq hgq hf hD
      have hp5 : PushG w12.heap.size fa sh taps xs num m b _ wq := hf 5
      have N15 := Lib.hid (isRowF.out (v := undef) (hf 11))
      have AQ := Lib.hid (A12.out.later hgq)
      obtain ⟨hnv, hnp, hno⟩ := hp5.known
      have NV := Lib.hid hnv; have NP := Lib.hid hnp; have NO := Lib.hid hno
      have h12 := blkLe hgq
      have HYS : Hid (Y < w12.heap.size) := Lib.hid (by obtain ⟨_, h, -⟩ := A12.out.wt; exact blkLt h)
      have HOV : Hid (∀ g, u12.ownBlock = some g → g < w12.heap.size) := Lib.hid fun g e => (A12.out.ow.lt g e).2
      clear hf hD hp5 hnv hnp hno hne ux_ e0_ e1_ e2_ e3_ e4_ FPU PC hgq A12
      generalize w12.heap.size = S0 at *
      obtain ⟨L, hL⟩ : ∃ L, (lookAll s l n f (tw s l n f taps fa sh xs num m).1 (outR taps fa sh xs num m (b - m))).2 = L := ⟨_, rfl⟩
      have hdl : 1 < l := by have := DOK.out.s1; have := DOK.out.l1; omega
      have hts := tw_step s l n f taps fa sh xs num (a := m) (b := b) (by omega)
      have HL : Hid ((tw s l n f taps fa sh xs num b).2 = (tw s l n f taps fa sh xs num m).2 ++ L) := Lib.hid (by rw [hts, ← hL])
      have DPU : Hid (∀ (u : World) (qv x : Value), Slb (p + 1) u qv (tw s l n f taps fa sh xs num m).1.past → Slb S0 u x (outR taps fa sh xs num m (b - m)) → Calls Tryz.prog 14 #[.agg #[.int .i64 s, .int .i64 l, .int .i64 n, .int .i64 f, qv, .int .i64 (tw s l n f taps fa sh xs num m).1.count, .int .i64 (tw s l n f taps fa sh xs num m).1.on, .int .i64 (tw s l n f taps fa sh xs num m).1.off, .int .i64 (tw s l n f taps fa sh xs num m).1.pk], x] u fun e w' => ∃ qa qc ev', e = .returned (.tuple #[.agg #[.int .i64 s, .int .i64 l, .int .i64 n, .int .i64 f, .slice qa (tw s l n f taps fa sh xs num b).1.past.length qc, .int .i64 (tw s l n f taps fa sh xs num b).1.count, .int .i64 (tw s l n f taps fa sh xs num b).1.on, .int .i64 (tw s l n f taps fa sh xs num b).1.off, .int .i64 (tw s l n f taps fa sh xs num b).1.pk], ev', .int .i64 0]) ∧
          Slb u.heap.size w' (.slice qa (tw s l n f taps fa sh xs num b).1.past.length qc) (tw s l n f taps fa sh xs num b).1.past ∧ w'.ownsRow u.heap.size 41 3 ev' L.length (flatT L) ∧ u.grownBy w' none) := Lib.hid fun u qv x hq hx => by
        obtain ⟨k1, k2, k3⟩ := tw_ok (s := s) (l := l) (n := n) (f := f) (xs := xs) (num := num) m hdl FOK.out HXB.out (by omega)
        have hob := outR_bound FOK.out xs num m (b - m) 100 (by omega) HXB.out
        have hol := outR_len taps fa sh xs num m (b - m)
        refine (dpush_any s l n f (tw s l n f taps fa sh xs num m).1 (outR taps fa sh xs num m (b - m)) _ _ u DOK.out k1 hq.sl hx.sl (fun x hx => by have := hob x hx; omega) (by omega) (by omega)).mono ?_
        rintro e w' ⟨pv', ev', rfl, h1, h2, hg⟩
        have e1 : (lookAll s l n f (tw s l n f taps fa sh xs num m).1 (outR taps fa sh xs num m (b - m))).1 = (tw s l n f taps fa sh xs num b).1 := by rw [hts]
        rw [e1] at h1
        rw [hL] at h2
        obtain ⟨qa, qc, rfl⟩ := h1.sl.shape'
        exact ⟨qa, qc, ev', by rw [e1], h1, h2, hg⟩
      have HLL : Hid ((tw s l n f taps fa sh xs num m).2.length ≤ 80 ∧ L.length ≤ 80 ∧ (tw s l n f taps fa sh xs num b).2.length ≤ 80) := Lib.hid (by
        obtain ⟨-, -, k3⟩ := tw_ok (s := s) (l := l) (n := n) (f := f) (xs := xs) (num := num) m hdl FOK.out HXB.out (by omega)
        obtain ⟨-, -, k4⟩ := tw_ok (s := s) (l := l) (n := n) (f := f) (xs := xs) (num := num) b hdl FOK.out HXB.out (by omega)
        have := congrArg List.length HL.out
        rw [List.length_append] at this
        omega)
      clear hts hL
      obtain ⟨qv, hw43, hqv⟩ := AQ.out.wt
      have QV := Lib.hid hqv
      have y0_ := cellD hw43 0 _ rfl; have y1_ := cellD hw43 1 _ rfl; have y2_ := cellD hw43 2 _ rfl; have y3_ := cellD hw43 3 _ rfl; have y4_ := cellD hw43 4 _ rfl; have y5_ := cellD hw43 5 _ rfl; have y6_ := cellD hw43 6 _ rfl; have y7_ := cellD hw43 7 _ rfl; have y8_ := cellD hw43 8 _ rfl
      have hYq := blkLt hw43
      clear hw43 hqv
      go_wp2_with fail
      (with_reducible refine (DPU.out wq qv _ QV.out NO.out).mono ?_)
      rintro r w14 ⟨qa, qc, ev, rfl, hq1, hev, hg⟩
      have A14 := Lib.hid (AQ.out.later hg); have N14 := Lib.hid (kept0 hg N15.out); have V14 := Lib.hid (NV.out.later hg); have P14 := Lib.hid (NP.out.later hg)
      have Q14 := Lib.hid (hq1.mono h12); have EV := Lib.hid (ownMono hev h12)
      clear y0_ y1_ y2_ y3_ y4_ y5_ y6_ y7_ y8_ hq1 hev DPU QV AQ N15 NV NP NO
      have hw14 := blkLe hg
      go_upto_region 16 with fail
      have g15 := gb_alloc (gb_refl w14 none) (.cells #[.int .i64 s, .int .i64 l, .int .i64 n, .int .i64 f, .slice qa (tw s l n f taps fa sh xs num b).1.past.length qc, .int .i64 (tw s l n f taps fa sh xs num b).1.count, .int .i64 (tw s l n f taps fa sh xs num b).1.on, .int .i64 (tw s l n f taps fa sh xs num b).1.off, .int .i64 (tw s l n f taps fa sh xs num b).1.pk] 43)
      have Z15 := kbox (w := w14) #[.int .i64 s, .int .i64 l, .int .i64 n, .int .i64 f, .slice qa (tw s l n f taps fa sh xs num b).1.past.length qc, .int .i64 (tw s l n f taps fa sh xs num b).1.count, .int .i64 (tw s l n f taps fa sh xs num b).1.on, .int .i64 (tw s l n f taps fa sh xs num b).1.off, .int .i64 (tw s l n f taps fa sh xs num b).1.pk] 43
      have A15 := Lib.hid (A14.out.later g15); have N16 := Lib.hid (kept0 g15 N14.out); have V15 := Lib.hid (V14.out.later g15); have P15 := Lib.hid (P14.out.later g15); have Q15 := Lib.hid (Q14.out.later g15); have EV15 := Lib.hid (owns_keep EV.out g15)
      clear g15 hg A14 N14 V14 P14 Q14 EV
      have hZ : S0 ≤ w14.heap.size := by omega
      generalize w14.alloc (.cells #[.int .i64 s, .int .i64 l, .int .i64 n, .int .i64 f, .slice qa (tw s l n f taps fa sh xs num b).1.past.length qc, .int .i64 (tw s l n f taps fa sh xs num b).1.count, .int .i64 (tw s l n f taps fa sh xs num b).1.on, .int .i64 (tw s l n f taps fa sh xs num b).1.off, .int .i64 (tw s l n f taps fa sh xs num b).1.pk] 43) = w15 at *
      generalize w14.heap.size = Z at *
      go_upto_region 18 with fail
      obtain ⟨_, _, hX15, -⟩ := A15.out.fd
      obtain ⟨_, hY15, -⟩ := A15.out.wt
      have n0_ := cellD N16.out 0 _ rfl; have n1_ := cellD N16.out 1 _ rfl; have n2_ := cellD N16.out 2 _ rfl; have n3_ := cellD N16.out 3 _ rfl; have n4_ := cellD N16.out 4 _ rfl
      have z0_ := cellD Z15.out 0 _ rfl; have z1_ := cellD Z15.out 1 _ rfl; have z2_ := cellD Z15.out 2 _ rfl; have z3_ := cellD Z15.out 3 _ rfl; have z4_ := cellD Z15.out 4 _ rfl; have z5_ := cellD Z15.out 5 _ rfl; have z6_ := cellD Z15.out 6 _ rfl; have z7_ := cellD Z15.out 7 _ rfl; have z8_ := cellD Z15.out 8 _ rfl
      have hYS := HYS.out
      have hX := blkLt hX15; have hY := blkLt hY15; have hZ15 := blkLt Z15.out
      have un_ := T2.cell (w0 := w15) (X := X) (Y := Y) (nx := 5) (ny := 9) (TX := 36) (TY := 43) (v := u12) (B := Y + 1) (e := 41) (size := 3) (m := (tw s l n f taps fa sh xs num m).2.length) (xs := flatT (tw s l n f taps fa sh xs num m).2) (blkLt N16.out) (by omega) (by omega) (fun e => by have := HOV.out _ e.symm; omega)
      have uz_ := T2.cell (w0 := w15) (X := X) (Y := Y) (nx := 5) (ny := 9) (TX := 36) (TY := 43) (v := u12) (B := Y + 1) (e := 41) (size := 3) (m := (tw s l n f taps fa sh xs num m).2.length) (xs := flatT (tw s l n f taps fa sh xs num m).2) (blkLt Z15.out) (by omega) (by omega) (fun e => by have := HOV.out _ e.symm; omega)
      have hHLL := HLL.out
      refine Rg.region (T2 w15 X Y 5 9 36 43 u12 (Y + 1) 41 3 (tw s l n f taps fa sh xs num m).2.length (flatT (tw s l n f taps fa sh xs num m).2)) (R2 u12 X Y 4 6 7) (fun k => if k = 4 then some (fun _ v' u => u.ownsRow (Y + 1) 41 3 v' ((tw s l n f taps fa sh xs num m).2.length + L.length) (flatT (tw s l n f taps fa sh xs num m).2 ++ flatT L)) else if k = 6 then some (fun _ _ u => u.heap[X]? = some (.cells #[.slice a1 taps.length c1, .int .i64 fa, .int .i64 sh, .slice a2 (pastW taps.length xs b).length c2, .int .i64 (num + b)] 36 (0, 0))) else if k = 7 then some (fun _ _ u => u.heap[Y]? = some (.cells #[.int .i64 s, .int .i64 l, .int .i64 n, .int .i64 f, .slice qa (tw s l n f taps fa sh xs num b).1.past.length qc, .int .i64 (tw s l n f taps fa sh xs num b).1.count, .int .i64 (tw s l n f taps fa sh xs num b).1.on, .int .i64 (tw s l n f taps fa sh xs num b).1.off, .int .i64 (tw s l n f taps fa sh xs num b).1.pk] 43 (0, 0))) else none) (fun _ => false) 0 10 (by kernel_rfl) (by kernel_rfl) (by kernel_rfl) (by kernel_rfl) (by kernel_rfl) (by kernel_rfl) (by kernel_rfl) R2.size (T2.start hX15 hY15 rfl rfl A15.out.ow) (fun hne => ?_)
      (repeat (refine rLexL_quiet (by rfl) (by rfl) (by rfl) (by rfl) ?_; go_big_quiet_step (fail); refine wpQuiet_nil ?_))
      refine rg_pushT rfl (by omega) (by omega) (by omega) (by omega) (fun g e => by have := HOV.out g e; omega) ev S0 L.length (flatT L) EV15.out (fun g e => by have := (EV15.out.lt g e); exact ⟨by omega, by omega, fun e2 => by have := HOV.out g e2.symm; omega, by omega⟩) _ _ 46 (.agg #[.int .i64 0, .int .i64 0, .int .i64 0]) 24 Tryz.underlying46 Tryz.infoTrigT rfl (by decide) rfl rfl rfl rfl rfl (flatT_one L) (by omega) (by omega) (fun ov' u hov => ?_)
      simp only [Act.put, List.setIfInBounds_toArray, List.set_cons_zero, List.set_cons_succ]
      (repeat (refine rLexL_quiet (by rfl) (by rfl) (by rfl) (by rfl) ?_; go_big_quiet_step (fail); refine wpQuiet_nil ?_))
      refine rg_storeX rfl (by omega) (by omega) (by omega) #[.slice a1 taps.length c1, .int .i64 fa, .int .i64 sh, .slice a2 (pastW taps.length xs b).length c2, .int .i64 (num + b)] 36 _ _ rfl rfl rfl (by kernel_rfl) (by simp [Value.oneCell']) rfl rfl rfl rfl ?_
      simp only [Act.put, List.setIfInBounds_toArray, List.set_cons_zero, List.set_cons_succ]
      refine rg_storeY rfl (by omega) (by omega) (by omega) (by omega) #[.int .i64 s, .int .i64 l, .int .i64 n, .int .i64 f, .slice qa (tw s l n f taps fa sh xs num b).1.past.length qc, .int .i64 (tw s l n f taps fa sh xs num b).1.count, .int .i64 (tw s l n f taps fa sh xs num b).1.on, .int .i64 (tw s l n f taps fa sh xs num b).1.off, .int .i64 (tw s l n f taps fa sh xs num b).1.pk] 43 _ _ rfl rfl rfl (by kernel_rfl) (by simp [Value.oneCell']) rfl rfl rfl rfl ?_
      simp only [Act.put, List.setIfInBounds_toArray, List.set_cons_zero, List.set_cons_succ]
      (repeat (refine rLexL_quiet (by rfl) (by rfl) (by rfl) (by rfl) ?_; go_big_quiet_step (fail); refine wpQuiet_nil ?_))
      rintro wq2 hT hf hD
      have HN := Lib.hid (A15.out.next hT (hf 6) (hf 7) V15.out P15.out Q15.out HOV.out hYS HL.out (hf 4))
      clear hf hD hT hne un_ uz_ n0_ n1_ n2_ n3_ n4_ z0_ z1_ z2_ z3_ z4_ z5_ z6_ z7_ z8_ hX15 hY15 A15 N16 V15 P15 Q15 EV15 Z15
      go_wp2_with fail
      go_roundw
      case rel => exact ⟨b, by go_num, hb2, HN.out⟩
      case measure => simp [intOf]; omega
    · obtain rfl : m = xs.length := by omega
      have hdl : 1 < l := by have := DOK.out.s1; have := DOK.out.l1; omega
      obtain ⟨k1, k2, k3⟩ := tw_ok (s := s) (l := l) (n := n) (f := f) (xs := xs) (num := num) xs.length hdl FOK.out HXB.out (by omega)
      have K1 := Lib.hid k1; have K3 := Lib.hid k3
      obtain ⟨qv, hw43, hqv⟩ := AR.out.wt
      have FIN := Lib.hid (dfinish_any s l n f (tw s l n f taps fa sh xs num xs.length).1 qv wr DOK.out k1 hqv.sl (by omega))
      have y0_ := cellD hw43 0 _ rfl; have y1_ := cellD hw43 1 _ rfl; have y2_ := cellD hw43 2 _ rfl; have y3_ := cellD hw43 3 _ rfl; have y4_ := cellD hw43 4 _ rfl; have y5_ := cellD hw43 5 _ rfl; have y6_ := cellD hw43 6 _ rfl; have y7_ := cellD hw43 7 _ rfl; have y8_ := cellD hw43 8 _ rfl
      have hYr := blkLt hw43
      clear hw43 hqv k1 k2 k3 hlt
      go_wp2_with fail
      (with_reducible refine FIN.out.mono ?_)
      rintro r w16 ⟨ev, rfl, hev, hg⟩
      have EV := Lib.hid hev; have A16 := Lib.hid (AR.out.later hg)
      have h16 := blkLe hg
      clear y0_ y1_ y2_ y3_ y4_ y5_ y6_ y7_ y8_ hev hg AR FIN
      have k0_ := cellD A16.out.df 0 _ rfl; have k1_ := cellD A16.out.df 1 _ rfl; have k2_ := cellD A16.out.df 2 _ rfl
      go_wp2_with fail
      (with_reducible refine (fapply_any fa sh taps xs _ _ num w16 FOK.out A16.out.fs.sl A16.out.xs_.sl (fun x hx => by have := HXB.out x hx; omega) (by omega) (by omega) (by omega)).mono ?_)
      rintro r w17 ⟨al, rfl, hal, hg⟩
      have AL := Lib.hid (Slb.of hal rfl).sl; have A17 := Lib.hid (A16.out.later hg); have EV17 := Lib.hid (owns_keep EV.out hg)
      have h17 := blkLe hg
      clear k0_ k1_ k2_ hal hg A16 EV
      have e0_ := cellD A17.out.dd 0 _ rfl; have e1_ := cellD A17.out.dd 1 _ rfl; have e2_ := cellD A17.out.dd 2 _ rfl; have e3_ := cellD A17.out.dd 3 _ rfl
      have hob := outR_bound FOK.out xs num 0 xs.length 100 (by omega) HXB.out
      have hol := outR_len taps fa sh xs num 0 xs.length
      have RUN := Lib.hid (drun_any s l n f (outR taps fa sh xs num 0 xs.length) al w17 DOK.out AL.out (fun x hx => by have := hob x hx; omega) (by omega))
      clear hob hol
      go_wp2_with fail
      (with_reducible refine RUN.out.mono ?_)
      rintro r w18 ⟨wn, rfl, hwn, hg⟩
      have A18 := Lib.hid (A17.out.later hg); have EV18 := Lib.hid (owns_keep EV17.out hg)
      have WN : Hid (w18.ownsRow w17.heap.size 41 3 wn ((tw s l n f taps fa sh xs num xs.length).2 ++ openT (tw s l n f taps fa sh xs num xs.length).1).length (flatT ((tw s l n f taps fa sh xs num xs.length).2 ++ openT (tw s l n f taps fa sh xs num xs.length).1))) := Lib.hid hwn
      have h18 := blkLe hg
      clear e0_ e1_ e2_ e3_ hwn hg A17 EV17 AL RUN
      have OW := Lib.hid A18.out.ow
      have hk3 := K3.out
      have hop : (openT (tw s l n f taps fa sh xs num xs.length).1).length ≤ 1 := by unfold openT; split <;> simp
      have hYs : Y + 1 ≤ w18.heap.size := by omega
      go_wp2_with (at_builtin; refine Hid.out ?_)
      refine Lib.hid ?_
      refine wpList_pushes2 (by rfl) _ _ 46 rfl (Y + 1) wr.heap.size 41 (.agg #[.int .i64 0, .int .i64 0, .int .i64 0]) 3 24 Tryz.underlying46 Tryz.infoTrigT rfl (by decide) _ _ _ _ _ _ rfl rfl OW.out EV18.out (flatT_one _) (by omega) (by omega) hYs ?_
      intro ov' w19 how hg
      have hown : ∀ g, u12.ownBlock = some g → Y + 1 ≤ g ∧ g < wr.heap.size := fun g e => ⟨(OW.out.lt g e).1, HOV.out g e⟩
      have hout : w19.ownsRow (Y + 1) 41 3 ov' ((tw s l n f taps fa sh xs num xs.length).2 ++ openT (tw s l n f taps fa sh xs num xs.length).1).length (flatT ((tw s l n f taps fa sh xs num xs.length).2 ++ openT (tw s l n f taps fa sh xs num xs.length).1)) := by rw [List.length_append, flatT_append]; exact how
      have hwn : w19.ownsRow (Y + 1) 41 3 wn ((tw s l n f taps fa sh xs num xs.length).2 ++ openT (tw s l n f taps fa sh xs num xs.length).1).length (flatT ((tw s l n f taps fa sh xs num xs.length).2 ++ openT (tw s l n f taps fa sh xs num xs.length).1)) := ownMono (owns_keepv WN.out hg fun q e => by have := hown q e; omega) (by omega)
      have SAME := Lib.hid (same22_any _ ov' wn (Y + 1) w19 hout hwn (by rw [List.length_append]; omega))
      have hord := A18.out.ord
      have G19 := Lib.hid (gbNew A18.out.g hg fun q e => by have := hown q e; omega)
      clear hout hwn how hg OW WN EV18 A18
      go_wp2_with fail
      (with_reducible refine SAME.out.mono ?_)
      rintro r w20 ⟨rfl, hg⟩
      have GE := Lib.hid (gb_end (gb_trans G19.out hg))
      go_wp2_with fail
      go_ret
      exact ⟨rfl, GE.out⟩
end Go.Proofs.YtlddgafbgaaiiaaGreatDoor
