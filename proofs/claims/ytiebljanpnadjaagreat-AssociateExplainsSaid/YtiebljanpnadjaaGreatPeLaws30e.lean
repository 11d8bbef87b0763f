import Derived.Test.YtiebljanpnadjaaGreatPeR30K
namespace Go.Proofs.YtiebljanpnadjaaGreat
set_option linter.all false
open Go.RowKit Rg
abbrev Ms (q : Nat) (av : Value) (u : World) (x : Grv) : Prop := Sl u x.mv x.g.ms ∧ ∀ b off len cap, x.mv = .slice (some ⟨b, off, none⟩) len cap → 0 < len → b ≠ q ∧ b < u.heap.size ∧ av.ownBlock ≠ some b
structure AlAt (N q : Nat) (L : List Grv) (av : Value) (u : World) : Prop where
 own : u.ownsRow N 53 5 av L.length (flatG L)
 ms : ∀ x ∈ L, Ms q av u x
 lt : q < N
section
variable {N q : Nat} {L : List Grv} {av : Value} {u u' : World}
theorem AlAt.later (h : AlAt N q L av u) (hg : u.grownBy u' none) : AlAt N q L av u' :=
 ⟨owns_keep h.own hg, fun x hx => ⟨(h.ms x hx).1.after hg, fun b off len cap e hl => by obtain ⟨t1, t2, t3⟩ := (h.ms x hx).2 b off len cap e hl; exact ⟨t1, Nat.lt_of_lt_of_le t2 hg.size, t3⟩⟩, h.lt⟩
theorem AlAt.draw (h : AlAt N q L av u) (hg : u.grownBy u' (some q)) : AlAt N q L av u' :=
 ⟨owns_keepp h.own hg h.lt, fun x hx => ⟨(h.ms x hx).1.later hg (fun b off len cap e hl => by have := ((h.ms x hx).2 b off len cap e hl).1; simpa using this), fun b off len cap e hl => by obtain ⟨t1, t2, t3⟩ := (h.ms x hx).2 b off len cap e hl; exact ⟨t1, Nat.lt_of_lt_of_le t2 hg.size, t3⟩⟩, h.lt⟩
theorem AlAt.other {y : Nat} (h : AlAt N q L av u) (hg : u.grownBy u' (some y)) (hy : ∀ x ∈ L, ∀ b off len cap, x.mv = .slice (some ⟨b, off, none⟩) len cap → 0 < len → b ≠ y) (ha : av.ownBlock ≠ some y) : AlAt N q L av u' :=
 ⟨h.own.kept hg (.inr ha), fun x hx => ⟨(h.ms x hx).1.later hg (fun b off len cap e hl => by have := hy x hx b off len cap e hl; simpa using this), fun b off len cap e hl => by obtain ⟨t1, t2, t3⟩ := (h.ms x hx).2 b off len cap e hl; exact ⟨t1, Nat.lt_of_lt_of_le t2 hg.size, t3⟩⟩, h.lt⟩
theorem AlAt.push2 {x y : Grv} {av' : Value} (h : AlAt N q L av u) (hown : u'.ownsRow N 53 5 av' (L.length + 2) (flatG L ++ (x.cells ++ y.cells))) (hg : u.grownBy u' av.ownBlock) (hv : av'.ownBlock = av.ownBlock ∨ av'.ownBlock = some u.heap.size)
  (hx : Ms q av u x) (hy : Ms q av u y) : AlAt N q (L ++ [x, y]) av' u' := by
 have tap : ∀ y : Grv, Ms q av u y → Ms q av' u' y := by
  rintro y ⟨t1, t2⟩
  refine ⟨t1.later hg (fun b off len cap e hl e2 => (t2 b off len cap e hl).2.2 e2.symm), fun b off len cap e hl => ?_⟩
  obtain ⟨a1, a2, a3⟩ := t2 b off len cap e hl
  refine ⟨a1, Nat.lt_of_lt_of_le a2 hg.size, fun e2 => ?_⟩
  rcases hv with hv | hv
  ·exact a3 (hv ▸ e2)
  ·rw [hv] at e2; simp at e2; omega
 refine ⟨by rw [show flatG (L ++ [x, y]) = flatG L ++ (x.cells ++ y.cells) by simp [flatG], List.length_append]; exact hown, fun z hz => ?_, h.lt⟩
 rcases List.mem_append.1 hz with hz | hz
 ·exact tap z (h.ms z hz)
 ·simp only [List.mem_cons, List.not_mem_nil, or_false] at hz
  rcases hz with rfl | rfl
  ·exact tap _ hx
  ·exact tap _ hy
end
def PartV (N : Nat) (v : Value) (u : World) : Prop := ∃ xs : List Int, u.ownsRow N 3 1 v xs.length (xs.map (Value.int .i64))
theorem PartV.draw {N q : Nat} (hq : q < N) (v : Value) (u u' : World) (h : PartV N v u) (hg : u.grownBy u' (some q)) : PartV N v u' := by
 obtain ⟨xs, h⟩ := h
 exact ⟨xs, owns_keepp h hg hq⟩
set_option maxRecDepth 100000 in
set_option maxHeartbeats 20000000 in
theorem associateExplains_walk (w : World) (R : Asc) (rl rh : Value) (hra : AscIn R rl rh w) (pv : Value) (Q : List Ph) (hpr : SlC 6 w pv Q.length (flatP Q)) (mv : Value) (ms : List Int) (qx qy qz qt : Int) (hms : Sl w mv ms) (v : Value) (xs : List Int) (hs0 : Sl w v xs) (_hx : ∀ x ∈ xs, -9223372036854775808 ≤ x ∧ x ≤ 9223372036854775807) :
  Calls Tryz.prog 6 #[.agg (R.val rl rh), pv, .agg #[mv, qx, qy, qz, qt], v] w fun e w' => e = .returned (.bool true) ∧ Below w.heap.size w w' := by
 obtain ⟨wS, wT, wU, rfl⟩ := sl_slice hra.l; obtain ⟨wV, wW, kA, rfl⟩ := sl_slice hra.h
 obtain ⟨pa, pc, rfl⟩ := hpr.slice
 obtain ⟨ma, mc, rfl⟩ := hms.shape
 have HRA := zH hra; have HPR := zH hpr; have HM := zH hms; have HS0 := zH hs0
 clear hra hpr hms hs0
 have SH := zH (fun (u : World) (hu : w.grownBy u none) => short30_any R _ _ _ Q u (HRA.out.after hu) (HPR.out.after hu))
 obtain ⟨r0, r1, r2, r3, r4, r5, wR, rls, rhs, wJ, wK, wH, wI, wA⟩ := R
 simp only [Asc.val] at *
 obtain ⟨nq, hnq⟩ : ∃ n, Q.length = n := ⟨_, rfl⟩
 rw [hnq] at SH
 have HNQ := zH hnq
 have g1 := gb_alloc (gb_alloc (gb_refl w none) (.cells #[r0, r1, r2, r3, r4, r5, wR, .slice wS wT wU, .slice wV wW kA, wJ, wK, wH, wI, wA] 30)) (.cells #[.slice ma ms.length mc, qx, qy, qz, qt] 53)
 have b1 : ((w.alloc (.cells #[r0, r1, r2, r3, r4, r5, wR, .slice wS wT wU, .slice wV wW kA, wJ, wK, wH, wI, wA] 30)).alloc (.cells #[.slice ma ms.length mc, qx, qy, qz, qt] 53)).heap[w.heap.size]? = some (.cells #[r0, r1, r2, r3, r4, r5, wR, .slice wS wT wU, .slice wV wW kA, wJ, wK, wH, wI, wA] 30 (0, 0)) := by rw [heap_alloc_old _ _ (by simp), heap_alloc_new]
 have b2 : ((w.alloc (.cells #[r0, r1, r2, r3, r4, r5, wR, .slice wS wT wU, .slice wV wW kA, wJ, wK, wH, wI, wA] 30)).alloc (.cells #[.slice ma ms.length mc, qx, qy, qz, qt] 53)).heap[w.heap.size + 1]? = some (.cells #[.slice ma ms.length mc, qx, qy, qz, qt] 53 (0, 0)) := by simpa using heap_alloc_new (w.alloc _) _
 have G1 := zH g1; have A1 := zH b1; have B1 := zH b2
 rw [hnq]
 clear g1 b1 b2 hnq
 go_enter Tryz.func6, Tryz.ntmps6
 go_wp2_with (with_reducible refine wpList_load14 rfl _ rfl w.heap.size rfl _ _ A1.out rfl ?_)
 generalize (w.alloc (.cells #[r0, r1, r2, r3, r4, r5, wR, .slice wS wT wU, .slice wV wW kA, wJ, wK, wH, wI, wA] 30)).alloc (.cells #[.slice ma ms.length mc, qx, qy, qz, qt] 53) = w1 at *
 (with_reducible refine (SH.out w1 G1.out).mono ?_)
 rintro e w2 ⟨bs, rfl, hbs, hg⟩
 have G2 := zH (gb_trans G1.out hg); have A2 := zH (block_kept hg A1.out rfl); have B2 := zH (block_kept hg B1.out rfl)
 clear hg G1 A1 B1 SH
 cases bs
 ·go_wp2_with fail
  (with_reducible refine (awake30_any _).mono ?_)
  rintro e w9_ ⟨rfl, hg⟩
  have GE := zH (gb_end (gb_trans G2.out hg))
  clear hg
  go_wp2_with fail
  go_ret
  exact ⟨rfl, GE.out⟩
 have HQ12 := zH (hbs rfl)
 clear hbs
 obtain ⟨g0_, g1_, g2_, g3_, g4_⟩ := cells5 B2.out
 have hz2_ := block_lt' B2.out
 by_cases hm40 : 40 < ms.length
 ·have hd : decide ((40 : Int) < (ms.length : Int)) = true := decide_eq_true (by omega)
  clear hm40
  go_wp2_with fail
  (with_reducible refine (awake30_any _).mono ?_)
  rintro e w9_ ⟨rfl, hg⟩
  have GE := zH (gb_end (gb_trans G2.out hg))
  clear hg
  go_wp2_with fail
  go_ret
  exact ⟨rfl, GE.out⟩
 have hd : decide ((40 : Int) < (ms.length : Int)) = false := decide_eq_false (by omega)
 clear hm40
 go_wp2_with fail
 clear hd g0_ g1_ g2_ g3_ g4_ hz2_
 (with_reducible refine (new_any w2 v xs (HS0.out.after G2.out)).mono ?_)
 rintro e w3 ⟨rfl, hS, hg⟩
 have hsz2 := block_lt' B2.out
 have S3 := zH hS; have G3 := zH (gb_trans G2.out hg); have A3 := zH (block_kept hg A2.out rfl); have B3 := zH (block_kept hg B2.out rfl)
 have OLD : Hid (∀ (x : Value) (l : List Int), Sl w x l → ∀ b off len cap, x = .slice (some ⟨b, off, none⟩) len cap → 0 < len → b < w.heap.size) := zH (fun x l hx b off len cap e hl => Nat.lt_of_not_le fun hle => hx.apart_lt hle b off len cap e hl rfl)
 clear hS hg A2 B2 HS0
 generalize hqw : w2.heap.size = q at *
 have HQ : Hid (w.heap.size + 1 < q) := zH hsz2
 have hqz := HQ.out
 clear hsz2 hqw G2
 go_wp2_with fail
 (with_reducible refine (association_any q w3 q 3 S3.out (by omega) (by omega)).mono ?_)
 rintro e w4 ⟨A, la, lc, ha, hc, rfl, hgd, hin, hfr, hS, hg⟩
 have hq3 := S3.out.lt.2
 have S4 := zH hS; have G4 := zH (gb_new G3.out hg (fun k hk => by simp at hk; omega)); have A4 := zH (block_keptp hg A3.out (by omega)); have B4 := zH (block_keptp hg B3.out (by omega))
 have HGD := zH hgd; have HIN4 := zH hin; have HFR : Hid (∀ b off, la = some ⟨b, off, none⟩ ∨ ha = some ⟨b, off, none⟩ → q < b) := zH (fun b off e => by have := hfr b off e; omega)
 have hq4 := S4.out.lt.2
 clear hS hg S3 G3 A3 B3 hgd hin hfr hq3
 obtain ⟨x0, y0, z0, x1, y1, z1, st, ls, hs, cap, tol, kJ, lim, kI⟩ := A
 simp only [Asc.val] at HIN4 ⊢
 have Z0 := zH (heap_alloc_new w4 (.cells #[(0:Int), (0:Int), (0:Int), (0:Int), (0:Int), (0:Int), (0:Int), .slice none 0 0, .slice none 0 0, (0:Int), (0:Int), (0:Int), (0:Int), (0:Int)] 30))
 have C5 := zH (setRow_at (cs := #[x0, y0, z0, x1, y1, z1, st, .slice la ls.length lc, .slice ha hs.length hc, cap, tol, kJ, lim, kI]) Z0.out)
 have hg5 := gb_setRow (cs := #[x0, y0, z0, x1, y1, z1, st, .slice la ls.length lc, .slice ha hs.length hc, cap, tol, kJ, lim, kI]) (g := w4.heap.size) (gb_alloc (gb_refl w4 none) (.cells #[(0:Int), (0:Int), (0:Int), (0:Int), (0:Int), (0:Int), (0:Int), .slice none 0 0, .slice none 0 0, (0:Int), (0:Int), (0:Int), (0:Int), (0:Int)] 30)) (.inl (Nat.le_refl _))
 have S5 := zH (S4.out.later hg5 (by simp)); have G5 := zH (gb_trans G4.out hg5); have HIN5 := zH (HIN4.out.after hg5); have A5 := zH (block_kept hg5 A4.out rfl); have B5 := zH (block_kept hg5 B4.out rfl)
 clear hg5
 go_wp2_with (first | (with_reducible refine wpList_store_row rfl _ _ _ rfl w4.heap.size #[x0, y0, z0, x1, y1, z1, st, .slice la ls.length lc, .slice ha hs.length hc, cap, tol, kJ, lim, kI] rfl rfl _ _ Z0.out (by kernel_rfl) rfl (by simp [Value.oneCell']) ?_) | (with_reducible refine wpList_load14 rfl _ rfl w4.heap.size rfl _ _ C5.out rfl ?_))
 generalize (w4.alloc (.cells #[(0:Int), (0:Int), (0:Int), (0:Int), (0:Int), (0:Int), (0:Int), .slice none 0 0, .slice none 0 0, (0:Int), (0:Int), (0:Int), (0:Int), (0:Int)] 30)).setRow w4.heap.size #[x0, y0, z0, x1, y1, z1, st, .slice la ls.length lc, .slice ha hs.length hc, cap, tol, kJ, lim, kI] = w5 at *
 generalize hzz : w4.heap.size = z at *
 have HZ : Hid (q < z) := zH hq4
 clear hzz Z0 S4 G4 A4 B4 HIN4 hq4
 have hqz2 := HZ.out
 have PHS := zH (phases_any ⟨x0, y0, z0, x1, y1, z1, st, ls, hs, cap, tol, kJ, lim, kI⟩ q w5 q 3 8 la ha lc hc S5.out HIN5.out HGD.out (by omega) (by omega) (by omega) (fun b off e => by have := HFR.out b off (.inl e); omega))
 simp only [Asc.val] at PHS
 (with_reducible refine PHS.out.mono ?_)
 rintro e w6 ⟨P, a1, c1, rfl, hP8, -, hPo, -, hS, hg⟩
 have hz5 := block_lt' C5.out
 have S6 := zH hS; have G6 := zH (gb_new G5.out hg (fun k hk => by simp at hk; omega)); have A6 := zH (block_keptp hg A5.out (by omega)); have B6 := zH (block_keptp hg B5.out (by omega)); have C6 := zH (block_keptp hg C5.out (by omega))
 have HIN6 : Hid (AscIn ⟨x0, y0, z0, x1, y1, z1, st, ls, hs, cap, tol, kJ, lim, kI⟩ (.slice la ls.length lc) (.slice ha hs.length hc) w6) := zH ⟨HIN5.out.l.later hg (fun b off len cap e _ => by simp only [Value.slice.injEq] at e; have := HFR.out b off (.inl e.1); simp; omega), HIN5.out.h.later hg (fun b off len cap e _ => by simp only [Value.slice.injEq] at e; have := HFR.out b off (.inr e.1); simp; omega)⟩
 obtain ⟨n, hn⟩ : ∃ n, P.length = n := ⟨_, rfl⟩
 have HPO : Hid (w6.ownsRow (z + 1) 51 6 (.slice a1 n c1) n (flatP P)) := zH (by rw [← hn]; exact owns_mono hPo hz5)
 rw [hn] at hP8 ⊢
 have HN := zH hn
 have hn8 : n ≤ 8 := by omega
 have hz6 := block_lt' C6.out
 have HQ6 : Hid (q < w6.heap.size) := zH S6.out.lt.2
 clear hS hg PHS S5 G5 A5 B5 C5 HIN5 hPo hn hP8 hz5
 have RAO := zH (rassoc_own ⟨x0, y0, z0, x1, y1, z1, st, ls, hs, cap, tol, kJ, lim, kI⟩ P (.slice la ls.length lc) (.slice ha hs.length hc) (.slice a1 n c1) w6 HIN6.out (by rw [HN.out]; exact SlC.of_owns HPO.out) (by rw [HN.out]; omega) (fun W X _ _ _ h => loc_res h))
 simp only [Asc.val] at RAO
 go_wp2_with (with_reducible refine wpList_load14 rfl _ rfl z rfl _ _ C6.out rfl ?_)
 (with_reducible refine RAO.out.mono ?_)
 rintro e w7 ⟨L, gv, lv, rfl, hown, hmapG, hg⟩
 have hngb := rnd_len hmapG
 rw [HN.out] at hngb
 obtain ⟨ga, gc, rfl⟩ := owns_slice hown.gr; obtain ⟨lfa, lfc, rfl⟩ := owns_slice hown.lr
 generalize (assocR ⟨x0, y0, z0, x1, y1, z1, st, ls, hs, cap, tol, kJ, lim, kI⟩ P).1 = rE at *
 generalize (assocR ⟨x0, y0, z0, x1, y1, z1, st, ls, hs, cap, tol, kJ, lim, kI⟩ P).2.2 = rF at *
 have hsz6 := hg.size
 have S7 := zH (S6.out.later (row := none) hg (by simp)); have G7 := zH (gb_trans G6.out hg); have A7 := zH (block_kept hg A6.out rfl); have B7 := zH (block_kept hg B6.out rfl); have C7 := zH (block_kept hg C6.out rfl); have HIN7 := zH (HIN6.out.after hg); have HP7 := zH (owns_keep HPO.out hg)
 have HGS := zH hown.gr
 have HGM : Hid (∀ x ∈ L, Sl w7 x.mv x.g.ms ∧ ∀ b off len cap, x.mv = .slice (some ⟨b, off, none⟩) len cap → z < b ∧ b < w7.heap.size) := zH (fun x hx => ⟨(hown.ms x hx).1, fun b off len cap e => by have := (hown.ms x hx).2 b off len cap e; omega⟩)
 clear hown hmapG hg RAO S6 G6 A6 B6 C6 HIN6 HPO hz6
 generalize hng : L.length = ng at *
 have HNG := zH hng
 generalize rF.length = nf at *
 clear hng
 have BNT := zH (bent30_any q w7 q ⟨x0, y0, z0, x1, y1, z1, st, ls, hs, cap, tol, kJ, lim, kI⟩ (.slice la ls.length lc) (.slice ha hs.length hc) S7.out HIN7.out (fun b off len cap e _ => by simp only [Value.slice.injEq] at e; have := HFR.out b off (.inl e.1); omega) (fun b off len cap e _ => by simp only [Value.slice.injEq] at e; have := HFR.out b off (.inr e.1); omega) HGD.out.tab.2.2.2.1 HGD.out.tab.2.2.1 (show ls.length ≤ 300 by have : ls.length ≤ 23 := HGD.out.len; omega))
 simp only [Asc.val] at BNT
 go_wp2_with (with_reducible refine wpList_load14 rfl _ rfl z rfl _ _ C7.out rfl ?_)
 (with_reducible refine BNT.out.mono ?_)
 rintro e w8 ⟨D, dl, dh, rfl, hind, apl, aph, hS, hg⟩
 obtain ⟨kB, kC, kD, rfl⟩ := sl_slice hind.l; obtain ⟨kE, kF, kG, rfl⟩ := sl_slice hind.h
 obtain ⟨d0, d1, d2, d3, d4, d5, kH, dls, dhs, wP, wQ, wM, wO, wL⟩ := D
 simp only [Asc.val] at hind ⊢
 have hz7 := block_lt' C7.out
 have S8 := zH hS; have G8 := zH (gb_new G7.out hg (fun k hk => by simp at hk; omega)); have A8 := zH (block_keptp hg A7.out (by omega)); have B8 := zH (block_keptp hg B7.out (by omega)); have C8 := zH (block_keptp hg C7.out (by omega))
 have HIN8 : Hid (AscIn ⟨x0, y0, z0, x1, y1, z1, st, ls, hs, cap, tol, kJ, lim, kI⟩ (.slice la ls.length lc) (.slice ha hs.length hc) w8) := zH ⟨HIN7.out.l.later hg (fun b off len cap e _ => by simp only [Value.slice.injEq] at e; have := HFR.out b off (.inl e.1); simp; omega), HIN7.out.h.later hg (fun b off len cap e _ => by simp only [Value.slice.injEq] at e; have := HFR.out b off (.inr e.1); simp; omega)⟩
 have HP8 := zH (owns_keepp HP7.out hg (by omega)); have HGS8 := zH (owns_keepp HGS.out hg HQ6.out)
 have HGM8 : Hid (∀ x ∈ L, Sl w8 x.mv x.g.ms ∧ ∀ b off len cap, x.mv = .slice (some ⟨b, off, none⟩) len cap → z < b ∧ b < w8.heap.size) := zH (fun x hx => ⟨(HGM.out x hx).1.later hg (fun b off len cap e _ => by have := ((HGM.out x hx).2 b off len cap e).1; simp; omega), fun b off len cap e => by have := (HGM.out x hx).2 b off len cap e; have := hg.size; omega⟩)
 have HD8 := zH hind; have HAPL := zH apl; have HAPH := zH aph
 clear hS hg BNT S7 G7 A7 B7 C7 HIN7 HP7 HGS HGM hind apl aph hz7
 have Z0 := zH (heap_alloc_new w8 (.cells #[(0:Int), (0:Int), (0:Int), (0:Int), (0:Int), (0:Int), (0:Int), .slice none 0 0, .slice none 0 0, (0:Int), (0:Int), (0:Int), (0:Int), (0:Int)] 30))
 have E9 := zH (setRow_at (cs := #[d0, d1, d2, d3, d4, d5, kH, .slice kB kC kD, .slice kE kF kG, wP, wQ, wM, wO, wL]) Z0.out)
 have hg9 := gb_setRow (cs := #[d0, d1, d2, d3, d4, d5, kH, .slice kB kC kD, .slice kE kF kG, wP, wQ, wM, wO, wL]) (g := w8.heap.size) (gb_alloc (gb_refl w8 none) (.cells #[(0:Int), (0:Int), (0:Int), (0:Int), (0:Int), (0:Int), (0:Int), .slice none 0 0, .slice none 0 0, (0:Int), (0:Int), (0:Int), (0:Int), (0:Int)] 30)) (.inl (Nat.le_refl _))
 have hz8 := block_lt' C8.out
 have S9 := zH (S8.out.later hg9 (by simp)); have G9 := zH (gb_trans G8.out hg9); have A9 := zH (block_kept hg9 A8.out rfl); have B9 := zH (block_kept hg9 B8.out rfl); have C9 := zH (block_kept hg9 C8.out rfl); have HIN9 := zH (HIN8.out.after hg9); have HP9 := zH (owns_keep HP8.out hg9); have HGS9 := zH (owns_keep HGS8.out hg9); have HD9 := zH (HD8.out.after hg9)
 have HGM9 : Hid (∀ x ∈ L, Sl _ x.mv x.g.ms ∧ ∀ b off len cap, x.mv = .slice (some ⟨b, off, none⟩) len cap → z < b ∧ b < w8.heap.size) := zH (fun x hx => ⟨(HGM8.out x hx).1.after hg9, (HGM8.out x hx).2⟩)
 have hsz9 := hg9.size
 clear hg9
 go_wp2_with (with_reducible refine wpList_store_row rfl _ _ _ rfl w8.heap.size #[d0, d1, d2, d3, d4, d5, kH, .slice kB kC kD, .slice kE kF kG, wP, wQ, wM, wO, wL] rfl rfl _ _ Z0.out (by kernel_rfl) rfl (by simp [Value.oneCell']) ?_)
 generalize (w8.alloc (.cells #[(0:Int), (0:Int), (0:Int), (0:Int), (0:Int), (0:Int), (0:Int), .slice none 0 0, .slice none 0 0, (0:Int), (0:Int), (0:Int), (0:Int), (0:Int)] 30)).setRow w8.heap.size #[d0, d1, d2, d3, d4, d5, kH, .slice kB kC kD, .slice kE kF kG, wP, wQ, wM, wO, wL] = w9 at *
 have hoz9 := block_lt' E9.out
 generalize hzo : w8.heap.size = oz at *
 have HZO : Hid (z < oz) := zH hz8
 clear hzo Z0 S8 G8 A8 B8 C8 HIN8 HP8 HGS8 HD8 HGM8 hz8 hsz9
 have hqo := HZO.out
 simp only [Act.put]
 obtain ⟨g0_, g1_, g2_, g3_, g4_⟩ := cells5 B9.out
 obtain ⟨c0_, c1_, c2_, c3_, c4_, c5_, c6_, c7_, c8_, c9_, c10_, c11_, c12_, c13_⟩ := cells14 C9.out
 have hb9 := block_lt' B9.out; have hc9 := block_lt' C9.out
 have hq9 : q < w9.heap.size := by omega
 have u0_ := Pulled.cell (B := q) (p := q) g0_ hb9 (by omega); have u1_ := Pulled.cell (B := q) (p := q) g1_ hb9 (by omega); have u2_ := Pulled.cell (B := q) (p := q) g2_ hb9 (by omega); have u3_ := Pulled.cell (B := q) (p := q) g3_ hb9 (by omega); have u4_ := Pulled.cell (B := q) (p := q) g4_ hb9 (by omega)
 have k0_ := Pulled.cell (B := q) (p := q) c0_ hc9 (by omega); have k1_ := Pulled.cell (B := q) (p := q) c1_ hc9 (by omega); have k2_ := Pulled.cell (B := q) (p := q) c2_ hc9 (by omega); have k3_ := Pulled.cell (B := q) (p := q) c3_ hc9 (by omega); have k4_ := Pulled.cell (B := q) (p := q) c4_ hc9 (by omega); have k5_ := Pulled.cell (B := q) (p := q) c5_ hc9 (by omega)
 refine Rg.rR (Pulled w9 q q) (Pull q) (fun k_ => if k_ = 4 then some (fun _ v u => PartV w9.heap.size v u) else if k_ = 8 then some (isSome' (fun v => ∃ x y z, v = .agg #[.int .i64 x, .int .i64 y, .int .i64 z] ∧ (x0 ≤ x ∧ x ≤ x1 ∧ y0 ≤ y ∧ y ≤ y1 ∧ z0 ≤ z ∧ z ≤ z1))) else if k_ = 10 then some (isInt fun x => 0 ≤ x ∧ x < 600) else if k_ = 13 then some (isBlk w9 2 53) else none) (fun _ => false) 0 15 Pull.size (Pulled.start S9.out) (fun hne => ?_)
 (repeat (refine rQ ?_; go_big_quiet_step (fail); refine wpQuiet_nil ?_))
 refine rLexL_val (.int .i64 n) (by rfl) (by rfl) (by rfl) (by rfl) (fun _ => by go_simp) ?_
 simp only [zA, zB, zC, zD, zX]
 refine rg_drawM (PartV w9.heap.size) 24 #[.pointer (some ⟨q, 0, none⟩), (n : Int)] rfl rfl (PartV.draw hq9) (fun _ => by go_simp) (fun u hu => (part30_any q u q n hu.2 (by omega)).mono fun e w' ⟨xs, v, h0, h1, h2, h3⟩ => ⟨v, h0, ⟨xs, owns_mono h1 hu.1.size⟩, h2, h3⟩) (fun pv0 u0 hpv => ?_)
 obtain ⟨xs', hpv⟩ := hpv
 obtain ⟨oa, oc, rfl⟩ := owns_slice hpv
 generalize xs'.length = no at *
 simp only [zA, zB, zC, zD, zX]
 (repeat (refine rQ ?_; go_big_quiet_step (fail); refine wpQuiet_nil ?_))
 refine rg_drawF (fun v => ∃ x y z, v = .agg #[.int .i64 x, .int .i64 y, .int .i64 z] ∧ (x0 ≤ x ∧ x ≤ x1 ∧ y0 ≤ y ∧ y ≤ y1 ∧ z0 ≤ z ∧ z ≤ z1)) 25 #[.pointer (some ⟨q, 0, none⟩), .agg #[x0, y0, z0, x1, y1, z1]] rfl rfl (fun _ => by go_simp) (fun u hu _ => (point_any q u q x0 y0 z0 x1 y1 z1 hu.2 (by have := HGD.out.box; simp [boxIn, placeIn] at this; omega) (by have := HGD.out.box; simp [boxIn, placeIn] at this; omega) (by have := HGD.out.box; simp [boxIn, placeIn] at this; omega)).mono fun e w' h => h.draw) (fun vb hvb => ?_)
 obtain ⟨i0, i1, i2, rfl, -⟩ := hvb
 simp only [zA, zB, zC, zD, zX]
 (repeat (refine rQ ?_; go_big_quiet_step (fail); refine wpQuiet_nil ?_))
 refine rg_draw (fun x => 0 ≤ x ∧ x < 600) 26 #[.pointer (some ⟨q, 0, none⟩), (600:Int)] rfl rfl (fun _ => by go_simp) (fun u hu _ => n_any q u q _ hu.2 (by omega) (by omega)) (fun n8 hn8_ => ?_)
 simp only [zA, zB, zC, zD, zX]
 have wg : IntKind.i64.wrap (1000 + n8) = 1000 + n8 := by rw [IntKind.wrap_i64]; omega
 (repeat (refine rQ ?_; go_big_quiet_step (fail); refine wpQuiet_nil ?_))
 refine rg_litB 2 #[.slice ma ms.length mc, qx, qy, qz, qt, .slice oa no oc, i0, i1, i2, .int .i64 (1000 + n8)] 53 rfl rfl rfl (fun _ => by go_simp) hq9 (fun lb hlb => ?_)
 simp only [zA, zB, zC, zD, zX]
 (repeat (refine rQ ?_; go_big_quiet_step (fail); refine wpQuiet_nil ?_))
 rintro w10 ⟨hg10, hS10⟩ hf -
 refine wpList_nil ?_
 obtain ⟨xs2, hpo⟩ := hf 4
 have hbl := hf 13
 obtain ⟨_, _, hno⟩ := owns_slice hpo
 simp only [Value.slice.injEq] at hno
 obtain ⟨-, hno, -⟩ := hno
 have hbl' : w10.heap[lb]? = some (.cells #[.slice ma ms.length mc, qx, qy, qz, qt, .slice oa no oc, i0, i1, i2, .int .i64 (1000 + n8)] 53 (0, 0)) := hbl
 have hlb10 := block_lt' hbl'
 have AL10 : Hid (AlAt w9.heap.size q [⟨⟨ms, qx, qy, qz, qt⟩, .slice ma ms.length mc⟩, ⟨⟨xs2, i0, i1, i2, 1000 + n8⟩, .slice oa no oc⟩] (.slice (some ⟨lb, 0, none⟩) 2 2) w10) := zH (by
  refine ⟨⟨rfl, .inr ⟨lb, 2, _, rfl, hlb, hbl', Nat.le_refl _, by unfold maxLen; omega, rfl, rfl⟩⟩, fun x hx => ?_, hq9⟩
  simp only [List.mem_cons, List.not_mem_nil, or_false] at hx
  rcases hx with rfl | rfl
  ·have hold : w.grownBy w10 none := gb_new G9.out hg10 (fun k hk => by simp at hk; omega)
   refine ⟨HM.out.after hold, fun b off len cap e hl => ?_⟩
   have h1 := OLD.out _ _ HM.out b off len cap e hl
   have h2 := hold.size
   have h3 := hg10.size
   have h4 := G9.out.size
   exact ⟨by omega, by omega, fun e2 => by simp [Value.ownBlock] at e2; omega⟩
  ·refine ⟨by dsimp only; exact Sl_of_owns hpo rfl, fun b off len cap e hl => ?_⟩
   dsimp only at e
   have h1 := hpo.lt b (by rw [e]; rfl)
   refine ⟨by omega, h1.2, fun e2 => ?_⟩
   simp [Value.ownBlock] at e2
   subst e2
   rcases hpo.2 with ⟨h, -⟩ | ⟨g, cap', cur, h, -, hh, -⟩
   ·rw [h] at e; cases e
   ·rw [e] at h
    simp only [Value.slice.injEq, Option.some.injEq, Addr.mk.injEq, and_true] at h
    obtain ⟨⟨rfl, -⟩, -⟩ := h
    rw [hh] at hbl'
    simp at hbl')
 have S10 := zH hS10; have W10 := zH hg10
 clear hf hbl hbl' hpo hno hlb10 hg10 hS10 hne u0_ u1_ u2_ u3_ u4_ k0_ k1_ k2_ k3_ k4_ k5_ g0_ g1_ g2_ g3_ g4_ c0_ c1_ c2_ c3_ c4_ c5_ c6_ c7_ c8_ c9_ c10_ c11_ c12_ c13_ hb9 hc9 S9 wg HM OLD
 have HL := zH hlb
 clear hlb
 go_wp2_with fail
 go_loopw [16, 66] (fun av iv u => ∃ (k : Nat) (T : List Grv), k ≤ ng ∧ iv = .int .i64 k ∧ T.length = 2 + 2 * k ∧ AlAt w9.heap.size q T av u ∧ Src q u q ∧ w9.grownBy u (some q)) (fun _ iv _ => ng - (intOf iv).toNat)
 case atStart => exact ⟨0, _, by omega, rfl, rfl, AL10.out, S10.out, W10.out⟩
 case round =>
  obtain ⟨k, T, hk, rfl, hT, hAL, hS, hgr⟩ := hrel
  have AL := zH hAL; have SR := zH hS; have GR := zH hgr; have HT := zH hT
  obtain ⟨ta, tc, rfl⟩ := owns_slice hAL.own
  clear hAL hS hgr AL10 S10 W10 hT
  generalize wr = wB at *
  by_cases hlt : k < ng
  ·have hkd : decide ((k : Int) < (ng : Int)) = true := decide_eq_true (by omega)
   have hk2 : k < L.length := by have := HNG.out; omega
   have hGI : GrIn wB (.slice ga ng gc) L := ⟨by rw [HNG.out]; exact SlC.of_owns (owns_keepp HGS9.out GR.out HQ6.out), fun x hx => (HGM9.out x hx).1.later GR.out (fun b off len cap e _ => by have := ((HGM9.out x hx).2 b off len cap e).1; simp; omega)⟩
   obtain ⟨b1, o1, d1, m1, f1, e1, hb1, emv, hs1, x0_, x1_, x2_, x3_, x4_⟩ := hGI.at hk2
   rw [HNG.out] at e1
   simp only [Value.slice.injEq, true_and] at e1
   obtain ⟨rfl, rfl⟩ := e1
   have hmb := (HGM9.out L[k] (List.getElem_mem hk2)).2
   rw [emv] at hmb
   have HMB : Hid (∀ b off, m1 = some ⟨b, off, none⟩ → z < b ∧ b < oz) := zH (fun b off e => hmb b off _ _ (by rw [e]))
   clear hmb emv hGI
   generalize L[k].g = g at *
   obtain ⟨gm, px, py, pz, pt⟩ := g
   simp only [] at hs1 x0_ x1_ x2_ x3_ x4_
   have HS1 := zH hs1
   generalize hml : gm.length = ml at *
   clear hs1 hml
   have XB := zH (heap_alloc_new wB (.cells #[.slice m1 ml f1, px, py, pz, pt] 53))
   have XG := zH (gb_alloc (gb_refl wB none) (.cells #[.slice m1 ml f1, px, py, pz, pt] 53))
   have hBz := GR.out.size
   have hSq := SR.out.lt.2
   go_upto_region 12 with fail
   generalize wB.alloc (.cells #[.slice m1 ml f1, px, py, pz, pt] 53) = wC at *
   generalize hxb : wB.heap.size = xb at *
   clear x0_ x1_ x2_ x3_ x4_ hb1
   have q0_ := cell_of XB.out 0 _ rfl; have q1_ := cell_of XB.out 1 _ rfl; have q2_ := cell_of XB.out 2 _ rfl; have q3_ := cell_of XB.out 3 _ rfl; have q4_ := cell_of XB.out 4 _ rfl
   have hxl := block_lt' XB.out
   have YB := zH (heap_alloc_new wC (.cells #[.slice m1 ml f1, px, py, pz, pt] 53))
   have YG := zH (gb_alloc (gb_refl wC none) (.cells #[.slice m1 ml f1, px, py, pz, pt] 53))
   go_upto_region 13 with fail
   generalize wC.alloc (.cells #[.slice m1 ml f1, px, py, pz, pt] 53) = wD at *
   generalize hyb : wC.heap.size = yb at *
   have hxy : xb < yb := hxl
   clear q0_ q1_ q2_ q3_ q4_ hxl
   have hg2 := gb_trans XG.out YG.out
   have XD := zH (block_kept YG.out XB.out rfl)
   have SD := zH (SR.out.later (row := none) hg2 (by simp)); have AD := zH (AL.out.later hg2); have GD := zH (gb_trans GR.out (gb_none hg2)); have HSD := zH (HS1.out.after hg2)
   have hyl := block_lt' YB.out
   have p4_ := Pulled.cell (B := q) (p := q) (cell_of YB.out 4 _ rfl) hyl (by omega)
   have ALN : Hid ((Value.slice ta T.length tc).ownBlock ≠ some yb ∧ ∀ x ∈ T, ∀ b off len cap, x.mv = .slice (some ⟨b, off, none⟩) len cap → 0 < len → b ≠ yb) := zH ⟨fun e => by have := (AL.out.own.lt yb e).2; omega, fun x hx b off len cap e hl => by have := ((AL.out.ms x hx).2 b off len cap e hl).2.1; omega⟩
   clear hg2 XB XG YG AL SR GR HS1
   refine Rg.rR (Pulled wD q q) (Pull q) (fun k_ => if k_ = 3 then some (isInt fun x => 0 ≤ x ∧ x < 9) else none) (fun _ => false) 0 6 Pull.size (Pulled.start SD.out) (fun hne => ?_)
   (repeat (refine rQ ?_; go_big_quiet_step (fail); refine wpQuiet_nil ?_))
   refine rg_draw (fun x => 0 ≤ x ∧ x < 9) 26 #[.pointer (some ⟨q, 0, none⟩), (9:Int)] rfl rfl (fun _ => by go_simp) (fun u hu _ => n_any q u q _ hu.2 (by omega) (by omega)) (fun n9 hn9 => ?_)
   simp only [zA, zB, zC, zD, zX]
   have wg : IntKind.i64.wrap (n9 - 4) = n9 - 4 := by rw [IntKind.wrap_i64]; omega
   obtain ⟨yt, hyt⟩ : ∃ yt, IntKind.i64.wrap (pt + (n9 - 4)) = yt := ⟨_, rfl⟩
   (repeat (refine rQ ?_; go_big_quiet_step (fail); refine wpQuiet_nil ?_))
   rintro wE ⟨hgE, hSE⟩ - -
   have YE := zH (block_keptp hgE YB.out (by omega)); have XE := zH (block_keptp hgE XD.out (by omega))
   have hF := frozen3 YE.out (o := 4)
   obtain ⟨y0_, y1_, y2_, y3_, y4_⟩ := cells5 YE.out
   have YF := zH (set_block YE.out 4 (.int .i64 yt))
   have hgF : wE.grownBy (wE.setCell ⟨yb, 4, none⟩ (.int .i64 yt)) (some yb) := gb_setCell (gb_refl _ _) (.inr rfl) _
   have XF := zH ((hgF.block xb (block_lt' XE.out) (by simp; omega)).trans XE.out)
   have hqy : q ≠ yb := by omega
   have AF := zH ((AD.out.draw hgE).other hgF ALN.out.2 ALN.out.1)
   have SF := zH (Src.later hSE hgF (fun r hr => by simp at hr; omega))
   have hyw : w9.heap.size ≤ yb := by omega
   have GF := zH (gb_newp (gb_trans GD.out hgE) hgF (fun r hr => by simp at hr; omega))
   have HSF := zH ((HSD.out.later hgE (fun b off len cap e _ => by simp only [Value.slice.injEq] at e; have := (HMB.out b off e.1).1; simp; omega)).later hgF (fun b off len cap e _ => by simp only [Value.slice.injEq] at e; have := (HMB.out b off e.1).2; simp; omega))
   have HTB : Hid (T.length ≤ 100) := zH (by have := HT.out; omega)
   have hEsz := hgE.size
   have hFsz : (wE.setCell ⟨yb, 4, none⟩ (.int .i64 yt)).heap.size = wE.heap.size := by simp [World.setCell]
   clear hgE hSE hgF hne p4_ YB XD SD AD GD HSD YE XE wg hyt
   obtain ⟨x0_, x1_, x2_, x3_, x4_⟩ := cells5 XF.out
   have z0_ := cell_of YF.out 0 _ rfl; have z1_ := cell_of YF.out 1 _ rfl; have z2_ := cell_of YF.out 2 _ rfl; have z3_ := cell_of YF.out 3 _ rfl; have z4_ := cell_of YF.out 4 _ rfl
   go_wp2_with (at_builtin; (generalize wE.setCell ⟨yb, 4, none⟩ (.int .i64 yt) = wF at *; (refine wpList_pushesAt rfl _ _ 41 rfl w9.heap.size 53 (.agg #[.slice none 0 0, (0:Int), (0:Int), (0:Int), (0:Int)]) 5 56 Tryz.underlying41 info_grp rfl (by decide) (by decide) (.slice ta T.length tc) T.length (flatG T) rfl (AF.out.own.alloc _) wE.heap.size 2 2 [.slice m1 ml f1, .int .i64 px, .int .i64 py, .int .i64 pz, .int .i64 pt, .slice m1 ml f1, .int .i64 px, .int .i64 py, .int .i64 pz, .int .i64 yt] 53 rfl (by rw [← hFsz]; exact heap_alloc_new _ _) rfl (by simp [Value.oneCell']) (by have := HTB.out; omega) (by have := hFsz; simp; omega) ?_); refine Hid.out ?_))
   refine zH ?_
   intro v9 wG hown9 hg9 hv9
   have hga := gb_alloc (gb_refl wF none) (.cells #[.slice m1 ml f1, px, py, pz, pt, .slice m1 ml f1, px, py, pz, yt] 53)
   have HMBF : ∀ b off len cap, Value.slice m1 ml f1 = .slice (some ⟨b, off, none⟩) len cap → 0 < len → b ≠ q ∧ b < (wF.alloc (.cells #[.slice m1 ml f1, px, py, pz, pt, .slice m1 ml f1, px, py, pz, yt] 53)).heap.size ∧ (Value.slice ta T.length tc).ownBlock ≠ some b := fun b off len cap e _ => by
    simp only [Value.slice.injEq] at e
    have h1 := HMB.out b off e.1
    refine ⟨by omega, by have := hga.size; omega, fun e2 => ?_⟩
    have := (AF.out.own.lt b e2).1
    omega
   have A9 := (AF.out.later hga).push2 (x := ⟨⟨gm, px, py, pz, pt⟩, .slice m1 ml f1⟩) (y := ⟨⟨gm, px, py, pz, yt⟩, .slice m1 ml f1⟩) hown9 hg9 (by simpa [hFsz] using hv9) ⟨HSF.out.after hga, HMBF⟩ ⟨HSF.out.after hga, HMBF⟩
   have AN := zH A9
   have SN := zH ((SF.out.later hga (by simp)).later hg9 (fun r hr => by have := (AF.out.own.lt r hr).1; omega))
   have GN := zH (gb_newp (gb_trans GF.out (gb_none hga)) hg9 (fun r hr => (AF.out.own.lt r hr).1))
   obtain ⟨na, nc, hnv⟩ := owns_slice A9.own
   have hlT : (T ++ [(⟨⟨gm, px, py, pz, pt⟩, .slice m1 ml f1⟩ : Grv), ⟨⟨gm, px, py, pz, yt⟩, .slice m1 ml f1⟩]).length = 2 + 2 * (k + 1) := by have := HT.out; simp; omega
   clear hown9 hg9 hv9 hga HMBF A9 AF SF GF HSF XF YF HMB hF x0_ x1_ x2_ x3_ x4_ y0_ y1_ y2_ y3_ y4_ z0_ z1_ z2_ z3_ z4_ HTB
   generalize T ++ [(⟨⟨gm, px, py, pz, pt⟩, .slice m1 ml f1⟩ : Grv), ⟨⟨gm, px, py, pz, yt⟩, .slice m1 ml f1⟩] = T' at *
   subst hnv
   go_wp2_with fail
   go_roundw
   case rel => exact ⟨k + 1, T', by omega, by go_num, hlT, AN.out, SN.out, GN.out⟩
   case measure => simp [intOf]; omega
  ·have hkd : decide ((k : Int) < (ng : Int)) = false := decide_eq_false (by omega)
   have HINB : Hid (AscIn ⟨x0, y0, z0, x1, y1, z1, st, ls, hs, cap, tol, kJ, lim, kI⟩ (.slice la ls.length lc) (.slice ha hs.length hc) wB) := zH ⟨HIN9.out.l.later GR.out (fun b off len cap e _ => by simp only [Value.slice.injEq] at e; have := HFR.out b off (.inl e.1); simp; omega), HIN9.out.h.later GR.out (fun b off len cap e _ => by simp only [Value.slice.injEq] at e; have := HFR.out b off (.inr e.1); simp; omega)⟩
   have HDB : Hid (AscIn ⟨d0, d1, d2, d3, d4, d5, kH, dls, dhs, wP, wQ, wM, wO, wL⟩ (.slice kB kC kD) (.slice kE kF kG) wB) := zH ⟨HD9.out.l.later GR.out (fun b off len cap e hl => by have := HAPL.out b off len cap e hl; simp; omega), HD9.out.h.later GR.out (fun b off len cap e hl => by have := HAPH.out b off len cap e hl; simp; omega)⟩
   have HPB := zH (owns_keepp HP9.out GR.out (by omega))
   have WB := zH (gb_new G9.out GR.out (fun r hr => by simp at hr; omega))
   have CB := zH (block_keptp GR.out C9.out (by omega)); have EB := zH (block_keptp GR.out E9.out (by omega)); have AB := zH (block_keptp GR.out A9.out (by omega))
   obtain ⟨tn, htn⟩ : ∃ tn, T.length = tn := ⟨_, rfl⟩
   rw [htn] at AL ⊢
   have HTN := zH htn
   have OWT : Hid (wB.ownsRow w9.heap.size 53 5 (.slice ta tn tc) tn (flatG T)) := zH (by have h := AL.out.own; rw [htn] at h; exact h)
   have htb : tn ≤ 100 := by have := HT.out; omega
   clear SR GR htn HT HIN9 HD9 HP9 HGS9 HGM9 G9 A9 B9 C9 E9 HGD HL
   go_wp2_with fail
   go_loopw [86] (fun iv u => ∃ j : Nat, j ≤ tn ∧ iv = .int .i64 j ∧ wB.grownBy u none) (fun iv _ => tn - (intOf iv).toNat)
   case atStart => exact ⟨0, by omega, rfl, gb_refl _ _⟩
   case round =>
    obtain ⟨j, hj, rfl, hgr⟩ := hrel
    have GJ := zH hgr
    clear hgr
    generalize wr = wC at *
    by_cases hlt2 : j < tn
    ·have hjd : decide ((j : Int) < (tn : Int)) = true := decide_eq_true (by omega)
     have hj2 : j < T.length := by have := HTN.out; omega
     have hGI : GrIn wC (.slice ta tn tc) T := ⟨by rw [HTN.out]; exact SlC.of_owns (owns_keep OWT.out GJ.out), fun x hx => (AL.out.ms x hx).1.after GJ.out⟩
     obtain ⟨b1, o1, d1_, m1, f1, e1, hb1, emv, hs1, x0_, x1_, x2_, x3_, x4_⟩ := hGI.at hj2
     rw [HTN.out] at e1
     simp only [Value.slice.injEq, true_and] at e1
     obtain ⟨rfl, rfl⟩ := e1
     clear emv hGI
     generalize T[j].g = g at *
     obtain ⟨gm, px, py, pz, pt⟩ := g
     simp only [] at hs1 x0_ x1_ x2_ x3_ x4_
     have HS1 := zH hs1
     generalize hml : gm.length = ml at *
     clear hs1 hml
     have XB := zH (heap_alloc_new wC (.cells #[.slice m1 ml f1, px, py, pz, pt] 53))
     have XG := zH (gb_alloc (gb_refl wC none) (.cells #[.slice m1 ml f1, px, py, pz, pt] 53))
     go_upto_region 19 with fail
     generalize wC.alloc (.cells #[.slice m1 ml f1, px, py, pz, pt] 53) = wD at *
     generalize hxb : wC.heap.size = xb at *
     clear x0_ x1_ x2_ x3_ x4_ hb1 hxb
     have hgD := gb_trans GJ.out XG.out
     have GD := zH hgD
     have CD := zH (block_kept hgD CB.out rfl); have ED := zH (block_kept hgD EB.out rfl); have AD := zH (block_kept hgD AB.out rfl)
     have HSD := zH (HS1.out.after XG.out)
     have EA := zH (fun (u : World) (hu : wD.grownBy u none) => explains_any ⟨x0, y0, z0, x1, y1, z1, st, ls, hs, cap, tol, kJ, lim, kI⟩ P gm px py pz pt (.slice la ls.length lc) (.slice ha hs.length hc) (.slice a1 n c1) (.slice m1 ml f1) u (HINB.out.after (gb_trans hgD hu)) (by rw [HN.out]; exact (SlC.of_owns HPB.out).after (gb_trans hgD hu)) (HSD.out.after hu) (by rw [HN.out]; omega))
     have RA := zH (fun (u : World) (hu : wD.grownBy u none) => rexplains_any ⟨x0, y0, z0, x1, y1, z1, st, ls, hs, cap, tol, kJ, lim, kI⟩ P gm px py pz pt (.slice la ls.length lc) (.slice ha hs.length hc) (.slice a1 n c1) (.slice m1 ml f1) u (HINB.out.after (gb_trans hgD hu)) (by rw [HN.out]; exact (SlC.of_owns HPB.out).after (gb_trans hgD hu)) (HSD.out.after hu) (by rw [HN.out]; omega))
     have EB_ := zH (fun (u : World) (hu : wD.grownBy u none) => explains_any ⟨r0, r1, r2, r3, r4, r5, wR, rls, rhs, wJ, wK, wH, wI, wA⟩ Q gm px py pz pt (.slice wS wT wU) (.slice wV wW kA) (.slice pa nq pc) (.slice m1 ml f1) u (HRA.out.after (gb_trans WB.out (gb_trans hgD hu))) (by have := HPR.out.after (gb_trans WB.out (gb_trans hgD hu)); rw [HNQ.out] at this ⊢; exact this) (HSD.out.after hu) (by have := HQ12.out; rw [HNQ.out]; omega))
     have RB := zH (fun (u : World) (hu : wD.grownBy u none) => rexplains_any ⟨r0, r1, r2, r3, r4, r5, wR, rls, rhs, wJ, wK, wH, wI, wA⟩ Q gm px py pz pt (.slice wS wT wU) (.slice wV wW kA) (.slice pa nq pc) (.slice m1 ml f1) u (HRA.out.after (gb_trans WB.out (gb_trans hgD hu))) (by have := HPR.out.after (gb_trans WB.out (gb_trans hgD hu)); rw [HNQ.out] at this ⊢; exact this) (HSD.out.after hu) (by have := HQ12.out; rw [HNQ.out]; omega))
     have ED_ := zH (fun (u : World) (hu : wD.grownBy u none) => explains_any ⟨d0, d1, d2, d3, d4, d5, kH, dls, dhs, wP, wQ, wM, wO, wL⟩ P gm px py pz pt (.slice kB kC kD) (.slice kE kF kG) (.slice a1 n c1) (.slice m1 ml f1) u (HDB.out.after (gb_trans hgD hu)) (by rw [HN.out]; exact (SlC.of_owns HPB.out).after (gb_trans hgD hu)) (HSD.out.after hu) (by rw [HN.out]; omega))
     have RD := zH (fun (u : World) (hu : wD.grownBy u none) => rexplains_any ⟨d0, d1, d2, d3, d4, d5, kH, dls, dhs, wP, wQ, wM, wO, wL⟩ P gm px py pz pt (.slice kB kC kD) (.slice kE kF kG) (.slice a1 n c1) (.slice m1 ml f1) u (HDB.out.after (gb_trans hgD hu)) (by rw [HN.out]; exact (SlC.of_owns HPB.out).after (gb_trans hgD hu)) (HSD.out.after hu) (by rw [HN.out]; omega))
     simp only [Asc.val] at EA RA EB_ RB ED_ RD
     generalize explB ⟨x0, y0, z0, x1, y1, z1, st, ls, hs, cap, tol, kJ, lim, kI⟩ P gm px py pz pt = bA at *
     generalize explB ⟨r0, r1, r2, r3, r4, r5, wR, rls, rhs, wJ, wK, wH, wI, wA⟩ Q gm px py pz pt = bB at *
     generalize explB ⟨d0, d1, d2, d3, d4, d5, kH, dls, dhs, wP, wQ, wM, wO, wL⟩ P gm px py pz pt = bD at *
     clear hgD XG HS1
     have hxl := block_lt' XB.out
     have hcl := block_lt' CD.out; have hel := block_lt' ED.out; have hal := block_lt' AD.out
     have u0_ := Made.cell (cell_of XB.out 0 _ rfl) hxl; have u1_ := Made.cell (cell_of XB.out 1 _ rfl) hxl; have u2_ := Made.cell (cell_of XB.out 2 _ rfl) hxl; have u3_ := Made.cell (cell_of XB.out 3 _ rfl) hxl; have u4_ := Made.cell (cell_of XB.out 4 _ rfl) hxl
     have n0_ : (bA != bA) = false := by simp
     have n1_ : (bB != bB) = false := by simp
     have n2_ : (bD != bD) = false := by simp
     refine Rg.rR (Made wD) Makes (fun k_ => if k_ = 0 ∨ k_ = 4 then some (isV (.agg #[x0, y0, z0, x1, y1, z1, st, .slice la ls.length lc, .slice ha hs.length hc, cap, tol, kJ, lim, kI])) else if k_ = 10 ∨ k_ = 14 then some (isV (.agg #[r0, r1, r2, r3, r4, r5, wR, .slice wS wT wU, .slice wV wW kA, wJ, wK, wH, wI, wA])) else if k_ = 21 ∨ k_ = 25 then some (isV (.agg #[d0, d1, d2, d3, d4, d5, kH, .slice kB kC kD, .slice kE kF kG, wP, wQ, wM, wO, wL])) else if k_ = 3 ∨ k_ = 7 then some (isV (.bool bA)) else if k_ = 13 ∨ k_ = 17 then some (isV (.bool bB)) else if k_ = 24 ∨ k_ = 28 then some (isV (.bool bD)) else none) (fun _ => false) 0 31 Makes.size (Made.start wD) (fun hne => ?_)
     (repeat (refine rQ ?_; go_big_quiet_step (fail); refine wpQuiet_nil ?_))
     refine rg_load14 (fun _ => gb_refl _ _) _ z #[x0, y0, z0, x1, y1, z1, st, .slice la ls.length lc, .slice ha hs.length hc, cap, tol, kJ, lim, kI] 30 CD.out rfl rfl rfl rfl rfl rfl ?_
     simp only [zA, zB, zC, zD, zX]
     (repeat (refine rQ ?_; go_big_quiet_step (fail); refine wpQuiet_nil ?_))
     refine rg_fix (.bool bA) 27 #[.agg #[x0, y0, z0, x1, y1, z1, st, .slice la ls.length lc, .slice ha hs.length hc, cap, tol, kJ, lim, kI], .slice a1 n c1, .agg #[.slice m1 ml f1, px, py, pz, pt]] rfl rfl rfl (fun _ => by go_simp) (fun u hu => EA.out u hu) ?_
     simp only [zA, zB, zC, zD, zX]
     (repeat (refine rQ ?_; go_big_quiet_step (fail); refine wpQuiet_nil ?_))
     refine rg_load14 (fun _ => gb_refl _ _) _ z #[x0, y0, z0, x1, y1, z1, st, .slice la ls.length lc, .slice ha hs.length hc, cap, tol, kJ, lim, kI] 30 CD.out rfl rfl rfl rfl rfl rfl ?_
     simp only [zA, zB, zC, zD, zX]
     (repeat (refine rQ ?_; go_big_quiet_step (fail); refine wpQuiet_nil ?_))
     refine rg_fix (.bool bA) 28 #[.agg #[x0, y0, z0, x1, y1, z1, st, .slice la ls.length lc, .slice ha hs.length hc, cap, tol, kJ, lim, kI], .slice a1 n c1, .agg #[.slice m1 ml f1, px, py, pz, pt]] rfl rfl rfl (fun _ => by go_simp) (fun u hu => RA.out u hu) ?_
     simp only [zA, zB, zC, zD, zX]
     (repeat (refine rQ ?_; go_big_quiet_step (fail); refine wpQuiet_nil ?_))
     refine rg_load14 (fun _ => gb_refl _ _) _ w.heap.size #[r0, r1, r2, r3, r4, r5, wR, .slice wS wT wU, .slice wV wW kA, wJ, wK, wH, wI, wA] 30 AD.out rfl rfl rfl rfl rfl rfl ?_
     simp only [zA, zB, zC, zD, zX]
     (repeat (refine rQ ?_; go_big_quiet_step (fail); refine wpQuiet_nil ?_))
     refine rg_fix (.bool bB) 27 #[.agg #[r0, r1, r2, r3, r4, r5, wR, .slice wS wT wU, .slice wV wW kA, wJ, wK, wH, wI, wA], .slice pa nq pc, .agg #[.slice m1 ml f1, px, py, pz, pt]] rfl rfl rfl (fun _ => by go_simp) (fun u hu => EB_.out u hu) ?_
     simp only [zA, zB, zC, zD, zX]
     (repeat (refine rQ ?_; go_big_quiet_step (fail); refine wpQuiet_nil ?_))
     refine rg_load14 (fun _ => gb_refl _ _) _ w.heap.size #[r0, r1, r2, r3, r4, r5, wR, .slice wS wT wU, .slice wV wW kA, wJ, wK, wH, wI, wA] 30 AD.out rfl rfl rfl rfl rfl rfl ?_
     simp only [zA, zB, zC, zD, zX]
     (repeat (refine rQ ?_; go_big_quiet_step (fail); refine wpQuiet_nil ?_))
     refine rg_fix (.bool bB) 28 #[.agg #[r0, r1, r2, r3, r4, r5, wR, .slice wS wT wU, .slice wV wW kA, wJ, wK, wH, wI, wA], .slice pa nq pc, .agg #[.slice m1 ml f1, px, py, pz, pt]] rfl rfl rfl (fun _ => by go_simp) (fun u hu => RB.out u hu) ?_
     simp only [zA, zB, zC, zD, zX]
     (repeat (refine rQ ?_; go_big_quiet_step (fail); refine wpQuiet_nil ?_))
     refine rg_load14 (fun _ => gb_refl _ _) _ oz #[d0, d1, d2, d3, d4, d5, kH, .slice kB kC kD, .slice kE kF kG, wP, wQ, wM, wO, wL] 30 ED.out rfl rfl rfl rfl rfl rfl ?_
     simp only [zA, zB, zC, zD, zX]
     (repeat (refine rQ ?_; go_big_quiet_step (fail); refine wpQuiet_nil ?_))
     refine rg_fix (.bool bD) 27 #[.agg #[d0, d1, d2, d3, d4, d5, kH, .slice kB kC kD, .slice kE kF kG, wP, wQ, wM, wO, wL], .slice a1 n c1, .agg #[.slice m1 ml f1, px, py, pz, pt]] rfl rfl rfl (fun _ => by go_simp) (fun u hu => ED_.out u hu) ?_
     simp only [zA, zB, zC, zD, zX]
     (repeat (refine rQ ?_; go_big_quiet_step (fail); refine wpQuiet_nil ?_))
     refine rg_load14 (fun _ => gb_refl _ _) _ oz #[d0, d1, d2, d3, d4, d5, kH, .slice kB kC kD, .slice kE kF kG, wP, wQ, wM, wO, wL] 30 ED.out rfl rfl rfl rfl rfl rfl ?_
     simp only [zA, zB, zC, zD, zX]
     (repeat (refine rQ ?_; go_big_quiet_step (fail); refine wpQuiet_nil ?_))
     refine rg_fix (.bool bD) 28 #[.agg #[d0, d1, d2, d3, d4, d5, kH, .slice kB kC kD, .slice kE kF kG, wP, wQ, wM, wO, wL], .slice a1 n c1, .agg #[.slice m1 ml f1, px, py, pz, pt]] rfl rfl rfl (fun _ => by go_simp) (fun u hu => RD.out u hu) ?_
     simp only [zA, zB, zC, zD, zX]
     (repeat (refine rQ ?_; go_big_quiet_step (fail); refine wpQuiet_nil ?_))
     rintro wN hqN - -
     refine wpList_nil ?_
     have GN := zH (gb_trans GD.out hqN)
     clear hqN hne u0_ u1_ u2_ u3_ u4_ hxl hcl hel hal n0_ n1_ n2_ EA RA EB_ RB ED_ RD CD ED AD XB GD GJ HSD
     go_wp2_with fail
     go_roundw
     case rel => exact ⟨j + 1, by omega, by go_num, GN.out⟩
     case measure => simp [intOf]; omega
    ·have hjd : decide ((j : Int) < (tn : Int)) = false := decide_eq_false (by omega)
     go_wp2_with fail
     (with_reducible refine (awake30_any _).mono ?_)
     rintro e w22 ⟨rfl, hg⟩
     have GE := zH (gb_end (gb_trans (gb_trans WB.out GJ.out) hg))
     clear hg
     go_wp2_with fail
     go_ret
     exact ⟨rfl, GE.out⟩
end Go.Proofs.YtiebljanpnadjaaGreat
