import Derived.Test.YtiebljanpnadjaaGreatPgR30K
namespace Go.Proofs.YtiebljanpnadjaaGreat
set_option linter.all false
open Go.RowKit Rg
def AscV (q : Nat) (v : Value) (u : World) : Prop := ∃ (A : Asc) (vl vh : Value), v = .agg (A.val vl vh) ∧ AscIn A vl vh u ∧ Apart q vl ∧ Apart q vh
theorem AscV.draw {q : Nat} (v : Value) (u u' : World) (h : AscV q v u) (hg : u.grownBy u' (some q)) : AscV q v u' := by
 obtain ⟨A, vl, vh, rfl, h1, h2, h3⟩ := h
 exact ⟨A, vl, vh, rfl, ⟨h1.l.later hg (fun b off len cap e hl => by have := h2 b off len cap e hl; simpa using this), h1.h.later hg (fun b off len cap e hl => by have := h3 b off len cap e hl; simpa using this)⟩, h2, h3⟩
theorem wpList_load14o {ops : Array Oper} {rest : List Oper} {o : Oper} {a : Act} {w : World} {Q : Exit → Act → World → Prop} (hgd : o.guard = none) (x : Operand) (ho : o.op = .load 30 x) (b k : Nat) (hx : a.eval x = .pointer (some ⟨b, k, none⟩)) (cs : Array Value)
  (hb : w.rangeAt b k cs.toList) (hsz : cs.size = 14) (h : wpList Tryz.prog ops Q rest (a.put o.dst (.agg cs)) w) : wpList Tryz.prog ops Q (o :: rest) a w := by
 obtain ⟨d, h1, h2⟩ := asDesc
 exact wpList_load_mid hgd 30 x ho b k hx cs.toList d hb h1 h2 (by rw [asInfo, Array.length_toList, hsz]) (by simpa using h)
theorem rangeRow {w : World} {b : Nat} {cs : Array Value} {T : TypeId} {fr : Nat × Nat} {o : Nat} {l : List Value} (hb : w.heap[b]? = some (.cells cs T fr)) (hl : ∀ j v, l[j]? = some v → cs[o + j]? = some v) : w.rangeAt b o l := fun j v hj => by
 simp only [World.cell?, hb]
 exact hl j v hj
theorem rows3 {a b c : List Value} (ha : a.length = 14) (hb : b.length = 14) : (∀ j v, a[j]? = some v → (a ++ b ++ c).toArray[0 * 14 + j]? = some v) ∧ (∀ j v, b[j]? = some v → (a ++ b ++ c).toArray[1 * 14 + j]? = some v) ∧ (∀ j v, c[j]? = some v → (a ++ b ++ c).toArray[2 * 14 + j]? = some v) := by
 refine ⟨fun j v h => ?_, fun j v h => ?_, fun j v h => ?_⟩
 ·have hj := (List.getElem?_eq_some_iff.1 h).1
  rw [List.getElem?_toArray, List.getElem?_append_left (by simp; omega), List.getElem?_append_left (by omega), show 0 * 14 + j = j by omega]; exact h
 ·have hj := (List.getElem?_eq_some_iff.1 h).1
  rw [List.getElem?_toArray, List.getElem?_append_left (by simp; omega), List.getElem?_append_right (by omega), show 1 * 14 + j - a.length = j by omega]; exact h
 ·rw [List.getElem?_toArray, List.getElem?_append_right (by simp; omega), show 2 * 14 + j - (a ++ b).length = j by simp; omega]; exact h
def OrdV (l : List Int) (v : Value) (u : World) : Prop := ∃ a c, v = .slice a l.length c ∧ Sl u (.slice a l.length c) l
theorem OrdV.after {l : List Int} (v : Value) (u u' : World) (h : OrdV l v u) (hg : u.grownBy u' none) : OrdV l v u' := by
 obtain ⟨a, c, rfl, h1⟩ := h
 exact ⟨a, c, rfl, h1.after hg⟩
set_option maxRecDepth 100000 in
set_option maxHeartbeats 20000000 in
theorem associateGroups_walk (w : World) (R : Asc) (rl rh : Value) (hra : AscIn R rl rh w) (pv : Value) (Q : List Ph) (hpr : SlC 6 w pv Q.length (flatP Q)) (v : Value) (xs : List Int) (hs0 : Sl w v xs) (_hx : ∀ x ∈ xs, -9223372036854775808 ≤ x ∧ x ≤ 9223372036854775807) :
  Calls Tryz.prog 3 #[.agg (R.val rl rh), pv, v] w fun e w' => e = .returned (.bool true) ∧ Below w.heap.size w w' := by
 obtain ⟨rla, rln, rlc, rfl⟩ := sl_slice hra.l; obtain ⟨rha, rhn, rhc, rfl⟩ := sl_slice hra.h
 obtain ⟨pa, pc, rfl⟩ := hpr.slice
 have HRA := zH hra; have HPR := zH hpr; have HS0 := zH hs0
 clear hra hpr hs0
 have SH := zH (fun (u : World) (hu : w.grownBy u none) => short30_any R _ _ _ Q u (HRA.out.after hu) (HPR.out.after hu))
 obtain ⟨r0, r1, r2, r3, r4, r5, rst, rls, rhs, rcap, rtol, rspan, rlim, rleast⟩ := R
 simp only [Asc.val] at *
 obtain ⟨nq, hnq⟩ : ∃ n, Q.length = n := ⟨_, rfl⟩
 rw [hnq] at SH HPR
 rw [hnq]
 have HNQ := zH hnq
 have G1 := zH (gb_alloc (gb_refl w none) (.cells #[r0, r1, r2, r3, r4, r5, rst, .slice rla rln rlc, .slice rha rhn rhc, rcap, rtol, rspan, rlim, rleast] 30))
 have A1 := zH (heap_alloc_new w (.cells #[r0, r1, r2, r3, r4, r5, rst, .slice rla rln rlc, .slice rha rhn rhc, rcap, rtol, rspan, rlim, rleast] 30))
 clear hnq
 go_enter Tryz.func3, Tryz.ntmps3
 go_wp2_with (with_reducible refine wpList_load14 rfl _ rfl w.heap.size rfl _ _ A1.out rfl ?_)
 generalize w.alloc (.cells #[r0, r1, r2, r3, r4, r5, rst, .slice rla rln rlc, .slice rha rhn rhc, rcap, rtol, rspan, rlim, rleast] 30) = w1 at *
 (with_reducible refine (SH.out w1 G1.out).mono ?_)
 rintro e w2 ⟨bs, rfl, hbs, hg⟩
 have G2 := zH (gb_trans G1.out hg); have A2 := zH (block_kept hg A1.out rfl)
 clear hg G1 A1 SH
 cases bs
 ·go_wp2_with fail
  (with_reducible refine (awake30_any _).mono ?_)
  rintro e w9_ ⟨rfl, hg⟩
  have GE := zH (gb_end (gb_trans G2.out hg))
  clear hg
  go_wp2_with fail
  go_ret
  exact ⟨rfl, GE.out⟩
 have HQ12 := zH (hbs rfl)
 clear hbs
 go_wp2_with fail
 (with_reducible refine (new_any w2 v xs (HS0.out.after G2.out)).mono ?_)
 rintro e w3 ⟨rfl, hS, hg⟩
 have hsz2 := block_lt' A2.out
 have S3 := zH hS; have G3 := zH (gb_trans G2.out hg); have A3 := zH (block_kept hg A2.out rfl)
 clear hS hg A2 HS0
 generalize hqw : w2.heap.size = q at *
 have HQ : Hid (w.heap.size < q) := zH hsz2
 have hqz := HQ.out
 clear hsz2 hqw G2
 go_wp2_with fail
 (with_reducible refine (association_any q w3 q 3 S3.out (by omega) (by omega)).mono ?_)
 rintro e w4 ⟨A, la, lc, ha, hc, rfl, hgd, hin, hfr, hS, hg⟩
 have hq3 := S3.out.lt.2
 have S4 := zH hS; have G4 := zH (gb_new G3.out hg (fun k hk => by simp at hk; omega)); have A4 := zH (block_keptp hg A3.out (by omega))
 have HGD := zH hgd; have HIN4 := zH hin; have HFR : Hid (∀ b off, la = some ⟨b, off, none⟩ ∨ ha = some ⟨b, off, none⟩ → q < b) := zH (fun b off e => by have := hfr b off e; omega)
 have hq4 := S4.out.lt.2
 clear hS hg S3 G3 A3 hgd hin hfr hq3
 obtain ⟨x0, y0, z0, x1, y1, z1, st, ls, hs, cap, tol, span, lim, least⟩ := A
 simp only [Asc.val] at HIN4 ⊢
 have Z0 := zH (heap_alloc_new w4 (.cells #[(0:Int), (0:Int), (0:Int), (0:Int), (0:Int), (0:Int), (0:Int), .slice none 0 0, .slice none 0 0, (0:Int), (0:Int), (0:Int), (0:Int), (0:Int)] 30))
 have C5 := zH (setRow_at (cs := #[x0, y0, z0, x1, y1, z1, st, .slice la ls.length lc, .slice ha hs.length hc, cap, tol, span, lim, least]) Z0.out)
 have hg5 := gb_setRow (cs := #[x0, y0, z0, x1, y1, z1, st, .slice la ls.length lc, .slice ha hs.length hc, cap, tol, span, lim, least]) (g := w4.heap.size) (gb_alloc (gb_refl w4 none) (.cells #[(0:Int), (0:Int), (0:Int), (0:Int), (0:Int), (0:Int), (0:Int), .slice none 0 0, .slice none 0 0, (0:Int), (0:Int), (0:Int), (0:Int), (0:Int)] 30)) (.inl (Nat.le_refl _))
 have S5 := zH (S4.out.later hg5 (by simp)); have G5 := zH (gb_trans G4.out hg5); have HIN5 := zH (HIN4.out.after hg5); have A5 := zH (block_kept hg5 A4.out rfl)
 clear hg5
 go_wp2_with (first | (with_reducible refine wpList_store_row rfl _ _ _ rfl w4.heap.size #[x0, y0, z0, x1, y1, z1, st, .slice la ls.length lc, .slice ha hs.length hc, cap, tol, span, lim, least] rfl rfl _ _ Z0.out (by kernel_rfl) rfl (by simp [Value.oneCell']) ?_) | (with_reducible refine wpList_load14 rfl _ rfl w4.heap.size rfl _ _ C5.out rfl ?_))
 generalize (w4.alloc (.cells #[(0:Int), (0:Int), (0:Int), (0:Int), (0:Int), (0:Int), (0:Int), .slice none 0 0, .slice none 0 0, (0:Int), (0:Int), (0:Int), (0:Int), (0:Int)] 30)).setRow w4.heap.size #[x0, y0, z0, x1, y1, z1, st, .slice la ls.length lc, .slice ha hs.length hc, cap, tol, span, lim, least] = w5 at *
 generalize hzz : w4.heap.size = z at *
 have HZ : Hid (q < z) := zH hq4
 clear hzz Z0 S4 G4 A4 HIN4 hq4
 have hqz2 := HZ.out
 have PHS := zH (phases_any ⟨x0, y0, z0, x1, y1, z1, st, ls, hs, cap, tol, span, lim, least⟩ q w5 q 3 9 la ha lc hc S5.out HIN5.out HGD.out (by omega) (by omega) (by omega) (fun b off e => by have := HFR.out b off (.inl e); omega))
 simp only [Asc.val] at PHS
 (with_reducible refine PHS.out.mono ?_)
 rintro e w6 ⟨P, a1, c1, rfl, hP8, -, hPo, -, hS, hg⟩
 have hz5 := block_lt' C5.out
 have S6 := zH hS; have G6 := zH (gb_new G5.out hg (fun k hk => by simp at hk; omega)); have A6 := zH (block_keptp hg A5.out (by omega)); have C6 := zH (block_keptp hg C5.out (by omega))
 have HIN6 : Hid (AscIn ⟨x0, y0, z0, x1, y1, z1, st, ls, hs, cap, tol, span, lim, least⟩ (.slice la ls.length lc) (.slice ha hs.length hc) w6) := zH ⟨HIN5.out.l.later hg (fun b off len cap e _ => by simp only [Value.slice.injEq] at e; have := HFR.out b off (.inl e.1); simp; omega), HIN5.out.h.later hg (fun b off len cap e _ => by simp only [Value.slice.injEq] at e; have := HFR.out b off (.inr e.1); simp; omega)⟩
 obtain ⟨n, hn⟩ : ∃ n, P.length = n := ⟨_, rfl⟩
 have HPO : Hid (w6.ownsRow (z + 1) 51 6 (.slice a1 n c1) n (flatP P)) := zH (by rw [← hn]; exact owns_mono hPo hz5)
 rw [hn] at hP8 ⊢
 have HN := zH hn
 have HN9 : Hid (n ≤ 9) := zH (by omega)
 have hz6 := block_lt' C6.out; have hw6 := block_lt' A6.out
 clear hS hg PHS S5 G5 A5 C5 HIN5 hPo hn hP8 hz5
 have APL : Hid (Apart q (.slice la ls.length lc) ∧ Apart q (.slice ha hs.length hc)) := zH ⟨fun b off len cap e _ => by simp only [Value.slice.injEq] at e; have := HFR.out b off (.inl e.1); omega, fun b off len cap e _ => by simp only [Value.slice.injEq] at e; have := HFR.out b off (.inr e.1); omega⟩
 have BNT := zH (fun (u : World) (hu : Pulled w6 q q u) => (bent30_any q u q ⟨x0, y0, z0, x1, y1, z1, st, ls, hs, cap, tol, span, lim, least⟩ (.slice la ls.length lc) (.slice ha hs.length hc) hu.2 (by
  obtain ⟨A, vl, vh, e, h, -, -⟩ := AscV.draw (.agg #[x0, y0, z0, x1, y1, z1, st, .slice la ls.length lc, .slice ha hs.length hc, cap, tol, span, lim, least]) w6 u ⟨⟨x0, y0, z0, x1, y1, z1, st, ls, hs, cap, tol, span, lim, least⟩, _, _, rfl, HIN6.out, APL.out.1, APL.out.2⟩ hu.1
  exact ⟨HIN6.out.l.later hu.1 (fun b off len cap e hl => by have := APL.out.1 b off len cap e hl; simpa using this), HIN6.out.h.later hu.1 (fun b off len cap e hl => by have := APL.out.2 b off len cap e hl; simpa using this)⟩) APL.out.1 APL.out.2 HGD.out.tab.2.2.2.1 HGD.out.tab.2.2.1 (show ls.length ≤ 300 by have : ls.length ≤ 23 := HGD.out.len; omega)).mono fun e w' h => (by
  obtain ⟨D, dl, dh, h0, h1, h2, h3, h4, h5⟩ := h
  exact ⟨_, h0, ⟨D, dl, dh, rfl, h1, h2, h3⟩, h4, h5⟩ : ∃ v, e = .returned v ∧ AscV q v w' ∧ Src q w' q ∧ u.grownBy w' (some q)))
 simp only [Asc.val] at BNT
 have hq6 : q < w6.heap.size := by omega
 go_wp2_with fail
 refine Rg.rR (Pulled w6 q q) (Pull q) (fun k_ => if k_ = 0 ∨ k_ = 3 then some (isV (.agg #[x0, y0, z0, x1, y1, z1, st, .slice la ls.length lc, .slice ha hs.length hc, cap, tol, span, lim, least])) else if k_ = 1 then some (isV (.agg #[r0, r1, r2, r3, r4, r5, rst, .slice rla rln rlc, .slice rha rhn rhc, rcap, rtol, rspan, rlim, rleast])) else if k_ = 4 then some (fun _ v u => AscV q v u) else if k_ = 5 then some (isBlk w6 3 30) else none) (fun _ => false) 0 8 Pull.size (Pulled.start S6.out) (fun hne => ?_)
 refine rg_load14P _ z #[x0, y0, z0, x1, y1, z1, st, .slice la ls.length lc, .slice ha hs.length hc, cap, tol, span, lim, least] 30 C6.out (by omega) rfl rfl (by rfl) rfl rfl (by rfl) ?_
 simp only [zA, zB, zC, zD, zX]
 refine rg_load14P _ w.heap.size #[r0, r1, r2, r3, r4, r5, rst, .slice rla rln rlc, .slice rha rhn rhc, rcap, rtol, rspan, rlim, rleast] 30 A6.out (by omega) rfl rfl (by rfl) rfl rfl (by rfl) ?_
 simp only [zA, zB, zC, zD, zX]
 (repeat (refine rQ ?_; go_big_quiet_step (fail); refine wpQuiet_nil ?_))
 refine rg_load14P _ z #[x0, y0, z0, x1, y1, z1, st, .slice la ls.length lc, .slice ha hs.length hc, cap, tol, span, lim, least] 30 C6.out (by omega) rfl rfl (by rfl) rfl rfl (by rfl) ?_
 simp only [zA, zB, zC, zD, zX]
 refine rg_drawM (AscV q) 14 #[.pointer (some ⟨q, 0, none⟩), .agg #[x0, y0, z0, x1, y1, z1, st, .slice la ls.length lc, .slice ha hs.length hc, cap, tol, span, lim, least]] rfl rfl AscV.draw (fun _ => by go_simp) BNT.out (fun dv du hdv => ?_)
 obtain ⟨D, dl, dh, rfl, hind, -, -⟩ := hdv
 obtain ⟨dla, dln, dlc, rfl⟩ := sl_slice hind.l; obtain ⟨dha, dhn, dhc, rfl⟩ := sl_slice hind.h
 obtain ⟨d0, d1, d2, d3, d4, d5, dst, dls, dhs, dcap, dtol, dspan, dlim, dleast⟩ := D
 simp only [Asc.val]
 clear hind
 simp only [zA, zB, zC, zD, zX]
 refine rg_litB 3 #[.int .i64 x0, .int .i64 y0, .int .i64 z0, .int .i64 x1, .int .i64 y1, .int .i64 z1, .int .i64 st, .slice la ls.length lc, .slice ha hs.length hc, .int .i64 cap, .int .i64 tol, .int .i64 span, .int .i64 lim, .int .i64 least, .int .i64 r0, .int .i64 r1, .int .i64 r2, .int .i64 r3, .int .i64 r4, .int .i64 r5, .int .i64 rst, .slice rla rln rlc, .slice rha rhn rhc, .int .i64 rcap, .int .i64 rtol, .int .i64 rspan, .int .i64 rlim, .int .i64 rleast, .int .i64 d0, .int .i64 d1, .int .i64 d2, .int .i64 d3, .int .i64 d4, .int .i64 d5, .int .i64 dst, .slice dla dln dlc, .slice dha dhn dhc, .int .i64 dcap, .int .i64 dtol, .int .i64 dspan, .int .i64 dlim, .int .i64 dleast] 30 rfl rfl rfl (fun _ => by go_simp) hq6 (fun lb hlb => ?_)
 simp only [zA, zB, zC, zD, zX]
 refine rLexL_val (.int .i64 3) (by rfl) (by rfl) (by rfl) (by rfl) (fun _ => by go_simp) ?_
 simp only [zA, zB, zC, zD, zX]
 (repeat (refine rQ ?_; go_big_quiet_step (fail); refine wpQuiet_nil ?_))
 rintro w7 ⟨hg7, hS7⟩ hf -
 refine wpList_nil ?_
 have HD := zH (hf 4); have HBL := zH (hf 5)
 have HBL7 : Hid (w7.heap[lb]? = some (.cells ((#[x0, y0, z0, x1, y1, z1, st, .slice la ls.length lc, .slice ha hs.length hc, cap, tol, span, lim, least] : Array Value).toList ++ (#[r0, r1, r2, r3, r4, r5, rst, .slice rla rln rlc, .slice rha rhn rhc, rcap, rtol, rspan, rlim, rleast] : Array Value).toList ++ (#[d0, d1, d2, d3, d4, d5, dst, .slice dla dln dlc, .slice dha dhn dhc, dcap, dtol, dspan, dlim, dleast] : Array Value).toList).toArray 30 (0, 0))) := zH HBL.out
 have W7 := zH (gb_new G6.out hg7 (fun k hk => by simp at hk; omega))
 have HIN7 : Hid (AscIn ⟨x0, y0, z0, x1, y1, z1, st, ls, hs, cap, tol, span, lim, least⟩ (.slice la ls.length lc) (.slice ha hs.length hc) w7) := zH ⟨HIN6.out.l.later hg7 (fun b off len cap e hl => by have := APL.out.1 b off len cap e hl; simpa using this), HIN6.out.h.later hg7 (fun b off len cap e hl => by have := APL.out.2 b off len cap e hl; simpa using this)⟩
 have HP7 : Hid (SlC 6 w7 (.slice a1 n c1) n (flatP P)) := zH (SlC.of_owns (owns_keepp HPO.out hg7 (by omega)))
 have HR7 := zH (HRA.out.after W7.out)
 have HQ7 := zH (HPR.out.after W7.out)
 obtain ⟨h0_, h1_, h2_⟩ := rows3 (a := (#[x0, y0, z0, x1, y1, z1, st, .slice la ls.length lc, .slice ha hs.length hc, cap, tol, span, lim, least] : Array Value).toList) (b := (#[r0, r1, r2, r3, r4, r5, rst, .slice rla rln rlc, .slice rha rhn rhc, rcap, rtol, rspan, rlim, rleast] : Array Value).toList) (c := (#[d0, d1, d2, d3, d4, d5, dst, .slice dla dln dlc, .slice dha dhn dhc, dcap, dtol, dspan, dlim, dleast] : Array Value).toList) rfl rfl
 have ROW : Hid (∀ k, k < 3 → ∃ (M : Asc) (vl vh : Value), w7.rangeAt lb (k * 14) (M.val vl vh).toList ∧ AscIn M vl vh w7) := zH (fun k hk => by
  rcases (by omega : k = 0 ∨ k = 1 ∨ k = 2) with rfl | rfl | rfl
  ·exact ⟨⟨x0, y0, z0, x1, y1, z1, st, ls, hs, cap, tol, span, lim, least⟩, _, _, rangeRow HBL7.out h0_, HIN7.out⟩
  ·exact ⟨⟨r0, r1, r2, r3, r4, r5, rst, rls, rhs, rcap, rtol, rspan, rlim, rleast⟩, _, _, rangeRow HBL7.out h1_, HR7.out⟩
  ·obtain ⟨D', dl', dh', e, hin, -, -⟩ := HD.out
   simp only [Value.agg.injEq] at e
   exact ⟨D', dl', dh', rangeRow HBL7.out (by rw [← e]; exact h2_), hin⟩)
 have hlb7 := block_lt' HBL7.out
 clear h0_ h1_ h2_ hf hne hg7 hS7 BNT S6 G6 A6 C6 HIN6 HPO HD HBL HBL7 HIN7 HR7 APL HGD HFR HRA HPR hz6 hw6
 have HLB : Hid (lb < w7.heap.size) := zH hlb7
 clear hlb7
 go_wp2_with fail
 go_loopw [39] (fun iv u => ∃ k : Nat, k ≤ 3 ∧ iv = .int .i64 k ∧ w7.grownBy u none) (fun iv _ => 3 - (intOf iv).toNat)
 case atStart => exact ⟨0, by omega, rfl, gb_refl _ _⟩
 case round =>
  obtain ⟨k, hk, rfl, hgr⟩ := hrel
  have GK := zH hgr
  clear hgr
  generalize wr = wB at *
  by_cases hlt : k < 3
  ·have hkd : decide ((k : Int) < 3) = true := decide_eq_true (by omega)
   obtain ⟨M, ml, mh, hrow, hmin⟩ := ROW.out k hlt
   obtain ⟨mla, mln, mlc, rfl⟩ := sl_slice hmin.l; obtain ⟨mha, mhn, mhc, rfl⟩ := sl_slice hmin.h
   obtain ⟨m0, m1, m2, m3, m4, m5, mst, mls, mhs, mcap, mtol, mspan, mlim, mleast⟩ := M
   simp only [Asc.val] at hrow
   have HMIN := zH hmin
   have HROW : Hid (wB.rangeAt lb (k * 14) (#[m0, m1, m2, m3, m4, m5, mst, .slice mla mln mlc, .slice mha mhn mhc, mcap, mtol, mspan, mlim, mleast] : Array Value).toList) := zH (fun j v hj => (gb_cell GK.out HLB.out (by simp)).trans (hrow j v hj))
   have Z0 := zH (heap_alloc_new wB (.cells #[(0:Int), (0:Int), (0:Int), (0:Int), (0:Int), (0:Int), (0:Int), .slice none 0 0, .slice none 0 0, (0:Int), (0:Int), (0:Int), (0:Int), (0:Int)] 30))
   have E9 := zH (setRow_at (cs := #[m0, m1, m2, m3, m4, m5, mst, .slice mla mln mlc, .slice mha mhn mhc, mcap, mtol, mspan, mlim, mleast]) Z0.out)
   have hg9 := gb_setRow (cs := #[m0, m1, m2, m3, m4, m5, mst, .slice mla mln mlc, .slice mha mhn mhc, mcap, mtol, mspan, mlim, mleast]) (g := wB.heap.size) (gb_alloc (gb_refl wB none) (.cells #[(0:Int), (0:Int), (0:Int), (0:Int), (0:Int), (0:Int), (0:Int), .slice none 0 0, .slice none 0 0, (0:Int), (0:Int), (0:Int), (0:Int), (0:Int)] 30)) (.inl (Nat.le_refl _))
   have G9 := zH (gb_trans GK.out hg9)
   clear hmin hrow hg9
   go_wp2_with (first | (with_reducible refine wpList_load14o rfl _ rfl lb (k * 14) rfl #[m0, m1, m2, m3, m4, m5, mst, .slice mla mln mlc, .slice mha mhn mhc, mcap, mtol, mspan, mlim, mleast] HROW.out rfl ?_) | (with_reducible refine wpList_store_row rfl _ _ _ rfl wB.heap.size #[m0, m1, m2, m3, m4, m5, mst, .slice mla mln mlc, .slice mha mhn mhc, mcap, mtol, mspan, mlim, mleast] rfl rfl _ _ Z0.out (by kernel_rfl) rfl (by simp [Value.oneCell']) ?_))
   have hsz9 : ((wB.alloc (.cells #[(0:Int), (0:Int), (0:Int), (0:Int), (0:Int), (0:Int), (0:Int), .slice none 0 0, .slice none 0 0, (0:Int), (0:Int), (0:Int), (0:Int), (0:Int)] 30)).setRow wB.heap.size #[m0, m1, m2, m3, m4, m5, mst, .slice mla mln mlc, .slice mha mhn mhc, mcap, mtol, mspan, mlim, mleast]).heap.size = wB.heap.size + 1 := by simp
   have PB := zH (heap_alloc_new ((wB.alloc (.cells #[(0:Int), (0:Int), (0:Int), (0:Int), (0:Int), (0:Int), (0:Int), .slice none 0 0, .slice none 0 0, (0:Int), (0:Int), (0:Int), (0:Int), (0:Int)] 30)).setRow wB.heap.size #[m0, m1, m2, m3, m4, m5, mst, .slice mla mln mlc, .slice mha mhn mhc, mcap, mtol, mspan, mlim, mleast]) (.cells #[.slice a1 n c1, .slice pa nq pc] 31))
   have PG := zH (gb_alloc (gb_refl ((wB.alloc (.cells #[(0:Int), (0:Int), (0:Int), (0:Int), (0:Int), (0:Int), (0:Int), .slice none 0 0, .slice none 0 0, (0:Int), (0:Int), (0:Int), (0:Int), (0:Int)] 30)).setRow wB.heap.size #[m0, m1, m2, m3, m4, m5, mst, .slice mla mln mlc, .slice mha mhn mhc, mcap, mtol, mspan, mlim, mleast]) none) (.cells #[.slice a1 n c1, .slice pa nq pc] 31))
   rw [hsz9] at PB
   generalize (wB.alloc (.cells #[(0:Int), (0:Int), (0:Int), (0:Int), (0:Int), (0:Int), (0:Int), .slice none 0 0, .slice none 0 0, (0:Int), (0:Int), (0:Int), (0:Int), (0:Int)] 30)).setRow wB.heap.size #[m0, m1, m2, m3, m4, m5, mst, .slice mla mln mlc, .slice mha mhn mhc, mcap, mtol, mspan, mlim, mleast] = wC at *
   generalize hab : wB.heap.size = ab at *
   have GD := zH (gb_trans G9.out PG.out); have ED := zH (block_kept PG.out E9.out rfl)
   generalize wC.alloc (.cells #[.slice a1 n c1, .slice pa nq pc] 31) = wD at *
   clear hab hsz9 PG E9 G9 Z0 HROW GK
   have HPB := zH (block_lt' PB.out)
   go_loopw [47] (fun iv u => ∃ j : Nat, j ≤ 2 ∧ iv = .int .i64 j ∧ wD.grownBy u none) (fun iv _ => 2 - (intOf iv).toNat)
   case atStart => exact ⟨0, by omega, rfl, gb_refl _ _⟩
   case round =>
    obtain ⟨j, hj, rfl, hgr⟩ := hrel
    have GJ := zH hgr
    clear hgr
    generalize wr = wE at *
    by_cases hlt2 : j < 2
    ·have hjd : decide ((j : Int) < 2) = true := decide_eq_true (by omega)
     have G7E := zH (gb_trans GD.out GJ.out)
     obtain ⟨X, xa, xc, hcell, hx⟩ : ∃ (X : List Ph) (xa : Option Addr) (xc : Nat), wE.cell? ⟨ab + 1, j, none⟩ = some (.slice xa X.length xc) ∧ SlC 6 w7 (.slice xa X.length xc) X.length (flatP X) := by
      have hb := block_kept GJ.out PB.out rfl
      rcases (by omega : j = 0 ∨ j = 1) with rfl | rfl
      ·exact ⟨P, a1, c1, by rw [HN.out]; exact cell_of hb 0 _ rfl, by rw [HN.out]; exact HP7.out⟩
      ·exact ⟨Q, pa, pc, by rw [HNQ.out]; exact cell_of hb 1 _ rfl, by have h := HQ7.out; rw [HNQ.out]; exact h⟩
     have HXS := zH hx
     have EE := zH (block_kept GJ.out ED.out rfl)
     have hpl := Nat.lt_of_lt_of_le HPB.out GJ.out.size
     have SHM := zH (fun (u : World) (hu : w7.grownBy u none) => short30_any ⟨m0, m1, m2, m3, m4, m5, mst, mls, mhs, mcap, mtol, mspan, mlim, mleast⟩ _ _ _ X u (HMIN.out.after hu) (HXS.out.after hu))
     have VA := zH (fun (u : World) (hu : w7.grownBy u none) => avalidate_any ⟨m0, m1, m2, m3, m4, m5, mst, mls, mhs, mcap, mtol, mspan, mlim, mleast⟩ _ _ _ X u (HMIN.out.after hu) (HXS.out.after hu))
     have VB := zH (fun (u : World) (hu : w7.grownBy u none) => rvalid30_any ⟨m0, m1, m2, m3, m4, m5, mst, mls, mhs, mcap, mtol, mspan, mlim, mleast⟩ _ _ _ X u (HMIN.out.after hu) (HXS.out.after hu))
     have ASA := zH (fun (h : X.length ≤ 12) (u : World) (hu : w7.grownBy u none) => associate_any ⟨m0, m1, m2, m3, m4, m5, mst, mls, mhs, mcap, mtol, mspan, mlim, mleast⟩ X _ _ _ u (HMIN.out.after hu) (HXS.out.after hu) (by omega))
     have ASB := zH (fun (h : X.length ≤ 12) (u : World) (hu : w7.grownBy u none) => rassoc_own ⟨m0, m1, m2, m3, m4, m5, mst, mls, mhs, mcap, mtol, mspan, mlim, mleast⟩ X _ _ _ u (HMIN.out.after hu) (HXS.out.after hu) (by omega) (fun W X' _ _ _ h => loc_res h))
     have ORA := zH (fun (h : X.length ≤ 12) (u : World) (hu : w7.grownBy u none) => (order_any X _ u (HXS.out.after hu) (by omega)).mono fun e w' h => (by
      obtain ⟨v, h0, h1, h2⟩ := h
      obtain ⟨a, c, rfl⟩ := h1.shape
      exact ⟨_, h0, ⟨a, c, rfl, h1⟩, h2⟩ : ∃ v, e = .returned v ∧ OrdV ((ordA X).map (fun (i : Nat) => (i : Int))) v w' ∧ u.grownBy w' none))
     have ORB := zH (fun (h : X.length ≤ 12) (u : World) (hu : w7.grownBy u none) => (rorder30_any X _ u (HXS.out.after hu) (by omega)).mono fun e w' h => (by
      obtain ⟨v, h0, h1, h2⟩ := h
      have h3 := Sl_of_owns h1 (by rw [List.length_map, ordA_length])
      obtain ⟨a, c, rfl⟩ := h3.shape
      exact ⟨_, h0, ⟨a, c, rfl, h3⟩, h2⟩ : ∃ v, e = .returned v ∧ OrdV ((ordA X).map (fun (i : Nat) => (i : Int))) v w' ∧ u.grownBy w' none))
     have HOL : Hid (X.length ≤ 12 → ((ordA X).map (fun (i : Nat) => (i : Int))).length ≤ 1000000) := zH (fun h => by rw [List.length_map, ordA_length]; omega)
     have HGB : Hid (∀ L : List Grv, L.map Grv.g = (assocR ⟨m0, m1, m2, m3, m4, m5, mst, mls, mhs, mcap, mtol, mspan, mlim, mleast⟩ X).2.1 → L.length ≤ X.length + 1) := zH (fun L h => rnd_len h)
     have HFB : Hid ((assocR ⟨m0, m1, m2, m3, m4, m5, mst, mls, mhs, mcap, mtol, mspan, mlim, mleast⟩ X).2.2.length ≤ X.length + 1) := zH left_len
     unfold AsRes at ASA
     unfold AsResO at ASB
     simp only [Asc.val] at SHM VA VB ASA ASB
     generalize (ordA X).map (fun (i : Nat) => (i : Int)) = OL at *
     generalize avE ⟨m0, m1, m2, m3, m4, m5, mst, mls, mhs, mcap, mtol, mspan, mlim, mleast⟩ X = vE at *
     obtain ⟨E1, GR1, LF1, hR⟩ : ∃ E G F, assocR ⟨m0, m1, m2, m3, m4, m5, mst, mls, mhs, mcap, mtol, mspan, mlim, mleast⟩ X = (E, G, F) := ⟨_, _, _, rfl⟩
     rw [hR] at ASA ASB HGB HFB
     dsimp only at ASA ASB HGB HFB
     clear hx hR
     obtain ⟨xn, hxn⟩ : ∃ xn, X.length = xn := ⟨_, rfl⟩
     rw [hxn] at hcell HXS SHM VA VB ASA ASB ORA ORB HOL HGB HFB
     clear hxn
     go_wp2_with (with_reducible refine wpList_load14 rfl _ rfl ab rfl _ _ EE.out rfl ?_)
     clear hcell hpl
     (with_reducible refine (SHM.out wE G7E.out).mono ?_)
     rintro e wF ⟨bs, rfl, hbs, hg⟩
     have GF := zH (gb_trans GJ.out hg); have G7F := zH (gb_trans G7E.out hg); have EF := zH (block_kept hg EE.out rfl)
     clear hg SHM EE
     cases bs
     ·go_wp2_with fail
      go_roundw
      case rel => exact ⟨j + 1, by omega, by go_num, GF.out⟩
      case measure => simp [intOf]; omega
     have hx12 := hbs rfl
     have AA := zH (ASA.out hx12 wF G7F.out); have AB := zH (ASB.out hx12); have OA := zH (ORA.out hx12); have OB := zH (ORB.out hx12); have HOL2 := zH (HOL.out hx12)
     have HX12 := zH hx12
     clear hbs ASA ASB ORA ORB HOL hx12
     go_wp2_with (with_reducible refine wpList_load14 rfl _ rfl ab rfl _ _ EF.out rfl ?_)
     (with_reducible refine AA.out.mono ?_)
     rintro e wG ⟨L1, gv, lv, rfl, hG1, hM1, hL1, hg⟩
     have hl1 := HGB.out L1 hM1
     obtain ⟨ga, gc, rfl⟩ := hG1.1.slice
     obtain ⟨fa, fc, rfl⟩ := hL1.shape
     have GG := zH (gb_trans GF.out hg); have G7G := zH (gb_trans G7F.out hg); have EG := zH (block_kept hg EF.out rfl)
     have HG1 := zH hG1; have HM1 := zH hM1; have HL1 := zH hL1; have HLL1 := zH hl1
     clear hg AA EF GF G7F hG1 hM1 hL1 hl1
     go_wp2_with (with_reducible refine wpList_load14 rfl _ rfl ab rfl _ _ EG.out rfl ?_)
     (with_reducible refine (AB.out wG G7G.out).mono ?_)
     rintro e wH ⟨L2, gv2, lv2, rfl, hO2, hM2, hg⟩
     have hG2 := hO2.gin
     have hL2 := Sl_of_owns hO2.lr rfl
     obtain ⟨ka, kc, rfl⟩ := owns_slice hO2.gr
     obtain ⟨na, nc, rfl⟩ := owns_slice hO2.lr
     have GH := zH (gb_trans GG.out hg); have G7H := zH (gb_trans G7G.out hg); have EH := zH (block_kept hg EG.out rfl)
     have GS := zH (fun (u : World) (hu : wH.grownBy u none) => groups_same _ _ L1 L2 u (HG1.out.after (gb_trans hg hu)) (hG2.after hu) (HM1.out.trans hM2.symm) (by have := HLL1.out; have := HX12.out; omega))
     have IS := zH (fun (u : World) (hu : wH.grownBy u none) => ints_same _ _ LF1 u (HL1.out.after (gb_trans hg hu)) (hL2.after hu) (by have := HFB.out; have := HX12.out; omega))
     have IO := zH (fun (v1 v2 : Value) (u : World) (h1 : Sl u v1 OL) (h2 : Sl u v2 OL) => ints_same v1 v2 OL u h1 h2 HOL2.out)
     clear hg AB EG GG G7G hO2 hM2 hG2 hL2 HG1 HM1 HL1 HLL1 HGB HFB HOL2
     generalize L1.length = l1n at *
     generalize L2.length = l2n at *
     generalize LF1.length = lfn at *
     have hE1 : (vE != vE) = false := by simp
     have hE2 : (E1 != E1) = false := by simp
     have hal := block_lt' EH.out
     go_wp2_with fail
     refine Rg.rR (Made wH) Makes (fun k_ => if k_ = 0 ∨ k_ = 3 then some (isV (.agg #[m0, m1, m2, m3, m4, m5, mst, .slice mla mln mlc, .slice mha mhn mhc, mcap, mtol, mspan, mlim, mleast])) else if k_ = 2 ∨ k_ = 5 then some (isV (.int .i64 vE)) else if k_ = 9 ∨ k_ = 11 then some (isF (OrdV OL)) else if k_ = 12 ∨ k_ = 23 ∨ k_ = 29 then some (isV (.bool true)) else none) (fun _ => false) 0 32 Makes.size (Made.start wH) (fun hne => ?_)
     refine rg_load14 (fun _ => gb_refl _ _) _ ab #[m0, m1, m2, m3, m4, m5, mst, .slice mla mln mlc, .slice mha mhn mhc, mcap, mtol, mspan, mlim, mleast] 30 EH.out rfl rfl rfl rfl rfl rfl ?_
     simp only [zA, zB, zC, zD, zX]
     (repeat (refine rQ ?_; go_big_quiet_step (fail); refine wpQuiet_nil ?_))
     refine rg_fix (.int .i64 vE) 17 #[.agg #[m0, m1, m2, m3, m4, m5, mst, .slice mla mln mlc, .slice mha mhn mhc, mcap, mtol, mspan, mlim, mleast], .slice xa xn xc] rfl rfl rfl (fun _ => by go_simp) (fun u hu => VA.out u (gb_trans G7H.out hu)) ?_
     simp only [zA, zB, zC, zD, zX]
     refine rg_load14 (fun _ => gb_refl _ _) _ ab #[m0, m1, m2, m3, m4, m5, mst, .slice mla mln mlc, .slice mha mhn mhc, mcap, mtol, mspan, mlim, mleast] 30 EH.out rfl rfl rfl rfl rfl rfl ?_
     simp only [zA, zB, zC, zD, zX]
     (repeat (refine rQ ?_; go_big_quiet_step (fail); refine wpQuiet_nil ?_))
     refine rg_fix (.int .i64 vE) 18 #[.agg #[m0, m1, m2, m3, m4, m5, mst, .slice mla mln mlc, .slice mha mhn mhc, mcap, mtol, mspan, mlim, mleast], .slice xa xn xc] rfl rfl rfl (fun _ => by go_simp) (fun u hu => VB.out u (gb_trans G7H.out hu)) ?_
     simp only [zA, zB, zC, zD, zX]
     (repeat (refine rQ ?_; go_big_quiet_step (fail); refine wpQuiet_nil ?_))
     refine rg_fixFD (OrdV OL) 20 #[.slice xa xn xc] rfl rfl rfl OrdV.after (fun _ => by go_simp) (fun u hu _ => OA.out u (gb_trans G7H.out hu)) (fun v1 u1 h1 => ?_)
     obtain ⟨o1a, o1c, rfl, -⟩ := h1
     simp only [zA, zB, zC, zD, zX]
     (repeat (refine rQ ?_; go_big_quiet_step (fail); refine wpQuiet_nil ?_))
     refine rg_fixFD (OrdV OL) 21 #[.slice xa xn xc] rfl rfl rfl OrdV.after (fun _ => by go_simp) (fun u hu _ => OB.out u (gb_trans G7H.out hu)) (fun v2 u2 h2 => ?_)
     obtain ⟨o2a, o2c, rfl, -⟩ := h2
     simp only [zA, zB, zC, zD, zX]
     refine rg_fixD (.bool true) 19 #[.slice o1a OL.length o1c, .slice o2a OL.length o2c] rfl rfl rfl (fun _ => by go_simp) (fun u hu hd => ?_) ?_
     ·obtain ⟨b1, c1_, e1, s1⟩ := hd ⟨9, .data⟩ (by simp) rfl
      obtain ⟨b2, c2_, e2, s2⟩ := hd ⟨11, .data⟩ (by simp) rfl
      rw [e1, e2]
      exact IO.out _ _ u s1 s2
     simp only [zA, zB, zC, zD, zX]
     (repeat (refine rQ ?_; go_big_quiet_step (fail); refine wpQuiet_nil ?_))
     refine rg_fix (.bool true) 22 #[.slice ga l1n gc, .slice ka l2n kc] rfl rfl rfl (fun _ => by go_simp) (fun u hu => GS.out u hu) ?_
     simp only [zA, zB, zC, zD, zX]
     (repeat (refine rQ ?_; go_big_quiet_step (fail); refine wpQuiet_nil ?_))
     refine rg_fix (.bool true) 19 #[.slice fa lfn fc, .slice na lfn nc] rfl rfl rfl (fun _ => by go_simp) (fun u hu => IS.out u hu) ?_
     simp only [zA, zB, zC, zD, zX]
     (repeat (refine rQ ?_; go_big_quiet_step (fail); refine wpQuiet_nil ?_))
     rintro wN hqN - -
     refine wpList_nil ?_
     have GN := zH (gb_trans GH.out hqN)
     clear hqN hne hE1 hE2 hal VA VB OA OB GS IS IO EH GH G7H
     go_wp2_with fail
     go_roundw
     case rel => exact ⟨j + 1, by omega, by go_num, GN.out⟩
     case measure => simp [intOf]; omega
    ·have hjd : decide ((j : Int) < 2) = false := decide_eq_false (by omega)
     have GN := zH (gb_trans GD.out GJ.out)
     go_wp2_with fail
     go_roundw
     case rel => exact ⟨k + 1, by omega, by go_num, GN.out⟩
     case measure => simp [intOf]; omega
  ·have hkd : decide ((k : Int) < 3) = false := decide_eq_false (by omega)
   go_wp2_with fail
   (with_reducible refine (awake30_any _).mono ?_)
   rintro e w22 ⟨rfl, hg⟩
   have GE := zH (gb_end (gb_trans (gb_trans W7.out GK.out) hg))
   clear hg
   go_wp2_with fail
   go_ret
   exact ⟨rfl, GE.out⟩
end Go.Proofs.YtiebljanpnadjaaGreat
