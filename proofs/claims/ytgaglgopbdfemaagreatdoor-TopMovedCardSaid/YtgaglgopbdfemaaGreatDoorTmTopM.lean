/- TopM -/
import Derived.Test.YtgaglgopbdfemaaGreatDoorLvEnd
import Derived.ArgAppend
import Derived.Test.YtgaglgopbdfemaaGreatDoorTmRgMade
import Derived.Test.YtgaglgopbdfemaaGreatDoorTmGeo
import Derived.Test.YtgaglgopbdfemaaGreatDoorTmRgPos
import Derived.Test.YtgaglgopbdfemaaGreatDoorTmProb
import Derived.Test.YtgaglgopbdfemaaGreatDoorTmRefC
import Derived.Test.YtgaglgopbdfemaaGreatDoorTmHeapP
import Derived.Test.YtgaglgopbdfemaaGreatDoorTmMovB
import Derived.Test.YtgaglgopbdfemaaGreatDoorTmLeastA
import Derived.Test.YtgaglgopbdfemaaGreatDoorTmSwpA
set_option linter.all false
namespace Go.Proofs.YtgaglgopbdfemaaGreatDoor
open Go.RowKit Rg
/-- A place moved by a way. -/
theorem move_any (dx dy dz x y z : Int) (w : World) (h : (-1000000 ≤ dx ∧ dx ≤ 1000000) ∧ (-1000000 ≤ dy ∧ dy ≤ 1000000) ∧ (-1000000 ≤ dz ∧ dz ≤ 1000000)) (h' : (-1000000 ≤ x ∧ x ≤ 1000000) ∧ (-1000000 ≤ y ∧ y ≤ 1000000) ∧ (-1000000 ≤ z ∧ z ≤ 1000000)) :
    Calls Tryz.prog 8 #[.agg #[.int .i64 dx, .int .i64 dy, .int .i64 dz], .agg #[.int .i64 x, .int .i64 y, .int .i64 z]] w fun e w' => e = .returned (.agg #[.int .i64 (x + dx), .int .i64 (y + dy), .int .i64 (z + dz)]) ∧ w.grownBy w' none := by
  have wx : IntKind.i64.wrap (x + dx) = x + dx := by rw [IntKind.wrap_i64]; omega
  have wy : IntKind.i64.wrap (y + dy) = y + dy := by rw [IntKind.wrap_i64]; omega
  have wz : IntKind.i64.wrap (z + dz) = z + dz := by rw [IntKind.wrap_i64]; omega
  have HG0 := Lib.hid (gb_alloc (gb_alloc (gb_alloc (gb_refl w none) (.cells #[.int .i64 dx, .int .i64 dy, .int .i64 dz] 26)) (.cells #[.int .i64 x, .int .i64 y, .int .i64 z] 26)) (.cells #[.int .i64 0, .int .i64 0, .int .i64 0] 26))
  have HD0 : Hid ((((w.alloc (.cells #[.int .i64 dx, .int .i64 dy, .int .i64 dz] 26)).alloc (.cells #[.int .i64 x, .int .i64 y, .int .i64 z] 26)).alloc (.cells #[.int .i64 0, .int .i64 0, .int .i64 0] 26)).heap[w.heap.size]? = some (.cells #[.int .i64 dx, .int .i64 dy, .int .i64 dz] 26 (0, 0))) := Lib.hid (by rw [heap_alloc_old _ _ (by simp; omega), heap_alloc_old _ _ (by simp)]; exact heap_alloc_new w _)
  have HX0 : Hid ((((w.alloc (.cells #[.int .i64 dx, .int .i64 dy, .int .i64 dz] 26)).alloc (.cells #[.int .i64 x, .int .i64 y, .int .i64 z] 26)).alloc (.cells #[.int .i64 0, .int .i64 0, .int .i64 0] 26)).heap[w.heap.size + 1]? = some (.cells #[.int .i64 x, .int .i64 y, .int .i64 z] 26 (0, 0))) := Lib.hid (by rw [heap_alloc_old _ _ (by simp)]; simpa using heap_alloc_new (w.alloc (.cells #[.int .i64 dx, .int .i64 dy, .int .i64 dz] 26)) (.cells #[.int .i64 x, .int .i64 y, .int .i64 z] 26))
  have HR0 : Hid ((((w.alloc (.cells #[.int .i64 dx, .int .i64 dy, .int .i64 dz] 26)).alloc (.cells #[.int .i64 x, .int .i64 y, .int .i64 z] 26)).alloc (.cells #[.int .i64 0, .int .i64 0, .int .i64 0] 26)).heap[w.heap.size + 2]? = some (.cells #[.int .i64 0, .int .i64 0, .int .i64 0] 26 (0, 0))) := Lib.hid (by simpa using heap_alloc_new ((w.alloc (.cells #[.int .i64 dx, .int .i64 dy, .int .i64 dz] 26)).alloc (.cells #[.int .i64 x, .int .i64 y, .int .i64 z] 26)) (.cells #[.int .i64 0, .int .i64 0, .int .i64 0] 26))
  go_enter Tryz.func8, Tryz.ntmps8
  go_upto_region 1 with fail
  generalize ((w.alloc (.cells #[.int .i64 dx, .int .i64 dy, .int .i64 dz] 26)).alloc (.cells #[.int .i64 x, .int .i64 y, .int .i64 z] 26)).alloc (.cells #[.int .i64 0, .int .i64 0, .int .i64 0] 26) = w2 at *
  obtain ⟨c0, c1, c2⟩ := cells3 HD0.out
  obtain ⟨d0, d1, d2⟩ := cells3 HX0.out
  have hR := HR0.out
  have HN := Lib.hid (setRow_at (cs := #[.int .i64 (x + dx), .int .i64 (y + dy), .int .i64 (z + dz)]) hR)
  have HGE := Lib.hid (gb_setRow (cs := #[.int .i64 (x + dx), .int .i64 (y + dy), .int .i64 (z + dz)]) HG0.out (g := w.heap.size + 2) (.inl (by omega)))
  go_wp2_with (with_reducible refine wpList_store_row rfl _ _ _ rfl (w.heap.size + 2) #[.int .i64 (x + dx), .int .i64 (y + dy), .int .i64 (z + dz)] rfl rfl _ _ hR (by kernel_rfl) rfl (by simp [Value.oneCell']) ?_)
  obtain ⟨e0, e1, e2⟩ := cells3 HN.out
  exact bodyPost_ret (v := .agg #[.int .i64 (x + dx), .int .i64 (y + dy), .int .i64 (z + dz)]) (by simp [results, Tryz.results8, go_sem, e0, e1, e2]) rfl ⟨rfl, HGE.out⟩
/-- The class of the loop's region: the row of phases may grow. -/
def MvG (v : Value) (B : Nat) (l : List Ph) (w u : World) : Prop := w.grownBy u v.ownBlock ∧ u.ownsRow B 39 6 v l.length (flatP l)
def MvR (v : Value) : Nat → World → World → Prop := fun k u u' => if k = 18 then u.grownBy u' v.ownBlock else u.grownBy u' none
theorem MvR.size {v : Value} (i : Nat) (w w' : World) (h : MvR v i w w') : w.heap.size ≤ w'.heap.size := by
  unfold MvR at h; split at h <;> exact World.grownBy.size h
theorem MvG.keep {v : Value} {B : Nat} {l : List Ph} {w u u' : World} (h : MvG v B l w u) (hg : u.grownBy u' none) : MvG v B l w u' := ⟨gb_trans h.1 (gb_none hg), owns_keep h.2 hg⟩
theorem MvG.cell {v : Value} {B : Nat} {l : List Ph} {w : World} {b : Nat} (hb : b < w.heap.size) (hr : some b ≠ v.ownBlock) (o : Nat) (u : Cls (MvG v B l w)) : (evr u).cell? ⟨b, o, none⟩ = w.cell? ⟨b, o, none⟩ := gb_cell (evr_h u).1 hb hr
abbrev isGrownP (w : World) (B : Nat) (l : List Ph) (v : Value) (x : Ph) : List Value → Value → World → Prop := fun _ v' u => u.ownsRow B 39 6 v' (l.length + 1) (flatP l ++ x.cells) ∧ (v'.ownBlock = v.ownBlock ∨ ∀ g, v'.ownBlock = some g → w.heap.size ≤ g)
section
variable {ops : Array Oper} {md : Region.Mode} {w0 : World} {v : Value} {B : Nat} {ll : List Ph} {sp : Nat → Option (List Value → Value → World → Prop)} {N : Nat} {Q : List Oper → Act → Facts → Prop} {n k : Nat} {o : Oper} {l : List Oper} {a : Act} {f : Facts}
theorem rg_litV (hk : k ≠ 18) (hq : ∀ g, v.ownBlock = some g → g < w0.heap.size) (cs : Array Value) (T : TypeId) (hs : sp k = some (isOneB w0 cs T)) (hw : Region.wanted o (yielded ops a.tmps) = true)
    (hrun : ∀ w, (execOp a.eval o).run Tryz.prog w = .ok (.value (.slice (some ⟨w.heap.size, 0, none⟩) 1 1)) (w.alloc (.cells cs T)))
    (h : ∀ b, w0.heap.size ≤ b → rLexL Tryz.prog md ops ⟨In (MvG v B ll w0), MvR v, sp, fun _ => false, N⟩ Q n l (k + 1) (a.put o.dst (.slice (some ⟨b, 0, none⟩) 1 1)) (upd f k fun u => u.heap[b]? = some (.cells cs T (0, 0)))) :
    rLexL Tryz.prog md ops ⟨In (MvG v B ll w0), MvR v, sp, fun _ => false, N⟩ Q (n + 1) (o :: l) k a f := by
  refine rLexL_spec (isOneB w0 cs T) hs hw ?_ (fun w hC hd => stepTo_run (hrun w) ?_) ?_
  · rintro v' j w w' _ _ _ hR ⟨b, e, hb, hh⟩
    refine ⟨b, e, hb, ?_⟩
    unfold MvR at hR; split at hR
    · rw [World.grownBy.block hR b (block_lt' hh) (fun e => by have := hq b e.symm; omega)]; exact hh
    · exact block_kept hR hh rfl
  · have hsz := hC.out.1.size
    exact ⟨In.mk ⟨gb_alloc hC.out.1 _, owns_keep hC.out.2 (gb_alloc (gb_refl _ _) _)⟩, by unfold MvR; rw [if_neg hk]; exact gb_alloc (gb_refl _ _) _, ⟨_, rfl, hsz, heap_alloc_new w _⟩, fun e => by cases e⟩
  · rintro v' w hC ⟨b, rfl, hb, -⟩
    have e : (isOneB w0 cs T (vals a o) (.slice (some ⟨b, 0, none⟩) 1 1)) = fun u => u.heap[b]? = some (.cells cs T (0, 0)) := by
      funext u
      refine propext ⟨?_, fun h => ⟨b, rfl, hb, h⟩⟩
      rintro ⟨b', e, -, h⟩
      simp at e; subst e; exact h
    rw [e]
    exact h b hb
theorem rg_pushV (hk : k = 18) (hB : B ≤ w0.heap.size) (x : Ph) (s y : Operand) (b : Nat) (kb : Nat) (hs : sp k = some (isGrownP w0 B ll v x)) (hw : Region.wanted o (yielded ops a.tmps) = true)
    (ho : o.op = .call { callee := .builtin .append, args := #[s, y], argTypes := #[31, 31] }) (hsv : a.eval s = v) (hyv : a.eval y = .slice (some ⟨b, 0, none⟩) 1 1)
    (hafter : ∃ e ∈ o.after, Region.binds md e = true ∧ e.on = kb) (hf : f kb = fun u => u.heap[b]? = some (.cells x.cells.toArray 39 (0, 0))) (hlen : ll.length + 1 ≤ 1000000)
    (h : ∀ v' u, isGrownP w0 B ll v x [] v' u → rLexL Tryz.prog md ops ⟨In (MvG v B ll w0), MvR v, sp, fun _ => false, N⟩ Q n l (k + 1) (a.put o.dst v') (upd f k (isGrownP w0 B ll v x [] v'))) :
    rLexL Tryz.prog md ops ⟨In (MvG v B ll w0), MvR v, sp, fun _ => false, N⟩ Q (n + 1) (o :: l) k a f := by
  refine rLexL_spec (isGrownP w0 B ll v x) hs hw ?_ (fun w hC hd => ?_) (fun v' w _ h' => h v' w h')
  · rintro v' j w w' hj _ _ hR ⟨h1, h2⟩
    unfold MvR at hR; rw [if_neg (by omega)] at hR
    exact ⟨owns_keep h1 hR, h2⟩
  · obtain ⟨e, he, hbd, rfl⟩ := hafter
    have hdep := hd e he hbd
    rw [hf] at hdep
    have hsz := hC.out.1.size
    refine stepTo_push s y 31 ho B 39 (.agg #[.int .i64 0, .int .i64 0, .int .i64 0, .int .i64 0, .int .i64 0, .int .i64 0]) 6 48 Tryz.underlying31 Tryz.infoPhaseT rfl (by omega) v ll.length _ hsv hC.out.2 b 1 x.cells 39 hyv hdep rfl (by simp [Ph.cells, Value.oneCell']) hlen (by omega) (by omega) ?_
    intro v' u' o1 o2 hg hat
    refine ⟨In.mk ⟨gb_trans hC.out.1 hg, o2⟩, by unfold MvR; rw [if_pos hk]; exact hg, ⟨o1, ?_⟩, fun e => by cases e⟩
    rcases hat with h1 | h1
    · exact .inl h1
    · exact .inr (fun g hg' => by rw [h1] at hg'; cases hg'; exact hsz)
end
set_option maxRecDepth 100000 in
set_option maxHeartbeats 20000000 in
theorem topMoved_walk (w : World) (v : Value) (xs : List Int) (hs : Sl w v xs) (_hx : ∀ x ∈ xs, -9223372036854775808 ≤ x ∧ x ≤ 9223372036854775807) (n : Int) (_hn0 : -9223372036854775808 ≤ n) (_hn1 : n ≤ 9223372036854775807) :
    Calls Tryz.prog 3 #[v, .int .i64 n] w fun e w' => e = .returned (.bool true) ∧ Below w.heap.size w w' := by
  go_enter Tryz.func3, Tryz.ntmps3
  go_wp2_with fail
  (with_reducible refine (new_any w v xs hs).mono ?_)
  rintro e w2 ⟨rfl, hS, hg⟩
  have S2 := Lib.hid hS; have G2 := Lib.hid hg
  clear hS hg hs
  generalize hqw : w.heap.size = q at S2 ⊢
  have hq : w.heap.size ≤ q := by omega
  go_wp2_with fail
  (with_reducible refine (problem_any q w2 q 4 6 S2.out (by omega) (by omega) (by omega) (by omega)).mono ?_)
  rintro e w3 ⟨P, vl, vh, vp, rfl, hB, hT, hre, -, hcap, hlen, hph, hin, hap, hS, hg⟩
  have gd := good_mk hB (by omega) hT hre.1 hcap hlen.1 (by omega) hph
  have hq2 := S2.out.lt.2
  have HPI : Hid (PrIn q w3 ⟨P, vl, vh, vp⟩) := Lib.hid ⟨hin, fun b off len cap e _ => by have := hap _ (.inl rfl) b off len cap e; omega, fun b off len cap e _ => by have := hap _ (.inr (.inl rfl)) b off len cap e; omega, fun b off len cap e _ => by have := hap _ (.inr (.inr rfl)) b off len cap e; omega, by show P.phs.length ≤ 100; omega⟩
  have S3 := Lib.hid hS; have G3 := Lib.hid (gb_new G2.out hg (fun k hk => by simp at hk; omega))
  have HPTS : P.reg.pts ≤ 1500 := by
    have hB' := hB
    unfold boxIn placeIn at hB'
    exact pts_side (by show P.x1 - P.x0 ≤ 8; omega) (by show P.y1 - P.y0 ≤ 8; omega) (by show P.z1 - P.z0 ≤ 8; omega) gd.sound.vb
  clear hS hg S2 G2 hT hre hcap hap
  obtain ⟨pa, pc, rfl⟩ := hin.p.slice
  obtain ⟨la, ln, lc, rfl⟩ := sl_slice hin.l
  obtain ⟨ha, hn_, hc, rfl⟩ := sl_slice hin.h
  have MOV := Lib.hid (fun (d : Way) (hd : placeIn 500 d.x d.y d.z) (ht : 0 ≤ d.t ∧ d.t ≤ 1099511627776) (tol : Int) (h0 : 0 ≤ tol) (h1 : tol ≤ 1000000) => moved_plain gd hB (by omega) HPTS hd ht h0 h1)
  have LAN1 : Hid (∀ (tol : Int) (u : World), ProbIn P (.slice la ln lc) (.slice ha hn_ hc) (.slice pa P.phs.length pc) u → Calls Tryz.prog 10 #[.agg (P.val (.slice la ln lc) (.slice ha hn_ hc) (.slice pa P.phs.length pc)), .int .i64 tol] u fun r w' => r = .returned (.tuple #[.agg (locP P tol).1.val, .int .i64 (locP P tol).2]) ∧ u.grownBy w' none) :=
    Lib.hid (fun tol u h => locate_any P _ _ _ tol u h (by omega))
  have LAN2 : Hid (∀ (d : Way) (tol : Int) (u : World) (vq : Value), ProbIn (P.mv d) (.slice la ln lc) (.slice ha hn_ hc) vq u → Calls Tryz.prog 10 #[.agg ((P.mv d).val (.slice la ln lc) (.slice ha hn_ hc) vq), .int .i64 tol] u fun r w' => r = .returned (.tuple #[.agg (locP (P.mv d) tol).1.val, .int .i64 (locP (P.mv d) tol).2]) ∧ u.grownBy w' none) :=
    Lib.hid (fun d tol u vq h => locate_any (P.mv d) _ _ _ tol u h (by simp [Prob.mv]; omega))
  have PHC := Lib.hid gd.ph; have HBX := Lib.hid hB
  clear gd hin HPTS hB hph
  obtain ⟨x0, y0, z0, x1, y1, z1, step, ls, hs, phs, cap⟩ := P
  dsimp only at hlen HBX PHC
  simp only [Prob.val, Prob.mv] at MOV LAN1 LAN2
  simp only [Prob.val]
  have HL := Lib.hid hlen
  have hg4 : w3.grownBy (w3.alloc (.cells #[.int .i64 x0, .int .i64 y0, .int .i64 z0, .int .i64 x1, .int .i64 y1, .int .i64 z1, .int .i64 step, .slice la ln lc, .slice ha hn_ hc, .slice pa phs.length pc, .int .i64 cap] 33)) none := gb_alloc (gb_refl _ _) _
  have A4 : Hid (QrAt w q ⟨x0, y0, z0, x1, y1, z1, step, ls, hs, phs, cap⟩ (.slice la ln lc) (.slice ha hn_ hc) (.slice pa phs.length pc) w3.heap.size (w3.alloc (.cells #[.int .i64 x0, .int .i64 y0, .int .i64 z0, .int .i64 x1, .int .i64 y1, .int .i64 z1, .int .i64 step, .slice la ln lc, .slice ha hn_ hc, .slice pa phs.length pc, .int .i64 cap] 33))) := Lib.hid ⟨heap_alloc_new w3 (.cells #[.int .i64 x0, .int .i64 y0, .int .i64 z0, .int .i64 x1, .int .i64 y1, .int .i64 z1, .int .i64 step, .slice la ln lc, .slice ha hn_ hc, .slice pa phs.length pc, .int .i64 cap] 33), HPI.out.draw (gb_none hg4), gb_trans G3.out hg4, hq, S3.out.lt.2⟩
  have S4 := Lib.hid (S3.out.later (row := none) hg4 (by simp))
  have hq8 := S3.out.lt.2
  clear hg4 S3 G3 HPI hlen
  go_upto_region 3 with fail
  generalize w3.alloc (.cells #[.int .i64 x0, .int .i64 y0, .int .i64 z0, .int .i64 x1, .int .i64 y1, .int .i64 z1, .int .i64 step, .slice la ln lc, .slice ha hn_ hc, .slice pa phs.length pc, .int .i64 cap] 33) = w4 at *
  generalize w3.heap.size = b8 at *
  go_wp2_with fail
  (with_reducible refine (place_any q w4 q 500 S4.out (by omega) (by omega)).mono ?_)
  rintro e w5 ⟨dx, dy, dz, rfl, hd, hS, hg⟩
  have HD := Lib.hid hd
  have A5 := Lib.hid (A4.out.draw hg)
  have hg6 : w5.grownBy (w5.alloc (.cells #[.int .i64 dx, .int .i64 dy, .int .i64 dz] 26)) none := gb_alloc (gb_refl _ _) _
  have A6 := Lib.hid (A5.out.keep hg6); have D6 := Lib.hid (heap_alloc_new w5 (.cells #[.int .i64 dx, .int .i64 dy, .int .i64 dz] 26)); have S6 := Lib.hid (hS.later (row := none) hg6 (by simp))
  have hb85 := block_lt' A5.out.p8
  clear hd hS hg hg6 A4 A5 S4
  go_upto_region 4 with fail
  generalize w5.alloc (.cells #[.int .i64 dx, .int .i64 dy, .int .i64 dz] 26) = w6 at *
  generalize w5.heap.size = bd at *
  go_wp2_with fail
  (with_reducible refine (mod_any n 1099511627776 _ (by omega) (by omega)).mono ?_)
  rintro r w7 ⟨rfl, rfl⟩
  have hs0 : 0 ≤ n % 1099511627776 ∧ n % 1099511627776 < 1099511627776 := by omega
  generalize n % 1099511627776 = tb at *
  have P6 := A6.out.p8
  obtain ⟨e0_, e1_, e2_, e3_, e4_, e5_, e6_, e7_, e8_, e9_, e10_⟩ := cells11 P6
  clear P6
  have hgQ : w6.grownBy (w6.alloc (.cells #[.int .i64 x0, .int .i64 y0, .int .i64 z0, .int .i64 x1, .int .i64 y1, .int .i64 z1, .int .i64 step, .slice la ln lc, .slice ha hn_ hc, .slice pa phs.length pc, .int .i64 cap] 33)) none := gb_alloc (gb_refl _ _) _
  have A7 := Lib.hid (A6.out.keep hgQ); have D7 := Lib.hid (block_kept hgQ D6.out rfl); have Q7 := Lib.hid (heap_alloc_new w6 (.cells #[.int .i64 x0, .int .i64 y0, .int .i64 z0, .int .i64 x1, .int .i64 y1, .int .i64 z1, .int .i64 step, .slice la ln lc, .slice ha hn_ hc, .slice pa phs.length pc, .int .i64 cap] 33))
  have GQ := Lib.hid hgQ
  have hbd6 := block_lt' D6.out
  clear hgQ
  go_upto_region 6 with fail
  clear e0_ e1_ e2_ e3_ e4_ e5_ e6_ e7_ e8_ e9_ e10_
  generalize w6.alloc (.cells #[.int .i64 x0, .int .i64 y0, .int .i64 z0, .int .i64 x1, .int .i64 y1, .int .i64 z1, .int .i64 step, .slice la ln lc, .slice ha hn_ hc, .slice pa phs.length pc, .int .i64 cap] 33) = w7 at *
  generalize hQQ : w6.heap.size = Q at *
  have hB := HBX.out
  unfold boxIn placeIn at hB
  have hd := HD.out
  unfold placeIn at hd
  have P7 := A7.out.p8
  obtain ⟨e0_, e1_, e2_, e3_, e4_, e5_, e6_, e7_, e8_, e9_, e10_⟩ := cells11 P7
  clear P7
  obtain ⟨d0_, d1_, d2_⟩ := cells3 D7.out
  have u1_ := Made.cells (block_lt' A7.out.p8)
  have ud_ := Made.cells (block_lt' D7.out)
  refine Rg.region (Made w7) Makes (fun k => if k = 4 then some (isV (.agg #[.int .i64 (x0 + dx), .int .i64 (y0 + dy), .int .i64 (z0 + dz)])) else if k = 9 then some (isV (.agg #[.int .i64 (x1 + dx), .int .i64 (y1 + dy), .int .i64 (z1 + dz)])) else none) (fun _ => false) 0 12 (by kernel_rfl) (by kernel_rfl) (by kernel_rfl) (by kernel_rfl) (by kernel_rfl) (by kernel_rfl) (by kernel_rfl) Makes.size (Made.start w7) (fun hne => ?_)
  (repeat (refine rLexL_quiet (by rfl) (by rfl) (by rfl) (by rfl) ?_; go_big_quiet_step (fail); refine wpQuiet_nil ?_))
  refine rg_fix (.agg #[.int .i64 (x0 + dx), .int .i64 (y0 + dy), .int .i64 (z0 + dz)]) 8 #[.agg #[.int .i64 dx, .int .i64 dy, .int .i64 dz], .agg #[.int .i64 x0, .int .i64 y0, .int .i64 z0]] rfl rfl rfl (fun _ => by go_simp) (fun u hu => move_any dx dy dz x0 y0 z0 u (by omega) (by omega)) ?_
  simp only [Act.put, List.setIfInBounds_toArray, List.set_cons_zero, List.set_cons_succ]
  (repeat (refine rLexL_quiet (by rfl) (by rfl) (by rfl) (by rfl) ?_; go_big_quiet_step (fail); refine wpQuiet_nil ?_))
  refine rg_fix (.agg #[.int .i64 (x1 + dx), .int .i64 (y1 + dy), .int .i64 (z1 + dz)]) 8 #[.agg #[.int .i64 dx, .int .i64 dy, .int .i64 dz], .agg #[.int .i64 x1, .int .i64 y1, .int .i64 z1]] rfl rfl rfl (fun _ => by go_simp) (fun u hu => move_any dx dy dz x1 y1 z1 u (by omega) (by omega)) ?_
  simp only [Act.put, List.setIfInBounds_toArray, List.set_cons_zero, List.set_cons_succ]
  (repeat (refine rLexL_quiet (by rfl) (by rfl) (by rfl) (by rfl) ?_; go_big_quiet_step (fail); refine wpQuiet_nil ?_))
  rintro wq hgq - -
  clear e0_ e1_ e2_ e3_ e4_ e5_ e6_ e7_ e8_ e9_ e10_
  clear d0_ d1_ d2_ u1_ ud_ hne
  have QQ := Lib.hid (block_kept hgq Q7.out rfl)
  have P9 := QQ.out
  obtain ⟨e0_, e1_, e2_, e3_, e4_, e5_, e6_, e7_, e8_, e9_, e10_⟩ := cells11 P9
  have hFQ := fun o => frozen3 QQ.out (o := o)
  have HT : wq.there Q 0 6 := fun i hi => by
    rw [show 0 + i = i by omega]
    exact ⟨by
      match i, hi with
      | 0, _ => rw [e0_]; rfl
      | 1, _ => rw [e1_]; rfl
      | 2, _ => rw [e2_]; rfl
      | 3, _ => rw [e3_]; rfl
      | 4, _ => rw [e4_]; rfl
      | 5, _ => rw [e5_]; rfl, hFQ i⟩
  refine wpList_store_mid rfl _ _ _ rfl Q 0 #[.int .i64 (x0 + dx), .int .i64 (y0 + dy), .int .i64 (z0 + dz), .int .i64 (x1 + dx), .int .i64 (y1 + dy), .int .i64 (z1 + dz)] rfl rfl HT (by kernel_rfl) (by simp [Value.oneCell']) ?_
  have hQle : w6.heap.size ≤ Q := by omega
  have H10 : Hid ((wq.setCells Q 0 [.int .i64 (x0 + dx), .int .i64 (y0 + dy), .int .i64 (z0 + dz), .int .i64 (x1 + dx), .int .i64 (y1 + dy), .int .i64 (z1 + dz)]).heap[Q]? = some (.cells #[.int .i64 (x0 + dx), .int .i64 (y0 + dy), .int .i64 (z0 + dz), .int .i64 (x1 + dx), .int .i64 (y1 + dy), .int .i64 (z1 + dz), .int .i64 step, .slice la ln lc, .slice ha hn_ hc, .slice pa phs.length pc, .int .i64 cap] 33 (0, 0))) := Lib.hid (by
    simp only [World.setCells]; exact set_block (set_block (set_block (set_block (set_block (set_block QQ.out 0 _) 1 _) 2 _) 3 _) 4 _) 5 _)
  have G10 : Hid (w6.grownBy (wq.setCells Q 0 [.int .i64 (x0 + dx), .int .i64 (y0 + dy), .int .i64 (z0 + dz), .int .i64 (x1 + dx), .int .i64 (y1 + dy), .int .i64 (z1 + dz)]) none) := Lib.hid (by
    simp only [World.setCells]
    exact gb_setCell (gb_setCell (gb_setCell (gb_setCell (gb_setCell (gb_setCell (gb_trans GQ.out hgq) (a := ⟨Q, 0, none⟩) (.inl hQle) _) (a := ⟨Q, 1, none⟩) (.inl hQle) _) (a := ⟨Q, 2, none⟩) (.inl hQle) _) (a := ⟨Q, 3, none⟩) (.inl hQle) _) (a := ⟨Q, 4, none⟩) (.inl hQle) _) (a := ⟨Q, 5, none⟩) (.inl hQle) _)
  refine wpList_nil ?_
  simp only [Act.put, List.setIfInBounds_toArray, List.set_cons_zero, List.set_cons_succ]
  generalize wq.setCells Q 0 [.int .i64 (x0 + dx), .int .i64 (y0 + dy), .int .i64 (z0 + dz), .int .i64 (x1 + dx), .int .i64 (y1 + dy), .int .i64 (z1 + dz)] = w8 at *
  clear e0_ e1_ e2_ e3_ e4_ e5_ e6_ e7_ e8_ e9_ e10_
  clear hFQ HT QQ hgq A7 D7 Q7
  have f9_ := frozen3 H10.out (o := 9); have c9_ := cell_of H10.out 9 _ rfl
  go_upto_region 8 with fail
  have R0 : Hid (PrRe w6 Q (x0 + dx) (y0 + dy) (z0 + dz) (x1 + dx) (y1 + dy) (z1 + dz) step (.slice la ln lc) (.slice ha hn_ hc) cap [] (.slice none 0 0) (w8.setCell ⟨Q, 9, none⟩ (.slice none 0 0))) := Lib.hid ⟨set_block H10.out 9 _, World.ownsRow_nil _ _ _ _, gb_setCell G10.out (.inl hQle) _, hQle⟩
  generalize w8.setCell ⟨Q, 9, none⟩ (.slice none 0 0) = w9 at *
  clear f9_ c9_ H10 G10 GQ
  obtain ⟨pb, poff, pcap', hpv, -, -, -, -⟩ := A6.out.prob.p.block HL.out.1
  simp only [Value.slice.injEq, Option.some.injEq, Addr.mk.injEq, true_and, and_true] at hpv
  obtain ⟨rfl, rfl⟩ := hpv
  have A9 := Lib.hid (A6.out.keep R0.out.gr)
  have e9_ : w9.cell? ⟨b8, 9, none⟩ = some (.slice (some ⟨pb, poff, none⟩) phs.length pc) := cell_of A9.out.p8 9 _ rfl
  have hlen := HL.out
  go_wp2_with fail
  clear e9_ A9
  go_loopw [41] (fun i wr => ∃ (k : Nat) (l : List Ph) (vq : Value), i = .int .i64 k ∧ k ≤ phs.length ∧ l = (phs.take k).map (Ph.mv ⟨dx, dy, dz, tb⟩) ∧ PrRe w6 Q (x0 + dx) (y0 + dy) (z0 + dz) (x1 + dx) (y1 + dy) (z1 + dz) step (.slice la ln lc) (.slice ha hn_ hc) cap l vq wr) (fun i _ => phs.length - (intOf i).toNat)
  case atStart => exact ⟨0, [], .slice none 0 0, rfl, by omega, by simp, R0.out⟩
  case round =>
    obtain ⟨k, l, vq, rfl, hk, hl, hM⟩ := hrel
    have MR := Lib.hid hM
    obtain ⟨oa, oc, rfl⟩ := owns_slice hM.own
    clear hM R0
    have AR := Lib.hid (A6.out.keep MR.out.gr); have DR := Lib.hid (block_kept MR.out.gr D6.out rfl)
    have hll : l.length = k := by rw [hl]; simp; omega
    by_cases hm : k < phs.length
    · obtain ⟨pb', poff', pcap', hpv, hpb, hpm, -, hpcell⟩ := AR.out.prob.p.block HL.out.1
      simp only [Value.slice.injEq, Option.some.injEq, Addr.mk.injEq, true_and, and_true] at hpv
      obtain ⟨⟨rfl, rfl⟩, rfl⟩ := hpv
      obtain ⟨c0, c1, c2, c3, c4, c5⟩ := SlC.ph hpcell k hm
      have hgp := PHC.out _ (List.getElem_mem hm)
      have HLN : Hid (l ++ [(phs[k]).mv ⟨dx, dy, dz, tb⟩] = (phs.take (k + 1)).map (Ph.mv ⟨dx, dy, dz, tb⟩)) := Lib.hid (by rw [hl, List.take_succ_eq_append_getElem hm, List.map_append]; rfl)
      clear hpcell hl hpm
      generalize phs[k] = a at *
      obtain ⟨ax, ay, az, ae, al, an⟩ := a
      unfold goodPh placeIn at hgp
      simp only [Ph.mv] at c0 c1 c2 c3 c4 c5 hgp HLN
      have we_ : IntKind.i64.wrap (ae + tb) = ae + tb := by rw [IntKind.wrap_i64]; omega
      have wl_ : IntKind.i64.wrap (al + tb) = al + tb := by rw [IntKind.wrap_i64]; omega
      have hgk : wr.grownBy (wr.alloc (.cells #[.int .i64 ax, .int .i64 ay, .int .i64 az, .int .i64 ae, .int .i64 al, .int .i64 an] 39)) none := gb_alloc (gb_refl _ _) _
      have MR1 := Lib.hid (MR.out.later hgk); have X1 := Lib.hid (heap_alloc_new wr (.cells #[.int .i64 ax, .int .i64 ay, .int .i64 az, .int .i64 ae, .int .i64 al, .int .i64 an] 39)); have D1 := Lib.hid (block_kept hgk DR.out rfl)
      have hown : ∀ g, (Value.slice oa l.length oc).ownBlock = some g → g < wr.heap.size := fun g e => (MR.out.own.lt g e).2
      have hownQ : ∀ g, (Value.slice oa l.length oc).ownBlock = some g → Q + 1 ≤ g := fun g e => (MR.out.own.lt g e).1
      have hQr := MR.out.lt; have hbdr := block_lt' DR.out
      clear hgk
      go_upto_region 11 with fail
      generalize wr.alloc (.cells #[.int .i64 ax, .int .i64 ay, .int .i64 az, .int .i64 ae, .int .i64 al, .int .i64 an] 39) = w11 at *
      generalize hbx : wr.heap.size = bx at *
      have q9_ := cell_of MR1.out.prob 9 _ rfl
      obtain ⟨d0_, d1_, d2_⟩ := cells3 D1.out
      obtain ⟨a0_, a1_, a2_, a3_, a4_, a5_⟩ := six X1.out
      have uq_ := MvG.cell (v := .slice oa l.length oc) (B := Q + 1) (l := l) (block_lt' MR1.out.prob) (fun e => by have := hownQ _ e.symm; omega)
      have ud_ := MvG.cell (v := .slice oa l.length oc) (B := Q + 1) (l := l) (block_lt' D1.out) (fun e => by have := hownQ _ e.symm; omega)
      have ua_ := MvG.cell (v := .slice oa l.length oc) (B := Q + 1) (l := l) (block_lt' X1.out) (fun e => by have := hown _ e.symm; omega)
      have hbx1 := block_lt' X1.out
      have HLL := Lib.hid hll; have HKK := Lib.hid hk
      clear hll hk hbx
      try simp only [Act.put, List.setIfInBounds_toArray, List.set_cons_zero, List.set_cons_succ]
      refine Rg.region (MvG (.slice oa l.length oc) (Q + 1) l w11) (MvR (.slice oa l.length oc)) (fun k => if k = 5 then some (isV (.agg #[.int .i64 (ax + dx), .int .i64 (ay + dy), .int .i64 (az + dz)])) else if k = 17 then some (isOneB w11 #[.int .i64 (ax + dx), .int .i64 (ay + dy), .int .i64 (az + dz), .int .i64 (ae + tb), .int .i64 (al + tb), .int .i64 an] 39) else if k = 18 then some (isGrownP w11 (Q + 1) l (.slice oa l.length oc) ⟨ax + dx, ay + dy, az + dz, ae + tb, al + tb, an⟩) else none) (fun _ => false) 0 19 (by kernel_rfl) (by kernel_rfl) (by kernel_rfl) (by kernel_rfl) (by kernel_rfl) (by kernel_rfl) (by kernel_rfl) MvR.size ⟨gb_drew (gb_refl _ _), owns_keep MR1.out.own (gb_drew (gb_refl _ _))⟩ (fun hne => ?_)
      (repeat (refine rLexL_quiet (by rfl) (by rfl) (by rfl) (by rfl) ?_; go_big_quiet_step (fail); refine wpQuiet_nil ?_))
      refine rg_fixG (fun u u' h hg => h.keep hg) (fun u u' hg => by unfold MvR; rw [if_neg (by omega)]; exact hg) (.agg #[.int .i64 (ax + dx), .int .i64 (ay + dy), .int .i64 (az + dz)]) 8 #[.agg #[.int .i64 dx, .int .i64 dy, .int .i64 dz], .agg #[.int .i64 ax, .int .i64 ay, .int .i64 az]] rfl rfl rfl (fun _ => by go_simp) (fun u hu => move_any dx dy dz ax ay az u (by omega) (by omega)) ?_
      simp only [Act.put, List.setIfInBounds_toArray, List.set_cons_zero, List.set_cons_succ]
      (repeat (refine rLexL_quiet (by rfl) (by rfl) (by rfl) (by rfl) ?_; go_big_quiet_step (fail); refine wpQuiet_nil ?_))
      refine rg_litV (by omega) (fun g e => by have := hown g e; omega) #[.int .i64 (ax + dx), .int .i64 (ay + dy), .int .i64 (az + dz), .int .i64 (ae + tb), .int .i64 (al + tb), .int .i64 an] 39 rfl rfl (fun _ => by go_simp) (fun nb hnb => ?_)
      simp only [Act.put, List.setIfInBounds_toArray, List.set_cons_zero, List.set_cons_succ]
      refine rg_pushV rfl (by omega) ⟨ax + dx, ay + dy, az + dz, ae + tb, al + tb, an⟩ _ _ nb 17 rfl rfl rfl rfl rfl ⟨⟨17, .data⟩, by simp, rfl, rfl⟩ rfl (by have := HLL.out; have := HKK.out; omega) (fun v' u hv' => ?_)
      simp only [Act.put, List.setIfInBounds_toArray, List.set_cons_zero, List.set_cons_succ]
      rintro wq hq hf hD
      have h18 : isGrownP w11 (Q + 1) l (.slice oa l.length oc) ⟨ax + dx, ay + dy, az + dz, ae + tb, al + tb, an⟩ [] v' wq := hf 18
      obtain ⟨na, nc, rfl⟩ := owns_slice h18.1
      have HN := Lib.hid (MR1.out.push (a := ⟨ax + dx, ay + dy, az + dz, ae + tb, al + tb, an⟩) hq.1 h18.1)
      have f9_ := MR1.out.fro (o := 9) hq.1; have c9_ := MR1.out.nine hq.1
      clear hf hD h18 hv' hq hne uq_ ud_ ua_ a0_ a1_ a2_ a3_ a4_ a5_ d0_ d1_ d2_ q9_ we_ wl_ c0 c1 c2 c3 c4 c5
      go_wp2_with fail
      go_roundw
      case rel => exact ⟨k + 1, _, _, by go_num, by omega, HLN.out, HN.out⟩
      case measure => simp [intOf] <;> omega
    · obtain rfl : k = phs.length := by omega
      rw [List.take_length] at hl
      subst hl
      have SR := Lib.hid (S6.out.later (row := none) MR.out.gr (by simp))
      have hqQ : q < Q := by have := S6.out.lt.2; omega
      have hbq : bd ≠ q := by have := AR.out.lt; omega
      have MB := Lib.hid (MR.out.base A6.out.G)
      clear MR A6 S6 D6 hll hk hm
      go_wp2_with fail
      (with_reducible refine (pickL_any q wr q [0, 20] 2 rfl #[.int .i64 0, .int .i64 20] rfl 3 SR.out _ rfl (by decide) (by decide)).mono ?_)
      rintro r w11 ⟨tol, rfl, htol, hs_, hg⟩
      have htol : 0 ≤ tol ∧ tol ≤ 20 := by
        simp only [List.mem_cons, List.not_mem_nil, or_false] at htol; omega
      have A11 := Lib.hid (AR.out.draw hg); have D11 := Lib.hid (block_keptp hg DR.out hbq); have M11 := Lib.hid (MB.out.draw hg hqQ hq)
      obtain ⟨y, hy, hy2, hb1, hb2, hb3⟩ := MOV.out ⟨dx, dy, dz, tb⟩ HD.out ⟨hs0.1, Int.le_of_lt hs0.2⟩ tol (by omega) (by omega)
      have L1 := Lib.hid (LAN1.out tol); have L2 := Lib.hid (LAN2.out ⟨dx, dy, dz, tb⟩ tol)
      dsimp only at hy hy2 L2
      rw [hy] at L1
      rw [hy2] at L2
      dsimp only at L1 L2
      have hLX : y.val = #[.int .i64 y.px, .int .i64 y.py, .int .i64 y.pz, .int .i64 y.t, .int .i64 y.m, .int .i64 y.l, .int .i64 y.a0, .int .i64 y.a1, .int .i64 y.a2, .int .i64 y.a3, .int .i64 y.a4, .int .i64 y.a5] := rfl
      have hLM : (y.mv ⟨dx, dy, dz, tb⟩).val = #[.int .i64 (y.px + dx), .int .i64 (y.py + dy), .int .i64 (y.pz + dz), .int .i64 (y.t + tb), .int .i64 y.m, .int .i64 y.l, .int .i64 (y.a0 + dx), .int .i64 (y.a1 + dy), .int .i64 (y.a2 + dz), .int .i64 (y.a3 + dx), .int .i64 (y.a4 + dy), .int .i64 (y.a5 + dz)] := rfl
      rw [hLX] at L1
      rw [hLM] at L2
      clear hs_ hg hy hy2 MOV LAN1 LAN2 AR DR MB SR
      have P11 := A11.out.p8
      obtain ⟨e0_, e1_, e2_, e3_, e4_, e5_, e6_, e7_, e8_, e9_, e10_⟩ := cells11 P11
      clear P11
      go_wp2_with fail
      clear e0_ e1_ e2_ e3_ e4_ e5_ e6_ e7_ e8_ e9_ e10_
      (with_reducible refine (L1.out _ A11.out.prob).mono ?_)
      rintro r w12 ⟨rfl, hg⟩
      have hg13 : w12.grownBy (w12.alloc (.cells #[.int .i64 y.px, .int .i64 y.py, .int .i64 y.pz, .int .i64 y.t, .int .i64 y.m, .int .i64 y.l, .int .i64 y.a0, .int .i64 y.a1, .int .i64 y.a2, .int .i64 y.a3, .int .i64 y.a4, .int .i64 y.a5] 42)) none := gb_alloc (gb_refl _ _) _
      have A13 := Lib.hid ((A11.out.keep hg).keep hg13); have D13 := Lib.hid (block_kept (gb_trans hg hg13) D11.out rfl); have M13 := Lib.hid (M11.out.later (gb_trans hg hg13)); have Z13 := Lib.hid (heap_alloc_new w12 (.cells #[.int .i64 y.px, .int .i64 y.py, .int .i64 y.pz, .int .i64 y.t, .int .i64 y.m, .int .i64 y.l, .int .i64 y.a0, .int .i64 y.a1, .int .i64 y.a2, .int .i64 y.a3, .int .i64 y.a4, .int .i64 y.a5] 42))
      clear hg hg13 A11 D11 M11 L1
      have P13 := M13.out.prob
      obtain ⟨e0_, e1_, e2_, e3_, e4_, e5_, e6_, e7_, e8_, e9_, e10_⟩ := cells11 P13
      clear P13
      go_wp2_with fail
      clear e0_ e1_ e2_ e3_ e4_ e5_ e6_ e7_ e8_ e9_ e10_
      generalize w12.alloc (.cells #[.int .i64 y.px, .int .i64 y.py, .int .i64 y.pz, .int .i64 y.t, .int .i64 y.m, .int .i64 y.l, .int .i64 y.a0, .int .i64 y.a1, .int .i64 y.a2, .int .i64 y.a3, .int .i64 y.a4, .int .i64 y.a5] 42) = w13 at *
      generalize w12.heap.size = bz at *
      have HIQ := M13.out.inn (P := ⟨x0 + dx, y0 + dy, z0 + dz, x1 + dx, y1 + dy, z1 + dz, step, ls, hs, phs.map (Ph.mv ⟨dx, dy, dz, tb⟩), cap⟩) A13.out.prob (gb_refl _ _) rfl rfl
      simp only [List.length_map] at HIQ
      (with_reducible refine (L2.out w13 _ HIQ).mono ?_)
      rintro r w14 ⟨rfl, hg⟩
      have hg15 : w14.grownBy (w14.alloc (.cells #[.int .i64 (y.px + dx), .int .i64 (y.py + dy), .int .i64 (y.pz + dz), .int .i64 (y.t + tb), .int .i64 y.m, .int .i64 y.l, .int .i64 (y.a0 + dx), .int .i64 (y.a1 + dy), .int .i64 (y.a2 + dz), .int .i64 (y.a3 + dx), .int .i64 (y.a4 + dy), .int .i64 (y.a5 + dz)] 42)) none := gb_alloc (gb_refl _ _) _
      have A15 := Lib.hid ((A13.out.keep hg).keep hg15); have D15 := Lib.hid (block_kept (gb_trans hg hg15) D13.out rfl); have Z15 := Lib.hid (block_kept (gb_trans hg hg15) Z13.out rfl); have Y15 := Lib.hid (heap_alloc_new w14 (.cells #[.int .i64 (y.px + dx), .int .i64 (y.py + dy), .int .i64 (y.pz + dz), .int .i64 (y.t + tb), .int .i64 y.m, .int .i64 y.l, .int .i64 (y.a0 + dx), .int .i64 (y.a1 + dy), .int .i64 (y.a2 + dz), .int .i64 (y.a3 + dx), .int .i64 (y.a4 + dy), .int .i64 (y.a5 + dz)] 42))
      clear hg hg15 A13 D13 M13 Z13 L2 HIQ
      go_upto_region 16 with fail
      generalize w14.alloc (.cells #[.int .i64 (y.px + dx), .int .i64 (y.py + dy), .int .i64 (y.pz + dz), .int .i64 (y.t + tb), .int .i64 y.m, .int .i64 y.l, .int .i64 (y.a0 + dx), .int .i64 (y.a1 + dy), .int .i64 (y.a2 + dz), .int .i64 (y.a3 + dx), .int .i64 (y.a4 + dy), .int .i64 (y.a5 + dz)] 42) = w15 at *
      generalize w14.heap.size = by_ at *
      have hd := HD.out
      unfold placeIn at hd
      have wt_ : IntKind.i64.wrap (y.t + tb) = y.t + tb := by rw [IntKind.wrap_i64]; omega
      have s3_ : same3 (y.px + dx) (y.py + dy) (y.pz + dz) (y.px + dx) (y.py + dy) (y.pz + dz) = true := same3_iff.2 ⟨rfl, rfl, rfl⟩
      have s6_ : same6 (y.a0 + dx) (y.a1 + dy) (y.a2 + dz) (y.a3 + dx) (y.a4 + dy) (y.a5 + dz) (y.a0 + dx) (y.a1 + dy) (y.a2 + dz) (y.a3 + dx) (y.a4 + dy) (y.a5 + dz) = true := by simp [same6]
      obtain ⟨d0_, d1_, d2_⟩ := cells3 D15.out
      obtain ⟨p0_, p1_, p2_, p3_, p4_, p5_, p6_, p7_, p8_, p9_, p10_, p11_⟩ := cells12 Z15.out
      obtain ⟨q0_, q1_, q2_, q3_, q4_, q5_, q6_, q7_, q8_, q9_, q10_, q11_⟩ := cells12 Y15.out
      have ud_ := Made.cells (block_lt' D15.out)
      have uz_ := Made.cells (block_lt' Z15.out)
      have uy_ := Made.cells (block_lt' Y15.out)
      try simp only [Act.put, List.setIfInBounds_toArray, List.set_cons_zero, List.set_cons_succ]
      refine Rg.region (Made w15) Makes (fun k => if k = 12 then some (isV (.agg #[.int .i64 (y.px + dx), .int .i64 (y.py + dy), .int .i64 (y.pz + dz)])) else if k = 45 then some (isV (.agg #[.int .i64 (y.a0 + dx), .int .i64 (y.a1 + dy), .int .i64 (y.a2 + dz)])) else if k = 50 then some (isV (.agg #[.int .i64 (y.a3 + dx), .int .i64 (y.a4 + dy), .int .i64 (y.a5 + dz)])) else if k = 55 then some (isV (.bool true)) else none) (fun _ => false) 0 57 (by kernel_rfl) (by kernel_rfl) (by kernel_rfl) (by kernel_rfl) (by kernel_rfl) (by kernel_rfl) (by kernel_rfl) Makes.size (Made.start w15) (fun hne => ?_)
      (repeat (refine rLexL_quiet (by rfl) (by rfl) (by rfl) (by rfl) ?_; go_big_quiet_step (fail); refine wpQuiet_nil ?_))
      refine rg_fix (.agg #[.int .i64 (y.px + dx), .int .i64 (y.py + dy), .int .i64 (y.pz + dz)]) 8 #[.agg #[.int .i64 dx, .int .i64 dy, .int .i64 dz], .agg #[.int .i64 y.px, .int .i64 y.py, .int .i64 y.pz]] rfl rfl rfl (fun _ => by go_simp) (fun u hu => move_any dx dy dz y.px y.py y.pz u (by omega) (by omega)) ?_
      simp only [Act.put, List.setIfInBounds_toArray, List.set_cons_zero, List.set_cons_succ]
      (repeat (refine rLexL_quiet (by rfl) (by rfl) (by rfl) (by rfl) ?_; go_big_quiet_step (fail); refine wpQuiet_nil ?_))
      refine rg_fix (.agg #[.int .i64 (y.a0 + dx), .int .i64 (y.a1 + dy), .int .i64 (y.a2 + dz)]) 8 #[.agg #[.int .i64 dx, .int .i64 dy, .int .i64 dz], .agg #[.int .i64 y.a0, .int .i64 y.a1, .int .i64 y.a2]] rfl rfl rfl (fun _ => by go_simp) (fun u hu => move_any dx dy dz y.a0 y.a1 y.a2 u (by omega) (by omega)) ?_
      simp only [Act.put, List.setIfInBounds_toArray, List.set_cons_zero, List.set_cons_succ]
      (repeat (refine rLexL_quiet (by rfl) (by rfl) (by rfl) (by rfl) ?_; go_big_quiet_step (fail); refine wpQuiet_nil ?_))
      refine rg_fix (.agg #[.int .i64 (y.a3 + dx), .int .i64 (y.a4 + dy), .int .i64 (y.a5 + dz)]) 8 #[.agg #[.int .i64 dx, .int .i64 dy, .int .i64 dz], .agg #[.int .i64 y.a3, .int .i64 y.a4, .int .i64 y.a5]] rfl rfl rfl (fun _ => by go_simp) (fun u hu => move_any dx dy dz y.a3 y.a4 y.a5 u (by omega) (by omega)) ?_
      simp only [Act.put, List.setIfInBounds_toArray, List.set_cons_zero, List.set_cons_succ]
      (repeat (refine rLexL_quiet (by rfl) (by rfl) (by rfl) (by rfl) ?_; go_big_quiet_step (fail); refine wpQuiet_nil ?_))
      refine rg_fix (.bool true) 11 #[] rfl rfl rfl (fun _ => by go_simp) (fun u hu => Liv.closed_any u) ?_
      simp only [Act.put, List.setIfInBounds_toArray, List.set_cons_zero, List.set_cons_succ]
      (repeat (refine rLexL_quiet (by rfl) (by rfl) (by rfl) (by rfl) ?_; go_big_quiet_step (fail); refine wpQuiet_nil ?_))
      rintro wq2 hgq - -
      have GE := Lib.hid (gb_end (gb_trans A15.out.G hgq))
      clear ud_ uz_ uy_ d0_ d1_ d2_ p0_ p1_ p2_ p3_ p4_ p5_ p6_ p7_ p8_ p9_ p10_ p11_ q0_ q1_ q2_ q3_ q4_ q5_ q6_ q7_ q8_ q9_ q10_ q11_ wt_ s3_ s6_ hne
      go_wp2_with fail
      go_ret
      exact ⟨rfl, GE.out⟩
end Go.Proofs.YtgaglgopbdfemaaGreatDoor
