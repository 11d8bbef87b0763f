/- Layer 27: zones. -/
import Derived.Test.YtkckcaijfedijaaMisA
namespace Go.Proofs.Ytkckcaijfedijaa
set_option linter.all false
section LMisD
open Go.RowKit Rg

theorem cell_of {u : World} {b : Nat} {cs : Array Value} {T : TypeId} {fr : Nat × Nat} (h : u.heap[b]? = some (.cells cs T fr)) (k : Nat) (v : Value) (hk : cs[k]? = some v) : u.cell? ⟨b, k, none⟩ = some v := by simpa [World.cell?, h] using hk
/-- The first error of a list of phases. -/
def errOf (g : Ph → Int) : List Ph → Int
  | [] => 0
  | a :: l => if g a = 0 then errOf g l else g a
theorem errOf_zero {g : Ph → Int} : ∀ {l : List Ph}, errOf g l = 0 ↔ ∀ a ∈ l, g a = 0
  | [] => by simp [errOf]
  | a :: l => by
    unfold errOf
    split
    · rename_i h; rw [errOf_zero (l := l)]; simp [h]
    · rename_i h; simp [h]
theorem errOf_first {g : Ph → Int} : ∀ (l : List Ph) (k : Nat) (hk : k < l.length), (∀ a ∈ l.take k, g a = 0) → g l[k] ≠ 0 → errOf g l = g l[k]
  | a :: l, 0, _, _, h => by unfold errOf; exact if_neg h
  | a :: l, k + 1, hk, h0, h => by
    unfold errOf
    rw [if_pos (h0 a (by simp))]
    exact errOf_first l k (by simpa using hk) (fun b hb => h0 b (by simp [hb])) h
def zoneOf (step : Int) (ls hs : List Int) (b0 b1 b2 b3 b4 b5 : Int) (a : Ph) : Zn := ⟨znF step ls hs b0 b1 b2 b3 b4 b5 a.x a.y a.z a.e a.l a.n, znT step ls hs b0 b1 b2 b3 b4 b5 a.x a.y a.z a.e a.l a.n⟩
def zoneE (step : Int) (ls hs : List Int) (b0 b1 b2 b3 b4 b5 : Int) (a : Ph) : Int := znE step ls hs b0 b1 b2 b3 b4 b5 a.x a.y a.z a.e a.l a.n
theorem znV_is (step : Int) (ls hs : List Int) (b0 b1 b2 b3 b4 b5 : Int) (a : Ph) : znV step ls hs b0 b1 b2 b3 b4 b5 a.x a.y a.z a.e a.l a.n = .tuple #[.agg #[.int .i64 (zoneOf step ls hs b0 b1 b2 b3 b4 b5 a).f, .int .i64 (zoneOf step ls hs b0 b1 b2 b3 b4 b5 a).t], .int .i64 (zoneE step ls hs b0 b1 b2 b3 b4 b5 a)] := rfl

/-- What zones returns. -/
def Zoned (w : World) (E : Int) (zs : List Zn) (e : Ending) (w' : World) : Prop :=
  (E = 0 ∧ ∃ v, e = .returned (.tuple #[v, .int .i64 0]) ∧ SlC 2 w' v zs.length (flatZ zs) ∧ (∀ b off len cap, v = .slice (some ⟨b, off, none⟩) len cap → w.heap.size ≤ b) ∧ w.grownBy w' none) ∨
  (E ≠ 0 ∧ e = .returned (.tuple #[.slice none 0 0, .int .i64 E]) ∧ w.grownBy w' none)
theorem Try.infoZoneT : (Try.prog.info? 32).map (fun i => (i.zero, i.size, i.bytes)) = some (some (.agg #[.int .i64 0, .int .i64 0]), 2, 16) := by kernel_rfl

set_option maxRecDepth 100000 in
set_option maxHeartbeats 2000000 in
theorem zones_any (P : Prob) (vl vh vp : Value) (b0 b1 b2 b3 b4 b5 : Int) (w : World) (hi : ProbIn P vl vh vp w) (hfew : P.phs.length ≤ 100) :
    Calls Try.prog 85 #[.agg (P.val vl vh vp), .agg #[.int .i64 b0, .int .i64 b1, .int .i64 b2, .int .i64 b3, .int .i64 b4, .int .i64 b5]] w (Zoned w (errOf (zoneE P.step P.ls P.hs b0 b1 b2 b3 b4 b5) P.phs) (P.phs.map (zoneOf P.step P.ls P.hs b0 b1 b2 b3 b4 b5))) := by
  have hg0 := gb_alloc (gb_alloc (gb_refl w none) (.cells (P.val vl vh vp) 68)) (.cells #[.int .i64 b0, .int .i64 b1, .int .i64 b2, .int .i64 b3, .int .i64 b4, .int .i64 b5] 28)
  have hT : ((w.alloc (.cells (P.val vl vh vp) 68)).alloc (.cells #[.int .i64 b0, .int .i64 b1, .int .i64 b2, .int .i64 b3, .int .i64 b4, .int .i64 b5] 28)).heap[w.heap.size]? = some (.cells (P.val vl vh vp) 68 (0, 0)) := by rw [heap_alloc_old _ _ (by simp), heap_alloc_new]
  have hB : ((w.alloc (.cells (P.val vl vh vp) 68)).alloc (.cells #[.int .i64 b0, .int .i64 b1, .int .i64 b2, .int .i64 b3, .int .i64 b4, .int .i64 b5] 28)).heap[w.heap.size + 1]? = some (.cells #[.int .i64 b0, .int .i64 b1, .int .i64 b2, .int .i64 b3, .int .i64 b4, .int .i64 b5] 28 (0, 0)) := by simpa using heap_alloc_new (w.alloc _) _
  have HSZ : Hid (((w.alloc (.cells (P.val vl vh vp) 68)).alloc (.cells #[.int .i64 b0, .int .i64 b1, .int .i64 b2, .int .i64 b3, .int .i64 b4, .int .i64 b5] 28)).heap.size = w.heap.size + 2) := Lib.hid (by simp)
  have HI := Lib.hid (hi.after hg0); have HG0 := Lib.hid hg0; have HT := Lib.hid hT; have HB := Lib.hid hB
  obtain ⟨pa, pc, rfl⟩ := hi.p.slice
  obtain ⟨la, ln, lc, rfl⟩ := sl_slice hi.l
  obtain ⟨ha, hn, hc, rfl⟩ := sl_slice hi.h
  clear hi hg0 hT hB
  obtain ⟨x0, y0, z0, x1, y1, z1, step, ls, hs, phs, cap⟩ := P
  simp only [Prob.val] at *
  go_enter Try.func85, Try.ntmps85
  have hfe : (phs.length : Int) ≤ 100 := by omega
  have HC9 := Lib.hid (cell_of HT.out 9 _ rfl)
  go_wp2_with (with_reducible refine wpList_makes rfl _ _ _ rfl (w.heap.size + 2) 32 (.agg #[.int .i64 0, .int .i64 0]) 2 16 Try.underlying55 Try.infoZoneT _ phs.length rfl rfl rfl (by omega) (by omega) (by simp) ?_; intro w2 hown hg2; have hc9 := (gb_cell hg2 (b := w.heap.size) (o := 9) (by simp; omega) (by simp)).trans HC9.out)
  have HOWN := Lib.hid hown; have HGW := Lib.hid hg2; clear hown hg2 hc9 HC9
  generalize (w.alloc (.cells #[.int .i64 x0, .int .i64 y0, .int .i64 z0, .int .i64 x1, .int .i64 y1, .int .i64 z1, .int .i64 step, .slice la ln lc, .slice ha hn hc, .slice pa phs.length pc, .int .i64 cap] 68)).alloc (.cells #[.int .i64 b0, .int .i64 b1, .int .i64 b2, .int .i64 b3, .int .i64 b4, .int .i64 b5] 28) = w1 at *
  have HOWN := Lib.hid (HSZ.out ▸ HOWN.out)
  have HZ1 := Lib.hid (fun a => znV_is step ls hs b0 b1 b2 b3 b4 b5 a)
  generalize hzo : zoneOf step ls hs b0 b1 b2 b3 b4 b5 = zo at *
  generalize hze : zoneE step ls hs b0 b1 b2 b3 b4 b5 = ze at *
  go_loopw [6, 18] (fun v i wr => ∃ k : Nat, k ≤ phs.length ∧ i = .int .i64 k ∧ wr.ownsRow (w.heap.size + 2) 32 2 v k (flatZ ((phs.take k).map zo)) ∧ (∀ a ∈ phs.take k, ze a = 0) ∧ w1.grownBy wr none) (fun _ i _ => phs.length - (intOf i).toNat)
  case atStart => exact ⟨0, by omega, rfl, HOWN.out, by simp, HGW.out⟩
  case round =>
    obtain ⟨k, hk, rfl, hown, hzero, hgr⟩ := hrel
    have HOW := Lib.hid hown; have HZE := Lib.hid hzero; clear hown hzero
    by_cases hlt : k < phs.length
    · obtain ⟨pb, poff, pcap, hpv, hpb, hpc, hpm, hpcell⟩ := (HI.out.after hgr).p.block (by show 0 < phs.length; omega)
      simp only [Value.slice.injEq, true_and] at hpv
      obtain ⟨rfl, rfl⟩ := hpv
      obtain ⟨c0, c1, c2, c3, c4, c5⟩ := SlC.ph hpcell k hlt
      have HTK : Hid (phs.take (k + 1) = phs.take k ++ [phs[k]]) := Lib.hid (List.take_succ_eq_append_getElem hlt)
      have HFST := Lib.hid (errOf_first (g := ze) phs k hlt HZE.out)
      clear hpcell
      generalize hph : phs[k] = ph at *
      have HV := Lib.hid (HZ1.out ph)
      clear hph
      have hT := block_kept hgr HT.out rfl; have hB := block_kept hgr HB.out rfl
      have HIR := Lib.hid ((HI.out.after hgr).after (gb_alloc (gb_refl wr _) (.cells #[.int .i64 ph.x, .int .i64 ph.y, .int .i64 ph.z, .int .i64 ph.e, .int .i64 ph.l, .int .i64 ph.n] 30)))
      have D0 := Lib.hid (heap_alloc_new wr (.cells #[.int .i64 ph.x, .int .i64 ph.y, .int .i64 ph.z, .int .i64 ph.e, .int .i64 ph.l, .int .i64 ph.n] 30))
      have D1 := Lib.hid ((heap_alloc_old wr (.cells #[.int .i64 ph.x, .int .i64 ph.y, .int .i64 ph.z, .int .i64 ph.e, .int .i64 ph.l, .int .i64 ph.n] 30) (block_lt' hT)).trans hT)
      have D2 := Lib.hid ((heap_alloc_old wr (.cells #[.int .i64 ph.x, .int .i64 ph.y, .int .i64 ph.z, .int .i64 ph.e, .int .i64 ph.l, .int .i64 ph.n] 30) (block_lt' hB)).trans hB)
      have HGR := Lib.hid (gb_alloc hgr (.cells #[.int .i64 ph.x, .int .i64 ph.y, .int .i64 ph.z, .int .i64 ph.e, .int .i64 ph.l, .int .i64 ph.n] 30))
      have HOW2 := Lib.hid (HOW.out.alloc (.cells #[.int .i64 ph.x, .int .i64 ph.y, .int .i64 ph.z, .int .i64 ph.e, .int .i64 ph.l, .int .i64 ph.n] 30))
      have q6 := cell_of D1.out 6 _ rfl; have q7 := cell_of D1.out 7 _ rfl; have q8 := cell_of D1.out 8 _ rfl
      obtain ⟨r0, r1, r2, r3, r4, r5⟩ := six D2.out
      clear hgr hT hB HOW
      go_wp2_with fail
      (with_reducible refine (zone_any step _ _ ls hs b0 b1 b2 b3 b4 b5 ph.x ph.y ph.z ph.e ph.l ph.n _ HIR.out.l HIR.out.h).mono ?_)
      rintro r w5 ⟨rfl, hg5⟩
      rw [HV.out]
      clear c0 c1 c2 c3 c4 c5 q6 q7 q8 r0 r1 r2 r3 r4 r5
      have HG5 := Lib.hid (gb_trans HGR.out hg5)
      by_cases hz : ze ph = 0
      rotate_left
      · have HE := Lib.hid (HFST.out hz)
        have HGE := Lib.hid (gb_alloc (gb_trans HG0.out HG5.out) (.cells #[.int .i64 (zo ph).f, .int .i64 (zo ph).t] 32))
        clear hg5 HFST HV HZ1
        generalize ze ph = zz at *
        go_wp2_with fail
        exact bodyPost_ret (v := .tuple #[.slice none 0 0, .int .i64 zz]) (by simp [results, Try.results85, go_sem]) rfl (.inr ⟨by rw [HE.out]; exact hz, by rw [HE.out], HGE.out⟩)
      have HTZ : Hid (∀ a ∈ phs.take (k + 1), ze a = 0) := Lib.hid (by
        rw [HTK.out]
        intro a ha
        rcases List.mem_append.1 ha with h | h
        · exact HZE.out a h
        · rw [List.mem_singleton.1 h]; exact hz)
      have HFL : Hid (flatZ ((phs.take (k + 1)).map zo) = flatZ ((phs.take k).map zo) ++ [.int .i64 (zo ph).f, .int .i64 (zo ph).t]) := Lib.hid (by
        rw [HTK.out, List.map_append]; simp [flatZ, Zn.cells])
      have HOW5 := Lib.hid (owns_keep HOW2.out hg5)
      have hsz5 := hg5.size
      have hlen : (flatZ ((phs.take k).map zo)).length = k * 2 := by rw [flatZ_length]; simp; omega
      rw [hz]
      have hws := HSZ.out
      have hgs := HG5.out.size
      have HBT : Hid (∀ a, a ∈ phs.take (k + 1) → ze a = 0) := HTZ
      clear hz hg5 HZE HOW2 HFST HV
      generalize (zo ph).f = zf at *
      generalize (zo ph).t = zt at *
      have PUSH := Lib.hid (fun (v' : Value) (u : World) (h : u.ownsRow (w.heap.size + 2) 32 2 v' (k + 1) (flatZ ((phs.take k).map zo) ++ [.int .i64 zf, .int .i64 zt])) (hg : ((w5.alloc (.cells #[.int .i64 zf, .int .i64 zt] 32)).alloc (.cells #[.int .i64 zf, .int .i64 zt] 32)).grownBy u (u6).ownBlock) =>
        show u.ownsRow (w.heap.size + 2) 32 2 v' (k + 1) (flatZ ((phs.take (k + 1)).map zo)) ∧ w1.grownBy u none from
          ⟨by rw [HFL.out]; exact h, gb_new (gb_alloc (gb_alloc HG5.out _) _) hg (fun q hq => by have := (HOW5.out.lt q hq).1; omega)⟩)
      go_wp2_with (at_builtin; refine wpList_push rfl _ _ 55 rfl (w.heap.size + 2) 32 (.agg #[.int .i64 0, .int .i64 0]) 2 16 Try.underlying55 Try.infoZoneT rfl (by decide) (by decide) _ _ _ rfl ((HOW5.out.alloc _).alloc _) (w5.heap.size + 1) 1 [.int .i64 zf, .int .i64 zt] 32 rfl (by simpa using heap_alloc_new (w5.alloc _) _) rfl (by simp [Value.oneCell']) (by omega) (by simp; omega) ?_; intro v' w6 hown' hg')
      have HN := Lib.hid (PUSH.out v' w6 hown' hg')
      clear hown' hg' PUSH HOW5
      go_roundw
      case rel => exact ⟨k + 1, by omega, by go_num, HN.out.1, HTZ.out, HN.out.2⟩
      case measure => simp [intOf]; omega
    · obtain rfl : k = phs.length := by omega
      rw [List.take_length] at HOW HZE
      have HE := Lib.hid (errOf_zero.2 HZE.out)
      obtain ⟨oa, oc, rfl⟩ := owns_slice HOW.out
      have HGE := Lib.hid (gb_trans HG0.out hgr)
      go_wp2_with fail
      exact bodyPost_ret (v := .tuple #[.slice oa phs.length oc, .int .i64 0]) (by simp [results, Try.results85, go_sem]) rfl (.inl ⟨HE.out, _, rfl, by have := SlC.of_owns HOW.out; rwa [List.length_map], fun b off len cap e => by
        rcases HOW.out.2 with ⟨e', -⟩ | ⟨g, cap', cur, e', hb, -⟩
        · rw [e] at e'; simp at e'
        · rw [e] at e'; simp at e'; omega, HGE.out⟩)
end LMisD
section LMisE
open Go.RowKit Rg

def valE (P : Prob) : Int :=
  if bP P.x0 P.y0 P.z0 P.x1 P.y1 P.z1 then (if tOk P.step P.ls P.hs then (if P.phs.length = 0 then 24 else if 64 < P.phs.length then 8 else if P.cap < 1 ∨ 1099511627776 < P.cap then 2 else errOf (zoneE P.step P.ls P.hs P.x0 P.y0 P.z0 P.x1 P.y1 P.z1) P.phs) else 21) else 20
structure Sound (P : Prob) : Prop where
  vb : bP P.x0 P.y0 P.z0 P.x1 P.y1 P.z1 = true
  ok : tOk P.step P.ls P.hs
  some : 0 < P.phs.length ∧ P.phs.length ≤ 64
  cap : 1 ≤ P.cap ∧ P.cap ≤ 1099511627776
  ph : ∀ a ∈ P.phs, zoneE P.step P.ls P.hs P.x0 P.y0 P.z0 P.x1 P.y1 P.z1 a = 0
theorem tE_ne {step : Int} {ls hs : List Int} (h : ¬ tOk step ls hs) : tE step ls hs = 21 := (tE_bad h).symm
theorem errOf_nn {g : Ph → Int} {l : List Ph} (h : errOf g l ≠ 0) : ∃ a ∈ l, errOf g l = g a := by
  induction l with
  | nil => simp [errOf] at h
  | cons a l ih =>
    unfold errOf at h ⊢
    by_cases e : g a = 0
    · rw [if_pos e] at h ⊢
      obtain ⟨b, hb, h2⟩ := ih h
      exact ⟨b, by simp [hb], h2⟩
    · rw [if_neg e]; exact ⟨a, by simp, rfl⟩
theorem sound_iff {P : Prob} : valE P = 0 ↔ Sound P := by
  constructor
  · intro h
    unfold valE at h
    split at h
    · rename_i h1
      split at h
      · rename_i h2
        split at h
        · omega
        · split at h
          · omega
          · split at h
            · omega
            · exact ⟨h1, h2, by omega, by omega, errOf_zero.1 h⟩
      · omega
    · omega
  · rintro ⟨h1, h2, h3, h4, h5⟩
    unfold valE
    rw [if_pos h1, if_pos h2, if_neg (by omega), if_neg (by omega), if_neg (by omega)]
    exact errOf_zero.2 h5

set_option maxRecDepth 100000 in
set_option maxHeartbeats 4000000 in
theorem mvalidate_any (P : Prob) (vl vh vp : Value) (w : World) (hi : ProbIn P vl vh vp w) (hbig : P.phs.length ≤ 1000000000) :
    Calls Try.prog 54 #[.agg (P.val vl vh vp)] w fun e w' => e = .returned (.int .i64 (valE P)) ∧ w.grownBy w' none := by
  have hg0 := gb_alloc (gb_refl w none) (.cells (P.val vl vh vp) 68)
  have HT := Lib.hid (heap_alloc_new w (.cells (P.val vl vh vp) 68))
  have HI := Lib.hid (hi.after hg0); have HG0 := Lib.hid hg0
  obtain ⟨pa, pc, rfl⟩ := hi.p.slice
  obtain ⟨la, ln, lc, rfl⟩ := sl_slice hi.l
  obtain ⟨ha, hn, hc, rfl⟩ := sl_slice hi.h
  clear hi hg0
  have HVE : Hid (valE P = valE P) := Lib.hid rfl
  have HV0 : Hid (bP P.x0 P.y0 P.z0 P.x1 P.y1 P.z1 = false → valE P = 20) := Lib.hid (fun h => by unfold valE; rw [h]; rfl)
  have HV1 : Hid (bP P.x0 P.y0 P.z0 P.x1 P.y1 P.z1 = true → ¬ tOk P.step P.ls P.hs → valE P = 21) := Lib.hid (fun h h' => by unfold valE; rw [if_pos h, if_neg h'])
  have HV2 : Hid (bP P.x0 P.y0 P.z0 P.x1 P.y1 P.z1 = true → tOk P.step P.ls P.hs → valE P = if P.phs.length = 0 then 24 else if 64 < P.phs.length then 8 else if P.cap < 1 ∨ 1099511627776 < P.cap then 2 else errOf (zoneE P.step P.ls P.hs P.x0 P.y0 P.z0 P.x1 P.y1 P.z1) P.phs) := Lib.hid (fun h h' => by unfold valE; rw [if_pos h, if_pos h'])
  clear HVE
  generalize valE P = vE at *
  obtain ⟨x0, y0, z0, x1, y1, z1, step, ls, hs, phs, cap⟩ := P
  simp only [Prob.val] at *
  go_enter Try.func54, Try.ntmps54
  have e0_ := cell_of HT.out 0 _ rfl; have e1_ := cell_of HT.out 1 _ rfl; have e2_ := cell_of HT.out 2 _ rfl; have e3_ := cell_of HT.out 3 _ rfl; have e4_ := cell_of HT.out 4 _ rfl; have e5_ := cell_of HT.out 5 _ rfl; have e6_ := cell_of HT.out 6 _ rfl; have e7_ := cell_of HT.out 7 _ rfl; have e8_ := cell_of HT.out 8 _ rfl; have e9_ := cell_of HT.out 9 _ rfl; have e10_ := cell_of HT.out 10 _ rfl
  go_wp2_with fail
  generalize w.alloc (.cells #[.int .i64 x0, .int .i64 y0, .int .i64 z0, .int .i64 x1, .int .i64 y1, .int .i64 z1, .int .i64 step, .slice la ln lc, .slice ha hn hc, .slice pa phs.length pc, .int .i64 cap] 68) = w1 at *
  generalize w.heap.size = q at *
  (with_reducible refine (validBox_any _ _ _ _ _ _ _).mono ?_)
  rintro e w2 ⟨rfl, hg2⟩
  clear e0_ e1_ e2_ e3_ e4_ e5_ e6_ e7_ e8_ e9_ e10_
  have HT2 := Lib.hid (block_kept hg2 HT.out rfl); have HI2 := Lib.hid (HI.out.after hg2); have HG2 := Lib.hid (gb_trans HG0.out hg2)
  clear hg2 HT HI HG0
  cases hv0 : bP x0 y0 z0 x1 y1 z1
  · have := HV0.out hv0
    go_wp2
    go_ret
    exact ⟨ret_int this.symm, HG2.out⟩
  have HV0' := Lib.hid hv0; clear hv0 HV0
  have e0_ := cell_of HT2.out 0 _ rfl; have e1_ := cell_of HT2.out 1 _ rfl; have e2_ := cell_of HT2.out 2 _ rfl; have e3_ := cell_of HT2.out 3 _ rfl; have e4_ := cell_of HT2.out 4 _ rfl; have e5_ := cell_of HT2.out 5 _ rfl; have e6_ := cell_of HT2.out 6 _ rfl; have e7_ := cell_of HT2.out 7 _ rfl; have e8_ := cell_of HT2.out 8 _ rfl; have e9_ := cell_of HT2.out 9 _ rfl; have e10_ := cell_of HT2.out 10 _ rfl
  go_wp2_with fail
  (with_reducible refine (validate_any _ _ _ ls hs _ HI2.out.l HI2.out.h).mono ?_)
  rintro e w3 ⟨rfl, hg3⟩
  clear e0_ e1_ e2_ e3_ e4_ e5_ e6_ e7_ e8_ e9_ e10_
  have HT3 := Lib.hid (block_kept hg3 HT2.out rfl); have HI3 := Lib.hid (HI2.out.after hg3); have HG3 := Lib.hid (gb_trans HG2.out hg3)
  clear hg3 HT2 HI2 HG2
  by_cases hok : tOk step ls hs
  rotate_left
  · have he : tE step ls hs = 21 := tE_ne hok
    have := HV1.out HV0'.out hok
    rw [he]
    go_wp2
    go_ret
    exact ⟨ret_int this.symm, HG3.out⟩
  have he : tE step ls hs = 0 := (tE_ok hok).symm
  have HV3 := Lib.hid (HV2.out HV0'.out hok)
  clear HV1 HV2 hok
  rw [he]
  clear he
  have e0_ := cell_of HT3.out 0 _ rfl; have e1_ := cell_of HT3.out 1 _ rfl; have e2_ := cell_of HT3.out 2 _ rfl; have e3_ := cell_of HT3.out 3 _ rfl; have e4_ := cell_of HT3.out 4 _ rfl; have e5_ := cell_of HT3.out 5 _ rfl; have e6_ := cell_of HT3.out 6 _ rfl; have e7_ := cell_of HT3.out 7 _ rfl; have e8_ := cell_of HT3.out 8 _ rfl; have e9_ := cell_of HT3.out 9 _ rfl; have e10_ := cell_of HT3.out 10 _ rfl
  by_cases hl0 : phs.length = 0
  · have := HV3.out; rw [if_pos hl0] at this
    go_wp2
    go_ret
    exact ⟨ret_int this.symm, HG3.out⟩
  by_cases hl1 : 64 < phs.length
  · have := HV3.out; rw [if_neg hl0, if_pos hl1] at this
    go_wp2
    go_ret
    exact ⟨ret_int this.symm, HG3.out⟩
  by_cases hc0 : cap < 1
  · have := HV3.out; rw [if_neg hl0, if_neg hl1, if_pos (.inl hc0)] at this
    go_wp2
    go_ret
    exact ⟨ret_int this.symm, HG3.out⟩
  by_cases hc1 : 1099511627776 < cap
  · have := HV3.out; rw [if_neg hl0, if_neg hl1, if_pos (.inr hc1)] at this
    go_wp2
    go_ret
    exact ⟨ret_int this.symm, HG3.out⟩
  have HV4 : Hid (vE = errOf (zoneE step ls hs x0 y0 z0 x1 y1 z1) phs) := Lib.hid (by have := HV3.out; rwa [if_neg hl0, if_neg hl1, if_neg (by omega)] at this)
  clear HV3
  have HZ1 := Lib.hid (fun a => znV_is step ls hs x0 y0 z0 x1 y1 z1 a)
  generalize hzo : zoneOf step ls hs x0 y0 z0 x1 y1 z1 = zo at *
  generalize hze : zoneE step ls hs x0 y0 z0 x1 y1 z1 = ze at *
  clear hzo hze
  have hl0f : ((phs.length : Int) == 0) = false := by rw [beq_eq_false_iff_ne]; omega
  go_wp2_with fail
  clear e0_ e1_ e2_ e3_ e4_ e5_ e6_ e7_ e8_ e9_ e10_
  go_loopw [40] (fun i wr => ∃ k : Nat, k ≤ phs.length ∧ i = .int .i64 k ∧ (∀ a ∈ phs.take k, ze a = 0) ∧ w3.grownBy wr none) (fun i _ => phs.length - (intOf i).toNat)
  case atStart => exact ⟨0, by omega, rfl, by simp, gb_refl _ _⟩
  case round =>
    obtain ⟨k, hk, rfl, hzero, hgr⟩ := hrel
    have HZE := Lib.hid hzero; clear hzero
    by_cases hlt : k < phs.length
    · obtain ⟨pb, poff, pcap, hpv, hpb, hpc, hpm, hpcell⟩ := (HI3.out.after hgr).p.block (by show 0 < phs.length; omega)
      simp only [Value.slice.injEq, true_and] at hpv
      obtain ⟨rfl, rfl⟩ := hpv
      obtain ⟨c0, c1, c2, c3, c4, c5⟩ := SlC.ph hpcell k hlt
      have HTK : Hid (phs.take (k + 1) = phs.take k ++ [phs[k]]) := Lib.hid (List.take_succ_eq_append_getElem hlt)
      have HFST := Lib.hid (errOf_first (g := ze) phs k hlt HZE.out)
      clear hpcell
      generalize hph : phs[k] = ph at *
      have HV := Lib.hid (HZ1.out ph)
      clear hph
      have hT := block_kept hgr HT3.out rfl
      have HIR := Lib.hid ((HI3.out.after hgr).after (gb_alloc (gb_refl wr _) (.cells #[.int .i64 ph.x, .int .i64 ph.y, .int .i64 ph.z, .int .i64 ph.e, .int .i64 ph.l, .int .i64 ph.n] 30)))
      have D0 := Lib.hid (heap_alloc_new wr (.cells #[.int .i64 ph.x, .int .i64 ph.y, .int .i64 ph.z, .int .i64 ph.e, .int .i64 ph.l, .int .i64 ph.n] 30))
      have D1 := Lib.hid ((heap_alloc_old wr (.cells #[.int .i64 ph.x, .int .i64 ph.y, .int .i64 ph.z, .int .i64 ph.e, .int .i64 ph.l, .int .i64 ph.n] 30) (block_lt' hT)).trans hT)
      have HGR := Lib.hid (gb_alloc hgr (.cells #[.int .i64 ph.x, .int .i64 ph.y, .int .i64 ph.z, .int .i64 ph.e, .int .i64 ph.l, .int .i64 ph.n] 30))
      have e0_ := cell_of D1.out 0 _ rfl; have e1_ := cell_of D1.out 1 _ rfl; have e2_ := cell_of D1.out 2 _ rfl; have e3_ := cell_of D1.out 3 _ rfl; have e4_ := cell_of D1.out 4 _ rfl; have e5_ := cell_of D1.out 5 _ rfl; have e6_ := cell_of D1.out 6 _ rfl; have e7_ := cell_of D1.out 7 _ rfl; have e8_ := cell_of D1.out 8 _ rfl; have e9_ := cell_of D1.out 9 _ rfl; have e10_ := cell_of D1.out 10 _ rfl
      clear hgr hT
      go_wp2_with fail
      (with_reducible refine (zone_any step _ _ ls hs x0 y0 z0 x1 y1 z1 ph.x ph.y ph.z ph.e ph.l ph.n _ HIR.out.l HIR.out.h).mono ?_)
      rintro r w5 ⟨rfl, hg5⟩
      rw [HV.out]
      have HG5 := Lib.hid (gb_trans HGR.out hg5)
      clear e0_ e1_ e2_ e3_ e4_ e5_ e6_ e7_ e8_ e9_ e10_
      clear c0 c1 c2 c3 c4 c5
      by_cases hz : ze ph = 0
      rotate_left
      · have HE := Lib.hid (HFST.out hz)
        have HGE := Lib.hid (gb_alloc (gb_trans HG3.out HG5.out) (.cells #[.int .i64 (zo ph).f, .int .i64 (zo ph).t] 32))
        clear hg5 HFST HV HZ1
        generalize ze ph = zz at *
        go_wp2_with fail
        go_ret
        exact ⟨ret_int (by rw [HV4.out, HE.out]), HGE.out⟩
      have HTZ : Hid (∀ a ∈ phs.take (k + 1), ze a = 0) := Lib.hid (by
        rw [HTK.out]
        intro a ha
        rcases List.mem_append.1 ha with h | h
        · exact HZE.out a h
        · rw [List.mem_singleton.1 h]; exact hz)
      rw [hz]
      have HGN := Lib.hid (gb_alloc HG5.out (.cells #[.int .i64 (zo ph).f, .int .i64 (zo ph).t] 32))
      clear hz hg5 HZE HFST HV
      go_wp2_with fail
      go_roundw
      case rel => exact ⟨k + 1, by omega, by go_num, HTZ.out, HGN.out⟩
      case measure => simp [intOf]; omega
    · obtain rfl : k = phs.length := by omega
      rw [List.take_length] at HZE
      have HE := Lib.hid (errOf_zero.2 HZE.out)
      have HGE := Lib.hid (gb_trans HG3.out hgr)
      go_wp2
      go_ret
      exact ⟨ret_int (by rw [HV4.out, HE.out]), HGE.out⟩
end LMisE
section LMisF
open Go.RowKit Rg

def zonesE (P : Prob) (b0 b1 b2 b3 b4 b5 : Int) : Int := if valE P = 0 then (if wiP b0 b1 b2 b3 b4 b5 P.x0 P.y0 P.z0 P.x1 P.y1 P.z1 then errOf (zoneE P.step P.ls P.hs b0 b1 b2 b3 b4 b5) P.phs else 20) else valE P
def zonesL (P : Prob) (b0 b1 b2 b3 b4 b5 : Int) : List Zn := P.phs.map (zoneOf P.step P.ls P.hs b0 b1 b2 b3 b4 b5)

/-- What is fair of a sound problem's zones. -/
theorem Sound.phase {P : Prob} (h : Sound P) {a : Ph} (ha : a ∈ P.phs) : phP a.x a.y a.z a.e a.l a.n = true := by
  have hz := h.ph a ha
  unfold zoneE znE at hz
  rw [if_pos h.ok, if_pos h.vb] at hz
  cases hp : phP a.x a.y a.z a.e a.l a.n
  · rw [hp] at hz; simp at hz
  · rfl
theorem Sound.fair {P : Prob} (h : Sound P) (b0 b1 b2 b3 b4 b5 : Int) : Fair P.cap P.phs (zonesL P b0 b1 b2 b3 b4 b5) := by
  refine ⟨by have := h.cap; omega, by have := h.some; omega, fun i hi => ?_, fun i hi => ?_⟩
  · have := phP_iff.1 (h.phase (List.getElem_mem hi))
    rw [show P.phs[i]?.getD default = P.phs[i] by simp [hi]]; omega
  · have hi' : i < P.phs.length := by simpa [zonesL] using hi
    have hp := phP_iff.1 (h.phase (List.getElem_mem hi'))
    rw [show (zonesL P b0 b1 b2 b3 b4 b5)[i]?.getD default = zoneOf P.step P.ls P.hs b0 b1 b2 b3 b4 b5 P.phs[i] by simp [zonesL, hi']]
    generalize P.phs[i] = a at *
    have bb := bnd_bounds P.step P.ls P.hs b0 b1 b2 b3 b4 b5 a.x a.y a.z
    unfold Tame zoneOf znF znT
    simp only []
    refine ⟨?_, ?_⟩ <;> split <;> omega

set_option maxRecDepth 100000 in
set_option maxHeartbeats 2000000 in
theorem Zones_any (P : Prob) (vl vh vp : Value) (b0 b1 b2 b3 b4 b5 : Int) (w : World) (hi : ProbIn P vl vh vp w) (hbig : P.phs.length ≤ 1000000000) :
    Calls Try.prog 50 #[.agg (P.val vl vh vp), .agg #[.int .i64 b0, .int .i64 b1, .int .i64 b2, .int .i64 b3, .int .i64 b4, .int .i64 b5]] w (Zoned w (zonesE P b0 b1 b2 b3 b4 b5) (zonesL P b0 b1 b2 b3 b4 b5)) := by
  have hg0 := gb_alloc (gb_alloc (gb_refl w none) (.cells (P.val vl vh vp) 68)) (.cells #[.int .i64 b0, .int .i64 b1, .int .i64 b2, .int .i64 b3, .int .i64 b4, .int .i64 b5] 28)
  have hT : ((w.alloc (.cells (P.val vl vh vp) 68)).alloc (.cells #[.int .i64 b0, .int .i64 b1, .int .i64 b2, .int .i64 b3, .int .i64 b4, .int .i64 b5] 28)).heap[w.heap.size]? = some (.cells (P.val vl vh vp) 68 (0, 0)) := by rw [heap_alloc_old _ _ (by simp), heap_alloc_new]
  have hB : ((w.alloc (.cells (P.val vl vh vp) 68)).alloc (.cells #[.int .i64 b0, .int .i64 b1, .int .i64 b2, .int .i64 b3, .int .i64 b4, .int .i64 b5] 28)).heap[w.heap.size + 1]? = some (.cells #[.int .i64 b0, .int .i64 b1, .int .i64 b2, .int .i64 b3, .int .i64 b4, .int .i64 b5] 28 (0, 0)) := by simpa using heap_alloc_new (w.alloc _) _
  have HI := Lib.hid (hi.after hg0); have HG0 := Lib.hid hg0; have HT := Lib.hid hT; have HB := Lib.hid hB
  obtain ⟨pa, pc, rfl⟩ := hi.p.slice
  obtain ⟨la, ln, lc, rfl⟩ := sl_slice hi.l
  obtain ⟨ha, hn, hc, rfl⟩ := sl_slice hi.h
  clear hi hg0 hT hB
  have HE0 : Hid (valE P ≠ 0 → zonesE P b0 b1 b2 b3 b4 b5 = valE P) := Lib.hid (fun h => by unfold zonesE; rw [if_neg h])
  have HE1 : Hid (valE P = 0 → wiP b0 b1 b2 b3 b4 b5 P.x0 P.y0 P.z0 P.x1 P.y1 P.z1 = false → zonesE P b0 b1 b2 b3 b4 b5 = 20) := Lib.hid (fun h h' => by unfold zonesE; rw [if_pos h, h']; rfl)
  have HE2 : Hid (valE P = 0 → wiP b0 b1 b2 b3 b4 b5 P.x0 P.y0 P.z0 P.x1 P.y1 P.z1 = true → zonesE P b0 b1 b2 b3 b4 b5 = errOf (zoneE P.step P.ls P.hs b0 b1 b2 b3 b4 b5) P.phs) := Lib.hid (fun h h' => by unfold zonesE; rw [if_pos h, if_pos h'])
  have HS := Lib.hid (fun h => (sound_iff (P := P)).1 h)
  have HV := Lib.hid (fun (u : World) hu => mvalidate_any P (.slice la ln lc) (.slice ha hn hc) (.slice pa P.phs.length pc) u hu hbig)
  have HZ := Lib.hid (fun (u : World) hu hf => zones_any P (.slice la ln lc) (.slice ha hn hc) (.slice pa P.phs.length pc) b0 b1 b2 b3 b4 b5 u hu hf)
  have HL : Hid (zonesL P b0 b1 b2 b3 b4 b5 = P.phs.map (zoneOf P.step P.ls P.hs b0 b1 b2 b3 b4 b5)) := Lib.hid rfl
  generalize hzE : zonesE P b0 b1 b2 b3 b4 b5 = zE at *
  generalize zonesL P b0 b1 b2 b3 b4 b5 = zL at *
  generalize hvE : valE P = vE at *
  clear hzE
  obtain ⟨x0, y0, z0, x1, y1, z1, step, ls, hs, phs, cap⟩ := P
  simp only [Prob.val] at *
  go_enter Try.func50, Try.ntmps50
  have e0_ := cell_of HT.out 0 _ rfl; have e1_ := cell_of HT.out 1 _ rfl; have e2_ := cell_of HT.out 2 _ rfl; have e3_ := cell_of HT.out 3 _ rfl; have e4_ := cell_of HT.out 4 _ rfl; have e5_ := cell_of HT.out 5 _ rfl; have e6_ := cell_of HT.out 6 _ rfl; have e7_ := cell_of HT.out 7 _ rfl; have e8_ := cell_of HT.out 8 _ rfl; have e9_ := cell_of HT.out 9 _ rfl; have e10_ := cell_of HT.out 10 _ rfl
  go_wp2_with fail
  generalize hw1 : (w.alloc (.cells #[.int .i64 x0, .int .i64 y0, .int .i64 z0, .int .i64 x1, .int .i64 y1, .int .i64 z1, .int .i64 step, .slice la ln lc, .slice ha hn hc, .slice pa phs.length pc, .int .i64 cap] 68)).alloc (.cells #[.int .i64 b0, .int .i64 b1, .int .i64 b2, .int .i64 b3, .int .i64 b4, .int .i64 b5] 28) = w1 at *
  clear hw1
  (with_reducible refine (HV.out _ HI.out).mono ?_)
  rintro e w2 ⟨rfl, hg2⟩
  clear e0_ e1_ e2_ e3_ e4_ e5_ e6_ e7_ e8_ e9_ e10_
  have HT2 := Lib.hid (block_kept hg2 HT.out rfl); have HB2 := Lib.hid (block_kept hg2 HB.out rfl); have HI2 := Lib.hid (HI.out.after hg2); have HG2 := Lib.hid (gb_trans HG0.out hg2)
  clear hg2 HT HB HI HG0
  by_cases hv0 : vE = 0
  rotate_left
  · have hE := HE0.out hv0
    go_wp2_with fail
    exact bodyPost_ret (v := .tuple #[.slice none 0 0, .int .i64 vE]) (by simp [results, Try.results50, go_sem]) rfl (.inr ⟨by rw [hE]; exact hv0, by rw [hE], HG2.out⟩)
  have hS := HS.out hv0
  have hfew := hS.some
  clear hS HS
  have HE1 := Lib.hid (HE1.out hv0); have HE2 := Lib.hid (HE2.out hv0)
  rw [hv0]
  clear hvE HE0 HV
  have e0_ := cell_of HT2.out 0 _ rfl; have e1_ := cell_of HT2.out 1 _ rfl; have e2_ := cell_of HT2.out 2 _ rfl; have e3_ := cell_of HT2.out 3 _ rfl; have e4_ := cell_of HT2.out 4 _ rfl; have e5_ := cell_of HT2.out 5 _ rfl; have e6_ := cell_of HT2.out 6 _ rfl; have e7_ := cell_of HT2.out 7 _ rfl; have e8_ := cell_of HT2.out 8 _ rfl; have e9_ := cell_of HT2.out 9 _ rfl; have e10_ := cell_of HT2.out 10 _ rfl
  obtain ⟨r0, r1, r2, r3, r4, r5⟩ := six HB2.out
  go_wp2_with fail
  (with_reducible refine (within_any _ _ _ _ _ _ _ _ _ _ _ _ _).mono ?_)
  rintro e w3 ⟨rfl, hg3⟩
  clear e0_ e1_ e2_ e3_ e4_ e5_ e6_ e7_ e8_ e9_ e10_
  clear r0 r1 r2 r3 r4 r5
  have HT3 := Lib.hid (block_kept hg3 HT2.out rfl); have HB3 := Lib.hid (block_kept hg3 HB2.out rfl); have HI3 := Lib.hid (HI2.out.after hg3); have HG3 := Lib.hid (gb_trans HG2.out hg3)
  clear hg3 HT2 HB2 HI2 HG2
  cases hwi : wiP b0 b1 b2 b3 b4 b5 x0 y0 z0 x1 y1 z1
  · have hE := HE1.out hwi
    go_wp2_with fail
    exact bodyPost_ret (v := .tuple #[.slice none 0 0, .int .i64 20]) (by simp [results, Try.results50, go_sem]) rfl (.inr ⟨by rw [hE]; omega, by rw [hE], HG3.out⟩)
  have HEE := Lib.hid (HE2.out hwi)
  clear HE1 HE2 hwi
  have e0_ := cell_of HT3.out 0 _ rfl; have e1_ := cell_of HT3.out 1 _ rfl; have e2_ := cell_of HT3.out 2 _ rfl; have e3_ := cell_of HT3.out 3 _ rfl; have e4_ := cell_of HT3.out 4 _ rfl; have e5_ := cell_of HT3.out 5 _ rfl; have e6_ := cell_of HT3.out 6 _ rfl; have e7_ := cell_of HT3.out 7 _ rfl; have e8_ := cell_of HT3.out 8 _ rfl; have e9_ := cell_of HT3.out 9 _ rfl; have e10_ := cell_of HT3.out 10 _ rfl
  obtain ⟨r0, r1, r2, r3, r4, r5⟩ := six HB3.out
  go_wp2_with fail
  (with_reducible refine (HZ.out _ HI3.out (by show phs.length ≤ 100; omega)).mono ?_)
  rintro e w4 hZ
  clear e0_ e1_ e2_ e3_ e4_ e5_ e6_ e7_ e8_ e9_ e10_
  clear r0 r1 r2 r3 r4 r5
  rcases hZ with ⟨h0, v, rfl, hsl, hfr, hg4⟩ | ⟨h0, rfl, hg4⟩
  · have HSL := Lib.hid hsl; have HFR := Lib.hid hfr
    have HG4 := Lib.hid (gb_trans HG3.out hg4); have hsz := HG3.out.size
    clear hg4 hsl hfr
    go_wp2_with fail
    exact bodyPost_ret (v := .tuple #[v, .int .i64 0]) (by simp [results, Try.results50, go_sem]) rfl (.inl ⟨by rw [HEE.out]; exact h0, v, rfl, by rw [HL.out]; exact HSL.out, fun b off len cap e => Nat.le_trans hsz (HFR.out b off len cap e), HG4.out⟩)
  · have HG4 := Lib.hid (gb_trans HG3.out hg4)
    have HH := Lib.hid h0
    clear hg4 h0
    rw [← HEE.out] at HH ⊢
    go_wp2_with fail
    exact bodyPost_ret (v := .tuple #[.slice none 0 0, .int .i64 zE]) (by simp [results, Try.results50, go_sem]) rfl (.inr ⟨HH.out, rfl, HG4.out⟩)

/-- What At returns, what Bound returns. -/
def atV (P : Prob) (x y z : Int) : Value := if zonesE P x y z x y z = 0 then .tuple #[.int .i64 (best P.cap P.phs (zonesL P x y z x y z)).1, .int .i64 (best P.cap P.phs (zonesL P x y z x y z)).2, .int .i64 0] else .tuple #[.int .i64 0, .int .i64 0, .int .i64 (zonesE P x y z x y z)]
def bdV (P : Prob) (b0 b1 b2 b3 b4 b5 : Int) : Value := if zonesE P b0 b1 b2 b3 b4 b5 = 0 then .tuple #[.int .i64 (best P.cap P.phs (zonesL P b0 b1 b2 b3 b4 b5)).2, .int .i64 0] else .tuple #[.int .i64 0, .int .i64 (zonesE P b0 b1 b2 b3 b4 b5)]
theorem zonesE_sound {P : Prob} {b0 b1 b2 b3 b4 b5 : Int} (h : zonesE P b0 b1 b2 b3 b4 b5 = 0) : Sound P := by
  unfold zonesE at h
  split at h
  · rename_i h1; exact sound_iff.1 h1
  · rename_i h1; exact absurd h h1

set_option maxRecDepth 100000 in
set_option maxHeartbeats 2000000 in
theorem at_any (P : Prob) (vl vh vp : Value) (x y z : Int) (w : World) (hi : ProbIn P vl vh vp w) (hbig : P.phs.length ≤ 1000000000) :
    Calls Try.prog 49 #[.agg (P.val vl vh vp), .agg #[.int .i64 x, .int .i64 y, .int .i64 z]] w fun e w' => e = .returned (atV P x y z) ∧ w.grownBy w' none := by
  have hg0 := gb_alloc (gb_alloc (gb_refl w none) (.cells (P.val vl vh vp) 68)) (.cells #[.int .i64 x, .int .i64 y, .int .i64 z] 26)
  have hT : ((w.alloc (.cells (P.val vl vh vp) 68)).alloc (.cells #[.int .i64 x, .int .i64 y, .int .i64 z] 26)).heap[w.heap.size]? = some (.cells (P.val vl vh vp) 68 (0, 0)) := by rw [heap_alloc_old _ _ (by simp), heap_alloc_new]
  have HI := Lib.hid (hi.after hg0); have HG0 := Lib.hid hg0; have HT := Lib.hid hT
  obtain ⟨pa, pc, rfl⟩ := hi.p.slice
  obtain ⟨la, ln, lc, rfl⟩ := sl_slice hi.l
  obtain ⟨ha, hn, hc, rfl⟩ := sl_slice hi.h
  clear hi hg0 hT
  have HZ := Lib.hid (fun (u : World) hu => Zones_any P (.slice la ln lc) (.slice ha hn hc) (.slice pa P.phs.length pc) x y z x y z u hu hbig)
  have HA : Hid (zonesE P x y z x y z = 0 → atV P x y z = .tuple #[.int .i64 (best P.cap P.phs (zonesL P x y z x y z)).1, .int .i64 (best P.cap P.phs (zonesL P x y z x y z)).2, .int .i64 0]) := Lib.hid (fun h => if_pos h)
  have HA' : Hid (zonesE P x y z x y z ≠ 0 → atV P x y z = .tuple #[.int .i64 0, .int .i64 0, .int .i64 (zonesE P x y z x y z)]) := Lib.hid (fun h => if_neg h)
  have HSO := Lib.hid (fun h => zonesE_sound (P := P) (b0 := x) (b1 := y) (b2 := z) (b3 := x) (b4 := y) (b5 := z) h)
  have HBE := Lib.hid (fun (u : World) (v : Value) (hS : Sound P) (h1 : SlC 6 u (.slice pa P.phs.length pc) P.phs.length (flatP P.phs)) (h2 : SlC 2 u v (zonesL P x y z x y z).length (flatZ (zonesL P x y z x y z))) => best_any P (.slice la ln lc) (.slice ha hn hc) (.slice pa P.phs.length pc) v (zonesL P x y z x y z) u h1 h2 (hS.fair _ _ _ _ _ _) (by have := hS.some; simp [zonesL]; omega) (by have := hS.some; simp [zonesL]; omega) rfl rfl)
  generalize zonesE P x y z x y z = zE at *
  generalize zonesL P x y z x y z = zL at *
  generalize atV P x y z = av at *
  obtain ⟨x0, y0, z0, x1, y1, z1, step, ls, hs, phs, cap⟩ := P
  simp only [Prob.val] at *
  generalize best cap phs zL = bb at *
  go_enter Try.func49, Try.ntmps49
  have e0_ := cell_of HT.out 0 _ rfl; have e1_ := cell_of HT.out 1 _ rfl; have e2_ := cell_of HT.out 2 _ rfl; have e3_ := cell_of HT.out 3 _ rfl; have e4_ := cell_of HT.out 4 _ rfl; have e5_ := cell_of HT.out 5 _ rfl; have e6_ := cell_of HT.out 6 _ rfl; have e7_ := cell_of HT.out 7 _ rfl; have e8_ := cell_of HT.out 8 _ rfl; have e9_ := cell_of HT.out 9 _ rfl; have e10_ := cell_of HT.out 10 _ rfl
  go_wp2_with fail
  generalize hw1 : (w.alloc (.cells #[.int .i64 x0, .int .i64 y0, .int .i64 z0, .int .i64 x1, .int .i64 y1, .int .i64 z1, .int .i64 step, .slice la ln lc, .slice ha hn hc, .slice pa phs.length pc, .int .i64 cap] 68)).alloc (.cells #[.int .i64 x, .int .i64 y, .int .i64 z] 26) = w1 at *
  clear hw1
  (with_reducible refine (HZ.out _ HI.out).mono ?_)
  rintro e w2 hZ
  clear e0_ e1_ e2_ e3_ e4_ e5_ e6_ e7_ e8_ e9_ e10_
  rcases hZ with ⟨h0, v, rfl, hsl, -, hg2⟩ | ⟨h0, rfl, hg2⟩
  · have HSL := Lib.hid hsl
    obtain ⟨va, vc, rfl⟩ := hsl.slice
    have HT2 := Lib.hid (block_kept hg2 HT.out rfl); have HG2 := Lib.hid (gb_trans HG0.out hg2); have HP2 := Lib.hid (HI.out.p.after hg2)
    clear hg2 hsl HT HI
    have e0_ := cell_of HT2.out 0 _ rfl; have e1_ := cell_of HT2.out 1 _ rfl; have e2_ := cell_of HT2.out 2 _ rfl; have e3_ := cell_of HT2.out 3 _ rfl; have e4_ := cell_of HT2.out 4 _ rfl; have e5_ := cell_of HT2.out 5 _ rfl; have e6_ := cell_of HT2.out 6 _ rfl; have e7_ := cell_of HT2.out 7 _ rfl; have e8_ := cell_of HT2.out 8 _ rfl; have e9_ := cell_of HT2.out 9 _ rfl; have e10_ := cell_of HT2.out 10 _ rfl
    go_wp2_with fail
    (with_reducible refine (HBE.out _ _ (HSO.out h0) HP2.out HSL.out).mono ?_)
    rintro e w3 ⟨rfl, hg3⟩
    have HG3 := Lib.hid (gb_trans HG2.out hg3)
    clear e0_ e1_ e2_ e3_ e4_ e5_ e6_ e7_ e8_ e9_ e10_
    go_wp2_with fail
    exact bodyPost_ret (v := .tuple #[.int .i64 bb.1, .int .i64 bb.2, .int .i64 0]) (by simp [results, Try.results49, go_sem]) rfl ⟨by rw [HA.out h0], HG3.out⟩
  · have HG2 := Lib.hid (gb_trans HG0.out hg2)
    clear hg2
    go_wp2_with fail
    exact bodyPost_ret (v := .tuple #[.int .i64 0, .int .i64 0, .int .i64 zE]) (by simp [results, Try.results49, go_sem]) rfl ⟨by rw [HA'.out h0], HG2.out⟩

set_option maxRecDepth 100000 in
set_option maxHeartbeats 2000000 in
theorem bound_any (P : Prob) (vl vh vp : Value) (b0 b1 b2 b3 b4 b5 : Int) (w : World) (hi : ProbIn P vl vh vp w) (hbig : P.phs.length ≤ 1000000000) :
    Calls Try.prog 56 #[.agg (P.val vl vh vp), .agg #[.int .i64 b0, .int .i64 b1, .int .i64 b2, .int .i64 b3, .int .i64 b4, .int .i64 b5]] w fun e w' => e = .returned (bdV P b0 b1 b2 b3 b4 b5) ∧ w.grownBy w' none := by
  have hg0 := gb_alloc (gb_alloc (gb_refl w none) (.cells (P.val vl vh vp) 68)) (.cells #[.int .i64 b0, .int .i64 b1, .int .i64 b2, .int .i64 b3, .int .i64 b4, .int .i64 b5] 28)
  have hT : ((w.alloc (.cells (P.val vl vh vp) 68)).alloc (.cells #[.int .i64 b0, .int .i64 b1, .int .i64 b2, .int .i64 b3, .int .i64 b4, .int .i64 b5] 28)).heap[w.heap.size]? = some (.cells (P.val vl vh vp) 68 (0, 0)) := by rw [heap_alloc_old _ _ (by simp), heap_alloc_new]
  have HI := Lib.hid (hi.after hg0); have HG0 := Lib.hid hg0; have HT := Lib.hid hT
  obtain ⟨pa, pc, rfl⟩ := hi.p.slice
  obtain ⟨la, ln, lc, rfl⟩ := sl_slice hi.l
  obtain ⟨ha, hn, hc, rfl⟩ := sl_slice hi.h
  clear hi hg0 hT
  have HZ := Lib.hid (fun (u : World) hu => Zones_any P (.slice la ln lc) (.slice ha hn hc) (.slice pa P.phs.length pc) b0 b1 b2 b3 b4 b5 u hu hbig)
  have HA : Hid (zonesE P b0 b1 b2 b3 b4 b5 = 0 → bdV P b0 b1 b2 b3 b4 b5 = .tuple #[.int .i64 (best P.cap P.phs (zonesL P b0 b1 b2 b3 b4 b5)).2, .int .i64 0]) := Lib.hid (fun h => if_pos h)
  have HA' : Hid (zonesE P b0 b1 b2 b3 b4 b5 ≠ 0 → bdV P b0 b1 b2 b3 b4 b5 = .tuple #[.int .i64 0, .int .i64 (zonesE P b0 b1 b2 b3 b4 b5)]) := Lib.hid (fun h => if_neg h)
  have HSO := Lib.hid (fun h => zonesE_sound (P := P) (b0 := b0) (b1 := b1) (b2 := b2) (b3 := b3) (b4 := b4) (b5 := b5) h)
  have HBE := Lib.hid (fun (u : World) (v : Value) (hS : Sound P) (h1 : SlC 6 u (.slice pa P.phs.length pc) P.phs.length (flatP P.phs)) (h2 : SlC 2 u v (zonesL P b0 b1 b2 b3 b4 b5).length (flatZ (zonesL P b0 b1 b2 b3 b4 b5))) => best_any P (.slice la ln lc) (.slice ha hn hc) (.slice pa P.phs.length pc) v (zonesL P b0 b1 b2 b3 b4 b5) u h1 h2 (hS.fair _ _ _ _ _ _) (by have := hS.some; simp [zonesL]; omega) (by have := hS.some; simp [zonesL]; omega) rfl rfl)
  generalize zonesE P b0 b1 b2 b3 b4 b5 = zE at *
  generalize zonesL P b0 b1 b2 b3 b4 b5 = zL at *
  generalize bdV P b0 b1 b2 b3 b4 b5 = av at *
  obtain ⟨x0, y0, z0, x1, y1, z1, step, ls, hs, phs, cap⟩ := P
  simp only [Prob.val] at *
  generalize best cap phs zL = bb at *
  go_enter Try.func56, Try.ntmps56
  have e0_ := cell_of HT.out 0 _ rfl; have e1_ := cell_of HT.out 1 _ rfl; have e2_ := cell_of HT.out 2 _ rfl; have e3_ := cell_of HT.out 3 _ rfl; have e4_ := cell_of HT.out 4 _ rfl; have e5_ := cell_of HT.out 5 _ rfl; have e6_ := cell_of HT.out 6 _ rfl; have e7_ := cell_of HT.out 7 _ rfl; have e8_ := cell_of HT.out 8 _ rfl; have e9_ := cell_of HT.out 9 _ rfl; have e10_ := cell_of HT.out 10 _ rfl
  go_wp2_with fail
  generalize hw1 : (w.alloc (.cells #[.int .i64 x0, .int .i64 y0, .int .i64 z0, .int .i64 x1, .int .i64 y1, .int .i64 z1, .int .i64 step, .slice la ln lc, .slice ha hn hc, .slice pa phs.length pc, .int .i64 cap] 68)).alloc (.cells #[.int .i64 b0, .int .i64 b1, .int .i64 b2, .int .i64 b3, .int .i64 b4, .int .i64 b5] 28) = w1 at *
  clear hw1
  (with_reducible refine (HZ.out _ HI.out).mono ?_)
  rintro e w2 hZ
  clear e0_ e1_ e2_ e3_ e4_ e5_ e6_ e7_ e8_ e9_ e10_
  rcases hZ with ⟨h0, v, rfl, hsl, -, hg2⟩ | ⟨h0, rfl, hg2⟩
  · have HSL := Lib.hid hsl
    obtain ⟨va, vc, rfl⟩ := hsl.slice
    have HT2 := Lib.hid (block_kept hg2 HT.out rfl); have HG2 := Lib.hid (gb_trans HG0.out hg2); have HP2 := Lib.hid (HI.out.p.after hg2)
    clear hg2 hsl HT HI
    have e0_ := cell_of HT2.out 0 _ rfl; have e1_ := cell_of HT2.out 1 _ rfl; have e2_ := cell_of HT2.out 2 _ rfl; have e3_ := cell_of HT2.out 3 _ rfl; have e4_ := cell_of HT2.out 4 _ rfl; have e5_ := cell_of HT2.out 5 _ rfl; have e6_ := cell_of HT2.out 6 _ rfl; have e7_ := cell_of HT2.out 7 _ rfl; have e8_ := cell_of HT2.out 8 _ rfl; have e9_ := cell_of HT2.out 9 _ rfl; have e10_ := cell_of HT2.out 10 _ rfl
    go_wp2_with fail
    (with_reducible refine (HBE.out _ _ (HSO.out h0) HP2.out HSL.out).mono ?_)
    rintro e w3 ⟨rfl, hg3⟩
    have HG3 := Lib.hid (gb_trans HG2.out hg3)
    clear e0_ e1_ e2_ e3_ e4_ e5_ e6_ e7_ e8_ e9_ e10_
    go_wp2_with fail
    exact bodyPost_ret (v := .tuple #[.int .i64 bb.2, .int .i64 0]) (by simp [results, Try.results56, go_sem]) rfl ⟨by rw [HA.out h0], HG3.out⟩
  · have HG2 := Lib.hid (gb_trans HG0.out hg2)
    clear hg2
    go_wp2_with fail
    exact bodyPost_ret (v := .tuple #[.int .i64 0, .int .i64 zE]) (by simp [results, Try.results56, go_sem]) rfl ⟨by rw [HA'.out h0], HG2.out⟩
end LMisF
end Go.Proofs.Ytkckcaijfedijaa
