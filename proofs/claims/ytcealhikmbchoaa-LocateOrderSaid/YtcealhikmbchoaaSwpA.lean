/- Plain laws of MisfitMore: a phase more, a greater cap. -/
import Derived.Test.YtcealhikmbchoaaMisP
import Derived.Test.YtcealhikmbchoaaProb
import Derived.Test.YtcealhikmbchoaaPart
import Derived.Test.YtcealhikmbchoaaGeoP
import Derived.Test.YtcealhikmbchoaaPrf
import Derived.ArgAppend
import Derived.Deep.AppendLies
namespace Go.Proofs.Ytcealhikmbchoaa
set_option linter.all false
section LMisM
section LMisM
open Go.RowKit Rg

theorem term_app {cap : Int} {phs : List Ph} {zs : List Zn} {a : Ph} {z : Zn} {t : Int} (hl : zs.length = phs.length) {i : Nat} (hi : i < phs.length) : term cap (phs ++ [a]) (zs ++ [z]) t i = term cap phs zs t i := by
  unfold term
  rw [if_pos (by simp; omega), if_pos (by omega), List.getElem?_append_left hi, List.getElem?_append_left (by omega)]
theorem costN_app {cap : Int} {phs : List Ph} {zs : List Zn} {a : Ph} {z : Zn} {t : Int} (hl : zs.length = phs.length) : ∀ k, k ≤ phs.length → costN cap (phs ++ [a]) (zs ++ [z]) t k = costN cap phs zs t k
  | 0, _ => rfl
  | k + 1, hk => by simp only [costN]; rw [costN_app hl k (by omega), term_app hl (by omega)]
theorem cost_app {cap : Int} {phs : List Ph} {zs : List Zn} {a : Ph} {z : Zn} {t : Int} (hl : zs.length = phs.length) : cost cap (phs ++ [a]) (zs ++ [z]) t = cost cap phs zs t + a.n * min cap (resid z t) := by
  unfold cost
  rw [show (phs ++ [a]).length = phs.length + 1 by simp]
  simp only [costN]
  rw [costN_app hl _ (Nat.le_refl _)]
  congr 1
  unfold term
  rw [if_pos (by simp; omega), show (phs ++ [a])[phs.length]? = some a by simp, ← hl, show (zs ++ [z])[zs.length]? = some z by simp]; rfl
/-- A phase more: the misfit grows by at most its weight times the cap. -/
theorem more_plain {cap : Int} {phs : List Ph} {zs : List Zn} {a : Ph} {z : Zn} (h : 0 < zs.length) (hl : zs.length = phs.length) (he : Even phs zs) (hc : 0 ≤ cap) (ha : 0 ≤ a.n) (he' : Even (phs ++ [a]) (zs ++ [z])) :
    (best cap phs zs).2 ≤ (best cap (phs ++ [a]) (zs ++ [z])).2 ∧ (best cap (phs ++ [a]) (zs ++ [z])).2 ≤ (best cap phs zs).2 + a.n * cap := by
  have s1 := (best_spec (cap := cap) (phs := phs) h).1
  have s2 := (best_spec (cap := cap) (phs := phs ++ [a]) (zs := zs ++ [z]) (by simp)).1
  constructor
  · rw [s2, cost_app hl]
    have := best_all (cap := cap) h he (best cap (phs ++ [a]) (zs ++ [z])).1
    have := resid_nn z (best cap (phs ++ [a]) (zs ++ [z])).1
    have := Int.mul_nonneg ha (show 0 ≤ min cap (resid z (best cap (phs ++ [a]) (zs ++ [z])).1) by omega)
    omega
  · have b := best_all (cap := cap) (phs := phs ++ [a]) (zs := zs ++ [z]) (by simp) he' (best cap phs zs).1
    rw [cost_app hl] at b
    have := Int.mul_le_mul_of_nonneg_left (show min cap (resid z (best cap phs zs).1) ≤ cap by omega) ha
    omega
/-- A greater cap, a greater misfit. -/
theorem loose_plain {cap cap' : Int} {phs : List Ph} {zs : List Zn} (h : 0 < zs.length) (he : Even phs zs) (hc : cap ≤ cap') : (best cap phs zs).2 ≤ (best cap' phs zs).2 := by
  rw [(best_spec (cap := cap') (phs := phs) h).1]
  have b := best_all (cap := cap) h he (best cap' phs zs).1
  generalize (best cap' phs zs).1 = t at *
  have key : ∀ k, costN cap phs zs t k ≤ costN cap' phs zs t k := by
    intro k; induction k with
    | zero => exact Int.le_refl _
    | succ k ih =>
      simp only [costN]
      have : term cap phs zs t k ≤ term cap' phs zs t k := by
        unfold term
        split
        · exact Int.mul_le_mul_of_nonneg_left (by omega) (he.wt k)
        · exact Int.le_refl _
      omega
  have := key phs.length
  unfold cost at *; omega
/-- A phase more; another cap. -/
def Prob.more (P : Prob) (a : Ph) : Prob := { P with phs := P.phs ++ [a] }
def Prob.loose (P : Prob) (c : Int) : Prob := { P with cap := c }
theorem Good.more {P : Prob} (h : Good P) {a : Ph} (ha : goodPh a) (hn : Near P.step P.ls P.hs P.x0 P.y0 P.z0 P.x1 P.y1 P.z1 a.x a.y a.z) (hl : P.phs.length ≤ 30) : Good (P.more a) := by
  have hmem : ∀ b ∈ (P.more a).phs, b ∈ P.phs ∨ b = a := fun b hb => by simpa [Prob.more] using hb
  refine ⟨⟨h.sound.vb, h.sound.ok, by simp [Prob.more]; omega, h.sound.cap, fun b hb => ?_⟩, fun b hb => ?_, fun b hb => ?_⟩
  · rcases hmem b hb with hb | rfl
    · exact h.sound.ph b hb
    · exact (hn.zE ha.ok).1
  · rcases hmem b hb with hb | rfl
    · exact h.near b hb
    · exact hn
  · rcases hmem b hb with hb | rfl
    · exact h.ph b hb
    · exact ha
theorem Good.loose {P : Prob} (h : Good P) {c : Int} (h0 : 1 ≤ c) (h1 : c ≤ 1099511627776) : Good (P.loose c) :=
  ⟨⟨h.sound.vb, h.sound.ok, h.sound.some, ⟨h0, h1⟩, h.sound.ph⟩, h.near, h.ph⟩
theorem more_zones (P : Prob) (a : Ph) (b0 b1 b2 b3 b4 b5 : Int) : zonesL (P.more a) b0 b1 b2 b3 b4 b5 = zonesL P b0 b1 b2 b3 b4 b5 ++ [zoneOf P.step P.ls P.hs b0 b1 b2 b3 b4 b5 a] := by
  simp [zonesL, Prob.more]
/-- What MisfitMore asks of its three problems. -/
theorem Good.moreLaw {P : Prob} (h : Good P) {a : Ph} (ha : goodPh a) (hn : Near P.step P.ls P.hs P.x0 P.y0 P.z0 P.x1 P.y1 P.z1 a.x a.y a.z) (hl : P.phs.length ≤ 30) {c : Int} (h0 : P.cap ≤ c) (h1 : c ≤ 1099511627776) {b0 b1 b2 b3 b4 b5 : Int} (hw : wiP b0 b1 b2 b3 b4 b5 P.x0 P.y0 P.z0 P.x1 P.y1 P.z1 = true) :
    mm P b0 b1 b2 b3 b4 b5 ≤ mm (P.more a) b0 b1 b2 b3 b4 b5 ∧ mm (P.more a) b0 b1 b2 b3 b4 b5 ≤ mm P b0 b1 b2 b3 b4 b5 + a.n * P.cap ∧ mm P b0 b1 b2 b3 b4 b5 ≤ mm (P.loose c) b0 b1 b2 b3 b4 b5 := by
  have hz := zonesL_length P b0 b1 b2 b3 b4 b5
  have hp := h.sound.some.1
  have he' := (h.more ha hn hl).even (b0 := b0) (b1 := b1) (b2 := b2) (b3 := b3) (b4 := b4) (b5 := b5) hw
  rw [more_zones] at he'
  have hm := more_plain (cap := P.cap) (a := a) (z := zoneOf P.step P.ls P.hs b0 b1 b2 b3 b4 b5 a) (by rw [hz]; exact hp) hz (h.even hw) (by have := h.sound.cap.1; omega) (by have := ha.2.2.2.2.1; omega) he'
  refine ⟨?_, ?_, loose_plain (by rw [hz]; exact hp) (h.even hw) h0⟩
  · unfold mm; rw [more_zones]; exact hm.1
  · unfold mm; rw [more_zones]; exact hm.2
end LMisM
end LMisM
section LMisS
section LMisS
open Go.RowKit Rg

theorem term_cons {cap : Int} {phs : List Ph} {zs : List Zn} {a : Ph} {z : Zn} {t : Int} (k : Nat) : term cap (a :: phs) (z :: zs) t (k + 1) = term cap phs zs t k := by
  unfold term; simp
theorem costN_cons {cap : Int} {phs : List Ph} {zs : List Zn} {a : Ph} {z : Zn} {t : Int} : ∀ k, costN cap (a :: phs) (z :: zs) t (k + 1) = a.n * min cap (resid z t) + costN cap phs zs t k
  | 0 => by simp [costN, term]
  | k + 1 => by
    have h := costN_cons (cap := cap) (phs := phs) (zs := zs) (a := a) (z := z) (t := t) k
    rw [show costN cap (a :: phs) (z :: zs) t (k + 1 + 1) = costN cap (a :: phs) (z :: zs) t (k + 1) + term cap (a :: phs) (z :: zs) t (k + 1) from rfl, h, term_cons, show costN cap phs zs t (k + 1) = costN cap phs zs t k + term cap phs zs t k from rfl]
    omega
theorem cost_cons {cap : Int} {phs : List Ph} {zs : List Zn} {a : Ph} {z : Zn} {t : Int} : cost cap (a :: phs) (z :: zs) t = a.n * min cap (resid z t) + cost cap phs zs t := costN_cons phs.length
def movZ (s : Int) (z : Zn) : Zn := ⟨z.f + s, z.t + s⟩
def movP (s : Int) (a : Ph) : Ph := { a with e := a.e + s, l := a.l + s }
theorem resid_mov (z : Zn) (s t : Int) : resid (movZ s z) (t + s) = resid z t := by unfold resid movZ; simp only []; omega
theorem cost_rev {cap s t : Int} : ∀ (phs : List Ph) (zs : List Zn), zs.length = phs.length → cost cap (phs.reverse.map (movP s)) (zs.reverse.map (movZ s)) (t + s) = cost cap phs zs t
  | [], [], _ => rfl
  | a :: phs, z :: zs, h => by
    have hl : zs.length = phs.length := by simpa using h
    rw [List.reverse_cons, List.reverse_cons, List.map_append, List.map_append, List.map_singleton, List.map_singleton, cost_app (by simp; omega), cost_rev phs zs hl, cost_cons, resid_mov]
    show _ + a.n * _ = _
    omega
theorem mem_timesOf_rev {zs : List Zn} {s t : Int} : t + s ∈ timesOf (zs.reverse.map (movZ s)) ↔ t ∈ timesOf zs := by
  rw [mem_timesOf, mem_timesOf]
  constructor
  · rintro ⟨q, hq, e⟩
    obtain ⟨z, hz, rfl⟩ := List.mem_map.1 hq
    refine ⟨z, by simpa using hz, ?_⟩
    rcases e with e | e
    · exact .inl (by simp only [movZ] at e; omega)
    · exact .inr (by simp only [movZ] at e; omega)
  · rintro ⟨z, hz, e⟩
    refine ⟨movZ s z, List.mem_map.2 ⟨z, by simpa using hz, rfl⟩, ?_⟩
    rcases e with e | e
    · exact .inl (by simp only [movZ]; omega)
    · exact .inr (by simp only [movZ]; omega)
/-- The best time moves along, the misfit stays. -/
theorem shift_plain {cap s : Int} {phs : List Ph} {zs : List Zn} (h : 0 < zs.length) (hl : zs.length = phs.length) :
    (best cap (phs.reverse.map (movP s)) (zs.reverse.map (movZ s))).1 = (best cap phs zs).1 + s ∧ (best cap (phs.reverse.map (movP s)) (zs.reverse.map (movZ s))).2 = (best cap phs zs).2 := by
  obtain ⟨a1, a2, a3⟩ := best_spec (cap := cap) (phs := phs) h
  obtain ⟨b1, b2, b3⟩ := best_spec (cap := cap) (phs := phs.reverse.map (movP s)) (zs := zs.reverse.map (movZ s)) (by simpa using h)
  generalize (best cap phs zs).1 = t at *
  generalize (best cap phs zs).2 = c at *
  generalize (best cap (phs.reverse.map (movP s)) (zs.reverse.map (movZ s))).1 = u at *
  generalize (best cap (phs.reverse.map (movP s)) (zs.reverse.map (movZ s))).2 = d at *
  have hu : u - s ∈ timesOf zs := mem_timesOf_rev.1 (by rw [Int.sub_add_cancel]; exact b2)
  have x1 := a3 _ hu
  have x2 := b3 _ (mem_timesOf_rev.2 a2)
  have e1 := cost_rev (cap := cap) (s := s) (t := u - s) phs zs hl
  have e2 := cost_rev (cap := cap) (s := s) (t := t) phs zs hl
  rw [Int.sub_add_cancel] at e1
  rw [e2] at x2
  have k : c = d := by omega
  have y1 := x1.2 (by omega)
  have y2 := x2.2 (by omega)
  omega
/-- The problem whose phases are turned round and moved. -/
def Prob.moved (P : Prob) (s : Int) : Prob := { P with phs := P.phs.reverse.map (movP s) }
theorem goodPh.moved {a : Ph} (h : goodPh a) {s : Int} (h0 : 0 ≤ s) (h1 : s ≤ 1099511627776) : phP a.x a.y a.z (a.e + s) (a.l + s) a.n = true :=
  phP_iff.2 ⟨place_ok h.1 (by omega), by have := h.2.1; omega, by have := h.2.2.1; omega, by have := h.2.2.2.1; omega, h.2.2.2.2.1, by have := h.2.2.2.2.2; omega⟩
theorem Good.movedSound {P : Prob} (h : Good P) {s : Int} (h0 : 0 ≤ s) (h1 : s ≤ 1099511627776) : Sound (P.moved s) := by
  refine ⟨h.sound.vb, h.sound.ok, by simpa [Prob.moved] using h.sound.some, h.sound.cap, ?_⟩
  intro a ha
  obtain ⟨b, hb, rfl⟩ := List.mem_map.1 ha
  have hb : b ∈ P.phs := by simpa using hb
  exact ((h.near b hb).zE ((h.ph b hb).moved h0 h1)).1
theorem Good.movedZones {P : Prob} (h : Good P) {s : Int} (h0 : 0 ≤ s) (h1 : s ≤ 1099511627776) {b0 b1 b2 b3 b4 b5 : Int} (hw : wiP b0 b1 b2 b3 b4 b5 P.x0 P.y0 P.z0 P.x1 P.y1 P.z1 = true) :
    zonesE (P.moved s) b0 b1 b2 b3 b4 b5 = 0 ∧ zonesL (P.moved s) b0 b1 b2 b3 b4 b5 = (zonesL P b0 b1 b2 b3 b4 b5).reverse.map (movZ s) := by
  constructor
  · unfold zonesE
    rw [if_pos (sound_iff.2 (h.movedSound h0 h1)), if_pos (show wiP b0 b1 b2 b3 b4 b5 (P.moved s).x0 (P.moved s).y0 (P.moved s).z0 (P.moved s).x1 (P.moved s).y1 (P.moved s).z1 = true from hw)]
    refine errOf_zero.2 fun a ha => ?_
    obtain ⟨b, hb, rfl⟩ := List.mem_map.1 ha
    have hb : b ∈ P.phs := by simpa using hb
    exact (((h.near b hb).within hw).1.zE ((h.ph b hb).moved h0 h1)).1
  · unfold zonesL
    rw [← List.map_reverse, List.map_map]
    show (P.phs.reverse.map (movP s)).map _ = _
    rw [List.map_map]
    refine List.map_congr_left fun b hb => ?_
    have hb : b ∈ P.phs := by simpa using hb
    have hN := ((h.near b hb).within hw).1
    obtain ⟨-, e1, e2⟩ := hN.zE ((h.ph b hb).moved h0 h1)
    obtain ⟨-, e3, e4⟩ := hN.zE (h.ph b hb).ok
    show (⟨_, _⟩ : Zn) = ⟨_, _⟩
    congr 1
    · show znF _ _ _ _ _ _ _ _ _ b.x b.y b.z (b.e + s) (b.l + s) b.n = znF _ _ _ _ _ _ _ _ _ b.x b.y b.z b.e b.l b.n + s
      refine e1.trans ?_; rw [e3]; omega
    · show znT _ _ _ _ _ _ _ _ _ b.x b.y b.z (b.e + s) (b.l + s) b.n = znT _ _ _ _ _ _ _ _ _ b.x b.y b.z b.e b.l b.n + s
      refine e2.trans ?_; rw [e4]; omega
end LMisS
end LMisS
section LReP
open Go.RowKit Rg

/-- Block Q holds the problem with the phases l; w has grown into u. -/
structure PrRe (w : World) (Q : Nat) (x0 y0 z0 x1 y1 z1 step : Int) (vl vh : Value) (cap : Int) (l : List Ph) (vq : Value) (u : World) : Prop where
  prob : u.heap[Q]? = some (.cells #[.int .i64 x0, .int .i64 y0, .int .i64 z0, .int .i64 x1, .int .i64 y1, .int .i64 z1, .int .i64 step, vl, vh, vq, .int .i64 cap] 36 (0, 0))
  own : u.ownsRow (Q + 1) 59 6 vq l.length (flatP l)
  gr : w.grownBy u none
  new : w.heap.size ≤ Q
section
variable {w : World} {Q : Nat} {x0 y0 z0 x1 y1 z1 step : Int} {vl vh : Value} {cap : Int} {l : List Ph} {vq : Value} {u u' : World}
theorem PrRe.lt (h : PrRe w Q x0 y0 z0 x1 y1 z1 step vl vh cap l vq u) : Q < u.heap.size := block_lt' h.prob
theorem PrRe.later (h : PrRe w Q x0 y0 z0 x1 y1 z1 step vl vh cap l vq u) (hg : u.grownBy u' none) : PrRe w Q x0 y0 z0 x1 y1 z1 step vl vh cap l vq u' :=
  ⟨block_kept hg h.prob rfl, owns_keep h.own hg, gb_trans h.gr hg, h.new⟩
theorem PrRe.draw {p : Nat} (h : PrRe w Q x0 y0 z0 x1 y1 z1 step vl vh cap l vq u) (hg : u.grownBy u' (some p)) (hp : p < Q) (hw : w.heap.size ≤ p) : PrRe w Q x0 y0 z0 x1 y1 z1 step vl vh cap l vq u' :=
  ⟨block_keptp hg h.prob (by omega), owns_keepp h.own hg (by omega), gb_new h.gr hg (by simpa using hw), h.new⟩
/-- One block a that is none of its own is written. -/
theorem PrRe.other {a : Nat} (h : PrRe w Q x0 y0 z0 x1 y1 z1 step vl vh cap l vq u) (hg : u.grownBy u' (some a)) (ha : Q < a) (hv : vq.ownBlock ≠ some a) : PrRe w Q x0 y0 z0 x1 y1 z1 step vl vh cap l vq u' :=
  ⟨block_keptp hg h.prob (by omega), h.own.kept hg (.inr hv), gb_new h.gr hg (by have := h.new; simp; omega), h.new⟩
theorem PrRe.prob9 (h : PrRe w Q x0 y0 z0 x1 y1 z1 step vl vh cap l vq u) (hg : u.grownBy u' vq.ownBlock) :
    u'.heap[Q]? = some (.cells #[.int .i64 x0, .int .i64 y0, .int .i64 z0, .int .i64 x1, .int .i64 y1, .int .i64 z1, .int .i64 step, vl, vh, vq, .int .i64 cap] 36 (0, 0)) := by
  rw [hg.block Q (Array.getElem?_eq_some_iff.1 h.prob).1 (fun e => by have := (h.own.lt Q e.symm).1; omega)]; exact h.prob
theorem PrRe.push {a : Ph} {vq' : Value} (h : PrRe w Q x0 y0 z0 x1 y1 z1 step vl vh cap l vq u) (hg : u.grownBy u' vq.ownBlock) (ho : u'.ownsRow (Q + 1) 59 6 vq' (l.length + 1) (flatP l ++ a.cells)) :
    PrRe w Q x0 y0 z0 x1 y1 z1 step vl vh cap (l ++ [a]) vq' (u'.setCell ⟨Q, 9, none⟩ vq') := by
  have hn := h.new
  have hne : ∀ b, vq.ownBlock = some b → Q + 1 ≤ b := fun b hb => (h.own.lt b hb).1
  have hQ := h.prob9 hg
  have sgr : u'.grownBy (u'.setCell ⟨Q, 9, none⟩ vq') (some Q) := gb_setCell (gb_refl _ _) (.inr rfl) _
  refine ⟨set_block hQ 9 vq', ?_, gb_setCell (gb_new h.gr hg (fun q hq => by have := hne q hq; omega)) (.inl h.new) _, h.new⟩
  rw [List.length_append, show flatP (l ++ [a]) = flatP l ++ a.cells by simp [flatP]]
  exact ho.kept sgr (.inr (fun e => by have := (ho.lt Q e).1; omega))
theorem PrRe.fro {o : Nat} (h : PrRe w Q x0 y0 z0 x1 y1 z1 step vl vh cap l vq u) (hg : u.grownBy u' vq.ownBlock) : u'.frozen? ⟨Q, o, none⟩ = false := by simp [World.frozen?, h.prob9 hg]
theorem PrRe.nine (h : PrRe w Q x0 y0 z0 x1 y1 z1 step vl vh cap l vq u) (hg : u.grownBy u' vq.ownBlock) : u'.cell? ⟨Q, 9, none⟩ = some vq := by simp [World.cell?, h.prob9 hg]
/-- The problem that it holds. -/
theorem PrRe.inn {P : Prob} {vp : Value} (h : PrRe w Q x0 y0 z0 x1 y1 z1 step vl vh cap P.phs vq u) {u0 : World} {P0 : Prob} (hi : ProbIn P0 vl vh vp u0) (hu : u0.grownBy u none) (h1 : P.ls = P0.ls) (h2 : P.hs = P0.hs) : ProbIn P vl vh vq u :=
  ⟨h1 ▸ hi.l.after hu, h2 ▸ hi.h.after hu, SlC.of_owns h.own⟩
end
/-- At of a problem of sound phases whose zones are known. -/
theorem at_known {P : Prob} {x y z t c : Int} (h0 : zonesE P x y z x y z = 0) (ht : (best P.cap P.phs (zonesL P x y z x y z)).1 = t) (hc : (best P.cap P.phs (zonesL P x y z x y z)).2 = c) (hl : P.phs.length ≤ 64) {vl vh vp : Value} {cs : Array Value} (hcs : cs = P.val vl vh vp) (u : World) (hi : ProbIn P vl vh vp u) :
    Calls Try.prog 18 #[.agg cs, .agg #[.int .i64 x, .int .i64 y, .int .i64 z]] u fun e w' => e = .returned (.tuple #[.int .i64 t, .int .i64 c, .int .i64 0]) ∧ u.grownBy w' none := by
  have hb := at_any P vl vh vp x y z u hi (by omega)
  unfold atV at hb
  rw [if_pos h0, ht, hc] at hb
  rw [hcs]; exact hb
/-- At of the problem whose phases are turned round and moved. -/
theorem Good.atMoved {P : Prob} (h : Good P) {s : Int} (h0 : 0 ≤ s) (h1 : s ≤ 1099511627776) {vl vh vp : Value} {cs : Array Value} (hcs : cs = (P.moved s).val vl vh vp) (x y z : Int) (u : World) (hw : wiP x y z x y z P.x0 P.y0 P.z0 P.x1 P.y1 P.z1 = true) (hi : ProbIn (P.moved s) vl vh vp u) :
    Calls Try.prog 18 #[.agg cs, .agg #[.int .i64 x, .int .i64 y, .int .i64 z]] u fun e w' => e = .returned (.tuple #[.int .i64 (tt P x y z + s), .int .i64 (mm P x y z x y z), .int .i64 0]) ∧ u.grownBy w' none := by
  obtain ⟨z0, zl⟩ := h.movedZones h0 h1 (b0 := x) (b1 := y) (b2 := z) (b3 := x) (b4 := y) (b5 := z) hw
  have hz := zonesL_length P x y z x y z
  obtain ⟨s1, s2⟩ := shift_plain (cap := P.cap) (s := s) (phs := P.phs) (zs := zonesL P x y z x y z) (by rw [hz]; exact h.sound.some.1) hz
  exact at_known z0 (by rw [zl]; exact s1) (by rw [zl]; exact s2) (by have := h.sound.some.2; simp [Prob.moved]; omega) hcs u hi
end LReP
section LSwp
open Go.RowKit

/-- Phase i of a list. -/
def phAt (l : List Ph) (i : Nat) : Ph := l[i]?.getD default
theorem phAt_eq {l : List Ph} {i : Nat} (h : i < l.length) : phAt l i = l[i] := by simp [phAt, h]
/-- Two phases are exchanged. -/
def swapPh (l : List Ph) (i k : Nat) : List Ph := (l.set i (phAt l k)).set k (phAt l i)
theorem swapPh_length (l : List Ph) (i k : Nat) : (swapPh l i k).length = l.length := by simp [swapPh]
theorem flatP_cons (a : Ph) (l : List Ph) : flatP (a :: l) = a.cells ++ flatP l := by simp [flatP]
theorem Ph.cells_length (a : Ph) : a.cells.length = 6 := rfl
theorem flatP_setLL : ∀ (l : List Ph) (i : Nat) (x : Ph), i < l.length → flatP (l.set i x) = setLL (flatP l) (i * 6) x.cells
  | a :: l, 0, x, _ => by
    rw [List.set_cons_zero, flatP_cons, flatP_cons]
    simp [Ph.cells, setLL]
  | a :: l, i + 1, x, h => by
    rw [List.set_cons_succ, flatP_cons, flatP_cons, flatP_setLL l i x (by simpa using h), show (i + 1) * 6 = a.cells.length + i * 6 by rw [Ph.cells_length]; omega, setLL_append]
theorem swapPh_perm (l : List Ph) {i k : Nat} (hi : i < l.length) (hk : k < l.length) : (swapPh l i k).Perm l := by
  have h := Array.swap_perm (xs := l.toArray) (i := i) (j := k) (by simpa using hi) (by simpa using hk)
  have e : (l.toArray.swap i k (by simpa using hi) (by simpa using hk)).toList = swapPh l i k := by
    unfold swapPh
    rw [phAt_eq hi, phAt_eq hk]
    simp [Array.swap_def]
  have := Array.perm_iff_toList_perm.1 h
  rw [e] at this
  simpa using this

theorem apart72 {i k : Nat} (h : i ≠ k) : ¬ (i * 6 = k * 6) ∧ ¬ (i * 6 = k * 6 + 1) ∧ ¬ (i * 6 = k * 6 + 2) ∧ ¬ (i * 6 = k * 6 + 3) ∧ ¬ (i * 6 = k * 6 + 4) ∧ ¬ (i * 6 = k * 6 + 5) ∧ ¬ (i * 6 + 1 = k * 6) ∧ ¬ (i * 6 + 1 = k * 6 + 1) ∧ ¬ (i * 6 + 1 = k * 6 + 2) ∧ ¬ (i * 6 + 1 = k * 6 + 3) ∧ ¬ (i * 6 + 1 = k * 6 + 4) ∧ ¬ (i * 6 + 1 = k * 6 + 5) ∧ ¬ (i * 6 + 2 = k * 6) ∧ ¬ (i * 6 + 2 = k * 6 + 1) ∧ ¬ (i * 6 + 2 = k * 6 + 2) ∧ ¬ (i * 6 + 2 = k * 6 + 3) ∧ ¬ (i * 6 + 2 = k * 6 + 4) ∧ ¬ (i * 6 + 2 = k * 6 + 5) ∧ ¬ (i * 6 + 3 = k * 6) ∧ ¬ (i * 6 + 3 = k * 6 + 1) ∧ ¬ (i * 6 + 3 = k * 6 + 2) ∧ ¬ (i * 6 + 3 = k * 6 + 3) ∧ ¬ (i * 6 + 3 = k * 6 + 4) ∧ ¬ (i * 6 + 3 = k * 6 + 5) ∧ ¬ (i * 6 + 4 = k * 6) ∧ ¬ (i * 6 + 4 = k * 6 + 1) ∧ ¬ (i * 6 + 4 = k * 6 + 2) ∧ ¬ (i * 6 + 4 = k * 6 + 3) ∧ ¬ (i * 6 + 4 = k * 6 + 4) ∧ ¬ (i * 6 + 4 = k * 6 + 5) ∧ ¬ (i * 6 + 5 = k * 6) ∧ ¬ (i * 6 + 5 = k * 6 + 1) ∧ ¬ (i * 6 + 5 = k * 6 + 2) ∧ ¬ (i * 6 + 5 = k * 6 + 3) ∧ ¬ (i * 6 + 5 = k * 6 + 4) ∧ ¬ (i * 6 + 5 = k * 6 + 5) ∧ ¬ (k * 6 = i * 6) ∧ ¬ (k * 6 + 1 = i * 6) ∧ ¬ (k * 6 + 2 = i * 6) ∧ ¬ (k * 6 + 3 = i * 6) ∧ ¬ (k * 6 + 4 = i * 6) ∧ ¬ (k * 6 + 5 = i * 6) ∧ ¬ (k * 6 = i * 6 + 1) ∧ ¬ (k * 6 + 1 = i * 6 + 1) ∧ ¬ (k * 6 + 2 = i * 6 + 1) ∧ ¬ (k * 6 + 3 = i * 6 + 1) ∧ ¬ (k * 6 + 4 = i * 6 + 1) ∧ ¬ (k * 6 + 5 = i * 6 + 1) ∧ ¬ (k * 6 = i * 6 + 2) ∧ ¬ (k * 6 + 1 = i * 6 + 2) ∧ ¬ (k * 6 + 2 = i * 6 + 2) ∧ ¬ (k * 6 + 3 = i * 6 + 2) ∧ ¬ (k * 6 + 4 = i * 6 + 2) ∧ ¬ (k * 6 + 5 = i * 6 + 2) ∧ ¬ (k * 6 = i * 6 + 3) ∧ ¬ (k * 6 + 1 = i * 6 + 3) ∧ ¬ (k * 6 + 2 = i * 6 + 3) ∧ ¬ (k * 6 + 3 = i * 6 + 3) ∧ ¬ (k * 6 + 4 = i * 6 + 3) ∧ ¬ (k * 6 + 5 = i * 6 + 3) ∧ ¬ (k * 6 = i * 6 + 4) ∧ ¬ (k * 6 + 1 = i * 6 + 4) ∧ ¬ (k * 6 + 2 = i * 6 + 4) ∧ ¬ (k * 6 + 3 = i * 6 + 4) ∧ ¬ (k * 6 + 4 = i * 6 + 4) ∧ ¬ (k * 6 + 5 = i * 6 + 4) ∧ ¬ (k * 6 = i * 6 + 5) ∧ ¬ (k * 6 + 1 = i * 6 + 5) ∧ ¬ (k * 6 + 2 = i * 6 + 5) ∧ ¬ (k * 6 + 3 = i * 6 + 5) ∧ ¬ (k * 6 + 4 = i * 6 + 5) ∧ ¬ (k * 6 + 5 = i * 6 + 5) := ⟨by omega, by omega, by omega, by omega, by omega, by omega, by omega, by omega, by omega, by omega, by omega, by omega, by omega, by omega, by omega, by omega, by omega, by omega, by omega, by omega, by omega, by omega, by omega, by omega, by omega, by omega, by omega, by omega, by omega, by omega, by omega, by omega, by omega, by omega, by omega, by omega, by omega, by omega, by omega, by omega, by omega, by omega, by omega, by omega, by omega, by omega, by omega, by omega, by omega, by omega, by omega, by omega, by omega, by omega, by omega, by omega, by omega, by omega, by omega, by omega, by omega, by omega, by omega, by omega, by omega, by omega, by omega, by omega, by omega, by omega, by omega, by omega⟩
theorem owns_swap {B : Nat} {l : List Ph} {u : World} {q cp : Nat} (h : u.ownsRow B 59 6 (.slice (some ⟨q, 0, none⟩) l.length cp) l.length (flatP l)) (i k : Nat) (hi : i < l.length) (hk : k < l.length) :
    ((u.setCells q (i * 6) (phAt l k).cells).setCells q (k * 6) (phAt l i).cells).ownsRow B 59 6 (.slice (some ⟨q, 0, none⟩) l.length cp) (swapPh l i k).length (flatP (swapPh l i k)) ∧ u.grownBy ((u.setCells q (i * 6) (phAt l k).cells).setCells q (k * 6) (phAt l i).cells) (some q) := by
  refine ⟨?_, setCells_grown _ _ _ (setCells_grown _ _ _ (gb_refl _ _) (.inr rfl)) (.inr rfl)⟩
  unfold swapPh
  rw [List.length_set, List.length_set, flatP_setLL _ _ _ (by simpa using hk), flatP_setLL _ _ _ hi]
  exact owns_setCells _ _ _ _ (owns_setCells _ _ _ _ h)
/-- The row of the problem's phases after an exchange. -/
theorem PrRe.swap {w : World} {Q : Nat} {x0 y0 z0 x1 y1 z1 step : Int} {vl vh : Value} {cap : Int} {l : List Ph} {q cp n : Nat} {u : World} (h : PrRe w Q x0 y0 z0 x1 y1 z1 step vl vh cap l (.slice (some ⟨q, 0, none⟩) n cp) u) (hn : l.length = n) (i k : Nat) (hi : i < n) (hk : k < n) :
    PrRe w Q x0 y0 z0 x1 y1 z1 step vl vh cap (swapPh l i k) (.slice (some ⟨q, 0, none⟩) n cp) ((u.setCells q (i * 6) (phAt l k).cells).setCells q (k * 6) (phAt l i).cells) := by
  subst hn
  obtain ⟨h1, hg⟩ := owns_swap h.own i k hi hk
  have hq := (h.own.lt q rfl).1
  exact ⟨block_keptp hg h.prob (by omega), h1, gb_new h.gr hg (fun k hk => by have := h.new; simp at hk; omega), h.new⟩
/-- The cells of phase i. -/
theorem PrRe.it {w : World} {Q : Nat} {x0 y0 z0 x1 y1 z1 step : Int} {vl vh : Value} {cap : Int} {l : List Ph} {q cp n : Nat} {u : World} (h : PrRe w Q x0 y0 z0 x1 y1 z1 step vl vh cap l (.slice (some ⟨q, 0, none⟩) n cp) u) (i : Nat) (hi : i < l.length) :
    u.cell? ⟨q, i * 6, none⟩ = some (.int .i64 (phAt l i).x) ∧ u.cell? ⟨q, i * 6 + 1, none⟩ = some (.int .i64 (phAt l i).y) ∧ u.cell? ⟨q, i * 6 + 2, none⟩ = some (.int .i64 (phAt l i).z) ∧ u.cell? ⟨q, i * 6 + 3, none⟩ = some (.int .i64 (phAt l i).e) ∧ u.cell? ⟨q, i * 6 + 4, none⟩ = some (.int .i64 (phAt l i).l) ∧ u.cell? ⟨q, i * 6 + 5, none⟩ = some (.int .i64 (phAt l i).n) := by
  have hc : ∀ j x, (flatP l)[j]? = some x → u.cell? ⟨q, j, none⟩ = some x := fun j x hj => by
    have := World.ownsRow.cells (g := q) h.own rfl j x hj
    have hadd : (⟨q, 0, none⟩ : Addr).add j = ⟨q, j, none⟩ := by unfold Addr.add; split <;> simp_all
    rw [hadd] at this; exact this
  rw [phAt_eq hi]
  exact ⟨hc _ _ (flatP_at l i hi 0 (by omega)), hc _ _ (flatP_at l i hi 1 (by omega)), hc _ _ (flatP_at l i hi 2 (by omega)), hc _ _ (flatP_at l i hi 3 (by omega)), hc _ _ (flatP_at l i hi 4 (by omega)), hc _ _ (flatP_at l i hi 5 (by omega))⟩
theorem PrRe.base {w w0 : World} {Q : Nat} {x0 y0 z0 x1 y1 z1 step : Int} {vl vh : Value} {cap : Int} {l : List Ph} {vq : Value} {u : World} (h : PrRe w Q x0 y0 z0 x1 y1 z1 step vl vh cap l vq u) (hg : w0.grownBy w none) : PrRe w0 Q x0 y0 z0 x1 y1 z1 step vl vh cap l vq u :=
  ⟨h.prob, h.own, gb_trans hg h.gr, Nat.le_trans hg.size h.new⟩
/-- The problem of block Q gets a row of its own. -/
theorem PrRe.mk9 {w u u' : World} {Q : Nat} {x0 y0 z0 x1 y1 z1 step : Int} {vl vh vp vq : Value} {cap : Int} {l : List Ph} {N : Nat} (hQ : u.heap[Q]? = some (.cells #[.int .i64 x0, .int .i64 y0, .int .i64 z0, .int .i64 x1, .int .i64 y1, .int .i64 z1, .int .i64 step, vl, vh, vp, .int .i64 cap] 36 (0, 0)))
    (hw : w.grownBy u none) (hn : w.heap.size ≤ Q) (hg : u.grownBy u' none) (ho : u'.ownsRow N 59 6 vq l.length (flatP l)) (hN : Q + 1 ≤ N) : PrRe w Q x0 y0 z0 x1 y1 z1 step vl vh cap l vq (u'.setCell ⟨Q, 9, none⟩ vq) := by
  have hQ' := block_kept hg hQ rfl
  have sgr : u'.grownBy (u'.setCell ⟨Q, 9, none⟩ vq) (some Q) := gb_setCell (gb_refl _ _) (.inr rfl) _
  refine ⟨set_block hQ' 9 vq, ?_, gb_setCell (gb_trans hw hg) (.inl hn) _, hn⟩
  have ho' : u'.ownsRow (Q + 1) 59 6 vq l.length (flatP l) := ⟨ho.1, ho.2.imp id (fun ⟨g, cp, cur, e1, e2, e3⟩ => ⟨g, cp, cur, e1, by omega, e3⟩)⟩
  exact ho'.kept sgr (.inr (fun e => by have := (ho'.lt Q e).1; omega))
theorem oneCells (l : List Ph) : ∀ u ∈ flatP l, u.oneCell' = true := by
  intro u hu
  unfold flatP at hu
  obtain ⟨a, -, h⟩ := List.mem_flatMap.1 hu
  simp only [Ph.cells, List.mem_cons, List.not_mem_nil, or_false] at h
  rcases h with rfl | rfl | rfl | rfl | rfl | rfl <;> rfl
/-- append([]T{}, x...), x no empty row. -/
theorem wpList_copyAt {P : Program} {w : World} {ops : Array Oper} {rest : List Oper} {o : Oper} {a : Act} {Q : Exit → Act → World → Prop} (hgd : o.guard = none) (s x : Operand) (t : TypeId)
    (ho : o.op = .call { callee := .builtin .append, args := #[s, x], argTypes := #[t, t] })
    (e : TypeId) (z : Value) (size bytes : Nat) (ht : P.underlying t = some (.slice e)) (hinfo : (P.info? e).map (fun i => (i.zero, i.size, i.bytes)) = some (some z, size, bytes)) (hzs : z.cells.size = size) (hsz : 0 < size)
    (c : Nat) (hs : a.eval s = .slice (some ⟨c, 0, none⟩) 0 0)
    (b off n cap : Nat) (news : List Value) (hx : a.eval x = .slice (some ⟨b, off, none⟩) n cap) (hn0 : 0 < n) (hl : news.length = n * size) (hc : ∀ j u, news[j]? = some u → w.cell? ⟨b, off + j, none⟩ = some u) (h1 : ∀ u ∈ news, u.oneCell' = true)
    (hn1 : n ≤ 1000000) (hbytes : n * bytes ≤ 140737488355328)
    (h : ∀ g gc w', w'.ownsRow w.heap.size e size (.slice (some ⟨g, 0, none⟩) n gc) n news → w.grownBy w' none → wpList P ops Q rest (a.put o.dst (.slice (some ⟨g, 0, none⟩) n gc)) w') : wpList P ops Q (o :: rest) a w := by
  obtain ⟨i0, hi, hz0, hz1, hz2⟩ := info_parts hinfo
  refine wpList_append_grows w hgd s x t ho e i0 z size bytes ht hi hz0 hz1 hz2 hzs hsz (some ⟨c, 0, none⟩) 0 0 [] hs (fun h => by cases h) (by simp) (fun b _ j u hj => by simp at hj) ⟨b, off, none⟩ n cap news hx hl (fun j u hj => by rw [Addr.add_lit]; exact hc j u hj) h1 (by omega) (by unfold maxLen; omega) (by rwa [Nat.zero_add]) (fun v' w' h2 h3 => ?_)
  rw [Nat.zero_add, List.nil_append] at h2
  obtain ⟨g, gc, rfl, -, -⟩ := h2.form hn0
  exact h g gc w' h2 h3

/-- Two locations that are the same. -/
theorem run_eql12 (c0 c1 c2 c3 c4 c5 c6 c7 c8 c9 c10 c11 : Int) (w : World) :
    (binOp .eql 28 (.agg #[.int .i64 c0, .int .i64 c1, .int .i64 c2, .int .i64 c3, .int .i64 c4, .int .i64 c5, .int .i64 c6, .int .i64 c7, .int .i64 c8, .int .i64 c9, .int .i64 c10, .int .i64 c11]) (.agg #[.int .i64 c0, .int .i64 c1, .int .i64 c2, .int .i64 c3, .int .i64 c4, .int .i64 c5, .int .i64 c6, .int .i64 c7, .int .i64 c8, .int .i64 c9, .int .i64 c10, .int .i64 c11])).run Try.prog w = .ok (.bool true) w := by
  simp [go_sem]
end LSwp
end Go.Proofs.Ytcealhikmbchoaa
