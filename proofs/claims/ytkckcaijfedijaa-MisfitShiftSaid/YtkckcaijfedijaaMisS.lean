/- Plain laws of MisfitShift: phases turned round and moved in time. -/
import Derived.Test.YtkckcaijfedijaaMisM
namespace Go.Proofs.Ytkckcaijfedijaa
set_option linter.all false
section LMisS
open Go.RowKit Rg

theorem term_cons {cap : Int} {phs : List Ph} {zs : List Zn} {a : Ph} {z : Zn} {t : Int} (k : Nat) : term cap (a :: phs) (z :: zs) t (k + 1) = term cap phs zs t k := by
  unfold term; simp
theorem costN_cons {cap : Int} {phs : List Ph} {zs : List Zn} {a : Ph} {z : Zn} {t : Int} : ∀ k, costN cap (a :: phs) (z :: zs) t (k + 1) = a.n * min cap (resid z t) + costN cap phs zs t k
  | 0 => by simp [costN, term]
  | k + 1 => by
    have h := costN_cons (cap := cap) (phs := phs) (zs := zs) (a := a) (z := z) (t := t) k
    rw [show costN cap (a :: phs) (z :: zs) t (k + 1 + 1) = costN cap (a :: phs) (z :: zs) t (k + 1) + term cap (a :: phs) (z :: zs) t (k + 1) from rfl, h, term_cons, show costN cap phs zs t (k + 1) = costN cap phs zs t k + term cap phs zs t k from rfl]
    omega
theorem cost_cons {cap : Int} {phs : List Ph} {zs : List Zn} {a : Ph} {z : Zn} {t : Int} : cost cap (a :: phs) (z :: zs) t = a.n * min cap (resid z t) + cost cap phs zs t := costN_cons phs.length
def movZ (s : Int) (z : Zn) : Zn := ⟨z.f + s, z.t + s⟩
def movP (s : Int) (a : Ph) : Ph := { a with e := a.e + s, l := a.l + s }
theorem resid_mov (z : Zn) (s t : Int) : resid (movZ s z) (t + s) = resid z t := by unfold resid movZ; simp only []; omega
theorem cost_rev {cap s t : Int} : ∀ (phs : List Ph) (zs : List Zn), zs.length = phs.length → cost cap (phs.reverse.map (movP s)) (zs.reverse.map (movZ s)) (t + s) = cost cap phs zs t
  | [], [], _ => rfl
  | a :: phs, z :: zs, h => by
    have hl : zs.length = phs.length := by simpa using h
    rw [List.reverse_cons, List.reverse_cons, List.map_append, List.map_append, List.map_singleton, List.map_singleton, cost_app (by simp; omega), cost_rev phs zs hl, cost_cons, resid_mov]
    show _ + a.n * _ = _
    omega
theorem mem_timesOf_rev {zs : List Zn} {s t : Int} : t + s ∈ timesOf (zs.reverse.map (movZ s)) ↔ t ∈ timesOf zs := by
  rw [mem_timesOf, mem_timesOf]
  constructor
  · rintro ⟨q, hq, e⟩
    obtain ⟨z, hz, rfl⟩ := List.mem_map.1 hq
    refine ⟨z, by simpa using hz, ?_⟩
    rcases e with e | e
    · exact .inl (by simp only [movZ] at e; omega)
    · exact .inr (by simp only [movZ] at e; omega)
  · rintro ⟨z, hz, e⟩
    refine ⟨movZ s z, List.mem_map.2 ⟨z, by simpa using hz, rfl⟩, ?_⟩
    rcases e with e | e
    · exact .inl (by simp only [movZ]; omega)
    · exact .inr (by simp only [movZ]; omega)
/-- The best time moves along, the misfit stays. -/
theorem shift_plain {cap s : Int} {phs : List Ph} {zs : List Zn} (h : 0 < zs.length) (hl : zs.length = phs.length) :
    (best cap (phs.reverse.map (movP s)) (zs.reverse.map (movZ s))).1 = (best cap phs zs).1 + s ∧ (best cap (phs.reverse.map (movP s)) (zs.reverse.map (movZ s))).2 = (best cap phs zs).2 := by
  obtain ⟨a1, a2, a3⟩ := best_spec (cap := cap) (phs := phs) h
  obtain ⟨b1, b2, b3⟩ := best_spec (cap := cap) (phs := phs.reverse.map (movP s)) (zs := zs.reverse.map (movZ s)) (by simpa using h)
  generalize (best cap phs zs).1 = t at *
  generalize (best cap phs zs).2 = c at *
  generalize (best cap (phs.reverse.map (movP s)) (zs.reverse.map (movZ s))).1 = u at *
  generalize (best cap (phs.reverse.map (movP s)) (zs.reverse.map (movZ s))).2 = d at *
  have hu : u - s ∈ timesOf zs := mem_timesOf_rev.1 (by rw [Int.sub_add_cancel]; exact b2)
  have x1 := a3 _ hu
  have x2 := b3 _ (mem_timesOf_rev.2 a2)
  have e1 := cost_rev (cap := cap) (s := s) (t := u - s) phs zs hl
  have e2 := cost_rev (cap := cap) (s := s) (t := t) phs zs hl
  rw [Int.sub_add_cancel] at e1
  rw [e2] at x2
  have k : c = d := by omega
  have y1 := x1.2 (by omega)
  have y2 := x2.2 (by omega)
  omega
/-- The problem whose phases are turned round and moved. -/
def Prob.moved (P : Prob) (s : Int) : Prob := { P with phs := P.phs.reverse.map (movP s) }
theorem goodPh.moved {a : Ph} (h : goodPh a) {s : Int} (h0 : 0 ≤ s) (h1 : s ≤ 1099511627776) : phP a.x a.y a.z (a.e + s) (a.l + s) a.n = true :=
  phP_iff.2 ⟨place_ok h.1 (by omega), by have := h.2.1; omega, by have := h.2.2.1; omega, by have := h.2.2.2.1; omega, h.2.2.2.2.1, by have := h.2.2.2.2.2; omega⟩
theorem Good.movedSound {P : Prob} (h : Good P) {s : Int} (h0 : 0 ≤ s) (h1 : s ≤ 1099511627776) : Sound (P.moved s) := by
  refine ⟨h.sound.vb, h.sound.ok, by simpa [Prob.moved] using h.sound.some, h.sound.cap, ?_⟩
  intro a ha
  obtain ⟨b, hb, rfl⟩ := List.mem_map.1 ha
  have hb : b ∈ P.phs := by simpa using hb
  exact ((h.near b hb).zE ((h.ph b hb).moved h0 h1)).1
theorem Good.movedZones {P : Prob} (h : Good P) {s : Int} (h0 : 0 ≤ s) (h1 : s ≤ 1099511627776) {b0 b1 b2 b3 b4 b5 : Int} (hw : wiP b0 b1 b2 b3 b4 b5 P.x0 P.y0 P.z0 P.x1 P.y1 P.z1 = true) :
    zonesE (P.moved s) b0 b1 b2 b3 b4 b5 = 0 ∧ zonesL (P.moved s) b0 b1 b2 b3 b4 b5 = (zonesL P b0 b1 b2 b3 b4 b5).reverse.map (movZ s) := by
  constructor
  · unfold zonesE
    rw [if_pos (sound_iff.2 (h.movedSound h0 h1)), if_pos (show wiP b0 b1 b2 b3 b4 b5 (P.moved s).x0 (P.moved s).y0 (P.moved s).z0 (P.moved s).x1 (P.moved s).y1 (P.moved s).z1 = true from hw)]
    refine errOf_zero.2 fun a ha => ?_
    obtain ⟨b, hb, rfl⟩ := List.mem_map.1 ha
    have hb : b ∈ P.phs := by simpa using hb
    exact (((h.near b hb).within hw).1.zE ((h.ph b hb).moved h0 h1)).1
  · unfold zonesL
    rw [← List.map_reverse, List.map_map]
    show (P.phs.reverse.map (movP s)).map _ = _
    rw [List.map_map]
    refine List.map_congr_left fun b hb => ?_
    have hb : b ∈ P.phs := by simpa using hb
    have hN := ((h.near b hb).within hw).1
    obtain ⟨-, e1, e2⟩ := hN.zE ((h.ph b hb).moved h0 h1)
    obtain ⟨-, e3, e4⟩ := hN.zE (h.ph b hb).ok
    show (⟨_, _⟩ : Zn) = ⟨_, _⟩
    congr 1
    · show znF _ _ _ _ _ _ _ _ _ b.x b.y b.z (b.e + s) (b.l + s) b.n = znF _ _ _ _ _ _ _ _ _ b.x b.y b.z b.e b.l b.n + s
      refine e1.trans ?_; rw [e3]; omega
    · show znT _ _ _ _ _ _ _ _ _ b.x b.y b.z (b.e + s) (b.l + s) b.n = znT _ _ _ _ _ _ _ _ _ b.x b.y b.z b.e b.l b.n + s
      refine e2.trans ?_; rw [e4]; omega
end LMisS
end Go.Proofs.Ytkckcaijfedijaa
