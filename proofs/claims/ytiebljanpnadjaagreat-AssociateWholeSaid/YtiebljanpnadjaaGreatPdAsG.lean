/- AsG -/
import Derived.Test.YtiebljanpnadjaaGreatPdAsR
namespace Go.Proofs.YtiebljanpnadjaaGreat
set_option linter.all false
open Go.RowKit Rg
theorem filt_nil (L : List Nat) : L.filter (fun i => decide (i ∉ ([] : List Nat))) = L := by simp
/-- One more is taken out. -/
theorem filt_step {L T : List Nat} {x : Nat} (hnd : L.Nodup) (hx : x ∈ L) (hT : x ∉ T) : ∃ r1 r2, L.filter (fun i => decide (i ∉ T)) = r1 ++ x :: r2 ∧ L.filter (fun i => decide (i ∉ T ++ [x])) = r1 ++ r2 := by
  have hm : x ∈ L.filter (fun i => decide (i ∉ T)) := List.mem_filter.2 ⟨hx, by simpa using hT⟩
  obtain ⟨r1, r2, e⟩ := List.append_of_mem hm
  refine ⟨r1, r2, e, ?_⟩
  have hn : (L.filter (fun i => decide (i ∉ T))).Nodup := hnd.filter _
  have e2 : L.filter (fun i => decide (i ∉ T ++ [x])) = (L.filter (fun i => decide (i ∉ T))).filter (fun i => decide (i ≠ x)) := by
    rw [List.filter_filter]
    refine List.filter_congr fun i _ => ?_
    simp [and_comm]
  rw [e2, e, List.filter_append, List.filter_cons]
  rw [e] at hn
  have h1 : ∀ i ∈ r1, i ≠ x := fun i hi h => by
    subst h
    exact (List.nodup_append.1 hn).2.2 i hi i (by simp) rfl
  have h2 : ∀ i ∈ r2, i ≠ x := fun i hi h => by
    subst h
    exact (List.nodup_cons.1 (List.nodup_append.1 hn).2.1).1 hi
  rw [List.filter_eq_self.2 (fun i hi => by simpa using h1 i hi), List.filter_eq_self.2 (fun i hi => by simpa using h2 i hi)]
  simp
/-- What a round keeps while it makes a group: the group's block is X, its members' row lies from E on, the places are mw. -/
structure GrAt (wo : World) (B gn gb n cb : Nat) (rest : List Nat) (gs : List Grv) (lf : List Nat) (gv lv : Value) (X E : Nat) (mv : Value) (ms : List Nat) (px py pz pt : Int) (mw : Value) (M : List Nat) (u : World) : Prop where
  aa : AsAt wo B gn gb n cb rest gs lf gv lv u
  xb : u.heap[X]? = some (.cells #[mv, .int .i64 px, .int .i64 py, .int .i64 pz, .int .i64 pt] 53 (0, 0))
  ow : u.ownsRow E 3 1 mv ms.length (vi ms)
  lt : B ≤ X ∧ X < E ∧ E ≤ u.heap.size
  fr : AsFree gn gb cb gs gv lv X
  fo : ∀ q, E ≤ q → AsFree gn gb cb gs gv lv q
  mm : Sl u mw (M.map (fun (i : Nat) => (i : Int)))
  mb : ∀ b off len cap, mw = .slice (some ⟨b, off, none⟩) len cap → B ≤ b ∧ b < X
section
variable {wo : World} {B gn gb n cb : Nat} {rest : List Nat} {gs : List Grv} {lf : List Nat} {gv lv : Value} {X E : Nat} {mv : Value} {ms : List Nat} {px py pz pt : Int} {mw : Value} {M : List Nat} {u u' : World}
theorem GrAt.later (h : GrAt wo B gn gb n cb rest gs lf gv lv X E mv ms px py pz pt mw M u) (hg : u.grownBy u' none) : GrAt wo B gn gb n cb rest gs lf gv lv X E mv ms px py pz pt mw M u' :=
  ⟨h.aa.later hg, block_kept hg h.xb rfl, owns_keep h.ow hg, ⟨h.lt.1, h.lt.2.1, Nat.le_trans h.lt.2.2 hg.size⟩, h.fr, h.fo, h.mm.after hg, h.mb⟩
/-- A group begins. -/
theorem GrAt.start (h : AsAt wo B gn gb n cb rest gs lf gv lv u) {X : Nat} (hX : B ≤ X) (hg : u.grownBy u' none) (hs : u.heap.size = X) (hs2 : u'.heap.size = X + 1)
    (hx : u'.heap[X]? = some (.cells #[.slice none 0 0, .int .i64 px, .int .i64 py, .int .i64 pz, .int .i64 pt] 53 (0, 0))) (hm : Sl u mw (M.map (fun (i : Nat) => (i : Int)))) (hb : ∀ b off len cap, mw = .slice (some ⟨b, off, none⟩) len cap → B ≤ b ∧ b < X) :
    GrAt wo B gn gb n cb rest gs lf gv lv X (X + 1) (.slice none 0 0) [] px py pz pt mw M u' :=
  ⟨h.later hg, hx, World.ownsRow_nil _ _ _ _, ⟨hX, by omega, by omega⟩, h.free (by omega), fun q hq => h.free (by omega), hm.after hg, hb⟩
/-- The chain alone has changed. -/
theorem GrAt.chain {rest' : List Nat} {wm : World} (h : GrAt wo B gn gb n cb rest gs lf gv lv X E mv ms px py pz pt mw M u) (h1 : u.grownBy wm (some gn)) (h2 : wm.grownBy u' (some gb)) (hc : ChAt gn gb n rest' u') : GrAt wo B gn gb n cb rest' gs lf gv lv X E mv ms px py pz pt mw M u' := by
  have hl := h.lt; have hf := h.fr.a
  have hl2 := h.aa.lt
  refine ⟨h.aa.chain h1 h2 hc, block_keptp h2 (block_keptp h1 h.xb hf.1) hf.2.1, owns_keepp (owns_keepp h.ow h1 (by omega)) h2 (by omega), ⟨hl.1, hl.2.1, Nat.le_trans hl.2.2 (Nat.le_trans h1.size h2.size)⟩, h.fr, h.fo, ?_, h.mb⟩
  refine (h.mm.later h1 fun b off len cap e _ => ?_).later h2 fun b off len cap e _ => ?_
  · have := h.mb b off len cap e; simp; omega
  · have := h.mb b off len cap e; simp; omega
/-- One more member. -/
theorem GrAt.push {j : Nat} {mv' : Value} {w1 : World} (h : GrAt wo B gn gb n cb rest gs lf gv lv X E mv ms px py pz pt mw M u) (hown : w1.ownsRow E 3 1 mv' (ms.length + 1) (vi ms ++ [.int .i64 (j : Int)])) (hg : u.grownBy w1 mv.ownBlock) :
    w1.heap[X]? = some (.cells #[mv, .int .i64 px, .int .i64 py, .int .i64 pz, .int .i64 pt] 53 (0, 0)) ∧ GrAt wo B gn gb n cb rest gs lf gv lv X E mv' (ms ++ [j]) px py pz pt mw M (w1.setCell ⟨X, 0, none⟩ mv') := by
  have hl := h.lt; have hl2 := h.aa.lt
  have own : ∀ g, mv.ownBlock = some g → E ≤ g := fun g e => (h.ow.lt g e).1
  have hXne : mv.ownBlock ≠ some X := fun e => by have := own X e; omega
  have hx1 : w1.heap[X]? = some (.cells #[mv, .int .i64 px, .int .i64 py, .int .i64 pz, .int .i64 pt] 53 (0, 0)) := (hg.block X (Array.getElem?_eq_some_iff.1 h.xb).1 (fun e => hXne e.symm)).trans h.xb
  have hset : w1.grownBy (w1.setCell ⟨X, 0, none⟩ mv') (some X) := gb_setCell (gb_refl _ _) (.inr rfl) _
  have ha1 : AsAt wo B gn gb n cb rest gs lf gv lv w1 := by
    cases hb : mv.ownBlock with
    | none => rw [hb] at hg; exact h.aa.later hg
    | some q => rw [hb] at hg; have := own q hb; exact h.aa.far hg (h.fo q this) (by omega)
  have hm1 : Sl w1 mw (M.map (fun (i : Nat) => (i : Int))) := h.mm.later hg fun b off len cap e _ e2 => by have := own b e2.symm; have := h.mb b off len cap e; omega
  have e : vi (ms ++ [j]) = vi ms ++ [.int .i64 (j : Int)] := by simp [vi]
  refine ⟨hx1, ha1.far hset h.fr (by omega), set_block hx1 0 mv', ?_, ⟨hl.1, hl.2.1, Nat.le_trans hl.2.2 (Nat.le_trans hg.size hset.size)⟩, h.fr, h.fo, hm1.later hset fun b off len cap e _ => (by have := h.mb b off len cap e; simp; omega), h.mb⟩
  rw [List.length_append, List.length_singleton, e]
  exact owns_keepp hown hset hl.2.1
/-- The members are sorted. -/
theorem GrAt.sorted (h : GrAt wo B gn gb n cb rest gs lf gv lv X E mv ms px py pz pt mw M u) (hg : u.grownBy u' mv.ownBlock) : AsAt wo B gn gb n cb rest gs lf gv lv u' ∧ u'.heap[X]? = some (.cells #[mv, .int .i64 px, .int .i64 py, .int .i64 pz, .int .i64 pt] 53 (0, 0)) ∧
    ∀ b off len cap, mv = .slice (some ⟨b, off, none⟩) len cap → B ≤ b ∧ b < u'.heap.size ∧ gv.ownBlock ≠ some b ∧ lv.ownBlock ≠ some b := by
  have hl := h.lt; have hl2 := h.aa.lt
  have own : ∀ g, mv.ownBlock = some g → E ≤ g := fun g e => (h.ow.lt g e).1
  have hXne : mv.ownBlock ≠ some X := fun e => by have := own X e; omega
  refine ⟨?_, (hg.block X (Array.getElem?_eq_some_iff.1 h.xb).1 (fun e => hXne e.symm)).trans h.xb, fun b off len cap e => ?_⟩
  · cases hb : mv.ownBlock with
    | none => rw [hb] at hg; exact h.aa.later hg
    | some q => rw [hb] at hg; have := own q hb; exact h.aa.far hg (h.fo q this) (by omega)
  · have eb : mv.ownBlock = some b := by rw [e]; rfl
    have hf := h.fo b (own b eb)
    exact ⟨by have := own b eb; omega, Nat.lt_of_lt_of_le (h.ow.lt b eb).2 hg.size, hf.g, hf.l⟩
end
end Go.Proofs.YtiebljanpnadjaaGreat
