/- AwkM -/
import Derived.Test.YtlddgafbgaaiiaaGreatDoorTsAwkH
set_option linter.all false
set_option maxRecDepth 100000
set_option maxHeartbeats 0
namespace Go.Proofs.YtlddgafbgaaiiaaGreatDoor.Awk
open Go Go.Proofs Go.Proofs.YtlddgafbgaaiiaaGreatDoor Go.Proofs.YtlddgafbgaaiiaaGreatDoor.Evl
noncomputable def EV0 : CallT := evG Tryz.prog tab HK0 2000 40
noncomputable def memR (f : Nat) (args : List AV) (r : AV) : Bool := match EV0 f args s0 with
  | some (v, _) => eqA v r
  | none => false
theorem mem0 : memR 82 [.o (.c (.p (.v (.string ⟨#[83, 0, 0, 0, 0, 0, 0, 0, 1]⟩))))] (.o (.c (i 3671153035))) = true := by kernel_rfl
theorem mem1 : memR 82 [.o (.c (.p (.v (.string ⟨#[68, 0, 0, 0, 0, 0, 0, 0, 0, 83, 78, 1, 0, 0, 0, 0, 0, 0, 0, 0, 0, 232, 212, 165, 16, 0, 0, 1, 0, 1, 0, 0, 0, 0, 0, 0, 0, 3, 11, 1, 71, 82, 46, 70, 85, 82, 46, 46, 72, 72, 90, 2, 192, 0, 0, 0, 0, 0, 1, 0, 0, 1, 44, 0, 0, 255, 253, 0, 0, 1, 46, 0, 0, 0, 0, 0, 0, 0, 0, 0, 0, 0, 0, 0, 0, 0, 0, 0, 0, 0, 0, 0, 0, 0, 0, 0, 0, 0, 0, 0, 0, 0, 0, 0, 0, 0, 0, 0, 0, 0, 0, 0, 0, 0, 0, 11, 151, 27, 2]⟩))))] (.o (.c (i 3332037224))) = true := by kernel_rfl
theorem mem2 : memR 166 [.o (.c (z))] (.o (.c (z))) = true := by kernel_rfl
theorem mem3 : memR 133 [.o (.c (z))] (.o (.c (b true))) = true := by kernel_rfl
theorem mem4 : memR 86 [.o (.agg [z, z])] (.o (.c (b true))) = true := by kernel_rfl
theorem mem5 : memR 134 [.o (.c (z)), .o (.c (z))] (.o (.c (z))) = true := by kernel_rfl
theorem mem6 : memR 187 [.o (.c (z)), .o (.c (z))] (.o (.c (z))) = true := by kernel_rfl
theorem mem7 : memR 193 [.o (.c (z)), .o (.c (i 16))] (.o (.c (z))) = true := by kernel_rfl
theorem mem8 : memR 179 [.o (.agg [i 0, i 1])] (.o (.c (b true))) = true := by kernel_rfl
theorem mem9 : memR 211 [.o (.c (.p (.v (.int .u64 1))))] (.o (.c (i 1))) = true := by kernel_rfl
theorem mem10 : memR 211 [.o (.c (.p (.v (.int .u64 0))))] (.o (.c (i 0))) = true := by kernel_rfl
theorem mem11 : memR 207 [.o (.agg [i 0, i 1])] (.o (.c (b false))) = true := by kernel_rfl
theorem mem12 : memR 207 [.o (.agg [i 0, i 0])] (.o (.c (b true))) = true := by kernel_rfl
theorem mem13 : memR 179 [.o (.agg [i 0, i 0])] (.o (.c (b false))) = true := by kernel_rfl
theorem mem14 : memR 132 [.o (.c (.p (.v (.string ⟨#[83, 78, 1, 0, 0, 0, 0, 0, 0, 0, 0, 0, 232, 212, 165, 16, 0, 0, 1, 0, 1, 0, 0, 0, 0, 0, 0, 0, 3, 11, 1, 71, 82, 46, 70, 85, 82, 46, 46, 72, 72, 90, 2, 192, 0, 0, 0, 0, 0, 1, 0, 0, 1, 44, 0, 0, 255, 253, 0, 0, 1, 46, 0, 0, 0, 0, 0, 0, 0, 0, 0, 0, 0, 0, 0, 0, 0, 0, 0, 0, 0, 0, 0, 0, 0, 0, 0, 0, 0, 0, 0, 0, 0, 0, 0, 0, 0, 0, 0, 0, 0, 0, 0, 0, 0, 0, 11, 151, 27, 2]⟩))))] (.o (.c (b false))) = true := by kernel_rfl
theorem mem15 : memR 89 [.o (.c (i 1)), .o (.c (i 0)), .o (.c (i 1099511627776))] (.o (.c (b true))) = true := by kernel_rfl
theorem mem16 : memR 89 [.o (.c (i 0)), .o (.c (i 0)), .o (.c (i 1099511627776))] (.o (.c (b true))) = true := by kernel_rfl
theorem mem17 : memR 89 [.o (.c (i 2)), .o (.c (i 0)), .o (.c (i 1099511627776))] (.o (.c (b true))) = true := by kernel_rfl
theorem mem18 : memR 89 [.o (.c (i 5)), .o (.c (i 0)), .o (.c (i 1099511627776))] (.o (.c (b true))) = true := by kernel_rfl
theorem mem19 : memR 89 [.o (.c (i 6)), .o (.c (i 0)), .o (.c (i 1099511627776))] (.o (.c (b true))) = true := by kernel_rfl
theorem mem20 : memR 83 [.o (.c (i 4)), .o (.c (i 1)), .o (.c (i 256))] (.o (.c (b true))) = true := by kernel_rfl
theorem mem21 : memR 83 [.o (.c (i 0)), .o (.c (i 0)), .o (.c (i 1073741825))] (.o (.c (b true))) = true := by kernel_rfl
theorem mem22 : memR 92 [.o (.c (z))] (.o (.c (z))) = true := by kernel_rfl
theorem mem23 : memR 91 [.o (.c (z))] (.o (.c (z))) = true := by kernel_rfl
theorem mem24 : memR 47 [.o (.c (i 2)), .o (.c (i 1)), .o (.c (i 4096))] (.o (.c (b true))) = true := by kernel_rfl
theorem mem25 : memR 81 [.o (.c (i 4)), .o (.c (i 1)), .o (.c (i 7))] (.o (.c (b true))) = true := by kernel_rfl
theorem mem26 : memR 51 [.o (.agg [b false, i 0, i 0])] (.o (.c (b true))) = true := by kernel_rfl
theorem mem27 : memR 45 [.o (.c (.p (.v (.string ⟨#[83, 0, 0, 0, 0, 0, 0, 0, 1]⟩))))] (.o (.c (.p (.v (.string ⟨#[83, 0, 0, 0, 0, 0, 0, 0, 1, 139, 89, 209, 218]⟩))))) = true := by kernel_rfl
theorem mem28 : memR 153 [.o (.c (.p (.v (.string ⟨#[0, 0, 0, 0, 0, 0, 0, 1]⟩)))), .o (.c (i 0)), .o (.c (i 4))] (.tup [(.c (i 0)), (.c (i 0))]) = true := by kernel_rfl
theorem mem29 : memR 153 [.o (.c (.p (.v (.string ⟨#[0, 0, 0, 0, 0, 0, 0, 1]⟩)))), .o (.c (i 4)), .o (.c (i 4))] (.tup [(.c (i 1)), (.c (i 0))]) = true := by kernel_rfl
theorem mem30 : memR 140 [.o (.c (.p (.v (.string ⟨#[83, 0, 0, 0, 0, 0, 0, 0, 1, 139, 89, 209, 218]⟩))))] (.tup [(.c (i 0)), (.c (i 0)), (.c (.p (.v (.string ⟨#[]⟩)))), (.c (i 3))]) = true := by kernel_rfl
theorem mem31 : memR 144 [.o (.c (.p (.v (.string ⟨#[83, 0, 0, 0, 0, 0, 0, 0, 1, 139, 89, 209, 218]⟩))))] (.tup [(.c (i 0)), (.c (i 1)), (.c (i 0))]) = true := by kernel_rfl
theorem mem32 : memR 87 [.o (.agg [i 0, i 1, z])] (.o (.c (b true))) = true := by kernel_rfl
theorem mem33 : memR 87 [.o (.agg [i 0, i 0, z])] (.o (.c (b true))) = true := by kernel_rfl
theorem mem34 : memR 183 [.o (.c (.p (.v (.string ⟨#[83, 0, 0, 0, 0, 0, 0, 0, 1, 139, 89, 209, 218]⟩)))), .o (.c (.p (.v (.string ⟨#[68]⟩)))), .o (.c (i 13))] (.tup [(.c (.p (.v (.string ⟨#[]⟩)))), (.c (i 3))]) = true := by kernel_rfl
theorem mem35 : memR 183 [.o (.c (.p (.v (.string ⟨#[83, 0, 0, 0, 0, 0, 0, 0, 1, 139, 89, 209, 218]⟩)))), .o (.c (.p (.v (.string ⟨#[83]⟩)))), .o (.c (i 13))] (.tup [(.c (.p (.v (.string ⟨#[0, 0, 0, 0, 0, 0, 0, 1]⟩)))), (.c (i 0))]) = true := by kernel_rfl
theorem mem36 : memR 58 [.o (.c (.p (.v (.string ⟨#[83, 0, 0, 0, 0, 0, 0, 0, 1, 139, 89, 209, 218]⟩))))] (.o (.c (b true))) = true := by kernel_rfl
theorem mem37 : memR 87 [.o (.agg [i 1, i 1, z])] (.o (.c (b true))) = true := by kernel_rfl
theorem mem38 : memR 87 [.o (.agg [i 1, i 0, z])] (.o (.c (b true))) = true := by kernel_rfl
theorem mem39 : memR 87 [.o (.agg [i 2, i 0, z])] (.o (.c (b true))) = true := by kernel_rfl
theorem mem40 : memR 87 [.o (.agg [i 3, i 0, z])] (.o (.c (b true))) = true := by kernel_rfl
theorem mem41 : memR 191 [.o (.c (z))] (.tup [(.agg [b false, i 0, i 0]), (.c (z))]) = true := by kernel_rfl
theorem mem42 : memR 47 [.o (.c (i 1)), .o (.c (i 0)), .o (.c (i 1))] (.o (.c (b true))) = true := by kernel_rfl
theorem mem43 : memR 89 [.o (.c (i 4)), .o (.c (i 0)), .o (.c (i 1099511627776))] (.o (.c (b true))) = true := by kernel_rfl
theorem mem44 : memR 89 [.o (.c (i 7)), .o (.c (i 0)), .o (.c (i 1099511627776))] (.o (.c (b true))) = true := by kernel_rfl
theorem mem45 : memR 130 [.o (.c (i 0)), .o (.c (.p (.v (.string ⟨#[82, 0, 0, 0, 0, 0, 0, 0, 1]⟩))))] (.o (.c (i 3450490312))) = true := by kernel_rfl
theorem mem46 : memR 223 [.o (.agg [z, z])] (.o (.c (i 0))) = true := by kernel_rfl
theorem mem47 : memR 87 [.o (.agg [i 2, i 1, z])] (.o (.c (b true))) = true := by kernel_rfl
theorem mem48 : memR 184 [.o (.c (.p (.v (.string ⟨#[0, 0, 0, 0, 0, 0, 0, 1]⟩)))), .o (.c (i 0))] (.o (.c (i 0))) = true := by kernel_rfl
theorem mem49 : memR 184 [.o (.c (.p (.v (.string ⟨#[0, 0, 0, 0, 0, 0, 0, 1]⟩)))), .o (.c (i 1))] (.o (.c (i 1))) = true := by kernel_rfl
theorem mem50 : memR 142 [.o (.agg [z, z]), .o (.c (i 0))] (.tup [(.agg [z, z]), (.c (i 0))]) = true := by kernel_rfl
theorem mem51 : memR 87 [.o (.agg [i 4, i 0, z])] (.o (.c (b true))) = true := by kernel_rfl
theorem mem52 : memR 93 [.o (.c (z))] (.o (.c (z))) = true := by kernel_rfl
theorem mem53 : memR 185 [.o (.c (i 0)), .o (.c (i 0)), .o (.c (i 1073741825))] (.o (.c (b true))) = true := by kernel_rfl
theorem mem54 : memR 89 [.o (.c (i 3)), .o (.c (i 0)), .o (.c (i 1099511627776))] (.o (.c (b true))) = true := by kernel_rfl
theorem mem55 : memR 47 [.o (.c (i 0)), .o (.c (i 0)), .o (.c (i 1073741824))] (.o (.c (b true))) = true := by kernel_rfl
theorem mem56 : memR 100 [.o (.agg [i 0, i 1, z])] (.tup [(.agg [i 1, i 1, z]), (.c (z)), (.c (i 0))]) = true := by kernel_rfl
theorem mem57 : memR 100 [.o (.agg [i 0, i 0, z])] (.tup [(.agg [i 1, i 0, z]), (.c (z)), (.c (i 0))]) = true := by kernel_rfl
theorem mem58 : memR 100 [.o (.agg [i 1, i 1, z])] (.tup [(.agg [i 2, i 1, z]), (.c (z)), (.c (i 0))]) = true := by kernel_rfl
theorem mem59 : memR 100 [.o (.agg [i 1, i 0, z])] (.tup [(.agg [i 2, i 0, z]), (.c (z)), (.c (i 0))]) = true := by kernel_rfl
theorem mem60 : memR 100 [.o (.agg [i 2, i 0, z])] (.tup [(.agg [i 3, i 0, z]), (.c (z)), (.c (i 0))]) = true := by kernel_rfl
theorem mem61 : memR 100 [.o (.agg [i 3, i 0, z])] (.tup [(.agg [i 4, i 0, z]), (.c (z)), (.c (i 0))]) = true := by kernel_rfl
theorem mem62 : memR 185 [.o (.c (i 16)), .o (.c (i 0)), .o (.c (i 256))] (.o (.c (b true))) = true := by kernel_rfl
theorem mem_all : ∀ r ∈ MEM, ∀ q ∈ r.2, memR r.1 q.1 q.2 = true := by
  unfold MEM
  simp only [List.forall_mem_cons]
  exact ⟨⟨mem0, mem1, by simp⟩, ⟨mem2, by simp⟩, ⟨mem3, by simp⟩, ⟨mem4, by simp⟩, ⟨mem5, by simp⟩, ⟨mem6, by simp⟩, ⟨mem7, by simp⟩, ⟨mem8, mem13, by simp⟩, ⟨mem9, mem10, by simp⟩, ⟨mem11, mem12, by simp⟩, ⟨mem14, by simp⟩, ⟨mem15, mem16, mem17, mem18, mem19, mem43, mem44, mem54, by simp⟩, ⟨mem20, mem21, by simp⟩, ⟨mem22, by simp⟩, ⟨mem23, by simp⟩, ⟨mem24, mem42, mem55, by simp⟩, ⟨mem25, by simp⟩, ⟨mem26, by simp⟩, ⟨mem27, by simp⟩, ⟨mem28, mem29, by simp⟩, ⟨mem30, by simp⟩, ⟨mem31, by simp⟩, ⟨mem32, mem33, mem37, mem38, mem39, mem40, mem47, mem51, by simp⟩, ⟨mem34, mem35, by simp⟩, ⟨mem36, by simp⟩, ⟨mem41, by simp⟩, ⟨mem45, by simp⟩, ⟨mem46, by simp⟩, ⟨mem48, mem49, by simp⟩, ⟨mem50, by simp⟩, ⟨mem52, by simp⟩, ⟨mem53, mem62, by simp⟩, ⟨mem56, mem57, mem58, mem59, mem60, mem61, by simp⟩, by simp⟩
theorem mem_pure : (MEM.all fun r => r.2.all fun q => q.1.all pureA && pureA q.2) = true := by kernel_rfl
theorem mem_fn : (MEM.all fun r => match Tryz.prog.funcs[r.1]? with
  | some fn => !(fn.name == "runtime.NumGoroutine") && fn.body.isSome
  | none => false) = true := by kernel_rfl
theorem HK_ok (N : Nat) : CallOk Tryz.prog N HK := by
  intro f args s v s' h
  unfold HK at h
  split at h
  · rename_i r hr
    simp only [Option.some.injEq] at h
    subst h
    exact HK0_ok N f args s _ _ hr
  · obtain ⟨x, hx, h⟩ := Option.map_eq_some_iff.1 h
    simp only [Prod.mk.injEq] at h
    obtain ⟨rfl, rfl⟩ := h
    obtain ⟨kl, hm1, hm2⟩ := memOf_ok hx
    have hp := List.all_eq_true.1 (List.all_eq_true.1 mem_pure _ hm1) _ hm2
    have hf := List.all_eq_true.1 mem_fn _ hm1
    have hv := mem_all _ hm1 _ hm2
    simp only [Bool.and_eq_true] at hp hf hv
    obtain ⟨hpa, hpx⟩ := hp
    have hpa := List.all_eq_true.1 hpa
    split at hf
    · rename_i fn hfn
      simp only [Bool.and_eq_true, Bool.not_eq_true'] at hf
      refine hk_of hfn hf.1 (by cases hb : fn.body with
        | none => rw [hb] at hf; cases hf.2
        | some _ => rfl) (fun m => (pureA_ok hpx m m).1) (fun m u hr ha => ?_)
      unfold memR at hv
      split at hv
      · rename_i y t' hc
        have hy := eqA_ok hv
        subst hy
        have hden : args.map (AV.den m) = args.map (AV.den m0) ∧ ∀ x ∈ args, x.ok m0 := ⟨List.map_congr_left fun a ha => (pureA_ok (hpa a ha) m m0).2, fun a ha => (pureA_ok (hpa a ha) m0 m0).1⟩
        rw [hden.1]
        refine (((evG_sound good mixed (HK0_ok u.heap.size) 2000 40 : CallOk Tryz.prog u.heap.size EV0) f args s0 y t' hc).2 m0 u ⟨fun n b hb => (leaf_at hb).elim, Tr.fits_none 7, fun n h => h.elim, fun n k b c hb => (leaf_at hb).elim⟩ (Nat.le_refl _) (fun n _ _ h => h) (fun n c hc => (leaf_at hc).elim) hden.2).mono ?_
        rintro e w' ⟨m', rfl, -, hd⟩
        rw [(pureA_ok hpx m' m).2]
        exact ⟨rfl, hd.os, hd.tape, hd.output, hd.size, fun b hb _ => hd.frame b hb fun n c hc => (leaf_at hc).elim⟩
      · cases hv
    · cases hf
end Go.Proofs.YtlddgafbgaaiiaaGreatDoor.Awk
