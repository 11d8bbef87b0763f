/- AwkR0 AwkR1 AwkR3 AwkR4 AwkR6 AwkR10 AwkS -/
import Derived.Test.YtlddgafbgaaiiaaGreatDoorTsAwkR
import Derived.Test.YtlddgafbgaaiiaaGreatDoorTsAwkR2
import Derived.Test.YtlddgafbgaaiiaaGreatDoorTsAwkR5
import Derived.Test.YtlddgafbgaaiiaaGreatDoorTsAwkR7
import Derived.Test.YtlddgafbgaaiiaaGreatDoorTsAwkR8
import Derived.Test.YtlddgafbgaaiiaaGreatDoorTsAwkR9
set_option linter.all false
set_option maxRecDepth 100000
set_option maxHeartbeats 0
namespace Go.Proofs.YtlddgafbgaaiiaaGreatDoor.Awk
open Go Go.Proofs Go.Proofs.YtlddgafbgaaiiaaGreatDoor Go.Proofs.YtlddgafbgaaiiaaGreatDoor.Evl
theorem run0 : probe (V1.map (·.1)) (B1.map (·.1)) (evC Tryz.prog tab EV 105 2000 (nthC 0 body) (layK V0) ⟨layB B0, 0, 16384⟩) = some (V1.map fun p => some p.2, B1.map fun p => some p.2, 0) := by kernel_rfl
end Go.Proofs.YtlddgafbgaaiiaaGreatDoor.Awk
set_option linter.all false
set_option maxRecDepth 100000
set_option maxHeartbeats 0
namespace Go.Proofs.YtlddgafbgaaiiaaGreatDoor.Awk
open Go Go.Proofs Go.Proofs.YtlddgafbgaaiiaaGreatDoor Go.Proofs.YtlddgafbgaaiiaaGreatDoor.Evl
theorem run1 : probe (V2.map (·.1)) (B2.map (·.1)) (evC Tryz.prog tab EV 105 2000 (nthC 1 body) (layK V1) ⟨layB B1, 0, 16384⟩) = some (V2.map fun p => some p.2, B2.map fun p => some p.2, 2) := by kernel_rfl
end Go.Proofs.YtlddgafbgaaiiaaGreatDoor.Awk
set_option linter.all false
set_option maxRecDepth 100000
set_option maxHeartbeats 0
namespace Go.Proofs.YtlddgafbgaaiiaaGreatDoor.Awk
open Go Go.Proofs Go.Proofs.YtlddgafbgaaiiaaGreatDoor Go.Proofs.YtlddgafbgaaiiaaGreatDoor.Evl
theorem run3 : probe (V4.map (·.1)) (B4.map (·.1)) (evC Tryz.prog tab EV 105 2000 (nthC 3 body) (layK V3) ⟨layB B3, 118, 16384⟩) = some (V4.map fun p => some p.2, B4.map fun p => some p.2, 125) := by kernel_rfl
end Go.Proofs.YtlddgafbgaaiiaaGreatDoor.Awk
set_option linter.all false
set_option maxRecDepth 100000
set_option maxHeartbeats 0
namespace Go.Proofs.YtlddgafbgaaiiaaGreatDoor.Awk
open Go Go.Proofs Go.Proofs.YtlddgafbgaaiiaaGreatDoor Go.Proofs.YtlddgafbgaaiiaaGreatDoor.Evl
theorem run4 : probe (V5.map (·.1)) (B5.map (·.1)) (evC Tryz.prog tab EV 105 2000 (nthC 4 body) (layK V4) ⟨layB B4, 125, 16384⟩) = some (V5.map fun p => some p.2, B5.map fun p => some p.2, 151) := by kernel_rfl
end Go.Proofs.YtlddgafbgaaiiaaGreatDoor.Awk
set_option linter.all false
set_option maxRecDepth 100000
set_option maxHeartbeats 0
namespace Go.Proofs.YtlddgafbgaaiiaaGreatDoor.Awk
open Go Go.Proofs Go.Proofs.YtlddgafbgaaiiaaGreatDoor Go.Proofs.YtlddgafbgaaiiaaGreatDoor.Evl
theorem run6 : probe (V7.map (·.1)) (B7.map (·.1)) (evC Tryz.prog tab EV 105 2000 (nthC 6 body) (layK V6) ⟨layB B6, 984, 16384⟩) = some (V7.map fun p => some p.2, B7.map fun p => some p.2, 984) := by kernel_rfl
end Go.Proofs.YtlddgafbgaaiiaaGreatDoor.Awk
set_option linter.all false
set_option maxRecDepth 100000
set_option maxHeartbeats 0
namespace Go.Proofs.YtlddgafbgaaiiaaGreatDoor.Awk
open Go Go.Proofs Go.Proofs.YtlddgafbgaaiiaaGreatDoor Go.Proofs.YtlddgafbgaaiiaaGreatDoor.Evl
theorem run10 : probe (V11.map (·.1)) (B11.map (·.1)) (evC Tryz.prog tab EV 105 2000 (nthC 10 body) (layK V10) ⟨layB B10, 1329, 16384⟩) = some (V11.map fun p => some p.2, B11.map fun p => some p.2, 1329) := by kernel_rfl
end Go.Proofs.YtlddgafbgaaiiaaGreatDoor.Awk
set_option linter.all false
set_option maxRecDepth 100000
set_option maxHeartbeats 0
namespace Go.Proofs.YtlddgafbgaaiiaaGreatDoor.Awk
open Go Go.Proofs Go.Proofs.YtlddgafbgaaiiaaGreatDoor Go.Proofs.YtlddgafbgaaiiaaGreatDoor.Evl
noncomputable def fn : Func := (Tryz.prog.funcs[(4 : Nat)]?).getD default
theorem fn_at : Tryz.prog.funcs[(4 : Nat)]? = some fn := by kernel_rfl
theorem fn_body : fn.body = some (.seq (nthC 0 body) (.seq (nthC 1 body) (.seq (nthC 2 body) (.seq (nthC 3 body) (.seq (nthC 4 body) (.seq (nthC 5 body) (.seq (nthC 6 body) (.seq (nthC 7 body) (.seq (nthC 8 body) (.seq (nthC 9 body) (.seq (nthC 10 body) (nthC 11 body)))))))))))) := by kernel_rfl
theorem fn_ret : nthC 11 body = .ret := by kernel_rfl
theorem fn_tmps : fn.ntmps = 105 := by kernel_rfl
theorem fn_res : fn.results = #[.tmp 0] := by kernel_rfl
theorem key0 : keysOk V0 B0 0 = true := by kernel_rfl
theorem key1 : keysOk V1 B1 0 = true := by kernel_rfl
theorem key2 : keysOk V2 B2 2 = true := by kernel_rfl
theorem key3 : keysOk V3 B3 118 = true := by kernel_rfl
theorem key4 : keysOk V4 B4 125 = true := by kernel_rfl
theorem key5 : keysOk V5 B5 151 = true := by kernel_rfl
theorem key6 : keysOk V6 B6 984 = true := by kernel_rfl
theorem key7 : keysOk V7 B7 984 = true := by kernel_rfl
theorem key8 : keysOk V8 B8 1169 = true := by kernel_rfl
theorem key9 : keysOk V9 B9 1223 = true := by kernel_rfl
theorem key10 : keysOk V10 B10 1329 = true := by kernel_rfl
theorem key11 : keysOk V11 B11 1329 = true := by kernel_rfl
theorem tmp_end : (layK V11).get 0 = some (.o (.c (.v (.bool true)))) := by kernel_rfl
/-- The sanity check says true, and leaves what was there as it was. -/
theorem awake_any (w0 : World) : Calls Tryz.prog 4 #[] w0 fun e w => e = .returned (.bool true) ∧ w0.grownBy w none := by
  have S0 := stand_start w0 fn.ntmps (by rw [fn_tmps]; decide)
  have C := evG_sound good mixed (HK_ok w0.heap.size) 2000 40
  refine calls_of_wp fn_at fn_body ?_
  generalize hA : ({ tmps := #[] ++ Array.replicate (fn.ntmps - (#[] : Array Value).size) undef, defers := [] } : Act) = a0 at *
  rw [fn_tmps] at S0
  have S0 : Stand w0 105 (layK V0) ⟨layB B0, 0, 16384⟩ a0 w0 := S0
  clear hA
  refine wp_seq (part_runC good mixed run0 key1 (low_lay key0) C S0 fun a1 w1 S1 => ?_)
  refine wp_seq (part_runC good mixed run1 key2 (low_lay key1) C S1 fun a2 w2 S2 => ?_)
  refine wp_seq (part_runC good mixed run2 key3 (low_lay key2) C S2 fun a3 w3 S3 => ?_)
  refine wp_seq (part_runC good mixed run3 key4 (low_lay key3) C S3 fun a4 w4 S4 => ?_)
  refine wp_seq (part_runC good mixed run4 key5 (low_lay key4) C S4 fun a5 w5 S5 => ?_)
  refine wp_seq (part_runC good mixed run5 key6 (low_lay key5) C S5 fun a6 w6 S6 => ?_)
  refine wp_seq (part_runC good mixed run6 key7 (low_lay key6) C S6 fun a7 w7 S7 => ?_)
  refine wp_seq (part_runC good mixed run7 key8 (low_lay key7) C S7 fun a8 w8 S8 => ?_)
  refine wp_seq (part_runC good mixed run8 key9 (low_lay key8) C S8 fun a9 w9 S9 => ?_)
  refine wp_seq (part_runC good mixed run9 key10 (low_lay key9) C S9 fun a10 w10 S10 => ?_)
  refine wp_seq (part_runC good mixed run10 key11 (low_lay key10) C S10 fun a11 w11 S11 => ?_)
  rw [fn_ret]
  refine wp_ret ?_
  obtain ⟨m, hR, -⟩ := S11.ex
  refine bodyPost_ret (v := .bool true) ?_ hR.defers ⟨rfl, S11.grown⟩
  rw [results_tmp fn_res, S11.tmp (by decide) tmp_end]
end Go.Proofs.YtlddgafbgaaiiaaGreatDoor.Awk
