import Derived.Test.YtgaglgopbdfemaaGreatDoorLv0
import Derived.Test.YtgaglgopbdfemaaGreatDoorLv1
import Derived.Test.YtgaglgopbdfemaaGreatDoorLv2
import Derived.Test.YtgaglgopbdfemaaGreatDoorLv3
import Derived.Test.YtgaglgopbdfemaaGreatDoorLv4
import Derived.Test.YtgaglgopbdfemaaGreatDoorLv5
import Derived.Test.YtgaglgopbdfemaaGreatDoorLv6
import Derived.Test.YtgaglgopbdfemaaGreatDoorLv7
import Derived.Test.YtgaglgopbdfemaaGreatDoorLv8
set_option linter.all false
set_option maxRecDepth 100000
set_option maxHeartbeats 0
namespace Go.Proofs.YtgaglgopbdfemaaGreatDoor.Liv
open Go Go.Proofs Go.Proofs.YtgaglgopbdfemaaGreatDoor.Evl
theorem good : Good Tryz.prog tab := good_of (n := 669) (by kernel_rfl) (by kernel_rfl) (by kernel_rfl)
theorem mixed : Tryz.prog.follows .mixedOrders = true := by kernel_rfl
noncomputable def fn : Func := (Tryz.prog.funcs[11]?).getD default
theorem fn_at : Tryz.prog.funcs[11]? = some fn := by kernel_rfl
theorem fn_body : fn.body = some (.seq (nthC 0 body) (.seq (nthC 1 body) (.seq (nthC 2 body) (.seq (nthC 3 body) (.seq (nthC 4 body) (.seq (nthC 5 body) (.seq (nthC 6 body) (.seq (nthC 7 body) (nthC 8 body))))))))) := by kernel_rfl
theorem fn_ret : nthC 8 body = .ret := by kernel_rfl
theorem fn_tmps : fn.ntmps = 75 := by kernel_rfl
theorem fn_res : fn.results = #[.tmp 0] := by kernel_rfl
theorem key1 : keysOk V1 B1 0 = true := by kernel_rfl
theorem key2 : keysOk V2 B2 4 = true := by kernel_rfl
theorem key3 : keysOk V3 B3 963 = true := by kernel_rfl
theorem key4 : keysOk V4 B4 1874 = true := by kernel_rfl
theorem key5 : keysOk V5 B5 1875 = true := by kernel_rfl
theorem key6 : keysOk V6 B6 2295 = true := by kernel_rfl
theorem key7 : keysOk V7 B7 2530 = true := by kernel_rfl
theorem key8 : keysOk V8 B8 3062 = true := by kernel_rfl
theorem key9 : keysOk V9 B9 3972 = true := by kernel_rfl
theorem key0 : keysOk V0 B0 0 = true := by kernel_rfl
theorem reg5 : nthC 5 body = .region 5 (opsOf (nthC 5 body)) false := by kernel_rfl
theorem tmp_end : (layK V9).get 0 = some (.o (.c (.v (.bool true)))) := by kernel_rfl
/-- The sanity check says true, and leaves what was there as it was. -/
theorem closed_any (w0 : World) : Calls Tryz.prog 11 #[] w0 fun e w => e = .returned (.bool true) ∧ w0.grownBy w none := by
  have S0 := stand_start w0 fn.ntmps (by rw [fn_tmps]; decide)
  refine calls_of_wp fn_at fn_body ?_
  generalize hA : ({ tmps := #[] ++ Array.replicate (fn.ntmps - (#[] : Array Value).size) undef, defers := [] } : Act) = a0 at *
  rw [fn_tmps] at S0
  have S0 : Stand w0 75 (layK V0) ⟨layB B0, 0, 16384⟩ a0 w0 := S0
  clear hA
  refine wp_seq (part_run good mixed run0 key1 (low_lay key0) S0 fun a1 w1 S1 => ?_)
  refine wp_seq (part_run good mixed run1 key2 (low_lay key1) S1 fun a2 w2 S2 => ?_)
  refine wp_seq (part_run good mixed run2 key3 (low_lay key2) S2 fun a3 w3 S3 => ?_)
  refine wp_seq (part_run good mixed run3 key4 (low_lay key3) S3 fun a4 w4 S4 => ?_)
  refine wp_seq (part_run good mixed run4 key5 (low_lay key4) S4 fun a5 w5 S5 => ?_)
  refine wp_seq ?_
  rw [reg5]
  refine wp_region_list ?_
  have e5 : ∀ l : List Oper, l = l.drop 0 := fun l => rfl
  rw [e5 (opsOf (nthC 5 body)).toList]
  rw [← List.take_append_drop 4 ((opsOf (nthC 5 body)).toList.drop 0)]
  refine list_run good mixed run5 key6 (low_lay key5) S5 fun a6 w6 S6 => ?_
  rw [List.drop_drop]
  rw [← List.take_append_drop 7 ((opsOf (nthC 5 body)).toList.drop 4)]
  refine list_run good mixed run6 key7 (low_lay key6) S6 fun a7 w7 S7 => ?_
  rw [List.drop_drop]
  have hn6 : (opsOf (nthC 5 body)).toList.drop 11 = [] := by kernel_rfl
  rw [hn6]
  refine wpList_nil ?_
  refine wp_seq (part_run good mixed run7 key8 (low_lay key7) S7 fun a8 w8 S8 => ?_)
  refine wp_seq (part_run good mixed run8 key9 (low_lay key8) S8 fun a9 w9 S9 => ?_)
  rw [fn_ret]
  refine wp_ret ?_
  obtain ⟨m, hR, -⟩ := S9.ex
  refine bodyPost_ret (v := .bool true) ?_ hR.defers ⟨rfl, S9.grown⟩
  rw [results_tmp fn_res, S9.tmp (by decide) tmp_end]
end Go.Proofs.YtgaglgopbdfemaaGreatDoor.Liv
