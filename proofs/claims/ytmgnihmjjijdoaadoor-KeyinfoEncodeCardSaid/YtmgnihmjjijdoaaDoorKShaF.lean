/- The program's hash: turning a word. -/
import Derived.Test.YtmgnihmjjijdoaaDoorKShaA
namespace Go.Proofs.YtmgnihmjjijdoaaDoor
open Go.RowKit
set_option maxHeartbeats 2000000 in
theorem turn_2 (x : UInt32) (w : World) : Calls Tryd.prog 67 #[.int .u32 (W32 x), .int .u64 2] w fun e w' => e = .returned (.int .u32 (W32 (x >>> 2 ||| x <<< 30))) ∧ Below w.heap.size w w' := by
 have zor := w_or
 go_enter Tryd.func67, Tryd.ntmps67
 go_wp2_with fail
 go_ret
 refine ⟨?_, Below.refl _ _⟩
 simp only [wsr2, wsl30, w_or]
 rfl
set_option maxHeartbeats 2000000 in
theorem turn_6 (x : UInt32) (w : World) : Calls Tryd.prog 67 #[.int .u32 (W32 x), .int .u64 6] w fun e w' => e = .returned (.int .u32 (W32 (x >>> 6 ||| x <<< 26))) ∧ Below w.heap.size w w' := by
 have zor := w_or
 go_enter Tryd.func67, Tryd.ntmps67
 go_wp2_with fail
 go_ret
 refine ⟨?_, Below.refl _ _⟩
 simp only [wsr6, wsl26, w_or]
 rfl
set_option maxHeartbeats 2000000 in
theorem turn_7 (x : UInt32) (w : World) : Calls Tryd.prog 67 #[.int .u32 (W32 x), .int .u64 7] w fun e w' => e = .returned (.int .u32 (W32 (x >>> 7 ||| x <<< 25))) ∧ Below w.heap.size w w' := by
 have zor := w_or
 go_enter Tryd.func67, Tryd.ntmps67
 go_wp2_with fail
 go_ret
 refine ⟨?_, Below.refl _ _⟩
 simp only [wsr7, wsl25, w_or]
 rfl
set_option maxHeartbeats 2000000 in
theorem turn_11 (x : UInt32) (w : World) : Calls Tryd.prog 67 #[.int .u32 (W32 x), .int .u64 11] w fun e w' => e = .returned (.int .u32 (W32 (x >>> 11 ||| x <<< 21))) ∧ Below w.heap.size w w' := by
 have zor := w_or
 go_enter Tryd.func67, Tryd.ntmps67
 go_wp2_with fail
 go_ret
 refine ⟨?_, Below.refl _ _⟩
 simp only [wsr11, wsl21, w_or]
 rfl
set_option maxHeartbeats 2000000 in
theorem turn_13 (x : UInt32) (w : World) : Calls Tryd.prog 67 #[.int .u32 (W32 x), .int .u64 13] w fun e w' => e = .returned (.int .u32 (W32 (x >>> 13 ||| x <<< 19))) ∧ Below w.heap.size w w' := by
 have zor := w_or
 go_enter Tryd.func67, Tryd.ntmps67
 go_wp2_with fail
 go_ret
 refine ⟨?_, Below.refl _ _⟩
 simp only [wsr13, wsl19, w_or]
 rfl
set_option maxHeartbeats 2000000 in
theorem turn_17 (x : UInt32) (w : World) : Calls Tryd.prog 67 #[.int .u32 (W32 x), .int .u64 17] w fun e w' => e = .returned (.int .u32 (W32 (x >>> 17 ||| x <<< 15))) ∧ Below w.heap.size w w' := by
 have zor := w_or
 go_enter Tryd.func67, Tryd.ntmps67
 go_wp2_with fail
 go_ret
 refine ⟨?_, Below.refl _ _⟩
 simp only [wsr17, wsl15, w_or]
 rfl
set_option maxHeartbeats 2000000 in
theorem turn_18 (x : UInt32) (w : World) : Calls Tryd.prog 67 #[.int .u32 (W32 x), .int .u64 18] w fun e w' => e = .returned (.int .u32 (W32 (x >>> 18 ||| x <<< 14))) ∧ Below w.heap.size w w' := by
 have zor := w_or
 go_enter Tryd.func67, Tryd.ntmps67
 go_wp2_with fail
 go_ret
 refine ⟨?_, Below.refl _ _⟩
 simp only [wsr18, wsl14, w_or]
 rfl
set_option maxHeartbeats 2000000 in
theorem turn_19 (x : UInt32) (w : World) : Calls Tryd.prog 67 #[.int .u32 (W32 x), .int .u64 19] w fun e w' => e = .returned (.int .u32 (W32 (x >>> 19 ||| x <<< 13))) ∧ Below w.heap.size w w' := by
 have zor := w_or
 go_enter Tryd.func67, Tryd.ntmps67
 go_wp2_with fail
 go_ret
 refine ⟨?_, Below.refl _ _⟩
 simp only [wsr19, wsl13, w_or]
 rfl
set_option maxHeartbeats 2000000 in
theorem turn_22 (x : UInt32) (w : World) : Calls Tryd.prog 67 #[.int .u32 (W32 x), .int .u64 22] w fun e w' => e = .returned (.int .u32 (W32 (x >>> 22 ||| x <<< 10))) ∧ Below w.heap.size w w' := by
 have zor := w_or
 go_enter Tryd.func67, Tryd.ntmps67
 go_wp2_with fail
 go_ret
 refine ⟨?_, Below.refl _ _⟩
 simp only [wsr22, wsl10, w_or]
 rfl
set_option maxHeartbeats 2000000 in
theorem turn_25 (x : UInt32) (w : World) : Calls Tryd.prog 67 #[.int .u32 (W32 x), .int .u64 25] w fun e w' => e = .returned (.int .u32 (W32 (x >>> 25 ||| x <<< 7))) ∧ Below w.heap.size w w' := by
 have zor := w_or
 go_enter Tryd.func67, Tryd.ntmps67
 go_wp2_with fail
 go_ret
 refine ⟨?_, Below.refl _ _⟩
 simp only [wsr25, wsl7, w_or]
 rfl
end Go.Proofs.YtmgnihmjjijdoaaDoor
