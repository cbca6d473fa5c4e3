/- Texts of policies that the laws make. -/
import Derived.Test.YtahamclodagihaaGreatDoorKLib
namespace Go.Proofs.YtahamclodagihaaGreatDoor
open Go.RowKit
set_option maxRecDepth 100000 in
set_option maxHeartbeats 8000000 in
theorem Policy_any (k : Nat) (hk : k < 9) (w : World) : Calls Tryz.prog 15 #[.int .i64 (k : Int)] w fun e w' => ∃ s : ByteArray, s.size ≤ 100 ∧ e = .returned (.string s) ∧ Below w.heap.size w w' := by
  match k, hk with
  | 0, _ =>
    go_enter Tryz.func15, Tryz.ntmps15
    go_wp2_with fail
    go_ret
    exact ⟨_, of_decide_eq_true (by kernel_rfl), rfl, (Below.refl _ _).alloc (Nat.le_refl _) _⟩
  | 1, _ =>
    go_enter Tryz.func15, Tryz.ntmps15
    go_wp2_with fail
    go_ret
    exact ⟨_, of_decide_eq_true (by kernel_rfl), rfl, (Below.refl _ _).alloc (Nat.le_refl _) _⟩
  | 2, _ =>
    go_enter Tryz.func15, Tryz.ntmps15
    go_wp2_with fail
    go_ret
    exact ⟨_, of_decide_eq_true (by kernel_rfl), rfl, (Below.refl _ _).alloc (Nat.le_refl _) _⟩
  | 3, _ =>
    go_enter Tryz.func15, Tryz.ntmps15
    go_wp2_with fail
    go_ret
    exact ⟨_, of_decide_eq_true (by kernel_rfl), rfl, (Below.refl _ _).alloc (Nat.le_refl _) _⟩
  | 4, _ =>
    go_enter Tryz.func15, Tryz.ntmps15
    go_wp2_with fail
    go_ret
    exact ⟨_, of_decide_eq_true (by kernel_rfl), rfl, (Below.refl _ _).alloc (Nat.le_refl _) _⟩
  | 5, _ =>
    go_enter Tryz.func15, Tryz.ntmps15
    go_wp2_with fail
    go_ret
    exact ⟨_, of_decide_eq_true (by kernel_rfl), rfl, (Below.refl _ _).alloc (Nat.le_refl _) _⟩
  | 6, _ =>
    go_enter Tryz.func15, Tryz.ntmps15
    go_wp2_with fail
    go_ret
    exact ⟨_, of_decide_eq_true (by kernel_rfl), rfl, (Below.refl _ _).alloc (Nat.le_refl _) _⟩
  | 7, _ =>
    go_enter Tryz.func15, Tryz.ntmps15
    go_wp2_with fail
    go_ret
    exact ⟨_, of_decide_eq_true (by kernel_rfl), rfl, (Below.refl _ _).alloc (Nat.le_refl _) _⟩
  | 8, _ =>
    go_enter Tryz.func15, Tryz.ntmps15
    go_wp2_with fail
    go_ret
    exact ⟨_, of_decide_eq_true (by kernel_rfl), rfl, (Below.refl _ _).alloc (Nat.le_refl _) _⟩
end Go.Proofs.YtahamclodagihaaGreatDoor
