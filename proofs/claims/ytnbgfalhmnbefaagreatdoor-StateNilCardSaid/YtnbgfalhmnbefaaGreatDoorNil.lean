/-
  LAYER 5, WALKED: the functions at a nil state.
-/
import Derived.Test.YtnbgfalhmnbefaaGreatDoorApply
namespace Go.Proofs.YtnbgfalhmnbefaaGreatDoor
open Go.RowKit

set_option maxRecDepth 100000 in
set_option maxHeartbeats 1000000 in
theorem withNil_any (n : Nm) (v : ByteArray) (w : World) : Calls Tryz.prog 32 #[.pointer none, nmV n, .string v] w fun e w' => e = .returned (.tuple #[.pointer none, .int .i64 1]) ∧ Below w.heap.size w w' := by
  unfold nmV
  go_enter Tryz.func32, Tryz.ntmps32
  go_wp2_with fail
  go_ret2
  exact ⟨rfl, (Below.refl _ _).alloc (Nat.le_refl _) _⟩

set_option maxRecDepth 100000 in
set_option maxHeartbeats 1000000 in
theorem withoutNil_any (n : Nm) (w : World) : Calls Tryz.prog 33 #[.pointer none, nmV n] w fun e w' => e = .returned (.tuple #[.pointer none, .int .i64 1]) ∧ Below w.heap.size w w' := by
  unfold nmV
  go_enter Tryz.func33, Tryz.ntmps33
  go_wp2_with fail
  go_ret2
  exact ⟨rfl, (Below.refl _ _).alloc (Nat.le_refl _) _⟩

set_option maxRecDepth 100000 in
set_option maxHeartbeats 1000000 in
theorem encodeNil_any (w : World) : Calls Tryz.prog 30 #[.pointer none] w fun e w' => e = .returned (.slice none 0 0) ∧ Below w.heap.size w w' := by
  go_enter Tryz.func30, Tryz.ntmps30
  go_wp2_with fail
  go_ret
  exact ⟨rfl, Below.refl _ _⟩

set_option maxRecDepth 100000 in
set_option maxHeartbeats 1000000 in
theorem diffNil1_any (q : Option Addr) (w : World) : Calls Tryz.prog 24 #[.pointer none, .pointer q] w fun e w' => e = .returned (.slice none 0 0) ∧ Below w.heap.size w w' := by
  go_enter Tryz.func24, Tryz.ntmps24
  go_wp2_with fail
  go_quiet (fail)
  go_wp2_with fail
  go_ret
  exact ⟨rfl, dN (Below.refl _ _) _⟩

set_option maxRecDepth 100000 in
set_option maxHeartbeats 1000000 in
theorem diffNil2_any (s : Nat) (w : World) : Calls Tryz.prog 24 #[.pointer (some ⟨s, 0, none⟩), .pointer none] w fun e w' => e = .returned (.slice none 0 0) ∧ Below w.heap.size w w' := by
  go_enter Tryz.func24, Tryz.ntmps24
  go_wp2_with fail
  go_quiet (fail)
  go_wp2_with fail
  go_ret
  exact ⟨rfl, dN (Below.refl _ _) _⟩

set_option maxRecDepth 100000 in
set_option maxHeartbeats 1000000 in
theorem equalNil1_any (w : World) : Calls Tryz.prog 27 #[.pointer none, .pointer none] w fun e w' => e = .returned (.bool true) ∧ w = w' := by
  go_enter Tryz.func27, Tryz.ntmps27
  go_wp2_with fail
  go_ret
  exact ⟨rfl, rfl⟩

theorem eqNS (s : Nat) (w : World) : (binOp .eql 26 (.pointer none) (.pointer (some ⟨s, 0, none⟩))).run Tryz.prog w = .ok (.bool false) w := by kernel_rfl

set_option maxRecDepth 100000 in
set_option maxHeartbeats 1000000 in
theorem equalNil2_any (s : Nat) (w : World) : Calls Tryz.prog 27 #[.pointer none, .pointer (some ⟨s, 0, none⟩)] w fun e w' => e = .returned (.bool false) ∧ w = w' := by
  have h := eqNS s
  go_enter Tryz.func27, Tryz.ntmps27
  go_wp2_with fail
  go_ret
  exact ⟨rfl, rfl⟩

def z32 : Array Value := #[.int .u8 0, .int .u8 0, .int .u8 0, .int .u8 0, .int .u8 0, .int .u8 0, .int .u8 0, .int .u8 0, .int .u8 0, .int .u8 0, .int .u8 0, .int .u8 0, .int .u8 0, .int .u8 0, .int .u8 0, .int .u8 0, .int .u8 0, .int .u8 0, .int .u8 0, .int .u8 0, .int .u8 0, .int .u8 0, .int .u8 0, .int .u8 0, .int .u8 0, .int .u8 0, .int .u8 0, .int .u8 0, .int .u8 0, .int .u8 0, .int .u8 0, .int .u8 0]
set_option maxRecDepth 100000 in
set_option maxHeartbeats 1000000 in
theorem digestNil_any (w : World) : Calls Tryz.prog 37 #[.pointer none] w fun e w' => e = .returned (.agg z32) ∧ Below w.heap.size w w' := by
  go_enter Tryz.func37, Tryz.ntmps37
  go_wp2_with (first | (refine wpList_build_at rfl 75 _ rfl z32 (by kernel_rfl) ?_) | (refine wpList_store_row rfl 75 _ _ rfl w.heap.size z32 rfl rfl 75 _ (heap_alloc_new w _) (by kernel_rfl) (by kernel_rfl) (by kernel_rfl) ?_; rw [setRow_new]))
  exact bodyPost_ret (v := .agg z32) (results_cell_row rfl _ _ w.heap.size 75 z32 (0, 0) _ rfl (heap_alloc_new w _) Tryz.underlying75 rfl (by kernel_rfl)) rfl ⟨rfl, (Below.refl _ w).alloc (Nat.le_refl _) _⟩
theorem eqZ32 (w : World) : (binOp .eql 75 (.agg z32) (.agg z32)).run Tryz.prog w = .ok (.bool true) w := by kernel_rfl
end Go.Proofs.YtnbgfalhmnbefaaGreatDoor
