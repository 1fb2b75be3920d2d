/-
  THE LAWS' HELPERS, WALKED: replevinlaw04.To, Of; object.OfClock.
-/
import Derived.Test.YtnbgfalhmnbefaaGreatDoorBytes
namespace Go.Proofs.YtnbgfalhmnbefaaGreatDoor
open Go.RowKit

set_option maxHeartbeats 1000000 in
theorem to4_any (n : Nm) (w : World) : Calls Tryz.prog 16 #[nmV n] w fun e w' => e = .returned (nmV n) ∧ Below w.heap.size w w' := by
  obtain ⟨k, o, nu, i, t⟩ := n
  unfold nmV
  go_enter Tryz.func16, Tryz.ntmps16
  go_wp2_with fail
  refine bodyPost_ret (v := .agg #[.int .i64 k, .string o, .int .i64 nu, .int .i64 i, .string t]) (by simp [results, Tryz.results16, go_sem]) rfl ⟨rfl, ?_⟩
  exact (((Below.refl _ w).alloc (Nat.le_refl _) _).alloc (by simp) _)

set_option maxHeartbeats 1000000 in
theorem of4_any (n : Nm) (w : World) : Calls Tryz.prog 19 #[nmV n] w fun e w' => e = .returned (nmV n) ∧ Below w.heap.size w w' := by
  obtain ⟨k, o, nu, i, t⟩ := n
  unfold nmV
  go_enter Tryz.func19, Tryz.ntmps19
  go_wp2_with fail
  refine bodyPost_ret (v := .agg #[.int .i64 k, .string o, .int .i64 nu, .int .i64 i, .string t]) (by simp [results, Tryz.results19, go_sem]) rfl ⟨rfl, ?_⟩
  exact (((Below.refl _ w).alloc (Nat.le_refl _) _).alloc (by simp) _)

def clockN : Nm := ⟨15, ⟨#[]⟩, 0, 0, ⟨#[]⟩⟩
set_option maxHeartbeats 1000000 in
theorem clock_any (w : World) : Calls Tryz.prog 38 #[] w fun e w' => e = .returned (nmV clockN) ∧ Below w.heap.size w w' := by
  unfold nmV clockN
  go_enter Tryz.func38, Tryz.ntmps38
  go_wp2_with fail
  refine bodyPost_ret (v := .agg #[.int .i64 15, .string ⟨#[]⟩, .int .i64 0, .int .i64 0, .string ⟨#[]⟩]) (by simp [results, Tryz.results38, go_sem]) rfl ⟨rfl, ?_⟩
  exact (Below.refl _ w).alloc (Nat.le_refl _) _
end Go.Proofs.YtnbgfalhmnbefaaGreatDoor
