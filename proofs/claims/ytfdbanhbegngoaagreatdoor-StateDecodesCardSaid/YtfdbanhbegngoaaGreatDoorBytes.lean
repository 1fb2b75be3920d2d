/-
  THE LAWS' HELPERS, WALKED: replevinlaw04.Of.
  LAYER 4, WALKED: OfClock.
  THE REFERENCE OF LAYER 5, WALKED: Bytes.
-/
import Derived.Test.YtfdbanhbegngoaaGreatDoorEl
import Derived.Test.YtfdbanhbegngoaaGreatDoorRef4c
namespace Go.Proofs.YtfdbanhbegngoaaGreatDoor
open Go.RowKit

set_option maxHeartbeats 1000000 in
theorem of4_any (n : Nm) (w : World) : Calls Tryz.prog 31 #[nmV n] w fun e w' => e = .returned (nmV n) ∧ Below w.heap.size w w' := by
  obtain ⟨k, o, nu, i, t⟩ := n
  unfold nmV
  go_enter Tryz.func31, Tryz.ntmps31
  go_wp2_with fail
  refine bodyPost_ret (v := .agg #[.int .i64 k, .string o, .int .i64 nu, .int .i64 i, .string t]) (by simp [results, Tryz.results31, go_sem]) rfl ⟨rfl, ?_⟩
  exact (((Below.refl _ w).alloc (Nat.le_refl _) _).alloc (by simp) _)
end Go.Proofs.YtfdbanhbegngoaaGreatDoor
namespace Go.Proofs.YtfdbanhbegngoaaGreatDoor
open Go.RowKit

def clockN : Nm := ⟨15, ⟨#[]⟩, 0, 0, ⟨#[]⟩⟩
set_option maxHeartbeats 1000000 in
theorem clock_any (w : World) : Calls Tryz.prog 11 #[] w fun e w' => e = .returned (nmV clockN) ∧ Below w.heap.size w w' := by
  unfold nmV clockN
  go_enter Tryz.func11, Tryz.ntmps11
  go_wp2_with fail
  refine bodyPost_ret (v := .agg #[.int .i64 15, .string ⟨#[]⟩, .int .i64 0, .int .i64 0, .string ⟨#[]⟩]) (by simp [results, Tryz.results11, go_sem]) rfl ⟨rfl, ?_⟩
  exact (Below.refl _ w).alloc (Nat.le_refl _) _
end Go.Proofs.YtfdbanhbegngoaaGreatDoor
namespace Go.Proofs.YtfdbanhbegngoaaGreatDoor
open Go.RowKit

theorem sumB_app (a b : EL) : T.sumB (a ++ b) = T.sumB a + T.sumB b := by unfold T.sumB; rw [List.map_append, List.sum_append]
theorem sumB_take (l : EL) (k : Nat) (hk : k < l.length) : T.sumB (l.take (k + 1)) = T.sumB (l.take k) + l[k].2.size := by
  rw [List.take_add_one, List.getElem?_eq_getElem hk, sumB_app]; rfl
theorem sumB_take_le (l : EL) (k : Nat) : T.sumB (l.take k) ≤ T.sumB l := by
  have h := sumB_app (l.take k) (l.drop k)
  rw [List.take_append_drop] at h
  omega

set_option maxRecDepth 100000 in
set_option maxHeartbeats 1000000 in
theorem refBytes_any (A : Option Addr) (n c : Nat) (l : EL) (hS : T.sumB l ≤ 1000000000) (w : World) (hs : Sl w w.heap.size 6 A n c (l.flatMap eCells)) :
    Calls Tryz.prog 30 #[.slice A n c] w fun e w' => e = .returned (.int .i64 (T.sumB l)) ∧ w = w' := by
  obtain ⟨rfl, hmx, hel⟩ := hs.elem eCells_len (by decide)
  unfold maxLen at hmx
  have HS := hid hs
  clear hs
  go_enter Tryz.func30, Tryz.ntmps30
  go_wp2
  go_loop [3, 4] (fun s i => ∃ k : Nat, i = .int .i64 k ∧ s = .int .i64 (T.sumB (l.take k) : Nat) ∧ k ≤ l.length) (fun _ i => l.length - (intOf i).toNat)
  case atStart => exact ⟨0, rfl, rfl, Nat.zero_le _⟩
  case round =>
    obtain ⟨k, rfl, rfl, hk⟩ := hrel
    by_cases h1 : k < l.length
    · rcases hel with rfl | ⟨b, off, rfl, hb, hc⟩
      · simp at h1
      have hcell := hc k 5 _ h1 (by decide) rfl
      have e1 := sumB_take l k h1
      have e2 := sumB_take_le l (k + 1)
      have e3 : ((T.sumB (l.take (k + 1)) : Nat) : Int) = (T.sumB (l.take k) : Int) + (l[k].2.size : Int) := by omega
      have e4 : ((T.sumB (l.take (k + 1)) : Nat) : Int) ≤ 1000000000 := by omega
      have e5 : (0 : Int) ≤ (T.sumB (l.take k) : Int) := by omega
      have E3 := hid e3
      rw [e3] at e4
      clear hc e1 e2 e3
      generalize l[k].2 = v at *
      generalize ((T.sumB (l.take k) : Nat) : Int) = S at *
      go_wp2
      go_round
      case rel => exact ⟨k + 1, by go_num, by rw [E3.out], by omega⟩
      case measure => simp [intOf]; omega
    · have hkl : k = l.length := by omega
      have HK := hid hkl
      clear hel hkl
      go_wp2
      go_ret
      exact ⟨ret_int (by rw [HK.out, List.take_length]), rfl⟩
end Go.Proofs.YtfdbanhbegngoaaGreatDoor
