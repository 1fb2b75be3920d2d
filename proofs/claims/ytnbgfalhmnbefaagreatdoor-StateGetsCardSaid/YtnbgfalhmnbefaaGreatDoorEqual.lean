/-
  LAYER 5, WALKED: Diff and Equal at their early ways out (no coroutine is made there).
-/
import Derived.Test.YtnbgfalhmnbefaaGreatDoorToOf
namespace Go.Proofs.YtnbgfalhmnbefaaGreatDoor
open Go.RowKit

set_option maxRecDepth 100000 in
set_option maxHeartbeats 1000000 in
theorem diffNil_any (p q : Option Addr) (w : World) (hp : IsState w p .nil) (hq : IsState w q .nil) : Calls Tryz.prog 24 #[.pointer p, .pointer q] w fun e w' => e = .returned (.slice none 0 0) ∧ Below w.heap.size w w' := by
  obtain ⟨s, r, rfl, hk, hr⟩ := hp
  obtain ⟨s', r', rfl, hk', hr'⟩ := hq
  obtain rfl : r = none := hr
  obtain rfl : r' = none := hr'
  have c0 : w.cell? ⟨s, 0, none⟩ = some (.pointer none) := hk.cell 0
  have c1 : w.cell? ⟨s', 0, none⟩ = some (.pointer none) := hk'.cell 0
  clear hk hk'
  go_enter Tryz.func24, Tryz.ntmps24
  go_wp2_with fail
  go_quiet (fail)
  go_wp2_with fail
  go_ret
  exact ⟨rfl, dN (Below.refl _ _) _⟩

set_option maxRecDepth 100000 in
set_option maxHeartbeats 1000000 in
theorem equalNil_any (p q : Option Addr) (w : World) (hp : IsState w p .nil) (hq : IsState w q .nil) : Calls Tryz.prog 27 #[.pointer p, .pointer q] w fun e w' => e = .returned (.bool true) ∧ Below w.heap.size w w' := by
  have L1 := hid (len_any p .nil w (.inr hp))
  have L2 := hid (len_any q .nil w (.inr hq))
  have D := hid (diffNil_any p q w hp hq)
  obtain ⟨s, r, rfl, -, -⟩ := hp
  obtain ⟨s', r', rfl, -, -⟩ := hq
  go_enter Tryz.func27, Tryz.ntmps27
  go_wp2_with (first
    | (go_at_call_of 34 (Value.pointer (some ⟨s, 0, none⟩)); refine L1.out.mono ?_; rintro e w' ⟨rfl, rfl⟩)
    | (go_at_call_of 34 (Value.pointer (some ⟨s', 0, none⟩)); refine L2.out.mono ?_; rintro e w' ⟨rfl, rfl⟩)
    | (go_at_call 24; refine D.out.mono ?_; rintro e w1 ⟨rfl, hb1⟩))
  go_ret
  exact ⟨rfl, hb1⟩

set_option maxRecDepth 100000 in
set_option maxHeartbeats 1000000 in
theorem equalLen_any (p q : Option Addr) (t u : T) (w : World) (hp : IsState w p t) (hq : IsState w q u) (hne : t.size ≠ u.size) : Calls Tryz.prog 27 #[.pointer p, .pointer q] w fun e w' => e = .returned (.bool false) ∧ w = w' := by
  have L1 := hid (len_any p t w (.inr hp))
  have L2 := hid (len_any q u w (.inr hq))
  have hb : ((t.size : Int) == (u.size : Int)) = false := by simp; omega
  clear hne
  obtain ⟨s, r, rfl, -, -⟩ := hp
  obtain ⟨s', r', rfl, -, -⟩ := hq
  go_enter Tryz.func27, Tryz.ntmps27
  go_wp2_with (first
    | (go_at_call_of 34 (Value.pointer (some ⟨s, 0, none⟩)); refine L1.out.mono ?_; rintro e w' ⟨rfl, rfl⟩)
    | (go_at_call_of 34 (Value.pointer (some ⟨s', 0, none⟩)); refine L2.out.mono ?_; rintro e w' ⟨rfl, rfl⟩))
  go_ret
  exact ⟨rfl, rfl⟩
end Go.Proofs.YtnbgfalhmnbefaaGreatDoor
