/-
  LAYER 5, WALKED: Diff and Equal at their early ways out (no coroutine is made there).
  THE LAWS' HELPERS, WALKED: replevinlaw05.known.
-/
import Derived.Test.YtfdbanhbegngoaaGreatDoorBytes
import Derived.Test.YtfdbanhbegngoaaGreatDoorOut
import Derived.Test.YtfdbanhbegngoaaGreatDoorNames
namespace Go.Proofs.YtfdbanhbegngoaaGreatDoor
open Go.RowKit

set_option maxRecDepth 100000 in
set_option maxHeartbeats 1000000 in
theorem diffNil_any (p q : Option Addr) (w : World) (hp : IsState w p .nil) (hq : IsState w q .nil) : Calls Tryz.prog 41 #[.pointer p, .pointer q] w fun e w' => e = .returned (.slice none 0 0) ∧ Below w.heap.size w w' := by
  obtain ⟨s, r, rfl, hk, hr⟩ := hp
  obtain ⟨s', r', rfl, hk', hr'⟩ := hq
  obtain rfl : r = none := hr
  obtain rfl : r' = none := hr'
  have c0 : w.cell? ⟨s, 0, none⟩ = some (.pointer none) := hk.cell 0
  have c1 : w.cell? ⟨s', 0, none⟩ = some (.pointer none) := hk'.cell 0
  clear hk hk'
  go_enter Tryz.func41, Tryz.ntmps41
  go_wp2_with fail
  go_quiet (fail)
  go_wp2_with fail
  go_ret
  exact ⟨rfl, dN (Below.refl _ _) _⟩

set_option maxRecDepth 100000 in
set_option maxHeartbeats 1000000 in
theorem equalNil_any (p q : Option Addr) (w : World) (hp : IsState w p .nil) (hq : IsState w q .nil) : Calls Tryz.prog 14 #[.pointer p, .pointer q] w fun e w' => e = .returned (.bool true) ∧ Below w.heap.size w w' := by
  have L1 := hid (len_any p .nil w (.inr hp))
  have L2 := hid (len_any q .nil w (.inr hq))
  have D := hid (diffNil_any p q w hp hq)
  obtain ⟨s, r, rfl, -, -⟩ := hp
  obtain ⟨s', r', rfl, -, -⟩ := hq
  go_enter Tryz.func14, Tryz.ntmps14
  go_wp2_with (first
    | (go_at_call_of 28 (Value.pointer (some ⟨s, 0, none⟩)); refine L1.out.mono ?_; rintro e w' ⟨rfl, rfl⟩)
    | (go_at_call_of 28 (Value.pointer (some ⟨s', 0, none⟩)); refine L2.out.mono ?_; rintro e w' ⟨rfl, rfl⟩)
    | (go_at_call 41; refine D.out.mono ?_; rintro e w1 ⟨rfl, hb1⟩))
  go_ret
  exact ⟨rfl, hb1⟩

set_option maxRecDepth 100000 in
set_option maxHeartbeats 1000000 in
theorem equalLen_any (p q : Option Addr) (t u : T) (w : World) (hp : IsState w p t) (hq : IsState w q u) (hne : t.size ≠ u.size) : Calls Tryz.prog 14 #[.pointer p, .pointer q] w fun e w' => e = .returned (.bool false) ∧ w = w' := by
  have L1 := hid (len_any p t w (.inr hp))
  have L2 := hid (len_any q u w (.inr hq))
  have hb : ((t.size : Int) == (u.size : Int)) = false := by simp; omega
  clear hne
  obtain ⟨s, r, rfl, -, -⟩ := hp
  obtain ⟨s', r', rfl, -, -⟩ := hq
  go_enter Tryz.func14, Tryz.ntmps14
  go_wp2_with (first
    | (go_at_call_of 28 (Value.pointer (some ⟨s, 0, none⟩)); refine L1.out.mono ?_; rintro e w' ⟨rfl, rfl⟩)
    | (go_at_call_of 28 (Value.pointer (some ⟨s', 0, none⟩)); refine L2.out.mono ?_; rintro e w' ⟨rfl, rfl⟩))
  go_ret
  exact ⟨rfl, rfl⟩
end Go.Proofs.YtfdbanhbegngoaaGreatDoor
namespace Go.Proofs.YtfdbanhbegngoaaGreatDoor
open Go.RowKit

def aS : ByteArray := ⟨#[97]⟩
theorem clock_ok : clockN.Ok := ⟨Nat.zero_le _, Nat.zero_le _⟩
theorem clock_check : checkN clockN = 0 := by
  unfold checkN checkF clockN
  simp [kOwn, kNum, kTxt, kMost, okNum, ByteArray.toList_eq]
  decide
theorem clock_cmp : cmpN clockN clockN = 0 := by rfl
def aT : T := .node .nil clockN aS .nil
theorem aT_with : T.nil.with_ clockN aS = aT := rfl
theorem aT_get : aT.get clockN = some aS := by unfold aT; rw [T.get, clock_cmp]; rfl
theorem aT_out : withoutT aT clockN = .nil := by unfold withoutT; rw [aT_get]; unfold aT; rw [T.without, clock_cmp]; rfl
theorem aT_withE : withE .nil clockN aS = 0 := by unfold withE; rw [clock_check]; rfl
theorem aT_outE : withoutE clockN = 0 := by unfold withoutE; rw [clock_check]; rfl

set_option maxRecDepth 100000 in
set_option maxHeartbeats 2000000 in
theorem known_any (w : World) : Calls Tryz.prog 4 #[] w fun e w' => e = .returned (.bool true) ∧ Below w.heap.size w w' := by
  go_enter Tryz.func4, Tryz.ntmps4
  go_wp2_with fail
  refine (new_any _).mono ?_
  rintro e w1 ⟨p0, rfl, s1, hB1⟩
  go_wp2_with fail
  refine (clock_any _).mono ?_
  rintro e w2 ⟨rfl, hb2⟩
  have hB2 := hB1.trans (hb2.mono hB1.size)
  have s2 := s1.below hb2
  clear s1 hB1 hb2
  unfold nmV clockN
  go_wp2_with fail
  have W1 := stWith_any p0 .nil clockN aS clock_ok trivial (by decide) (by decide) w2 s2
  rw [aT_withE, aT_with] at W1
  refine W1.mono ?_
  clear W1
  rintro e w3 ⟨qa, rfl, -, h3, hb3⟩
  have a3 := h3 rfl
  have s3 := s2.below hb3
  have hB3 := hB2.trans (hb3.mono hB2.size)
  clear h3 s2 hB2 hb3
  obtain ⟨ba, ra, hqa, -⟩ := id a3
  have HA := hid hqa
  subst hqa
  go_wp2_with fail
  refine (clock_any _).mono ?_
  rintro e w4 ⟨rfl, hb4⟩
  have hB4 := hB3.trans (hb4.mono hB3.size)
  have s4 := s3.below hb4
  have a4 := a3.below hb4
  clear s3 a3 hB3 hb4
  unfold nmV clockN
  go_wp2_with fail
  have W2 := stWithout_any (some ⟨ba, 0, none⟩) aT clockN clock_ok ⟨trivial, clock_ok, by decide, trivial⟩ ⟨by decide, by decide⟩ w4 a4
  rw [aT_outE, aT_out] at W2
  refine W2.mono ?_
  clear W2
  rintro e w5 ⟨qb, rfl, -, h5, hb5⟩
  have n5 := h5 rfl
  have s5 := s4.below hb5
  have a5 := a4.below hb5
  have hB5 := hB4.trans (hb5.mono hB4.size)
  clear h5 s4 a4 hB4 hb5
  go_wp2_with fail
  refine (clock_any _).mono ?_
  rintro e w6 ⟨rfl, hb6⟩
  have n6 := n5.below hb6
  have s6 := s5.below hb6
  have a6 := a5.below hb6
  have hB6 := hB5.trans (hb6.mono hB5.size)
  clear n5 s5 a5 hB5 hb6
  unfold nmV clockN
  go_wp2_with fail
  have G1 := get_any (some ⟨ba, 0, none⟩) aT clockN clock_ok ⟨trivial, clock_ok, by decide, trivial⟩ w6 (.inr a6)
  rw [aT_get] at G1
  refine G1.mono ?_
  clear G1
  rintro e w7 ⟨rfl, hb7⟩
  have n7 := n6.below hb7
  have s7 := s6.below hb7
  have a7 := a6.below hb7
  have hB7 := hB6.trans (hb7.mono hB6.size)
  clear n6 s6 a6 hB6 hb7
  go_wp2_with fail
  refine (clock_any _).mono ?_
  rintro e w8 ⟨rfl, hb8⟩
  have n8 := n7.below hb8
  have s8 := s7.below hb8
  have a8 := a7.below hb8
  have hB8 := hB7.trans (hb8.mono hB7.size)
  clear n7 s7 a7 hB7 hb8
  unfold nmV clockN
  go_wp2_with fail
  refine (get_any qb .nil clockN clock_ok trivial w8 (.inr n8)).mono ?_
  rintro e w9 ⟨rfl, hb9⟩
  have n9 := n8.below hb9
  have s9 := s8.below hb9
  have a9 := a8.below hb9
  have hB9 := hB8.trans (hb9.mono hB8.size)
  clear n8 s8 a8 hB8 hb9
  have hget : (T.get .nil clockN).isSome = false := rfl
  have hgs : getS (some aS) = ⟨#[97]⟩ := rfl
  rw [hget, hgs]
  go_wp2_with fail
  refine (equalNil_any qb p0 w9 n9 s9).mono ?_
  rintro e w10 ⟨rfl, hb10⟩
  have s10 := s9.below hb10
  have a10 := a9.below hb10
  have hB10 := hB9.trans (hb10.mono hB9.size)
  clear n9 s9 a9 hB9 hb10
  go_wp2_with fail
  refine (equalLen_any (some ⟨ba, 0, none⟩) p0 aT .nil w10 a10 s10 (by decide)).mono ?_
  rintro e w11 ⟨rfl, rfl⟩
  go_wp2_with fail
  go_ret
  exact ⟨rfl, hB10⟩
end Go.Proofs.YtfdbanhbegngoaaGreatDoor
