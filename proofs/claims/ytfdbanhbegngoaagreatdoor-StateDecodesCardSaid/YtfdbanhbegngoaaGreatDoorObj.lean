/-
  LAYER 4, WALKED: object.number, Word, uses, the check of a birth.
-/
import Derived.Test.YtfdbanhbegngoaaGreatDoorLinC
namespace Go.Proofs.YtfdbanhbegngoaaGreatDoor
open Go.RowKit

theorem ret_bool {a b : Bool} (h : a = b) : Ending.returned (.bool a) = .returned (.bool b) := by rw [h]
def okNum (n : Int) : Bool := decide (0 ≤ n) && decide (n ≤ 1073741824)
/-- An odd rune. -/
def oddP (r : Nat) : Bool := decide (r ≤ 32) || decide (126 < r) || decide (r = 47)
def wordB (s : ByteArray) : Bool := decide (s.size ≠ 0) && (decide (s.size ≤ 32) && !(decide (0 ≤ Lib.idxFunc oddP true s)))

set_option maxHeartbeats 400000 in
theorem number_any (n : Int) (w : World) : Calls Tryz.prog 75 #[.int .i64 n] w fun e w' => e = .returned (.bool (okNum n)) ∧ w = w' := by
  go_enter Tryz.func75, Tryz.ntmps75
  go_wp2
  all_goals
    go_ret
    exact ⟨ret_bool (by unfold okNum; rw [Bool.eq_iff_iff]; simp <;> omega), rfl⟩

set_option maxHeartbeats 400000 in
theorem word1_any (r : Nat) (hr : r ≤ 1114111) (w : World) : Calls Tryz.prog 92 #[.int .i32 r] w fun e w' => e = .returned (.bool (oddP r)) ∧ w = w' := by
  go_enter Tryz.func92, Tryz.ntmps92
  go_wp2
  all_goals
    go_ret
    exact ⟨ret_bool (by unfold oddP; rw [Bool.eq_iff_iff]; simp <;> omega), rfl⟩

set_option maxHeartbeats 400000 in
theorem word_any (s : ByteArray) (hs : s.size ≤ maxLen) (w : World) : Calls Tryz.prog 76 #[.string s] w fun e w' => e = .returned (.bool (wordB s)) ∧ Below w.heap.size w w' := by
  unfold maxLen at hs
  unfold wordB
  by_cases h : s.size = 0
  · have he := empty_t h
    go_enter Tryz.func76, Tryz.ntmps76
    go_wp2
    go_ret
    exact ⟨ret_bool (by simp [h]), Below.refl _ _⟩
  · have he := empty_f h
    by_cases h2 : s.size ≤ 32
    · go_enter Tryz.func76, Tryz.ntmps76
      go_wp2_with fail
      refine (Tryz.strings_ContainsFunc_grows 92 #[] (enters_of Tryz.func92 (by kernel_rfl) rfl) oddP s _ (fun W x hx _ => (word1_any x hx W).mono fun _ _ ⟨h1, h2⟩ => ⟨h1, by subst h2; exact Below.refl _ _⟩)).mono ?_
      rintro e w1 ⟨rfl, hb⟩
      go_wp2_with fail
      go_ret
      exact ⟨ret_bool (by simp [h, h2]), hb⟩
    · go_enter Tryz.func76, Tryz.ntmps76
      go_wp2
      go_ret
      exact ⟨ret_bool (by simp <;> omega), Below.refl _ _⟩
end Go.Proofs.YtfdbanhbegngoaaGreatDoor
