/-
  LAYER 1 (codec), WALKED: natural; the reference's Natural.
-/
import Derived.Test.YtfdbanhbegngoaaGreatDoorVoc
import Derived.Deep.CutRange
import Derived.Deep.CutBlock
namespace Go.Proofs.YtfdbanhbegngoaaGreatDoor
open Go.RowKit

/-- The groups of seven bits of a number, the least first. -/
def natL (u : Nat) : Bs := if u < 128 then [UInt8.ofNat u] else UInt8.ofNat (u % 128 + 128) :: natL (u / 128)
termination_by u
decreasing_by omega
theorem natL_lo {u : Nat} (h : u < 128) : natL u = [UInt8.ofNat u] := by rw [natL, if_pos h]
theorem natL_hi {u : Nat} (h : 128 ≤ u) : natL u = UInt8.ofNat (u % 128 + 128) :: natL (u / 128) := by rw [natL, if_neg (by omega)]
theorem natL_len : ∀ (k u : Nat), u < 128 ^ (k + 1) → (natL u).length ≤ k + 1
  | 0, u, h => by rw [natL_lo (by simpa using h)]; simp
  | k + 1, u, h => by
    by_cases hu : u < 128
    · rw [natL_lo hu]; simp
    · rw [natL_hi (by omega), List.length_cons]
      have := natL_len k (u / 128) (by rw [Nat.pow_succ] at h; exact Nat.div_lt_of_lt_mul (by rw [Nat.mul_comm]; exact h))
      omega
theorem natL_ten {u : Nat} (h : u < 18446744073709551616) : (natL u).length ≤ 10 := natL_len 9 u (by omega)

theorem or128 (b : Nat) (h : b < 256) : bits BinOp.or IntKind.u8 (b : Int) 128 = ((b % 128 + 128 : Nat) : Int) := by
  have : (List.range 256).all (fun b => bits BinOp.or IntKind.u8 (b : Int) 128 == ((b % 128 + 128 : Nat) : Int)) = true := by kernel_rfl
  have := List.all_eq_true.1 this b (List.mem_range.2 h)
  exact eq_of_beq this
theorem u8_of (n : Nat) (h : n < 256) : ((UInt8.ofNat n).toNat : Int) = (n : Int) := by
  rw [UInt8.toNat_ofNat', Nat.mod_eq_of_lt h]

set_option maxRecDepth 100000 in
set_option maxHeartbeats 1000000 in
theorem natural_any (u : Nat) (hu : u < 18446744073709551616) (w : World) :
    Calls Tryz.prog 71 #[.int .u64 u] w fun e w' => ∃ v, e = .returned v ∧ w'.ownsRow w.heap.size 5 1 v (natL u).length ((natL u).map u8v) ∧ Below w.heap.size w w' := by
  obtain ⟨i0, hi, hz0, hz1, hz2⟩ := info_parts Tryz.info_u8
  have hlen := natL_ten hu
  go_enter Tryz.func71, Tryz.ntmps71
  go_wp2_with fail
  go_loopw [0, 3] (fun uv ov wr => ∃ (m : Nat) (acc : Bs), uv = .int .u64 m ∧ m < 18446744073709551616 ∧ natL u = acc ++ natL m ∧ wr.ownsRow w.heap.size 5 1 ov acc.length (acc.map u8v) ∧ Below w.heap.size w wr) (fun uv _ _ => (intOf uv).toNat)
  case atStart => exact ⟨u, [], rfl, hu, rfl, World.ownsRow_nil _ _ _ _, Below.refl _ _⟩
  case round =>
    obtain ⟨m, acc, rfl, hm, he, ho, hB⟩ := hrel
    have HE := hid he; have HO := hid ho
    have hal : acc.length ≤ 10 := by have := congrArg List.length he; rw [List.length_append] at this; omega
    clear he ho
    by_cases h1 : 128 ≤ m
    · have h1i : (128 : Int) ≤ (m : Int) := by omega
      have hor : bits BinOp.or IntKind.u8 ((m : Int) % 256) 128 = ((m % 128 + 128 : Nat) : Int) := by
        have := or128 (m % 256) (by omega)
        rw [show (m % 256) % 128 = m % 128 by omega] at this
        rw [← this]
        rfl
      have hsz := hB.size
      go_wp2_with (at_builtin; refine wpList_append_own _ rfl (.tmp 8) (.tmp 12) _ rfl w.heap.size 5 i0 (.int .u8 0) 1 1 Tryz.underlying22 hi hz0 hz1 hz2 rfl (by decide) _ _ _ rfl (HO.out.alloc _) ⟨wr.heap.size, 0, none⟩ 1 1 [.int .u8 ((m % 128 + 128 : Nat) : Int)] rfl rfl (cell_one_new _ _ _) (by simp [Value.oneCell']) (by unfold maxLen; omega) (by omega) (by simp; omega) ?_; intro v1 w1 hown1 hgrow1 _; have hB1 : Below w.heap.size w w1 := Below.grown (hB.alloc hsz _) hgrow1 (by simp; omega) (fun j e => (HO.out.lt j e).1); have HO1 := hid hown1; clear hown1 hgrow1)
      go_roundw
      case rel => exact ⟨m / 128, acc ++ [UInt8.ofNat (m % 128 + 128)], by rw [Int.natCast_ediv]; rfl, by omega, by rw [HE.out, natL_hi h1, List.append_assoc]; rfl, by
        rw [List.length_append, List.map_append]
        simp only [List.map_cons, List.map_nil, u8v, u8_of (m % 128 + 128) (by omega)]
        exact HO1.out, hB1⟩
      case measure => simp [intOf]; omega
    · have h1i : (m : Int) < 128 := by omega
      have hmm : (m : Int) % 256 = (m : Int) := by omega
      have hsz := hB.size
      go_wp2_with (at_builtin; refine wpList_append_own _ rfl (.tmp 14) (.tmp 17) _ rfl w.heap.size 5 i0 (.int .u8 0) 1 1 Tryz.underlying22 hi hz0 hz1 hz2 rfl (by decide) _ _ _ rfl (HO.out.alloc _) ⟨wr.heap.size, 0, none⟩ 1 1 [.int .u8 (m : Int)] rfl rfl (cell_one_new _ _ _) (by simp [Value.oneCell']) (by unfold maxLen; omega) (by omega) (by simp; omega) ?_; intro v1 w1 hown1 hgrow1 _; have hB1 : Below w.heap.size w w1 := Below.grown (hB.alloc hsz _) hgrow1 (by simp; omega) (fun j e => (HO.out.lt j e).1); have HO1 := hid hown1; clear hown1 hgrow1)
      go_ret
      have e1 : natL u = acc ++ [UInt8.ofNat m] := by rw [HE.out, natL_lo (by omega)]
      refine ⟨v1, rfl, ?_, hB1⟩
      rw [e1, List.length_append, List.map_append]
      have := HO1.out
      simp only [List.map_cons, List.map_nil, u8v, u8_of m (by omega)]
      exact this
set_option maxRecDepth 100000 in
set_option maxHeartbeats 1000000 in
theorem refNatural_any (u : Nat) (hu : u < 18446744073709551616) (w : World) :
    Calls Tryz.prog 88 #[.int .u64 u] w fun e w' => ∃ v, e = .returned v ∧ w'.ownsRow w.heap.size 5 1 v (natL u).length ((natL u).map u8v) ∧ Below w.heap.size w w' := by
  obtain ⟨i0, hi, hz0, hz1, hz2⟩ := info_parts Tryz.info_u8
  have hlen := natL_ten hu
  go_enter Tryz.func88, Tryz.ntmps88
  go_wp2_with fail
  go_loopw [0, 3] (fun uv ov wr => ∃ (m : Nat) (acc : Bs), uv = .int .u64 m ∧ m < 18446744073709551616 ∧ natL u = acc ++ natL m ∧ wr.ownsRow w.heap.size 5 1 ov acc.length (acc.map u8v) ∧ Below w.heap.size w wr) (fun uv _ _ => (intOf uv).toNat)
  case atStart => exact ⟨u, [], rfl, hu, rfl, World.ownsRow_nil _ _ _ _, Below.refl _ _⟩
  case round =>
    obtain ⟨m, acc, rfl, hm, he, ho, hB⟩ := hrel
    have HE := hid he; have HO := hid ho
    have hal : acc.length ≤ 10 := by have := congrArg List.length he; rw [List.length_append] at this; omega
    clear he ho
    by_cases h1 : 128 ≤ m
    · have h1i : (128 : Int) ≤ (m : Int) := by omega
      have hmr : ((m : Int) % 128 + 128) % 256 = ((m % 128 + 128 : Nat) : Int) := by omega
      have hsz := hB.size
      go_wp2_with (at_builtin; refine wpList_append_own _ rfl (.tmp 6) (.tmp 11) _ rfl w.heap.size 5 i0 (.int .u8 0) 1 1 Tryz.underlying22 hi hz0 hz1 hz2 rfl (by decide) _ _ _ rfl (HO.out.alloc _) ⟨wr.heap.size, 0, none⟩ 1 1 [.int .u8 ((m % 128 + 128 : Nat) : Int)] rfl rfl (cell_one_new _ _ _) (by simp [Value.oneCell']) (by unfold maxLen; omega) (by omega) (by simp; omega) ?_; intro v1 w1 hown1 hgrow1 _; have hB1 : Below w.heap.size w w1 := Below.grown (hB.alloc hsz _) hgrow1 (by simp; omega) (fun j e => (HO.out.lt j e).1); have HO1 := hid hown1; clear hown1 hgrow1)
      go_roundw
      case rel => exact ⟨m / 128, acc ++ [UInt8.ofNat (m % 128 + 128)], by rw [Int.natCast_ediv]; rfl, by omega, by rw [HE.out, natL_hi h1, List.append_assoc]; rfl, by
        rw [List.length_append, List.map_append]
        simp only [List.map_cons, List.map_nil, u8v, u8_of (m % 128 + 128) (by omega)]
        exact HO1.out, hB1⟩
      case measure => simp [intOf]; omega
    · have h1i : (m : Int) < 128 := by omega
      have hmm : (m : Int) % 256 = (m : Int) := by omega
      have hsz := hB.size
      go_wp2_with (at_builtin; refine wpList_append_own _ rfl (.tmp 15) (.tmp 18) _ rfl w.heap.size 5 i0 (.int .u8 0) 1 1 Tryz.underlying22 hi hz0 hz1 hz2 rfl (by decide) _ _ _ rfl (HO.out.alloc _) ⟨wr.heap.size, 0, none⟩ 1 1 [.int .u8 (m : Int)] rfl rfl (cell_one_new _ _ _) (by simp [Value.oneCell']) (by unfold maxLen; omega) (by omega) (by simp; omega) ?_; intro v1 w1 hown1 hgrow1 _; have hB1 : Below w.heap.size w w1 := Below.grown (hB.alloc hsz _) hgrow1 (by simp; omega) (fun j e => (HO.out.lt j e).1); have HO1 := hid hown1; clear hown1 hgrow1)
      go_ret
      have e1 : natL u = acc ++ [UInt8.ofNat m] := by rw [HE.out, natL_lo (by omega)]
      refine ⟨v1, rfl, ?_, hB1⟩
      rw [e1, List.length_append, List.map_append]
      have := HO1.out
      simp only [List.map_cons, List.map_nil, u8v, u8_of m (by omega)]
      exact this
end Go.Proofs.YtfdbanhbegngoaaGreatDoor
