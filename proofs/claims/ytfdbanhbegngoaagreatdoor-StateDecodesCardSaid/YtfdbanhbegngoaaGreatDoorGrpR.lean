/-
  THE REFERENCE OF LAYER 1, WALKED: groups, Parse.
-/
import Derived.Test.YtfdbanhbegngoaaGreatDoorGrp
namespace Go.Proofs.YtfdbanhbegngoaaGreatDoor
open Go.RowKit

/-- The number that groups make, the least first. -/
def valR : Bs → Nat
  | [] => 0
  | c :: r => c.toNat % 128 + 128 * valR r
theorem valR_snoc : ∀ (l : Bs) (c : UInt8), valR (l ++ [c]) = valR l + c.toNat % 128 * 128 ^ l.length
  | [], c => by simp [valR]
  | d :: r, c => by
    have := valR_snoc r c
    simp only [List.cons_append, valR, this, List.length_cons, Nat.pow_succ]
    rw [Nat.mul_add, Nat.add_assoc]
    congr 2
    rw [← Nat.mul_assoc, Nat.mul_comm 128, Nat.mul_assoc, Nat.mul_comm 128]
theorem valR_lt : ∀ (l : Bs), valR l < 128 ^ l.length
  | [] => by simp [valR]
  | c :: r => by
    have h := valR_lt r
    have : c.toNat % 128 < 128 := Nat.mod_lt _ (by omega)
    simp only [valR, List.length_cons, Nat.pow_succ]
    omega
theorem valR_take (l : Bs) (k : Nat) (h : k < l.length) : valR (l.take (k + 1)) = valR (l.take k) + l[k].toNat % 128 * 128 ^ k := by
  rw [List.take_add_one, List.getElem?_eq_getElem h]
  have := valR_snoc (l.take k) l[k]
  rw [List.length_take, Nat.min_eq_left (by omega)] at this
  exact this
theorem valR_drop (l : Bs) (k : Nat) (h : k < l.length) : valR (l.drop k) = l[k].toNat % 128 + 128 * valR (l.drop (k + 1)) := by
  rw [List.drop_eq_getElem_cons h]; rfl

set_option maxRecDepth 100000 in
set_option maxHeartbeats 1600000 in
theorem refGroups_any (A : Option Addr) (n c : Nat) (l : Bs) (w : World) (hs : Sl w w.heap.size 1 A n c (l.map u8v)) :
    Calls Tryz.prog 55 #[.slice A n c, .int .i64 9] w fun e w' => e = .returned (.tuple #[.int .u64 (prs l).1, .int .i64 (prs l).2.1, .int .i64 (prs l).2.2]) ∧ w = w' := by
  obtain ⟨hx1, hx2, hx3, hx4⟩ := hs
  simp only [List.length_map, Nat.mul_one] at hx1
  unfold maxLen at hx3
  subst hx1
  go_enter Tryz.func55, Tryz.ntmps55
  go_wp2_with fail
  go_loop [7] (fun kv => ∃ k : Nat, kv = .int .i64 k ∧ k ≤ l.length ∧ k ≤ 9 ∧ prs l = grp 9 (l.drop k) k (valR (l.take k))) (fun kv => l.length - (intOf kv).toNat)
  case atStart => exact ⟨0, rfl, Nat.zero_le _, by omega, rfl⟩
  case round =>
    obtain ⟨k, rfl, hk, hk9, he⟩ := hrel
    by_cases h9 : k = 9
    · subst h9
      have HR := hid (show prs l = (0, 0, 3) by
        rw [he]
        cases l.drop 9 with
        | nil => rfl
        | cons c r => rw [grp_cons, if_pos rfl])
      clear he
      have hl9 : (9 : Int) ≤ (l.length : Int) := by omega
      by_cases hl : 9 < l.length
      · have hli : (9 : Int) < (l.length : Int) := by omega
        go_wp2_with fail
        go_ret3
        exact ⟨ret_tup3 (by rw [HR.out]; rfl) (by rw [HR.out]; rfl) (by rw [HR.out]; rfl), rfl⟩
      · have hli : ¬ ((9 : Int) < (l.length : Int)) := by omega
        go_wp2_with fail
        go_ret3
        exact ⟨ret_tup3 (by rw [HR.out]; rfl) (by rw [HR.out]; rfl) (by rw [HR.out]; rfl), rfl⟩
    · have hk9i : (k : Int) < 9 := by omega
      have hk9b : ((k : Int) == 9) = false := by simp; omega
      by_cases h1 : k < l.length
      · rcases hx4 with h0 | ⟨b, off, rfl, hb, hc⟩
        · omega
        have h1i : (k : Int) < (l.length : Int) := by omega
        have h1b : ((k : Int) == (l.length : Int)) = false := by simp; omega
        have hcx := hc k (u8v l[k]) (by simp [h1])
        unfold u8v at hcx
        have hvt := valR_take l k h1
        rw [List.drop_eq_getElem_cons h1, grp_cons, if_neg h9, ← hvt] at he
        have hl' : l[k].toNat < 256 := UInt8.toNat_lt l[k]
        have HC := hid (show ∀ j, j < l.length → w.cell? ⟨b, off + j, none⟩ = some (.int .u8 (l.getD j 0).toNat) from fun j hj => hc j (u8v (l.getD j 0)) (by simp [hj]))
        clear hc hvt
        have HE := hid he
        clear he
        by_cases h2 : 128 ≤ l[k].toNat
        · have HR := hid (show prs l = grp 9 (l.drop (k + 1)) (k + 1) (valR (l.take (k + 1))) by rw [HE.out, if_neg (by omega)])
          generalize l[k].toNat = y at *
          have h2i : (128 : Int) ≤ (y : Int) := by omega
          go_wp2_with fail
          go_round
          case rel => exact ⟨k + 1, by go_num, by omega, by omega, HR.out⟩
          case measure => simp [intOf]; omega
        · have HX := hid (show ∃ y, l[k].toNat = y from ⟨_, rfl⟩)
          by_cases h0 : l[k].toNat = 0 ∧ 0 < k
          · have HR := hid (show prs l = (0, 0, 3) by rw [HE.out, if_pos (by omega), if_pos h0])
            obtain ⟨h01, h02⟩ := h0
            rw [h01] at hcx
            have hki : (0 : Int) < (k : Int) := by omega
            clear h01 h2 hl'
            go_wp2_with fail
            go_ret3
            exact ⟨ret_tup3 (by rw [HR.out]; rfl) (by rw [HR.out]; rfl) (by rw [HR.out]; rfl), rfl⟩
          · have HR := hid (show prs l = (valR (l.take (k + 1)), k + 1, 0) by rw [HE.out, if_pos (by omega), if_neg h0])
            have hT : (l.take (k + 1)).length = k + 1 := by rw [List.length_take]; omega
            have HT := hid hT
            have HG := hid (show ∀ i (hi : i < k + 1), valR ((l.take (k + 1)).drop i) = (l.getD i 0).toNat % 128 + 128 * valR ((l.take (k + 1)).drop (i + 1)) from fun i hi => by
              rw [valR_drop _ i (by omega), List.getElem_take]
              simp [List.getD, List.getElem?_eq_getElem (show i < l.length by omega)])
            have HB := hid (show ∀ i, valR ((l.take (k + 1)).drop (i + 1)) < 72057594037927936 from fun i => by
              have h := valR_lt ((l.take (k + 1)).drop (i + 1))
              have h3 : ((l.take (k + 1)).drop (i + 1)).length ≤ 8 := by rw [List.length_drop]; omega
              have h4 : 128 ^ ((l.take (k + 1)).drop (i + 1)).length ≤ 128 ^ 8 := Nat.pow_le_pow_right (by omega) h3
              omega)
            have HE0 := hid (show valR ((l.take (k + 1)).drop (k + 1)) = 0 by rw [List.drop_of_length_le (by omega)]; rfl)
            generalize l.take (k + 1) = TT at *
            have hlt : ¬ ((128 : Int) ≤ (l[k].toNat : Int)) := by omega
            have hgate : (0 : Int) < (k : Int) → ((l[k].toNat : Int) == 0) = false := fun h => by
              have : ¬ (l[k].toNat = 0) := fun h5 => h0 ⟨h5, by omega⟩
              simp
              omega
            clear h0 h2 HX
            by_cases hkz : 0 < k
            · have hki : (0 : Int) < (k : Int) := Int.natCast_pos.2 hkz
              have hy0 := hgate hki
              clear hgate
              generalize hyy : l[k].toNat = y at *
              have HYY := hid hyy
              clear hyy
              go_wp2_with fail
              go_loop [8, 9] (fun nv iv => ∃ (j : Nat) (z : Int), iv = .int .i64 z ∧ z + 1 = (j : Int) ∧ j ≤ k + 1 ∧ nv = .int .u64 (valR (TT.drop j) : Nat)) (fun _ iv => (intOf iv + 1).toNat)
              case atStart => exact ⟨k + 1, k, rfl, by omega, Nat.le_refl _, by rw [HE0.out]; rfl⟩
              case round =>
                obtain ⟨j, z, rfl, hz, hj, rfl⟩ := hrel
                by_cases hj0 : j = 0
                · subst hj0
                  obtain rfl : z = -1 := by omega
                  clear hz
                  go_wp2_with fail
                  go_ret3
                  exact ⟨ret_tup3 (by rw [HR.out]; rfl) (by rw [HR.out]; go_num) (by rw [HR.out]; rfl), rfl⟩
                · obtain ⟨i, rfl⟩ : ∃ i, j = i + 1 := ⟨j - 1, by omega⟩
                  obtain rfl : z = (i : Int) := by omega
                  have hci := HC.out i (by omega)
                  have hil : (i : Int) < (l.length : Int) := by omega
                  have HV := hid (HG.out i (by omega))
                  have hbd := HB.out i
                  have hyl : (l.getD i 0).toNat < 256 := UInt8.toNat_lt _
                  clear hz hj0 hcx
                  generalize (l.getD i 0).toNat = yi at *
                  generalize valR (TT.drop (i + 1)) = N at *
                  have hNi : (N : Int) < 72057594037927936 := by omega
                  have hyi2 : (yi : Int) < 256 := by omega
                  go_wp2_with fail
                  go_round
                  case rel => exact ⟨i, (i : Int) - 1, rfl, by omega, by omega, by rw [HV.out, show ((yi % 128 + 128 * N : Nat) : Int) = 128 * (N : Int) + (yi : Int) % 128 by omega]⟩
                  case measure => (simp [intOf] <;> omega)
            · have hki : ¬ ((0 : Int) < (k : Int)) := fun h => hkz (Int.natCast_pos.1 h)
              have hk3 : decide (0 < k) = false := decide_eq_false_iff_not.2 hkz
              clear hgate
              generalize hyy : l[k].toNat = y at *
              have HYY := hid hyy
              clear hyy
              go_wp2_with fail
              go_loop [8, 9] (fun nv iv => ∃ (j : Nat) (z : Int), iv = .int .i64 z ∧ z + 1 = (j : Int) ∧ j ≤ k + 1 ∧ nv = .int .u64 (valR (TT.drop j) : Nat)) (fun _ iv => (intOf iv + 1).toNat)
              case atStart => exact ⟨k + 1, k, rfl, by omega, Nat.le_refl _, by rw [HE0.out]; rfl⟩
              case round =>
                obtain ⟨j, z, rfl, hz, hj, rfl⟩ := hrel
                by_cases hj0 : j = 0
                · subst hj0
                  obtain rfl : z = -1 := by omega
                  clear hz
                  go_wp2_with fail
                  go_ret3
                  exact ⟨ret_tup3 (by rw [HR.out]; rfl) (by rw [HR.out]; go_num) (by rw [HR.out]; rfl), rfl⟩
                · obtain ⟨i, rfl⟩ : ∃ i, j = i + 1 := ⟨j - 1, by omega⟩
                  obtain rfl : z = (i : Int) := by omega
                  have hci := HC.out i (by omega)
                  have hil : (i : Int) < (l.length : Int) := by omega
                  have HV := hid (HG.out i (by omega))
                  have hbd := HB.out i
                  have hyl : (l.getD i 0).toNat < 256 := UInt8.toNat_lt _
                  clear hz hj0 hcx
                  generalize (l.getD i 0).toNat = yi at *
                  generalize valR (TT.drop (i + 1)) = N at *
                  have hNi : (N : Int) < 72057594037927936 := by omega
                  have hyi2 : (yi : Int) < 256 := by omega
                  go_wp2_with fail
                  go_round
                  case rel => exact ⟨i, (i : Int) - 1, rfl, by omega, by omega, by rw [HV.out, show ((yi % 128 + 128 * N : Nat) : Int) = 128 * (N : Int) + (yi : Int) % 128 by omega]⟩
                  case measure => (simp [intOf] <;> omega)
      · have hkl : k = l.length := by omega
        subst hkl
        have HR := hid (show prs l = (0, 0, 28) by rw [he, List.drop_length, grp_nil, if_neg (by omega)])
        clear he
        go_wp2_with fail
        go_ret3
        exact ⟨ret_tup3 (by rw [HR.out]; rfl) (by rw [HR.out]; rfl) (by rw [HR.out]; rfl), rfl⟩

set_option maxRecDepth 100000 in
set_option maxHeartbeats 1000000 in
theorem refParse01_any (A : Option Addr) (n c : Nat) (l : Bs) (w : World) (hs : Sl w w.heap.size 1 A n c (l.map u8v)) :
    Calls Tryz.prog 23 #[.slice A n c] w fun e w' => e = .returned (.tuple #[.int .i64 (prs l).1, .int .i64 (prs l).2.1, .int .i64 (prs l).2.2]) ∧ w = w' := by
  have HG := hid (refGroups_any A n c l w hs)
  have hlt := prs_lt l
  generalize (prs l).1 = a at *
  generalize (prs l).2.1 = b at *
  generalize (prs l).2.2 = d at *
  go_enter Tryz.func23, Tryz.ntmps23
  go_wp2_with (go_at_call 55; refine HG.out.mono ?_; rintro e w' ⟨rfl, rfl⟩)
  go_ret3
  exact ⟨rfl, rfl⟩
end Go.Proofs.YtfdbanhbegngoaaGreatDoor
