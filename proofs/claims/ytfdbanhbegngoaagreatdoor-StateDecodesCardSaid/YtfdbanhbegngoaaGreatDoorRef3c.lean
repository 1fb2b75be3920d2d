/-
  THE REFERENCE OF LAYER 3, WALKED: Compare. AND of layer 4: order.
-/
import Derived.Test.YtfdbanhbegngoaaGreatDoorRef3
namespace Go.Proofs.YtfdbanhbegngoaaGreatDoor
open Go.RowKit

theorem Sl.drew' {w : World} {B size n cap : Nat} {A : Option Addr} {xs : List Value} (h : Sl w B size A n cap xs) : Sl w.drew B size A n cap xs := h.keep (fun _ _ _ => rfl)

theorem cmpB : ∀ l m : List UInt8, Lib.compareBytes l m = if Op.bytesLess l m then -1 else if l == m then 0 else 1
  | [], [] => rfl
  | [], _ :: _ => by simp [Lib.compareBytes, Op.bytesLess]
  | _ :: _, [] => by simp [Lib.compareBytes, Op.bytesLess]
  | a :: x, b :: y => by
    have ih := cmpB x y
    simp only [Lib.compareBytes, Op.bytesLess, ih]
    by_cases h1 : a < b
    · simp [h1]
    · by_cases h2 : b < a
      · have h3 : a ≠ b := by rintro rfl; exact h1 h2
        simp [h1, h2, h3]
      · have h3 : a = b := UInt8.toNat_inj.1 (by have := h1; have := h2; simp only [UInt8.lt_iff_toNat_lt] at *; omega)
        subst h3
        simp [h1]

set_option maxHeartbeats 400000 in
theorem order_any (a b : Int) (w : World) : Calls Tryz.prog 64 #[.int .i64 a, .int .i64 b] w fun e w' => e = .returned (.int .i64 (Lib.compareInt a b)) ∧ w = w' := by
  have hc : Lib.compareInt a b = if a < b then -1 else if b < a then 1 else 0 := rfl
  have HC := hid hc
  clear hc
  by_cases h1 : a < b
  · go_enter Tryz.func64, Tryz.ntmps64
    go_wp2
    go_ret
    exact ⟨ret_int (by rw [HC.out, if_pos h1]), rfl⟩
  · by_cases h2 : b < a
    · go_enter Tryz.func64, Tryz.ntmps64
      go_wp2
      go_ret
      exact ⟨ret_int (by rw [HC.out, if_neg (by omega), if_pos h2]), rfl⟩
    · go_enter Tryz.func64, Tryz.ntmps64
      go_wp2
      go_ret
      exact ⟨ret_int (by rw [HC.out, if_neg (by omega), if_neg (by omega)]), rfl⟩

set_option maxRecDepth 100000 in
set_option maxHeartbeats 1600000 in
theorem refCmp_any (a b : ByteArray) (ha : a.size ≤ 1000000) (hb : b.size ≤ 1000000) (w : World) :
    Calls Tryz.prog 65 #[.string a, .string b] w fun e w' => e = .returned (.int .i64 (cmpLin a.data.toList b.data.toList)) ∧ Below w.heap.size w w' := by
  have hva : M.valid a.data.toList = ((M.parse a.data.toList).2.2 == 0) := rfl
  have hvb : M.valid b.data.toList = ((M.parse b.data.toList).2.2 == 0) := rfl
  have HV := hid (And.intro hva hvb)
  have hcl : cmpLin a.data.toList b.data.toList = if M.valid a.data.toList && M.valid b.data.toList then M.cmpInts (M.ords a.data.toList) (M.ords b.data.toList) else if M.valid a.data.toList then -1 else if M.valid b.data.toList then 1 else Lib.compareBytes a.data.toList b.data.toList := rfl
  rw [hva, hvb] at hcl
  have HC := hid hcl
  clear hcl hva hvb
  go_enter Tryz.func65, Tryz.ntmps65
  go_upto_region 1 with fail
  have p1 := refParse_any a ha w
  have p2 := fun w' => refParse_any b hb w'
  generalize (M.parse a.data.toList).2.2 = ea at *
  generalize (M.parse b.data.toList).2.2 = eb at *
  generalize (M.parse a.data.toList).2.1 = fa at *
  generalize (M.parse b.data.toList).2.1 = fb at *
  generalize M.ords a.data.toList = xs at *
  generalize M.ords b.data.toList = ys at *
  have P1 := hid p1; have P2 := hid p2
  clear p1 p2
  go_upto_region 3 with (first
    | (go_at_call_of 90 (Value.string a); refine P1.out.mono ?_; rintro e w1 ⟨v1, rfl, ho1, hb1⟩)
    | (go_at_call_of 90 (Value.string b); refine (P2.out _).mono ?_; rintro e w2 ⟨v2, rfl, ho2, hb2⟩))
  have hB2 : Below w.heap.size w w2 := hb1.trans (hb2.mono hb1.size)
  obtain ⟨A, c, rfl, hs1⟩ := Sl.of_own ho1
  obtain ⟨A', c', rfl, hs2⟩ := Sl.of_own ho2
  have hs1' := (hs1.below hb2).more hb2.size
  clear ho1 ho2 hs1 P1 P2 HV hb1 hb2
  by_cases hea : ea = 0
  · by_cases heb : eb = 0
    · subst hea heb
      go_wp2_with fail
      go_loopw [11] (fun i wr => ∃ k : Nat, i = .int .i64 k ∧ k ≤ xs.length ∧ k ≤ ys.length ∧ M.cmpInts xs ys = M.cmpInts (xs.drop k) (ys.drop k) ∧ Below w2.heap.size w2 wr) (fun i _ => xs.length - (intOf i).toNat)
      case atStart => exact ⟨0, rfl, Nat.zero_le _, Nat.zero_le _, rfl, Below.refl _ _⟩
      case round =>
        obtain ⟨k, rfl, hk, hk', he, hBw⟩ := hrel
        have HE := hid he; clear he
        obtain ⟨hx1, hx2, hx3, hx4⟩ := hs1'.below hBw
        obtain ⟨hy1, hy2, hy3, hy4⟩ := hs2.below hBw
        unfold maxLen at hx3 hy3
        have hBf := hB2.trans (hBw.mono hB2.size)
        clear hx1 hy1
        by_cases h1 : k < xs.length
        · rcases hx4 with h0 | ⟨b0, off, rfl, hb0, hc0⟩
          · omega
          have hcx := hc0 k (i64v xs[k]) (by simp [h1])
          unfold i64v at hcx
          by_cases h2 : k < ys.length
          · rcases hy4 with h0 | ⟨b1, off', rfl, hb1, hc1⟩
            · omega
            have hcy := hc1 k (i64v ys[k]) (by simp [h2])
            unfold i64v at hcy
            have hd := cmpInts_drop xs ys k h1 h2
            have HD := hid hd; clear hd hc0 hc1
            have HX := hid (And.intro hs1' hs2)
            clear hs1' hs2
            by_cases h3 : xs[k] < ys[k]
            · go_wp2_with fail
              go_region
              all_goals
                go_wp2_with fail
                go_ret
                exact ⟨ret_int (by rw [HC.out, if_pos (by rfl), HE.out, HD.out, if_pos h3]), hBf.drew⟩
            · by_cases h4 : ys[k] < xs[k]
              · go_wp2_with fail
                go_region
                go_wp2_with fail
                go_region
                all_goals
                  go_wp2_with fail
                  go_ret
                  exact ⟨ret_int (by rw [HC.out, if_pos (by rfl), HE.out, HD.out, if_neg (by omega), if_pos h4]), hBf.drew.drew⟩
              · go_wp2_with fail
                go_region
                go_wp2_with fail
                go_region
                go_wp2_with fail
                go_roundw
                case rel => exact ⟨k + 1, by go_num, by omega, by omega, by rw [HE.out, HD.out, if_neg (by omega), if_neg (by omega)], hBw.drew.drew⟩
                case measure => simp [intOf]; omega
          · clear hc0
            have hd : M.cmpInts (xs.drop k) (ys.drop k) = 1 := by
              rw [List.drop_of_length_le (l := ys) (by omega), List.drop_eq_getElem_cons h1]; rfl
            have HD := hid hd; clear hd hs1' hs2 hy4
            have hl1 : ¬ (xs.length : Int) < (ys.length : Int) := by omega
            have hl2 : (ys.length : Int) < (xs.length : Int) := by omega
            go_wp2_with fail
            go_ret
            exact ⟨ret_int (by rw [HC.out, if_pos (by rfl), HE.out, HD.out]), hBf⟩
        · have hkx : k = xs.length := by omega
          clear hx4 hy4 hs1' hs2
          by_cases h3 : xs.length < ys.length
          · have hd : M.cmpInts (xs.drop k) (ys.drop k) = -1 := by
              rw [List.drop_of_length_le (l := xs) (by omega), List.drop_eq_getElem_cons (l := ys) (by omega)]; rfl
            have HD := hid hd; clear hd hkx
            have hl1 : (xs.length : Int) < (ys.length : Int) := by omega
            go_wp2_with fail
            go_ret
            exact ⟨ret_int (by rw [HC.out, if_pos (by rfl), HE.out, HD.out]), hBf⟩
          · have hd : M.cmpInts (xs.drop k) (ys.drop k) = 0 := by
              rw [List.drop_of_length_le (l := xs) (by omega), List.drop_of_length_le (l := ys) (by omega)]; rfl
            have HD := hid hd; clear hd hkx
            have hl1 : ¬ (xs.length : Int) < (ys.length : Int) := by omega
            have hl2 : ¬ (ys.length : Int) < (xs.length : Int) := by omega
            go_wp2_with fail
            go_ret
            exact ⟨ret_int (by rw [HC.out, if_pos (by rfl), HE.out, HD.out]), hBf⟩
    · have hebb : (eb != 0) = true := by simp [heb]
      have HEB := hid heb
      subst hea
      clear heb
      go_wp2_with fail
      go_ret
      exact ⟨ret_int (by rw [HC.out]; simp [HEB.out]), hB2⟩
  · by_cases heb : eb = 0
    · have heab : (ea != 0) = true := by simp [hea]
      have heab2 : (ea == 0) = false := by simp [hea]
      have HEA := hid hea
      subst heb
      clear hea
      go_wp2_with fail
      go_ret
      exact ⟨ret_int (by rw [HC.out]; simp [HEA.out]), hB2⟩
    · have heab : (ea != 0) = true := by simp [hea]
      have heab2 : (ea == 0) = false := by simp [hea]
      have heb2 : (eb == 0) = false := by simp [heb]
      have HEA := hid (And.intro hea heb)
      clear hea heb
      go_wp2_with fail
      · have hl : Op.bytesLess a.toList b.toList = true := by assumption
        go_ret
        exact ⟨ret_int (by rw [HC.out]; simp [HEA.out]; rw [cmpB, ← ByteArray.toList_eq, ← ByteArray.toList_eq, hl]; rfl), hB2⟩
      · have hl : Op.bytesLess a.toList b.toList = false := by assumption
        have hn : (!(a.toList == b.toList)) = true := by assumption
        go_ret
        exact ⟨ret_int (by rw [HC.out]; simp [HEA.out]; rw [cmpB, ← ByteArray.toList_eq, ← ByteArray.toList_eq, hl]; simp at hn; simp [hn]), hB2⟩
      · have hl : Op.bytesLess a.toList b.toList = false := by assumption
        have hn : (!(a.toList == b.toList)) = false := by assumption
        go_ret
        exact ⟨ret_int (by rw [HC.out]; simp [HEA.out]; rw [cmpB, ← ByteArray.toList_eq, ← ByteArray.toList_eq, hl]; simp at hn; simp [hn]), hB2⟩
end Go.Proofs.YtfdbanhbegngoaaGreatDoor
