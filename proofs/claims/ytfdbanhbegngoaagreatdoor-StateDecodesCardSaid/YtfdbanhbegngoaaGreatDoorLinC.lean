/-
  LAYER 3, WALKED: Valid, Ordinals, Compare.
-/
import Derived.Lib.AtoiErrMem
import Derived.Test.YtfdbanhbegngoaaGreatDoorLinP
import Derived.Test.YtfdbanhbegngoaaGreatDoorShelf
namespace Go.Proofs.YtfdbanhbegngoaaGreatDoor
open Go.RowKit

theorem atoiOk : AtoiOk := fun s n w hl h => (Tryz.strconv_Atoi s n hl h w).mono fun e w' ⟨he, t, hw⟩ => ⟨he, by subst hw; exact Lib.bytesWorld_below _ _ _⟩

theorem parse_any (s : ByteArray) (hs : s.size ≤ maxLen) (w : World) :
    Calls Tryz.prog 91 #[.string s] w fun e W' => ∃ v, e = .returned (.tuple #[v, .int .i64 (M.parse s.data.toList).2.1, .int .i64 (M.parse s.data.toList).2.2]) ∧
      W'.ownsRow w.heap.size 3 1 v (M.ords s.data.toList).length ((M.ords s.data.toList).map i64v) ∧ Below w.heap.size w W' :=
  callsIn_wide.1 (parse_in atoiOk 3 (Nat.le_refl _) s hs w)

set_option maxHeartbeats 400000 in
theorem valid_any (s : ByteArray) (hs : s.size ≤ maxLen) (w : World) :
    Calls Tryz.prog 74 #[.string s] w fun e W' => e = .returned (.bool (M.valid s.data.toList)) ∧ Below w.heap.size w W' := by
  go_enter Tryz.func74, Tryz.ntmps74
  go_wp2_with (go_at_call 91; refine (parse_any s hs _).mono ?_; rintro e w' ⟨v, rfl, hown, hb⟩)
  go_ret
  exact ⟨rfl, hb⟩

set_option maxHeartbeats 400000 in
theorem ords_any (s : ByteArray) (hs : s.size ≤ maxLen) (w : World) :
    Calls Tryz.prog 83 #[.string s] w fun e W' => ∃ v, e = .returned v ∧ W'.ownsRow w.heap.size 3 1 v (M.ords s.data.toList).length ((M.ords s.data.toList).map i64v) ∧ Below w.heap.size w W' := by
  go_enter Tryz.func83, Tryz.ntmps83
  go_wp2_with (go_at_call 91; refine (parse_any s hs _).mono ?_; rintro e w' ⟨v, rfl, hown, hb⟩)
  go_ret
  exact ⟨v, rfl, hown, hb⟩

theorem cmpInts_drop (xs ys : List Int) (k : Nat) (hk : k < xs.length) (hk' : k < ys.length) :
    M.cmpInts (xs.drop k) (ys.drop k) = if xs[k] < ys[k] then -1 else if ys[k] < xs[k] then 1 else M.cmpInts (xs.drop (k + 1)) (ys.drop (k + 1)) := by
  rw [List.drop_eq_getElem_cons hk, List.drop_eq_getElem_cons hk', M.cmpInts]

theorem ci_ne {a b r : Int} (h : (Lib.compareInt a b != 0) = true) : (if a < b then -1 else if b < a then 1 else r) = Lib.compareInt a b := by
  unfold Lib.compareInt at *
  by_cases h1 : a < b
  · simp [h1]
  · by_cases h2 : b < a
    · simp [h1, h2]
    · simp [h1, h2] at h
theorem ci_eq {a b r : Int} (h : (Lib.compareInt a b != 0) = false) : (if a < b then -1 else if b < a then 1 else r) = r := by
  unfold Lib.compareInt at h
  by_cases h1 : a < b
  · simp [h1] at h
  · by_cases h2 : b < a
    · simp [h1, h2] at h
    · simp [h1, h2]
theorem ret_int {k : IntKind} {a b : Int} (h : a = b) : Ending.returned (.int k a) = .returned (.int k b) := by rw [h]

set_option maxRecDepth 100000 in
set_option maxHeartbeats 1000000 in
theorem compareInts_any (A A' : Option Addr) (n m c c' : Nat) (xs ys : List Int) (w : World) (hx : Sl w w.heap.size 1 A n c (xs.map i64v)) (hy : Sl w w.heap.size 1 A' m c' (ys.map i64v)) :
    Calls Tryz.prog 82 #[.slice A n c, .slice A' m c'] w fun e w' => e = .returned (.int .i64 (M.cmpInts xs ys)) ∧ w = w' := by
  obtain ⟨hx1, hx2, hx3, hx4⟩ := hx
  obtain ⟨hy1, hy2, hy3, hy4⟩ := hy
  simp only [List.length_map, Nat.mul_one] at hx1 hy1
  unfold maxLen at hx3 hy3
  subst hx1 hy1
  go_enter Tryz.func82, Tryz.ntmps82
  go_wp2
  go_loop [11] (fun i => ∃ k : Nat, i = .int .i64 k ∧ k ≤ xs.length ∧ k ≤ ys.length ∧ M.cmpInts xs ys = M.cmpInts (xs.drop k) (ys.drop k)) (fun i => xs.length - (intOf i).toNat)
  case atStart => exact ⟨0, rfl, Nat.zero_le _, Nat.zero_le _, rfl⟩
  case round =>
    obtain ⟨k, rfl, hk, hk', he⟩ := hrel
    have HE := hid he; clear he
    by_cases h1 : k < xs.length
    · rcases hx4 with h0 | ⟨b, off, rfl, hb, hc⟩
      · omega
      have hcx := hc k (i64v xs[k]) (by simp [h1])
      unfold i64v at hcx
      by_cases h2 : k < ys.length
      · rcases hy4 with h0 | ⟨b', off', rfl, hb', hc'⟩
        · omega
        have hcy := hc' k (i64v ys[k]) (by simp [h2])
        unfold i64v at hcy
        have hd := cmpInts_drop xs ys k h1 h2
        have HD := hid hd; clear hd hc hc'
        go_wp2_with (go_at_call 49; refine (Tryz.cmp_Compare_int _ _ _).mono ?_; rintro e w' ⟨rfl, rfl⟩)
        · have hne : (Lib.compareInt xs[k] ys[k] != 0) = true := by assumption
          go_ret
          exact ⟨ret_int (by rw [HE.out, HD.out, ci_ne hne]), rfl⟩
        · have hne : (Lib.compareInt xs[k] ys[k] != 0) = false := by assumption
          go_round
          case rel => exact ⟨k + 1, by go_num, by omega, by omega, by rw [HE.out, HD.out, ci_eq hne]⟩
          case measure => simp [intOf]; omega
      · clear hc
        have hd : M.cmpInts (xs.drop k) (ys.drop k) = 1 := by
          rw [List.drop_of_length_le (l := ys) (by omega), List.drop_eq_getElem_cons h1]; rfl
        have HD := hid hd; clear hd
        go_wp2
        go_ret
        exact ⟨ret_int (by rw [HE.out, HD.out]), rfl⟩
    · have hkx : k = xs.length := by omega
      by_cases h3 : xs.length < ys.length
      · have hd : M.cmpInts (xs.drop k) (ys.drop k) = -1 := by
          rw [List.drop_of_length_le (l := xs) (by omega), List.drop_eq_getElem_cons (l := ys) (by omega)]; rfl
        have HD := hid hd; clear hd hkx
        go_wp2
        go_ret
        exact ⟨ret_int (by rw [HE.out, HD.out]), rfl⟩
      · have hd : M.cmpInts (xs.drop k) (ys.drop k) = 0 := by
          rw [List.drop_of_length_le (l := xs) (by omega), List.drop_of_length_le (l := ys) (by omega)]; rfl
        have HD := hid hd; clear hd hkx
        go_wp2
        go_ret
        exact ⟨ret_int (by rw [HE.out, HD.out]), rfl⟩

/-- lineage.Compare. -/
def cmpLin (a b : Bs) : Int := if M.valid a && M.valid b then M.cmpInts (M.ords a) (M.ords b) else if M.valid a then -1 else if M.valid b then 1 else Lib.compareBytes a b

set_option maxRecDepth 100000 in
set_option maxHeartbeats 1000000 in
theorem cmpLin_any (a b : ByteArray) (ha : a.size ≤ maxLen) (hb : b.size ≤ maxLen) (w : World) :
    Calls Tryz.prog 50 #[.string a, .string b] w fun e w' => e = .returned (.int .i64 (cmpLin a.data.toList b.data.toList)) ∧ Below w.heap.size w w' := by
  obtain ⟨va, hva⟩ : ∃ v, v = M.valid a.data.toList := ⟨_, rfl⟩
  obtain ⟨vb, hvb⟩ : ∃ v, v = M.valid b.data.toList := ⟨_, rfl⟩
  have ca := fun w => valid_any a ha w
  have cb := fun w => valid_any b hb w
  rw [← hva] at ca
  rw [← hvb] at cb
  have HVA := hid hva; have HVB := hid hvb; have CA := hid ca; have CB := hid cb
  clear hva hvb ca cb
  go_enter Tryz.func50, Tryz.ntmps50
  go_wp2_with fail
  refine (CA.out _).mono ?_
  rintro e w1 ⟨rfl, hb1⟩
  go_wp2_with fail
  refine (CB.out _).mono ?_
  rintro e w2 ⟨rfl, hb2⟩
  have hB2 : Below w.heap.size w w2 := hb1.trans (hb2.mono hb1.size)
  cases va with
  | true =>
    cases vb with
    | true =>
      go_wp2_with fail
      refine (ords_any a ha _).mono ?_
      rintro e w3 ⟨v3, rfl, ho3, hb3⟩
      go_wp2_with fail
      refine (ords_any b hb _).mono ?_
      rintro e w4 ⟨v4, rfl, ho4, hb4⟩
      obtain ⟨A, c, rfl, hs3⟩ := Sl.of_own ho3
      obtain ⟨A', c', rfl, hs4⟩ := Sl.of_own ho4
      have hs3' := (hs3.below hb4).more hb4.size
      go_wp2_with fail
      refine (compareInts_any _ _ _ _ _ _ _ _ _ hs3' hs4).mono ?_
      rintro e w5 ⟨rfl, rfl⟩
      go_wp2_with fail
      go_ret
      exact ⟨ret_int (by rw [cmpLin, ← HVA.out, ← HVB.out]; rfl), (hB2.trans (hb3.mono hB2.size)).trans (hb4.mono (Nat.le_trans hB2.size hb3.size))⟩
    | false =>
      go_wp2_with fail
      go_ret
      exact ⟨ret_int (by rw [cmpLin, ← HVA.out, ← HVB.out]; rfl), hB2⟩
  | false =>
    cases vb with
    | true =>
      go_wp2_with fail
      go_ret
      exact ⟨ret_int (by rw [cmpLin, ← HVA.out, ← HVB.out]; rfl), hB2⟩
    | false =>
      go_wp2_with fail
      refine (Tryz.strings_Compare a b _).mono ?_
      rintro e w5 ⟨rfl, rfl⟩
      go_wp2_with fail
      go_ret
      exact ⟨ret_int (by rw [cmpLin, ← HVA.out, ← HVB.out]; rfl), hB2⟩
end Go.Proofs.YtfdbanhbegngoaaGreatDoor
