/-
  THE REFERENCE OF LAYER 4, WALKED: Compare, Owned, Numbered, Most, Texted, Word.
  THE REFERENCE OF LAYER 4, WALKED: Owned, Numbered, Most, Texted, Word, Check.
-/
import Derived.Test.YtfdbanhbegngoaaGreatDoorRef3c
import Derived.Laws.RangeString
import Derived.Laws.RangeAny
namespace Go.Proofs.YtfdbanhbegngoaaGreatDoor
open Go.RowKit

theorem ci_ne0 {a b : Int} (h : a ≠ b) : Lib.compareInt a b ≠ 0 := by unfold Lib.compareInt; split; · decide
                                                                      split; · decide
                                                                      omega
theorem ci_eq0 {a b : Int} (h : a = b) : Lib.compareInt a b = 0 := by subst h; unfold Lib.compareInt; simp
theorem ne_t {a b : Int} (h : a ≠ b) : (a != b) = true := by simp [h]
theorem ne_f {a b : Int} (h : a = b) : (a != b) = false := by simp [h]

set_option maxRecDepth 100000 in
set_option maxHeartbeats 1600000 in
theorem refCmpN_any (a b : Nm) (ha : a.owner.size ≤ 1000000) (hb : b.owner.size ≤ 1000000) (w : World) :
    Calls Tryz.prog 26 #[nmV a, nmV b] w fun e w' => e = .returned (.int .i64 (cmpN a b)) ∧ Below w.heap.size w w' := by
  obtain ⟨k, o, n, i, t⟩ := a
  obtain ⟨k', o', n', i', t'⟩ := b
  dsimp only at ha hb
  have hc : cmpN ⟨k, o, n, i, t⟩ ⟨k', o', n', i', t'⟩ = orI [Lib.compareInt k k', cmpLin o.data.toList o'.data.toList, Lib.compareInt n n', Lib.compareInt i i', Lib.compareBytes t.data.toList t'.data.toList] := rfl
  have hc5 : Lib.compareBytes t.data.toList t'.data.toList = if Op.bytesLess t.toList t'.toList then -1 else if t.toList == t'.toList then 0 else 1 := by
    rw [cmpB, ByteArray.toList_eq, ByteArray.toList_eq]
  rw [hc5] at hc
  clear hc5
  have p1 := fun w => order_any k k' w
  have p2 := fun w => order_any n n' w
  have p3 := fun w => order_any i i' w
  have p4 := fun w => refCmp_any o o' ha hb w
  have hk : k ≠ k' → Lib.compareInt k k' ≠ 0 := ci_ne0
  have hk0 : k = k' → Lib.compareInt k k' = 0 := ci_eq0
  have hn : n ≠ n' → Lib.compareInt n n' ≠ 0 := ci_ne0
  have hn0 : n = n' → Lib.compareInt n n' = 0 := ci_eq0
  have hi : i ≠ i' → Lib.compareInt i i' ≠ 0 := ci_ne0
  have hi0 : i = i' → Lib.compareInt i i' = 0 := ci_eq0
  generalize Lib.compareInt k k' = x1 at *
  generalize Lib.compareInt n n' = x2 at *
  generalize Lib.compareInt i i' = x3 at *
  generalize cmpLin o.data.toList o'.data.toList = x4 at *
  have P1 := hid p1; have P2 := hid p2; have P3 := hid p3; have P4 := hid p4; have HC := hid hc
  clear p1 p2 p3 p4 hc
  unfold nmV
  go_enter Tryz.func26, Tryz.ntmps26
  go_upto_region 1 with fail
  generalize hW : (w.alloc (.cells #[.int .i64 k, .string o, .int .i64 n, .int .i64 i, .string t] 63)).alloc (.cells #[.int .i64 k', .string o', .int .i64 n', .int .i64 i', .string t'] 63) = W
  have b1 : Blk W w.heap.size 63 #[.int .i64 k, .string o, .int .i64 n, .int .i64 i, .string t] := by rw [← hW]; exact (Blk.new _ _ _).alloc _
  have b2 : Blk W (w.heap.size + 1) 63 #[.int .i64 k', .string o', .int .i64 n', .int .i64 i', .string t'] := by rw [← hW]; exact Blk.new_ _ _ _ (by simp)
  have hB : Below w.heap.size w W := by rw [← hW]; exact (((Below.refl _ _).alloc (Nat.le_refl _) _).alloc (by simp) _)
  have l1 := b1.lt
  have l2 := b2.lt
  clear hW
  have KK : ∀ w', Below W.heap.size W w' → w'.cell? ⟨w.heap.size, 0, none⟩ = some (.int .i64 k) ∧ w'.cell? ⟨w.heap.size, 1, none⟩ = some (.string o) ∧ w'.cell? ⟨w.heap.size, 2, none⟩ = some (.int .i64 n) ∧ w'.cell? ⟨w.heap.size, 3, none⟩ = some (.int .i64 i) ∧ w'.cell? ⟨w.heap.size, 4, none⟩ = some (.string t) ∧
      w'.cell? ⟨w.heap.size + 1, 0, none⟩ = some (.int .i64 k') ∧ w'.cell? ⟨w.heap.size + 1, 1, none⟩ = some (.string o') ∧ w'.cell? ⟨w.heap.size + 1, 2, none⟩ = some (.int .i64 n') ∧ w'.cell? ⟨w.heap.size + 1, 3, none⟩ = some (.int .i64 i') ∧ w'.cell? ⟨w.heap.size + 1, 4, none⟩ = some (.string t') := by
    intro w' hb
    have c1 := b1.below hb l1
    have c2 := b2.below hb l2
    exact ⟨c1.cell 0, c1.cell 1, c1.cell 2, c1.cell 3, c1.cell 4, c2.cell 0, c2.cell 1, c2.cell 2, c2.cell 3, c2.cell 4⟩
  obtain ⟨q0, q1, q2, q3, q4, q5, q6, q7, q8, q9⟩ := KK W (Below.refl _ _)
  have K := hid KK
  clear KK b1 b2
  by_cases ek : k = k'
  · have ekb := ne_f ek
    have z1 := hk0 ek
    have Z1 := hid z1
    clear ek hk hk0 z1
    by_cases eo : x4 = 0
    · subst eo
      by_cases en : n = n'
      · have enb := ne_f en
        have z2 := hn0 en
        have Z2 := hid z2
        clear en hn hn0 z2
        by_cases ei : i = i'
        · have eib := ne_f ei
          have z3 := hi0 ei
          have Z3 := hid z3
          clear ei hi hi0 z3
          go_wp2_with (go_at_call 65; refine (P4.out _).mono ?_; rintro e w1 ⟨rfl, hb1⟩; obtain ⟨r0, r1, r2, r3, r4, r5, r6, r7, r8, r9⟩ := K.out _ hb1)
          · have hl : Op.bytesLess t.toList t'.toList = true := by assumption
            go_ret
            exact ⟨ret_int (by rw [HC.out, hl]; simp [orI, Z1.out, Z2.out, Z3.out]), hB.trans (hb1.mono hB.size)⟩
          · have hl : Op.bytesLess t.toList t'.toList = false := by assumption
            have hn : (!(t.toList == t'.toList)) = true := by assumption
            go_ret
            exact ⟨ret_int (by rw [HC.out, hl]; simp at hn; simp [orI, Z1.out, Z2.out, Z3.out, hn]), hB.trans (hb1.mono hB.size)⟩
          · have hl : Op.bytesLess t.toList t'.toList = false := by assumption
            have hn : (!(t.toList == t'.toList)) = false := by assumption
            go_ret
            exact ⟨ret_int (by rw [HC.out, hl]; simp at hn; simp [orI, Z1.out, Z2.out, Z3.out, hn]), hB.trans (hb1.mono hB.size)⟩
        · have eib := ne_t ei
          have z3 := hi ei
          have Z3 := hid z3
          clear ei hi hi0 z3
          go_wp2_with (first
            | (go_at_call 65; refine (P4.out _).mono ?_; rintro e w1 ⟨rfl, hb1⟩; obtain ⟨r0, r1, r2, r3, r4, r5, r6, r7, r8, r9⟩ := K.out _ hb1)
            | (go_at_call 64; refine (P3.out _).mono ?_; rintro e w2 ⟨rfl, rfl⟩))
          go_ret
          exact ⟨ret_int (by rw [HC.out]; simp [orI, Z1.out, Z2.out, Z3.out]), hB.trans (hb1.mono hB.size)⟩
      · have enb := ne_t en
        have z2 := hn en
        have Z2 := hid z2
        clear en hn hn0 z2 hi hi0
        go_wp2_with (first
          | (go_at_call 65; refine (P4.out _).mono ?_; rintro e w1 ⟨rfl, hb1⟩; obtain ⟨r0, r1, r2, r3, r4, r5, r6, r7, r8, r9⟩ := K.out _ hb1)
          | (go_at_call 64; refine (P2.out _).mono ?_; rintro e w2 ⟨rfl, rfl⟩))
        go_ret
        exact ⟨ret_int (by rw [HC.out]; simp [orI, Z1.out, Z2.out]), hB.trans (hb1.mono hB.size)⟩
    · have eob : (x4 != 0) = true := ne_t eo
      have Z4 := hid eo
      clear eo hn hn0 hi hi0
      go_wp2_with (go_at_call 65; refine (P4.out _).mono ?_; rintro e w1 ⟨rfl, hb1⟩; obtain ⟨r0, r1, r2, r3, r4, r5, r6, r7, r8, r9⟩ := K.out _ hb1)
      go_ret
      exact ⟨ret_int (by rw [HC.out]; simp [orI, Z1.out, Z4.out]), hB.trans (hb1.mono hB.size)⟩
  · have ekb := ne_t ek
    have z1 := hk ek
    have Z1 := hid z1
    clear ek hk hk0 z1 hn hn0 hi hi0
    go_wp2_with (go_at_call 64; refine (P1.out _).mono ?_; rintro e w2 ⟨rfl, rfl⟩)
    go_ret
    exact ⟨ret_int (by rw [HC.out]; simp [orI, Z1.out]), hB⟩
end Go.Proofs.YtfdbanhbegngoaaGreatDoor
namespace Go.Proofs.YtfdbanhbegngoaaGreatDoor
open Go.RowKit

def ownB (k : Int) : Bool := (decide (1 ≤ k) && decide (k ≤ 12)) || decide (k = 18) || decide (k = 19)
def numB (k : Int) : Bool := (decide (7 ≤ k) && decide (k ≤ 13)) || decide (k = 16) || decide (k = 18)
def txtB (k : Int) : Bool := decide (k = 9) || decide (k = 14) || decide (k = 17)
def mostI (k : Int) : Int := if k = 3 ∨ k = 8 then 63 else if k = 18 then 1073741824 else -1
theorem kinds_eq (k : Nat) (h1 : 1 ≤ k) (h2 : k ≤ 20) : kOwn k = ownB k ∧ kNum k = numB k ∧ kTxt k = txtB k ∧ kMost k = mostI k := by
  obtain rfl | rfl | rfl | rfl | rfl | rfl | rfl | rfl | rfl | rfl | rfl | rfl | rfl | rfl | rfl | rfl | rfl | rfl | rfl | rfl : k = 1 ∨ k = 2 ∨ k = 3 ∨ k = 4 ∨ k = 5 ∨ k = 6 ∨ k = 7 ∨ k = 8 ∨ k = 9 ∨ k = 10 ∨ k = 11 ∨ k = 12 ∨ k = 13 ∨ k = 14 ∨ k = 15 ∨ k = 16 ∨ k = 17 ∨ k = 18 ∨ k = 19 ∨ k = 20 := by omega
  all_goals exact ⟨rfl, rfl, rfl, rfl⟩

set_option maxHeartbeats 400000 in
theorem own_any (k : Int) (w : World) : Calls Tryz.prog 58 #[.int .i64 k] w fun e w' => e = .returned (.bool (ownB k)) ∧ w = w' := by
  go_enter Tryz.func58, Tryz.ntmps58
  go_wp2
  all_goals
    go_ret
    exact ⟨ret_bool (by unfold ownB; rw [Bool.eq_iff_iff]; simp <;> omega), rfl⟩

set_option maxHeartbeats 400000 in
theorem num_any (k : Int) (w : World) : Calls Tryz.prog 60 #[.int .i64 k] w fun e w' => e = .returned (.bool (numB k)) ∧ w = w' := by
  go_enter Tryz.func60, Tryz.ntmps60
  go_wp2
  all_goals
    go_ret
    exact ⟨ret_bool (by unfold numB; rw [Bool.eq_iff_iff]; simp <;> omega), rfl⟩

set_option maxHeartbeats 400000 in
theorem txt_any (k : Int) (w : World) : Calls Tryz.prog 62 #[.int .i64 k] w fun e w' => e = .returned (.bool (txtB k)) ∧ w = w' := by
  go_enter Tryz.func62, Tryz.ntmps62
  go_wp2
  all_goals
    go_ret
    exact ⟨ret_bool (by unfold txtB; rw [Bool.eq_iff_iff]; simp <;> omega), rfl⟩

set_option maxHeartbeats 400000 in
theorem most_any (k : Int) (w : World) : Calls Tryz.prog 61 #[.int .i64 k] w fun e w' => e = .returned (.int .i64 (mostI k)) ∧ w = w' := by
  have h : mostI k = if k = 3 ∨ k = 8 then 63 else if k = 18 then 1073741824 else -1 := rfl
  have H := hid h
  clear h
  generalize mostI k = m at *
  by_cases h3 : k = 3
  · subst h3
    go_enter Tryz.func61, Tryz.ntmps61
    go_wp2
    go_ret
    exact ⟨ret_int (by rw [H.out]; simp), rfl⟩
  · by_cases h8 : k = 8
    · subst h8
      go_enter Tryz.func61, Tryz.ntmps61
      go_wp2
      go_ret
      exact ⟨ret_int (by rw [H.out]; simp), rfl⟩
    · by_cases h18 : k = 18
      · subst h18
        go_enter Tryz.func61, Tryz.ntmps61
        go_wp2
        go_ret
        exact ⟨ret_int (by rw [H.out]; simp), rfl⟩
      · have e3 : (k == 3) = false := by simp [h3]
        have e8 : (k == 8) = false := by simp [h8]
        have e18 : (k == 18) = false := by simp [h18]
        have HH := hid (And.intro h3 (And.intro h8 h18))
        clear h3 h8 h18
        go_enter Tryz.func61, Tryz.ntmps61
        go_wp2
        go_ret
        exact ⟨ret_int (by rw [H.out]; simp [HH.out.1, HH.out.2.1, HH.out.2.2]), rfl⟩

/-- Byte by byte, as the runes say. -/
theorem idx_odd (s : ByteArray) : ∀ f pos, s.size ≤ pos + f → (Lib.idxFuncFrom oddP true s f pos = -1 ↔ ∀ j (h : j < s.size), pos ≤ j → oddP s[j].toNat = false)
  | 0, pos, hf => by
    refine ⟨fun _ j h hj => by omega, fun _ => rfl⟩
  | f + 1, pos, hf => by
    unfold Lib.idxFuncFrom
    by_cases hp : pos < s.size
    · rw [if_pos hp]
      by_cases ha : (s[pos]'hp).toNat < 128
      · rw [decode_ascii s pos hp ha]
        dsimp only
        cases ho : oddP (s[pos]'hp).toNat with
        | true =>
          rw [if_pos rfl]
          refine ⟨fun h => by omega, fun h => ?_⟩
          have := h pos hp (Nat.le_refl _)
          rw [ho] at this; cases this
        | false =>
          rw [if_neg (by simp), idx_odd s f (pos + 1) (by omega)]
          refine ⟨fun h j hj hpj => ?_, fun h j hj hpj => h j hj (by omega)⟩
          by_cases e : j = pos
          · subst e; exact ho
          · exact h j hj (by omega)
      · obtain ⟨d1, d2⟩ := decode_high s pos hp (by omega)
        have ho : oddP (Utf8.decode s pos).1 = true := by simp [oddP]; omega
        rw [if_pos ho]
        refine ⟨fun h => by omega, fun h => ?_⟩
        have := h pos hp (Nat.le_refl _)
        simp [oddP] at this
        omega
    · rw [if_neg hp]
      exact ⟨fun _ j h hj => by omega, fun _ => rfl⟩
theorem wordB_t {s : ByteArray} (h0 : s.size ≠ 0) (h1 : s.size ≤ 32) (h : ∀ j (h : j < s.size), oddP s[j].toNat = false) : wordB s = true := by
  have := (idx_odd s s.size 0 (by omega)).2 (fun j hj _ => h j hj)
  have e : Lib.idxFunc oddP true s = -1 := this
  simp [wordB, h0, h1, e]
theorem wordB_f {s : ByteArray} (h : s.size = 0 ∨ 32 < s.size ∨ ∃ j, ∃ h : j < s.size, oddP s[j].toNat = true) : wordB s = false := by
  rcases h with h | h | ⟨j, hj, h⟩
  · simp [wordB, h]
  · simp [wordB]; omega
  · have : ¬ Lib.idxFunc oddP true s = -1 := fun e => by
      have := (idx_odd s s.size 0 (by omega)).1 e j hj (Nat.zero_le _)
      rw [h] at this; cases this
    have := Lib.idxFunc_range oddP true s
    simp [wordB]; intros; omega

set_option maxRecDepth 100000 in
set_option maxHeartbeats 1000000 in
theorem refWord_any (s : ByteArray) (hs : s.size ≤ 1000000) (w : World) :
    Calls Tryz.prog 107 #[.string s] w fun e w' => e = .returned (.bool (wordB s)) ∧ w = w' := by
  go_enter Tryz.func107, Tryz.ntmps107
  go_wp2
  go_loop [3] (fun i => ∃ k : Nat, i = .int .i64 k ∧ k ≤ s.size ∧ ∀ j (h : j < s.size), j < k → oddP s[j].toNat = false) (fun i => s.size - (intOf i).toNat)
  case atStart => exact ⟨0, rfl, Nat.zero_le _, fun j h hj => by omega⟩
  case round =>
    obtain ⟨k, rfl, hk, hbef⟩ := hrel
    have HB := hid hbef
    clear hbef
    by_cases h1 : k < s.size
    · cases ho : oddP s[k].toNat with
      | true =>
        have HW := hid (wordB_f (s := s) (.inr (.inr ⟨k, h1, ho⟩)))
        simp only [oddP, Bool.or_eq_true, decide_eq_true_eq] at ho
        by_cases o1 : s[k].toNat < 33
        · have o1' : (s[k].toNat : Int) < 33 := by omega
          clear ho
          go_wp2
          go_ret
          exact ⟨ret_bool HW.out.symm, rfl⟩
        · by_cases o2 : 126 < s[k].toNat
          · have o1' : ¬ (s[k].toNat : Int) < 33 := by omega
            have o2' : (126 : Int) < (s[k].toNat : Int) := by omega
            clear ho
            go_wp2
            go_ret
            exact ⟨ret_bool HW.out.symm, rfl⟩
          · have o1' : ¬ (s[k].toNat : Int) < 33 := by omega
            have o2' : ¬ (126 : Int) < (s[k].toNat : Int) := by omega
            have o3 : ((s[k].toNat : Int) == 47) = true := by simp; omega
            clear ho
            go_wp2
            go_ret
            exact ⟨ret_bool HW.out.symm, rfl⟩
      | false =>
        have HO := hid ho
        simp only [oddP, Bool.or_eq_false_iff, decide_eq_false_iff_not] at ho
        have o1' : ¬ (s[k].toNat : Int) < 33 := by omega
        have o2' : ¬ (126 : Int) < (s[k].toNat : Int) := by omega
        have o3 : ((s[k].toNat : Int) == 47) = false := by simp; omega
        clear ho
        go_wp2
        go_round
        case rel =>
          refine ⟨k + 1, by go_num, by omega, fun j h hj => ?_⟩
          by_cases e : j = k
          · subst e; exact HO.out
          · exact HB.out j h (by omega)
        case measure => simp [intOf]; omega
    · have hke : k = s.size := by omega
      have hall : ∀ j (h : j < s.size), oddP s[j].toNat = false := fun j h => HB.out j h (by omega)
      have HA := hid hall
      clear hall hke
      by_cases hz : s.size = 0
      · have HW := hid (wordB_f (s := s) (.inl hz))
        have hz' : ¬ (1 : Int) ≤ (s.size : Int) := by omega
        clear hz
        go_wp2
        go_ret
        exact ⟨ret_bool HW.out.symm, rfl⟩
      · by_cases hl : s.size ≤ 32
        · have HW := hid (wordB_t hz hl HA.out)
          have hz' : (1 : Int) ≤ (s.size : Int) := by omega
          have hl' : (s.size : Int) ≤ 32 := by omega
          clear hz
          go_wp2
          go_ret
          exact ⟨ret_bool (by rw [HW.out]), rfl⟩
        · have HW := hid (wordB_f (s := s) (.inr (.inl (by omega))))
          have hz' : (1 : Int) ≤ (s.size : Int) := by omega
          have hl' : ¬ (s.size : Int) ≤ 32 := by omega
          clear hz
          go_wp2
          go_ret
          exact ⟨ret_bool (by rw [HW.out]), rfl⟩
end Go.Proofs.YtfdbanhbegngoaaGreatDoor
