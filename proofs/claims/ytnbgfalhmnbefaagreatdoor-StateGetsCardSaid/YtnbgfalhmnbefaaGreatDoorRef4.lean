/-
  THE REFERENCE OF LAYER 4, WALKED: Compare, Owned, Numbered, Most, Texted, Word.
-/
import Derived.Test.YtnbgfalhmnbefaaGreatDoorRef3c
namespace Go.Proofs.YtnbgfalhmnbefaaGreatDoor
open Go.RowKit

theorem ci_ne0 {a b : Int} (h : a ≠ b) : Lib.compareInt a b ≠ 0 := by unfold Lib.compareInt; split; · decide
                                                                      split; · decide
                                                                      omega
theorem ci_eq0 {a b : Int} (h : a = b) : Lib.compareInt a b = 0 := by subst h; unfold Lib.compareInt; simp
theorem ne_t {a b : Int} (h : a ≠ b) : (a != b) = true := by simp [h]
theorem ne_f {a b : Int} (h : a = b) : (a != b) = false := by simp [h]

set_option maxRecDepth 100000 in
set_option maxHeartbeats 1600000 in
theorem refCmpN_any (a b : Nm) (ha : a.owner.size ≤ 1000000) (hb : b.owner.size ≤ 1000000) (w : World) :
    Calls Tryz.prog 52 #[nmV a, nmV b] w fun e w' => e = .returned (.int .i64 (cmpN a b)) ∧ Below w.heap.size w w' := by
  obtain ⟨k, o, n, i, t⟩ := a
  obtain ⟨k', o', n', i', t'⟩ := b
  dsimp only at ha hb
  have hc : cmpN ⟨k, o, n, i, t⟩ ⟨k', o', n', i', t'⟩ = orI [Lib.compareInt k k', cmpLin o.data.toList o'.data.toList, Lib.compareInt n n', Lib.compareInt i i', Lib.compareBytes t.data.toList t'.data.toList] := rfl
  have hc5 : Lib.compareBytes t.data.toList t'.data.toList = if Op.bytesLess t.toList t'.toList then -1 else if t.toList == t'.toList then 0 else 1 := by
    rw [cmpB, ByteArray.toList_eq, ByteArray.toList_eq]
  rw [hc5] at hc
  clear hc5
  have p1 := fun w => order_any k k' w
  have p2 := fun w => order_any n n' w
  have p3 := fun w => order_any i i' w
  have p4 := fun w => refCmp_any o o' ha hb w
  have hk : k ≠ k' → Lib.compareInt k k' ≠ 0 := ci_ne0
  have hk0 : k = k' → Lib.compareInt k k' = 0 := ci_eq0
  have hn : n ≠ n' → Lib.compareInt n n' ≠ 0 := ci_ne0
  have hn0 : n = n' → Lib.compareInt n n' = 0 := ci_eq0
  have hi : i ≠ i' → Lib.compareInt i i' ≠ 0 := ci_ne0
  have hi0 : i = i' → Lib.compareInt i i' = 0 := ci_eq0
  generalize Lib.compareInt k k' = x1 at *
  generalize Lib.compareInt n n' = x2 at *
  generalize Lib.compareInt i i' = x3 at *
  generalize cmpLin o.data.toList o'.data.toList = x4 at *
  have P1 := hid p1; have P2 := hid p2; have P3 := hid p3; have P4 := hid p4; have HC := hid hc
  clear p1 p2 p3 p4 hc
  unfold nmV
  go_enter Tryz.func52, Tryz.ntmps52
  go_upto_region 1 with fail
  generalize hW : (w.alloc (.cells #[.int .i64 k, .string o, .int .i64 n, .int .i64 i, .string t] 24)).alloc (.cells #[.int .i64 k', .string o', .int .i64 n', .int .i64 i', .string t'] 24) = W
  have b1 : Blk W w.heap.size 24 #[.int .i64 k, .string o, .int .i64 n, .int .i64 i, .string t] := by rw [← hW]; exact (Blk.new _ _ _).alloc _
  have b2 : Blk W (w.heap.size + 1) 24 #[.int .i64 k', .string o', .int .i64 n', .int .i64 i', .string t'] := by rw [← hW]; exact Blk.new_ _ _ _ (by simp)
  have hB : Below w.heap.size w W := by rw [← hW]; exact (((Below.refl _ _).alloc (Nat.le_refl _) _).alloc (by simp) _)
  have l1 := b1.lt
  have l2 := b2.lt
  clear hW
  have KK : ∀ w', Below W.heap.size W w' → w'.cell? ⟨w.heap.size, 0, none⟩ = some (.int .i64 k) ∧ w'.cell? ⟨w.heap.size, 1, none⟩ = some (.string o) ∧ w'.cell? ⟨w.heap.size, 2, none⟩ = some (.int .i64 n) ∧ w'.cell? ⟨w.heap.size, 3, none⟩ = some (.int .i64 i) ∧ w'.cell? ⟨w.heap.size, 4, none⟩ = some (.string t) ∧
      w'.cell? ⟨w.heap.size + 1, 0, none⟩ = some (.int .i64 k') ∧ w'.cell? ⟨w.heap.size + 1, 1, none⟩ = some (.string o') ∧ w'.cell? ⟨w.heap.size + 1, 2, none⟩ = some (.int .i64 n') ∧ w'.cell? ⟨w.heap.size + 1, 3, none⟩ = some (.int .i64 i') ∧ w'.cell? ⟨w.heap.size + 1, 4, none⟩ = some (.string t') := by
    intro w' hb
    have c1 := b1.below hb l1
    have c2 := b2.below hb l2
    exact ⟨c1.cell 0, c1.cell 1, c1.cell 2, c1.cell 3, c1.cell 4, c2.cell 0, c2.cell 1, c2.cell 2, c2.cell 3, c2.cell 4⟩
  obtain ⟨q0, q1, q2, q3, q4, q5, q6, q7, q8, q9⟩ := KK W (Below.refl _ _)
  have K := hid KK
  clear KK b1 b2
  by_cases ek : k = k'
  · have ekb := ne_f ek
    have z1 := hk0 ek
    have Z1 := hid z1
    clear ek hk hk0 z1
    by_cases eo : x4 = 0
    · subst eo
      by_cases en : n = n'
      · have enb := ne_f en
        have z2 := hn0 en
        have Z2 := hid z2
        clear en hn hn0 z2
        by_cases ei : i = i'
        · have eib := ne_f ei
          have z3 := hi0 ei
          have Z3 := hid z3
          clear ei hi hi0 z3
          go_wp2_with (go_at_call 101; refine (P4.out _).mono ?_; rintro e w1 ⟨rfl, hb1⟩; obtain ⟨r0, r1, r2, r3, r4, r5, r6, r7, r8, r9⟩ := K.out _ hb1)
          · have hl : Op.bytesLess t.toList t'.toList = true := by assumption
            go_ret
            exact ⟨ret_int (by rw [HC.out, hl]; simp [orI, Z1.out, Z2.out, Z3.out]), hB.trans (hb1.mono hB.size)⟩
          · have hl : Op.bytesLess t.toList t'.toList = false := by assumption
            have hn : (!(t.toList == t'.toList)) = true := by assumption
            go_ret
            exact ⟨ret_int (by rw [HC.out, hl]; simp at hn; simp [orI, Z1.out, Z2.out, Z3.out, hn]), hB.trans (hb1.mono hB.size)⟩
          · have hl : Op.bytesLess t.toList t'.toList = false := by assumption
            have hn : (!(t.toList == t'.toList)) = false := by assumption
            go_ret
            exact ⟨ret_int (by rw [HC.out, hl]; simp at hn; simp [orI, Z1.out, Z2.out, Z3.out, hn]), hB.trans (hb1.mono hB.size)⟩
        · have eib := ne_t ei
          have z3 := hi ei
          have Z3 := hid z3
          clear ei hi hi0 z3
          go_wp2_with (first
            | (go_at_call 101; refine (P4.out _).mono ?_; rintro e w1 ⟨rfl, hb1⟩; obtain ⟨r0, r1, r2, r3, r4, r5, r6, r7, r8, r9⟩ := K.out _ hb1)
            | (go_at_call 100; refine (P3.out _).mono ?_; rintro e w2 ⟨rfl, rfl⟩))
          go_ret
          exact ⟨ret_int (by rw [HC.out]; simp [orI, Z1.out, Z2.out, Z3.out]), hB.trans (hb1.mono hB.size)⟩
      · have enb := ne_t en
        have z2 := hn en
        have Z2 := hid z2
        clear en hn hn0 z2 hi hi0
        go_wp2_with (first
          | (go_at_call 101; refine (P4.out _).mono ?_; rintro e w1 ⟨rfl, hb1⟩; obtain ⟨r0, r1, r2, r3, r4, r5, r6, r7, r8, r9⟩ := K.out _ hb1)
          | (go_at_call 100; refine (P2.out _).mono ?_; rintro e w2 ⟨rfl, rfl⟩))
        go_ret
        exact ⟨ret_int (by rw [HC.out]; simp [orI, Z1.out, Z2.out]), hB.trans (hb1.mono hB.size)⟩
    · have eob : (x4 != 0) = true := ne_t eo
      have Z4 := hid eo
      clear eo hn hn0 hi hi0
      go_wp2_with (go_at_call 101; refine (P4.out _).mono ?_; rintro e w1 ⟨rfl, hb1⟩; obtain ⟨r0, r1, r2, r3, r4, r5, r6, r7, r8, r9⟩ := K.out _ hb1)
      go_ret
      exact ⟨ret_int (by rw [HC.out]; simp [orI, Z1.out, Z4.out]), hB.trans (hb1.mono hB.size)⟩
  · have ekb := ne_t ek
    have z1 := hk ek
    have Z1 := hid z1
    clear ek hk hk0 z1 hn hn0 hi hi0
    go_wp2_with (go_at_call 100; refine (P1.out _).mono ?_; rintro e w2 ⟨rfl, rfl⟩)
    go_ret
    exact ⟨ret_int (by rw [HC.out]; simp [orI, Z1.out]), hB⟩
end Go.Proofs.YtnbgfalhmnbefaaGreatDoor
