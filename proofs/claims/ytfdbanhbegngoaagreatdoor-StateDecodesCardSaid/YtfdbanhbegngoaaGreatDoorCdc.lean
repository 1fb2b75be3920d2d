/-
  PLAIN LAWS OF LAYER 1's ENCODING: reading is the inverse of writing. No function of the program is walked here.
-/
import Derived.Test.YtfdbanhbegngoaaGreatDoorRdN
namespace Go.Proofs.YtfdbanhbegngoaaGreatDoor
open Go.RowKit

theorem natL_ne (u : Nat) : 0 < (natL u).length := by
  by_cases h : u < 128
  · rw [natL_lo h]; simp
  · rw [natL_hi (by omega)]; simp
theorem natL_nine {u : Nat} (h : u < 9223372036854775808) : (natL u).length ≤ 9 := natL_len 8 u (by omega)

/-- A number that was written is read. -/
theorem grp_natL (most : Nat) (r : Bs) : ∀ (u i acc : Nat), i + (natL u).length ≤ most → (0 < u ∨ i = 0) → grp most (natL u ++ r) i acc = (acc + u * 128 ^ i, i + (natL u).length, 0) := by
  intro u
  induction u using Nat.strongRecOn with
  | _ u ih =>
    intro i acc hm h0
    by_cases h : u < 128
    · rw [natL_lo h] at hm ⊢
      have hc : (UInt8.ofNat u).toNat = u := by rw [UInt8.toNat_ofNat', Nat.mod_eq_of_lt (by omega)]
      simp only [List.length_cons, List.length_nil] at hm
      rw [List.cons_append, grp_cons, hc, if_neg (by omega), if_pos h, if_neg (by omega), Nat.mod_eq_of_lt h]
      rfl
    · rw [natL_hi (by omega)] at hm ⊢
      have hc : (UInt8.ofNat (u % 128 + 128)).toNat = u % 128 + 128 := by rw [UInt8.toNat_ofNat', Nat.mod_eq_of_lt (by omega)]
      simp only [List.length_cons] at hm ⊢
      rw [List.cons_append, grp_cons, hc, if_neg (by omega), if_neg (by omega), ih (u / 128) (by omega) (i + 1) _ (by omega) (.inl (by omega))]
      refine Prod.ext ?_ (Prod.ext ?_ rfl)
      · show acc + (u % 128 + 128) % 128 * 128 ^ i + u / 128 * 128 ^ (i + 1) = acc + u * 128 ^ i
        have e : (u % 128 + 128) % 128 = u % 128 := by omega
        have e2 : u * 128 ^ i = (u % 128) * 128 ^ i + u / 128 * 128 ^ (i + 1) := by
          rw [Nat.pow_succ, ← Nat.mul_assoc, Nat.mul_right_comm, ← Nat.add_mul]
          congr 1
          omega
        rw [e, e2, Nat.add_assoc]
      · show i + 1 + _ = i + (_ + 1)
        omega
theorem prs_natL (u : Nat) (h : u < 9223372036854775808) (r : Bs) : prs (natL u ++ r) = (u, (natL u).length, 0) := by
  have hl := natL_nine h
  unfold prs
  rw [grp_natL 9 r u 0 0 (by omega) (.inr rfl)]
  simp

/-- A number that is read was written. -/
theorem grp_inv (most : Nat) : ∀ (l : Bs) (i acc : Nat), (grp most l i acc).2.2 = 0 → ∃ u, (grp most l i acc).1 = acc + u * 128 ^ i ∧ (grp most l i acc).2.1 = i + (natL u).length ∧ l = natL u ++ l.drop (natL u).length ∧ (0 < i → 0 < u)
  | [], i, acc, h => by
    rw [grp_nil] at h
    split at h <;> simp at h
  | c :: r, i, acc, h => by
    have hc := UInt8.toNat_lt c
    rw [grp_cons] at h ⊢
    split at h
    · simp at h
    · next hi =>
      rw [if_neg hi]
      split at h
      · next h1 =>
        split at h
        · simp at h
        · next h2 =>
          rw [if_pos h1, if_neg h2]
          refine ⟨c.toNat, by simp [Nat.mod_eq_of_lt h1], by rw [natL_lo h1]; rfl, ?_, fun h3 => by omega⟩
          rw [natL_lo h1]
          simp
      · next h1 =>
        rw [if_neg h1]
        obtain ⟨u, e1, e2, e3, e4⟩ := grp_inv most r (i + 1) _ h
        have hu := e4 (by omega)
        have d1 : (c.toNat % 128 + 128 * u) / 128 = u := by omega
        have d2 : (c.toNat % 128 + 128 * u) % 128 + 128 = c.toNat := by omega
        have hn : natL (c.toNat % 128 + 128 * u) = c :: natL u := by
          rw [natL_hi (by omega), d1, d2]
          congr 1
          simp
        refine ⟨c.toNat % 128 + 128 * u, ?_, ?_, ?_, fun _ => by omega⟩
        · rw [e1, Nat.pow_succ, Nat.add_mul, Nat.add_assoc]
          congr 2
          rw [Nat.mul_comm 128 u, Nat.mul_assoc, Nat.mul_comm 128]
        · rw [e2, hn, List.length_cons]; omega
        · rw [hn, List.length_cons, List.cons_append, List.drop_succ_cons, ← e3]
theorem prs_inv {l : Bs} (h : (prs l).2.2 = 0) : l = natL (prs l).1 ++ l.drop (prs l).2.1 ∧ (prs l).2.1 = (natL (prs l).1).length := by
  obtain ⟨u, e1, e2, e3, -⟩ := grp_inv 9 l 0 0 h
  have : (prs l).1 = u := by unfold prs; rw [e1]; simp
  have h2 : (prs l).2.1 = (natL u).length := by unfold prs; rw [e2]; simp
  rw [this, h2]
  exact ⟨e3, rfl⟩

/-- A text as it is written. -/
def txtL (x : Bs) : Bs := natL x.length ++ x
theorem txtP_enc (most : Int) (x r : Bs) (h : (x.length : Int) ≤ min most 16777216) : txtP most (txtL x ++ r) = (x, (txtL x).length, 0) := by
  have hp : prs (txtL x ++ r) = (x.length, (natL x.length).length, 0) := by
    unfold txtL
    rw [List.append_assoc]
    exact prs_natL _ (by omega) _
  unfold txtP
  rw [hp, if_neg (by simp), if_neg (by simp only; omega), if_neg (by simp only [txtL, List.length_append]; omega)]
  simp only [txtL, List.append_assoc, List.drop_left, List.take_left, List.length_append]
theorem txtP_inv {most : Int} {l : Bs} (h : (txtP most l).2.2 = 0) : l = txtL (txtP most l).1 ++ l.drop (txtP most l).2.1 ∧ (txtP most l).2.1 = (txtL (txtP most l).1).length ∧ ((txtP most l).1.length : Int) ≤ min most 16777216 := by
  unfold txtP at h ⊢
  split at h
  · next h1 => exact absurd h h1
  · next h1 =>
    split at h
    · simp at h
    · next h2 =>
      split at h
      · simp at h
      · next h3 =>
        rw [if_neg h1, if_neg h2, if_neg h3]
        obtain ⟨e1, e2⟩ := prs_inv (l := l) (by omega)
        have hl := prs_le l
        have hx : ((l.drop (prs l).2.1).take (prs l).1).length = (prs l).1 := by rw [List.length_take, List.length_drop]; omega
        simp only
        refine ⟨?_, ?_, ?_⟩
        · unfold txtL
          rw [hx, ← List.drop_drop, List.append_assoc, List.take_append_drop]
          exact e1
        · unfold txtL
          rw [List.length_append, hx, ← e2]
        · rw [hx]; omega
theorem numP_enc (most : Int) (u : Nat) (r : Bs) (h : u < 9223372036854775808) (hm : (u : Int) ≤ most) : numP most (natL u ++ r) = (u, (natL u).length, 0) := by
  unfold numP
  rw [prs_natL u h, if_neg (by simp only; omega)]
theorem numP_inv {most : Int} {l : Bs} (h : (numP most l).2.2 = 0) : l = natL (numP most l).1 ++ l.drop (numP most l).2.1 ∧ (numP most l).2.1 = (natL (numP most l).1).length ∧ ((numP most l).1 : Int) ≤ most ∧ (numP most l).1 < 9223372036854775808 := by
  unfold numP at h ⊢
  split at h
  · simp at h
  · next h1 =>
    rw [if_neg h1]
    obtain ⟨e1, e2⟩ := prs_inv h
    exact ⟨e1, e2, by omega, prs_lt l⟩

/-- What a reader has read: p lies between two offsets. -/
structure Got (b : Bs) (a a' : Nat) (p : Bs) : Prop where
  le : a' ≤ b.length
  len : a' = a + p.length
  eq : b.drop a = p ++ b.drop a'
theorem Got.nil {b : Bs} {a : Nat} (h : a ≤ b.length) : Got b a a [] := ⟨h, by simp, by simp⟩
theorem Got.app {b : Bs} {a a' a'' : Nat} {p q : Bs} (h : Got b a a' p) (h' : Got b a' a'' q) : Got b a a'' (p ++ q) :=
  ⟨h'.le, by rw [List.length_append, h'.len, h.len]; omega, by rw [h.eq, h'.eq, List.append_assoc]⟩
theorem Got.of {b p r : Bs} {a : Nat} (ha : a ≤ b.length) (h : b.drop a = p ++ r) : Got b a (a + p.length) p ∧ b.drop (a + p.length) = r := by
  have e : b.drop (a + p.length) = r := by rw [← List.drop_drop, h, List.drop_left]
  refine ⟨⟨?_, rfl, by rw [e, h]⟩, e⟩
  have := congrArg List.length h
  rw [List.length_drop, List.length_append] at this
  omega

theorem rdNum_err (most : Int) (b : Bs) (a : Nat) {e : Int} (h : e ≠ 0) : rdNum most b a e = (0, a, e) := by unfold rdNum; rw [if_pos h]
theorem rdTxt_err (most : Int) (b : Bs) (a : Nat) {e : Int} (h : e ≠ 0) : rdTxt most b a e = ([], a, e) := by unfold rdTxt; rw [if_pos h]
theorem rdNum_inv {most : Int} {b : Bs} {a : Nat} {e : Int} (ha : a ≤ b.length) (h : (rdNum most b a e).2.2 = 0) :
    e = 0 ∧ Got b a (rdNum most b a e).2.1 (natL (rdNum most b a e).1) ∧ ((rdNum most b a e).1 : Int) ≤ most := by
  unfold rdNum at h ⊢
  split at h
  · next h0 => exact absurd h h0
  · next h0 =>
    rw [if_neg h0]
    split at h
    · next h1 => exact absurd h h1
    · next h1 =>
      rw [if_neg h1]
      obtain ⟨e1, e2, e3, -⟩ := numP_inv (most := most) (l := b.drop a) (by omega)
      have hle := numP_le most (b.drop a)
      rw [List.length_drop] at hle
      refine ⟨by omega, ⟨?_, ?_, ?_⟩, e3⟩
      · show a + _ ≤ _
        omega
      · show a + _ = _
        rw [e2]
      · show b.drop a = _ ++ b.drop (a + _)
        rw [← List.drop_drop]
        exact e1
theorem rdTxt_inv {most : Int} {b : Bs} {a : Nat} {e : Int} (ha : a ≤ b.length) (h : (rdTxt most b a e).2.2 = 0) :
    e = 0 ∧ Got b a (rdTxt most b a e).2.1 (txtL (rdTxt most b a e).1) ∧ ((rdTxt most b a e).1.length : Int) ≤ min most 16777216 := by
  unfold rdTxt at h ⊢
  split at h
  · next h0 => exact absurd h h0
  · next h0 =>
    rw [if_neg h0]
    split at h
    · next h1 => exact absurd h h1
    · next h1 =>
      rw [if_neg h1]
      obtain ⟨e1, e2, e3⟩ := txtP_inv (most := most) (l := b.drop a) (by omega)
      have hle := txtP_le most (b.drop a)
      rw [List.length_drop] at hle
      refine ⟨by omega, ⟨?_, ?_, ?_⟩, e3⟩
      · show a + _ ≤ _
        omega
      · show a + _ = _
        rw [e2]
      · show b.drop a = _ ++ b.drop (a + _)
        rw [← List.drop_drop]
        exact e1
theorem rdNum_enc {most : Int} {b r : Bs} {a u : Nat} (ha : b.drop a = natL u ++ r) (h : u < 9223372036854775808) (hm : (u : Int) ≤ most) : rdNum most b a 0 = (u, a + (natL u).length, 0) := by
  unfold rdNum
  rw [ha, numP_enc most u r h hm]
  simp
theorem rdTxt_enc {most : Int} {b r x : Bs} {a : Nat} (ha : b.drop a = txtL x ++ r) (h : (x.length : Int) ≤ min most 16777216) : rdTxt most b a 0 = (x, a + (txtL x).length, 0) := by
  unfold rdTxt
  rw [ha, txtP_enc most x r h]
  simp
theorem rdNum_le {most : Int} {b : Bs} {a : Nat} {e : Int} (ha : a ≤ b.length) : (rdNum most b a e).2.1 ≤ b.length := by
  have := numP_le most (b.drop a)
  rw [List.length_drop] at this
  unfold rdNum
  split
  · exact ha
  · split
    · exact ha
    · simp only; omega
theorem rdTxt_le {most : Int} {b : Bs} {a : Nat} {e : Int} (ha : a ≤ b.length) : (rdTxt most b a e).2.1 ≤ b.length := by
  have := txtP_le most (b.drop a)
  rw [List.length_drop] at this
  unfold rdTxt
  split
  · exact ha
  · split
    · exact ha
    · simp only; omega
theorem rdEnd_zero {b : Bs} {a : Nat} {e : Int} (ha : a ≤ b.length) (h : rdEnd b a e = 0) : e = 0 ∧ a = b.length := by
  unfold rdEnd at h
  split at h
  · split at h
    · simp at h
    · omega
  · omega
theorem strB_toList (l : Bs) : (strB l).data.toList = l := rfl
theorem strB_of (s : ByteArray) : strB s.data.toList = s := by cases s; rfl
theorem strB_size (l : Bs) : (strB l).size = l.length := rfl
end Go.Proofs.YtfdbanhbegngoaaGreatDoor
