/-
  PLAIN LAWS OF LAYER 5's ENCODING: what Decode answers for any bytes; a decoded list has these bytes as its encoding. No function of the program is walked here.
-/
import Derived.Test.YtfdbanhbegngoaaGreatDoorNmD
import Derived.Test.YtfdbanhbegngoaaGreatDoorLaw
namespace Go.Proofs.YtfdbanhbegngoaaGreatDoor
open Go.RowKit

/-- An object with its value as it is written; a list of them. -/
def encE (x : Nm × ByteArray) : Bs := txtL (encN x.1) ++ txtL x.2.data.toList
def encL (l : EL) : Bs := natL l.length ++ l.flatMap encE

/-- Whether the last name of a list is not less than another one. -/
def lastGe (acc : EL) (n : Nm) : Bool := match acc.getLast? with
  | none => false
  | some x => decide (0 ≤ cmpN x.1 n)

/-- One entry: the name's text, and the value. -/
def stT (b : Bs) (a : Nat) : Bs × Nat × Int := rdTxt 65536 b a 0
def stV (b : Bs) (a : Nat) : Bs × Nat × Int := rdTxt 65536 b (stT b a).2.1 0
def stE (b : Bs) (a : Nat) : Nm × ByteArray := (odNm (stT b a).1, strB (stV b a).1)
/-- The entries that are left. -/
def stGo (b : Bs) : Nat → Nat → EL → EL × Int
  | 0, a, acc => if a < b.length then ([], 5) else (acc, 0)
  | m + 1, a, acc =>
    if (stT b a).2.2 ≠ 0 then ([], (stT b a).2.2)
    else if ¬ odOk (stT b a).1 then ([], 3)
    else if lastGe acc (odNm (stT b a).1) then ([], 32)
    else if (stV b a).2.2 ≠ 0 then ([], (stV b a).2.2)
    else stGo b m (stV b a).2.1 (acc ++ [stE b a])
/-- What Decode answers. -/
def stDec (b : Bs) : EL × Int := if (numP 65536 b).2.2 ≠ 0 then ([], (numP 65536 b).2.2) else stGo b (numP 65536 b).1 (numP 65536 b).2.1 []

/-- What was read so far. -/
structure Ent (b : Bs) (n a : Nat) (acc : EL) : Prop where
  got : Got b 0 a (natL n ++ acc.flatMap encE)
  sorted : Sorted acc
  chk : ∀ x ∈ acc, checkN x.1 = 0
theorem Ent.start {b : Bs} (h : (numP 65536 b).2.2 = 0) : Ent b (numP 65536 b).1 (numP 65536 b).2.1 [] := by
  obtain ⟨e1, e2, -, -⟩ := numP_inv h
  exact ⟨⟨numP_le _ _, by simp [e2], by simp only [List.drop_zero, List.flatMap_nil, List.append_nil]; exact e1⟩, List.Pairwise.nil, by simp⟩
theorem lastGe_lt {acc : EL} {n : Nm} (hs : Sorted acc) (h : lastGe acc n = false) : allLt acc n := by
  intro y hy
  obtain ⟨r, z, rfl⟩ : ∃ r z, acc = r ++ [z] := by
    rcases List.eq_nil_or_concat acc with rfl | ⟨r, z, rfl⟩
    · simp at hy
    · exact ⟨r, z, by simp⟩
  have hz : cmpN z.1 n < 0 := by
    unfold lastGe at h
    simpa using h
  rcases List.mem_append.1 hy with h1 | h1
  · unfold Sorted at hs
    rw [List.pairwise_append] at hs
    exact cmpN_trans (hs.2.2 y h1 z (by simp)) hz
  · obtain rfl : y = z := by simpa using h1
    exact hz
theorem stT_le {b : Bs} {a : Nat} (h : a ≤ b.length) : (stT b a).2.1 ≤ b.length := rdTxt_le h
theorem stV_le {b : Bs} {a : Nat} (h : a ≤ b.length) : (stV b a).2.1 ≤ b.length := rdTxt_le (stT_le h)
theorem Ent.step {b : Bs} {n a : Nat} {acc : EL} (h : Ent b n a acc) (h1 : (stT b a).2.2 = 0) (h2 : odOk (stT b a).1) (h3 : lastGe acc (odNm (stT b a).1) = false) (h4 : (stV b a).2.2 = 0) : Ent b n (stV b a).2.1 (acc ++ [stE b a]) := by
  obtain ⟨-, g1, -⟩ := rdTxt_inv h.got.le h1
  obtain ⟨-, g2, -⟩ := rdTxt_inv (stT_le h.got.le) h4
  refine ⟨?_, ?_, ?_⟩
  · have G := (h.got.app g1).app g2
    have e : (natL n ++ acc.flatMap encE ++ txtL (rdTxt 65536 b a 0).1) ++ txtL (rdTxt 65536 b (stT b a).2.1 0).1 = natL n ++ (acc ++ [stE b a]).flatMap encE := by
      rw [List.flatMap_append, List.flatMap_cons, List.flatMap_nil, List.append_nil, List.append_assoc, List.append_assoc]
      congr 2
      unfold encE stE
      simp only
      rw [od_inv h2]
      rfl
    rw [e] at G
    exact G
  · unfold Sorted
    rw [List.pairwise_append]
    refine ⟨h.sorted, List.pairwise_singleton _ _, fun y hy z hz => ?_⟩
    obtain rfl : z = stE b a := by simpa using hz
    exact lastGe_lt h.sorted h3 y hy
  · intro x hx
    rcases List.mem_append.1 hx with h5 | h5
    · exact h.chk x h5
    · obtain rfl : x = stE b a := by simpa using h5
      exact h2.2
theorem stGo_ok {b : Bs} {n : Nat} : ∀ (m a : Nat) (acc : EL), Ent b n a acc → acc.length + m = n → (stGo b m a acc).2 = 0 → Ent b n b.length (stGo b m a acc).1 ∧ (stGo b m a acc).1.length = n
  | 0, a, acc, hE, hl, h => by
    unfold stGo at h ⊢
    split at h
    · simp at h
    · next h1 =>
      rw [if_neg h1]
      have : a = b.length := by have := hE.got.le; omega
      subst this
      exact ⟨hE, by simpa using hl⟩
  | m + 1, a, acc, hE, hl, h => by
    unfold stGo at h ⊢
    split at h
    · next h1 => exact absurd h h1
    · next h1 =>
      rw [if_neg h1]
      split at h
      · simp at h
      · next h2 =>
        rw [if_neg h2]
        split at h
        · simp at h
        · next h3 =>
          rw [if_neg h3]
          split at h
          · next h4 => exact absurd h h4
          · next h4 =>
            rw [if_neg h4]
            exact stGo_ok m _ _ (hE.step (by omega) (Decidable.not_not.1 h2) (by simpa using h3) (by omega)) (by rw [List.length_append]; simp; omega) h

/-- Small enough that no counter wraps. -/
structure Mild (l : EL) : Prop where
  sorted : Sorted l
  len : l.length ≤ 1000
  sum : T.sumB l ≤ 200000
  small : ∀ x ∈ l, x.1.owner.size ≤ 2000 ∧ x.1.text.size ≤ 2000 ∧ x.2.size ≤ 2000
theorem Mild.ok {t : T} (h : Mild t.toList) : t.Ok := by
  rw [T.ok_iff]
  intro x hx
  obtain ⟨h1, h2, h3⟩ := h.small x hx
  exact ⟨⟨by unfold maxLen; omega, by unfold maxLen; omega⟩, by unfold maxLen; omega⟩
theorem Mild.fits {t : T} (h : Mild t.toList) : t.size ≤ 1000 ∧ t.bytes ≤ 200000 := by
  rw [T.size_eq, T.bytes_eq]
  exact ⟨h.len, h.sum⟩
theorem Mild.smallE {l : EL} (h : Mild l) : smallE l := fun x hx => by have := (h.small x hx).1; omega

theorem encE_two (x : Nm × ByteArray) : 2 ≤ (encE x).length := by
  unfold encE txtL
  have := natL_ne (encN x.1).length
  have := natL_ne x.2.data.toList.length
  simp only [List.length_append]
  omega
theorem encE_val (x : Nm × ByteArray) : x.2.size ≤ (encE x).length := by
  unfold encE txtL
  rw [ba_size]
  simp only [List.length_append]
  omega
theorem encN_own {n : Nm} (h : checkN n = 0) : n.owner.size ≤ (encN n).length ∧ n.text.size ≤ (encN n).length := by
  have g := Nm.good h
  constructor
  · cases hb : ownB n.kind with
    | true =>
      unfold encN txtL
      rw [hb, if_pos rfl, ba_size]
      simp only [List.length_append]
      omega
    | false => rw [g.ow hb]; exact Nat.zero_le _
  · cases hb : txtB n.kind with
    | true =>
      unfold encN txtL
      rw [hb, if_pos rfl, ba_size]
      simp only [List.length_append]
      omega
    | false => rw [g.te hb]; exact Nat.zero_le _
theorem flat_two : ∀ (l : EL), 2 * l.length ≤ (l.flatMap encE).length ∧ T.sumB l ≤ (l.flatMap encE).length ∧ ∀ x ∈ l, (encE x).length ≤ (l.flatMap encE).length
  | [] => ⟨by simp, by simp [T.sumB], by simp⟩
  | x :: r => by
    obtain ⟨h1, h2, h3⟩ := flat_two r
    have a1 := encE_two x
    have a2 := encE_val x
    rw [List.flatMap_cons, List.length_append]
    refine ⟨by rw [List.length_cons]; omega, ?_, fun y hy => ?_⟩
    · unfold T.sumB at h2 ⊢
      rw [List.map_cons, List.sum_cons]
      omega
    · rcases List.mem_cons.1 hy with rfl | hy
      · omega
      · have := h3 y hy; omega
theorem Ent.mild {b : Bs} {n a : Nat} {acc : EL} (h : Ent b n a acc) (hb : b.length ≤ 2000) : Mild acc := by
  obtain ⟨h1, h2, h3⟩ := flat_two acc
  have hl := h.got.len
  have hle := h.got.le
  rw [List.length_append] at hl
  refine ⟨h.sorted, by omega, by omega, fun x hx => ?_⟩
  have e := h3 x hx
  have e1 := encE_val x
  obtain ⟨e2, e3⟩ := encN_own (h.chk x hx)
  have e4 : (encN x.1).length ≤ (encE x).length := by
    unfold encE txtL
    simp only [List.length_append]
    omega
  omega
/-- A decoded list has these bytes as its encoding. -/
theorem stDec_ok {b : Bs} (h : (stDec b).2 = 0) : Ent b (stDec b).1.length b.length (stDec b).1 ∧ encL (stDec b).1 = b := by
  have key : Ent b (stDec b).1.length b.length (stDec b).1 := by
    unfold stDec at h ⊢
    split at h
    · next h1 => exact absurd h h1
    · next h1 =>
      rw [if_neg h1]
      obtain ⟨e1, e2⟩ := stGo_ok _ _ _ (Ent.start (by omega)) (by simp) h
      rw [e2]
      exact e1
  refine ⟨key, ?_⟩
  have := key.got.eq
  rw [List.drop_zero, List.drop_length, List.append_nil] at this
  exact this.symm
theorem snoc_list {t : T} {n : Nm} {v : ByteArray} (hs : Sorted t.toList) (h : allLt t.toList n) : (t.with_ n v).toList = t.toList ++ [(n, v)] := by
  rw [with_list t n v hs]
  have := withL_app (b := []) (v := v) h
  rw [List.append_nil] at this
  rw [this, withL_nil]
end Go.Proofs.YtfdbanhbegngoaaGreatDoor
