/-
  PLAIN LAW OF STATES: the balanced tree and the sorted list of the reference keep the same objects. No function of the program is walked here.
-/
import Derived.Test.YtfdbanhbegngoaaGreatDoorOrd
namespace Go.Proofs.YtfdbanhbegngoaaGreatDoor
open Go.RowKit

def withL (l : EL) (n : Nm) (v : ByteArray) : EL := l.take (findL l n) ++ (n, v) :: (if isL l n then l.drop (findL l n + 1) else l.drop (findL l n))
def withRE (l : EL) (n : Nm) (v : ByteArray) : Int := if checkN n ≠ 0 then 12 else if 65536 < v.size then 5 else if isL l n = false ∧ 65536 ≤ l.length then 9 else 0

theorem eqN_t {a b : Nm} (h : a = b) : eqN a b = true := (eqN_iff a b).2 h
theorem eqN_f {a b : Nm} (h : a ≠ b) : eqN a b = false := by
  cases e : eqN a b with
  | false => rfl
  | true => exact absurd ((eqN_iff a b).1 e) h
theorem eqN_gt {a b : Nm} (h : 0 < cmpN a b) : eqN a b = false := eqN_f (by rintro rfl; rw [cmpN_refl] at h; omega)

section
variable (x : Nm × ByteArray) (r : EL) (n : Nm) (v : ByteArray)
theorem isL_nil : isL [] n = false := rfl
theorem isL_cons : isL (x :: r) n = if cmpN x.1 n < 0 then isL r n else eqN x.1 n := by
  unfold isL
  rw [findL]
  by_cases h : cmpN x.1 n < 0
  · rw [if_pos h, if_pos h, List.getElem?_cons_succ]
  · rw [if_neg h, if_neg h, List.getElem?_cons_zero]
theorem getL_nil : getL [] n = none := rfl
theorem getL_cons : getL (x :: r) n = if cmpN x.1 n < 0 then getL r n else if eqN x.1 n then some x.2 else none := by
  unfold getL
  rw [isL_cons, findL]
  split <;> simp
theorem withL_nil : withL [] n v = [(n, v)] := rfl
theorem withL_cons : withL (x :: r) n v = if cmpN x.1 n < 0 then x :: withL r n v else if eqN x.1 n then (n, v) :: r else (n, v) :: x :: r := by
  unfold withL
  rw [isL_cons, findL]
  by_cases h : cmpN x.1 n < 0
  · simp [h]
  · rw [if_neg h, if_neg h, if_neg h]
    by_cases e : eqN x.1 n = true <;> simp [e]
def outL (l : EL) (n : Nm) : EL := if isL l n then l.eraseIdx (findL l n) else l
theorem outL_nil : outL [] n = [] := rfl
theorem outL_cons : outL (x :: r) n = if cmpN x.1 n < 0 then x :: outL r n else if eqN x.1 n then r else x :: r := by
  unfold outL
  rw [isL_cons, findL]
  by_cases h : cmpN x.1 n < 0
  · simp only [h, if_true]
    split <;> simp
  · rw [if_neg h, if_neg h, if_neg h]
    by_cases e : eqN x.1 n = true <;> simp [e]
end

/-- The names ascend. -/
def Sorted (l : EL) : Prop := l.Pairwise fun x y => cmpN x.1 y.1 < 0
/-- All names of a list are less. -/
def allLt (a : EL) (n : Nm) : Prop := ∀ y ∈ a, cmpN y.1 n < 0

section
variable {a b : EL} {m n : Nm} {x v : ByteArray}
theorem not_lt_of {m n : Nm} (h : cmpN n m < 0) : ¬ cmpN m n < 0 := by have := (cmpN_anti n m).1 h; omega
theorem eqN_of_lt {m n : Nm} (h : cmpN n m < 0) : eqN m n = false := eqN_f (by rintro rfl; rw [cmpN_refl] at h; omega)
theorem isL_lt (h : cmpN n m < 0) : isL (a ++ (m, x) :: b) n = isL a n := by
  induction a with
  | nil => rw [List.nil_append, isL_cons, if_neg (not_lt_of h), eqN_of_lt h, isL_nil]
  | cons y r ih => rw [List.cons_append, isL_cons, isL_cons, ih]
theorem getL_lt (h : cmpN n m < 0) : getL (a ++ (m, x) :: b) n = getL a n := by
  induction a with
  | nil => rw [List.nil_append, getL_cons, if_neg (not_lt_of h), eqN_of_lt h, getL_nil]; rfl
  | cons y r ih => rw [List.cons_append, getL_cons, getL_cons, ih]
theorem withL_lt (h : cmpN n m < 0) : withL (a ++ (m, x) :: b) n v = withL a n v ++ (m, x) :: b := by
  induction a with
  | nil => rw [List.nil_append, withL_cons, if_neg (not_lt_of h), eqN_of_lt h, withL_nil]; rfl
  | cons y r ih =>
    rw [List.cons_append, withL_cons, withL_cons, ih]
    split
    · rfl
    · split <;> rfl
theorem outL_lt (h : cmpN n m < 0) : outL (a ++ (m, x) :: b) n = outL a n ++ (m, x) :: b := by
  induction a with
  | nil => rw [List.nil_append, outL_cons, if_neg (not_lt_of h), eqN_of_lt h, outL_nil]; rfl
  | cons y r ih =>
    rw [List.cons_append, outL_cons, outL_cons, ih]
    split
    · rfl
    · split <;> rfl
theorem getL_app (h : allLt a n) : getL (a ++ b) n = getL b n := by
  induction a with
  | nil => rfl
  | cons y r ih => rw [List.cons_append, getL_cons, if_pos (h y (by simp)), ih (fun z hz => h z (by simp [hz]))]
theorem isL_app (h : allLt a n) : isL (a ++ b) n = isL b n := by
  induction a with
  | nil => rfl
  | cons y r ih => rw [List.cons_append, isL_cons, if_pos (h y (by simp)), ih (fun z hz => h z (by simp [hz]))]
theorem withL_app (h : allLt a n) : withL (a ++ b) n v = a ++ withL b n v := by
  induction a with
  | nil => rfl
  | cons y r ih => rw [List.cons_append, withL_cons, if_pos (h y (by simp)), ih (fun z hz => h z (by simp [hz]))]; rfl
theorem outL_app (h : allLt a n) : outL (a ++ b) n = a ++ outL b n := by
  induction a with
  | nil => rfl
  | cons y r ih => rw [List.cons_append, outL_cons, if_pos (h y (by simp)), ih (fun z hz => h z (by simp [hz]))]; rfl
end

theorem Sorted.parts {a b : EL} {m : Nm} {x : ByteArray} (h : Sorted (a ++ (m, x) :: b)) : Sorted a ∧ Sorted b ∧ allLt a m ∧ ∀ y ∈ b, cmpN m y.1 < 0 := by
  unfold Sorted at h
  rw [List.pairwise_append, List.pairwise_cons] at h
  exact ⟨h.1, h.2.1.2, fun y hy => h.2.2 y hy (m, x) (by simp), h.2.1.1⟩
theorem allLt.trans {a : EL} {m n : Nm} (h : allLt a m) (h' : cmpN m n < 0) : allLt a n := fun y hy => cmpN_trans (h y hy) h'

/-- Get of the tree is Get of the list. -/
theorem get_list : ∀ (t : T) (n : Nm), Sorted t.toList → t.get n = getL t.toList n
  | .nil, n, _ => rfl
  | .node l m x r, n, h => by
    obtain ⟨h1, h2, h3, h4⟩ := Sorted.parts h
    rw [T.get, T.toList]
    by_cases c1 : cmpN n m < 0
    · rw [if_pos c1, getL_lt c1, get_list l n h1]
    · rw [if_neg c1]
      by_cases c2 : 0 < cmpN n m
      · have c3 := (cmpN_anti m n).2 c2
        rw [if_pos c2, getL_app (h3.trans c3), getL_cons, if_pos c3, get_list r n h2]
      · obtain rfl := cmpN_eq (show cmpN n m = 0 by omega)
        rw [if_neg c2, getL_app h3, getL_cons, if_neg (by rw [cmpN_refl]; omega), eqN_t rfl, if_pos rfl]
theorem with_list : ∀ (t : T) (n : Nm) (v : ByteArray), Sorted t.toList → (t.with_ n v).toList = withL t.toList n v
  | .nil, n, v, _ => rfl
  | .node l m x r, n, v, h => by
    obtain ⟨h1, h2, h3, h4⟩ := Sorted.parts h
    rw [T.with_, T.toList]
    by_cases c1 : cmpN n m < 0
    · rw [if_pos c1, withL_lt c1, T.bal_list, with_list l n v h1]
    · rw [if_neg c1]
      by_cases c2 : 0 < cmpN n m
      · have c3 := (cmpN_anti m n).2 c2
        rw [if_pos c2, withL_app (h3.trans c3), withL_cons, if_pos c3, T.bal_list, with_list r n v h2]
      · obtain rfl := cmpN_eq (show cmpN n m = 0 by omega)
        rw [if_neg c2, withL_app h3, withL_cons, if_neg (by rw [cmpN_refl]; omega), eqN_t rfl, if_pos rfl, T.toList]
theorem without_node (l : T) (m : Nm) (x : ByteArray) (r : T) (n : Nm) : (T.node l m x r).without n = if cmpN n m < 0 then T.bal (l.without n) m x r else if 0 < cmpN n m then T.bal l m x (r.without n) else match r with | .nil => l | .node rl rn rv rr => T.bal l (T.first rl rn rv rr).2.1 (T.first rl rn rv rr).2.2 (T.first rl rn rv rr).1 := by
  rw [T.without.eq_def]
  cases r <;> rfl
theorem without_list : ∀ (t : T) (n : Nm), Sorted t.toList → (t.without n).toList = outL t.toList n
  | .nil, n, _ => rfl
  | .node l m x r, n, h => by
    obtain ⟨h1, h2, h3, h4⟩ := Sorted.parts h
    rw [without_node, T.toList]
    by_cases c1 : cmpN n m < 0
    · rw [if_pos c1, outL_lt c1, T.bal_list, without_list l n h1]
    · rw [if_neg c1]
      by_cases c2 : 0 < cmpN n m
      · have c3 := (cmpN_anti m n).2 c2
        rw [if_pos c2, outL_app (h3.trans c3), outL_cons, if_pos c3, T.bal_list, without_list r n h2]
      · obtain rfl := cmpN_eq (show cmpN n m = 0 by omega)
        rw [if_neg c2, outL_app h3, outL_cons, if_neg (by rw [cmpN_refl]; omega), eqN_t rfl, if_pos rfl]
        cases r with
        | nil => simp [T.toList]
        | node rl rn rv rr =>
          have e := T.first_list rl rn rv rr
          simp only [T.bal_list]
          show l.toList ++ (T.first rl rn rv rr).2 :: (T.first rl rn rv rr).1.toList = _
          rw [e]
          rfl
theorem isL_getL (l : EL) (n : Nm) : isL l n = (getL l n).isSome := by
  induction l with
  | nil => rfl
  | cons x r ih =>
    rw [isL_cons, getL_cons, ih]
    split
    · rfl
    · split <;> simp_all
theorem withoutT_list (t : T) (n : Nm) (h : Sorted t.toList) : (withoutT t n).toList = outL t.toList n := by
  unfold withoutT
  rw [get_list t n h, ← isL_getL]
  split
  · exact without_list t n h
  · rename_i e
    unfold outL
    rw [if_neg e]

theorem withL_mem {l : EL} {n : Nm} {v : ByteArray} {y : Nm × ByteArray} (h : y ∈ withL l n v) : y = (n, v) ∨ y ∈ l := by
  induction l with
  | nil => rw [withL_nil] at h; simpa using h
  | cons x r ih =>
    rw [withL_cons] at h
    split at h
    · rcases List.mem_cons.1 h with rfl | h
      · right; simp
      · rcases ih h with h | h
        · exact .inl h
        · right; simp [h]
    · split at h
      · rcases List.mem_cons.1 h with h | h
        · exact .inl h
        · right; simp [h]
      · rcases List.mem_cons.1 h with h | h
        · exact .inl h
        · exact .inr h
theorem outL_sub (l : EL) (n : Nm) : (outL l n).Sublist l := by
  unfold outL
  split
  · exact List.eraseIdx_sublist _ _
  · exact List.Sublist.refl _
theorem withL_sorted {l : EL} (n : Nm) (v : ByteArray) (h : Sorted l) : Sorted (withL l n v) := by
  induction l with
  | nil => rw [withL_nil]; unfold Sorted; simp
  | cons x r ih =>
    unfold Sorted at h ih ⊢
    rw [List.pairwise_cons] at h
    rw [withL_cons]
    by_cases c1 : cmpN x.1 n < 0
    · rw [if_pos c1, List.pairwise_cons]
      refine ⟨fun y hy => ?_, ih h.2⟩
      rcases withL_mem hy with rfl | hy
      · exact c1
      · exact h.1 y hy
    · rw [if_neg c1]
      by_cases c2 : eqN x.1 n = true
      · rw [if_pos c2, List.pairwise_cons]
        obtain rfl := (eqN_iff _ _).1 c2
        exact ⟨h.1, h.2⟩
      · rw [if_neg c2, List.pairwise_cons, List.pairwise_cons]
        have c3 : cmpN n x.1 < 0 := by
          rw [cmpN_anti]
          have : cmpN x.1 n ≠ 0 := fun e => c2 (eqN_t (cmpN_eq e))
          omega
        refine ⟨fun y hy => ?_, h⟩
        rcases List.mem_cons.1 hy with rfl | hy
        · exact c3
        · exact cmpN_trans c3 (h.1 y hy)
theorem outL_sorted {l : EL} (n : Nm) (h : Sorted l) : Sorted (outL l n) := List.Pairwise.sublist (outL_sub l n) h
theorem withL_len (l : EL) (n : Nm) (v : ByteArray) : (withL l n v).length ≤ l.length + 1 := by
  induction l with
  | nil => simp [withL_nil]
  | cons x r ih =>
    rw [withL_cons]
    split
    · simp; omega
    · split <;> simp
theorem withL_sum (l : EL) (n : Nm) (v : ByteArray) : T.sumB (withL l n v) ≤ T.sumB l + v.size := by
  induction l with
  | nil => simp [withL_nil, T.sumB]
  | cons x r ih =>
    unfold T.sumB at ih ⊢
    rw [withL_cons]
    split
    · simp; omega
    · split <;> simp <;> omega
theorem outL_len (l : EL) (n : Nm) : (outL l n).length ≤ l.length := (outL_sub l n).length_le
theorem sum_sub {a b : List Nat} (h : a.Sublist b) : a.sum ≤ b.sum := by
  induction h with
  | slnil => exact Nat.le_refl _
  | cons x h ih => simp; omega
  | cons_cons x h ih => simp; omega
theorem outL_sum (l : EL) (n : Nm) : T.sumB (outL l n) ≤ T.sumB l := sum_sub ((outL_sub l n).map _)

/-- The list of a state after at most k changes of the laws. -/
structure Good (k : Nat) (l : EL) : Prop where
  sorted : Sorted l
  len : l.length ≤ k
  sum : T.sumB l ≤ 200 * k
  small : ∀ x ∈ l, x.1.owner.size ≤ 100 ∧ x.1.text.size ≤ 100 ∧ x.2.size ≤ 200
theorem Good.nil : Good 0 [] := ⟨List.Pairwise.nil, by simp, by simp [T.sumB], by simp⟩
theorem Good.with {k : Nat} {l : EL} (h : Good k l) {n : Nm} {v : ByteArray} (h1 : n.owner.size ≤ 100) (h2 : n.text.size ≤ 100) (h3 : v.size ≤ 200) : Good (k + 1) (withL l n v) := by
  refine ⟨withL_sorted n v h.sorted, ?_, ?_, fun x hx => ?_⟩
  · have := withL_len l n v; have := h.len; omega
  · have := withL_sum l n v; have := h.sum; omega
  · rcases withL_mem hx with rfl | hx
    · exact ⟨h1, h2, h3⟩
    · exact h.small x hx
theorem Good.out {k : Nat} {l : EL} (h : Good k l) (n : Nm) : Good (k + 1) (outL l n) := by
  refine ⟨outL_sorted n h.sorted, ?_, ?_, fun x hx => h.small x ((outL_sub l n).subset hx)⟩
  · have := outL_len l n; have := h.len; omega
  · have := outL_sum l n; have := h.sum; omega
theorem Good.more {k k' : Nat} {l : EL} (h : Good k l) (hk : k ≤ k') : Good k' l := ⟨h.sorted, Nat.le_trans h.len hk, Nat.le_trans h.sum (by omega), h.small⟩
theorem Good.ok {k : Nat} {t : T} (h : Good k t.toList) : t.Ok := by
  rw [T.ok_iff]
  intro x hx
  obtain ⟨h1, h2, h3⟩ := h.small x hx
  exact ⟨⟨by unfold maxLen; omega, by unfold maxLen; omega⟩, by unfold maxLen; omega⟩
theorem Good.fits {k : Nat} {t : T} (h : Good k t.toList) (hk : k ≤ 1000) : t.size ≤ 1000 ∧ t.bytes ≤ 200000 := by
  rw [T.size_eq, T.bytes_eq]
  have := h.len; have := h.sum; omega
theorem Good.smallE {k : Nat} {l : EL} (h : Good k l) : smallE l := fun x hx => by have := (h.small x hx).1; omega
end Go.Proofs.YtfdbanhbegngoaaGreatDoor
