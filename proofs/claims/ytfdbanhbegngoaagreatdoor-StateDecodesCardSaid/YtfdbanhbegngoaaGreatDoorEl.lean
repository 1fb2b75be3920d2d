/-
  THE EQUALITY OF NAMES. No function of the program is walked here.
  LAYER 5: the balanced tree as a datum, and where it lies in memory. No function of the program is walked here.
  LISTS OF OBJECTS WITH VALUES, AND THE CELLS OF A ROW OF STRUCTS. No function of the program is walked here.
-/
import Derived.Test.YtfdbanhbegngoaaGreatDoorObj4
import Derived.Test.YtfdbanhbegngoaaGreatDoorVoc
namespace Go.Proofs.YtfdbanhbegngoaaGreatDoor
open Go.RowKit

def eqN (a b : Nm) : Bool := a.kind == b.kind && (a.owner.toList == b.owner.toList && (a.number == b.number && (a.index == b.index && a.text.toList == b.text.toList)))
theorem eqN_iff (a b : Nm) : eqN a b = true ↔ a = b := by
  obtain ⟨k, o, n, i, t⟩ := a
  obtain ⟨k', o', n', i', t'⟩ := b
  have hb : ∀ x y : ByteArray, (x.toList == y.toList) = true ↔ x = y := by
    intro x y
    rw [beq_iff_eq, ByteArray.toList_eq, ByteArray.toList_eq]
    refine ⟨fun h => ?_, fun h => by rw [h]⟩
    obtain ⟨⟨x⟩⟩ := x
    obtain ⟨⟨y⟩⟩ := y
    simp only at h
    rw [h]
  simp only [eqN, Bool.and_eq_true, beq_iff_eq, Nm.mk.injEq]
  constructor
  · rintro ⟨h1, h2, h3, h4, h5⟩
    exact ⟨h1, (hb _ _).1 (by simpa using h2), h3, h4, (hb _ _).1 (by simpa using h5)⟩
  · rintro ⟨rfl, rfl, rfl, rfl, rfl⟩
    exact ⟨rfl, rfl, rfl, rfl, rfl⟩
end Go.Proofs.YtfdbanhbegngoaaGreatDoor
namespace Go.Proofs.YtfdbanhbegngoaaGreatDoor
open Go.RowKit

inductive T where
  | nil
  | node (l : T) (n : Nm) (v : ByteArray) (r : T)

namespace T
def h : T → Nat
  | nil => 0
  | node l _ _ r => 1 + max l.h r.h
def size : T → Nat
  | nil => 0
  | node l _ _ r => 1 + l.size + r.size
def bytes : T → Nat
  | nil => 0
  | node l _ v r => v.size + l.bytes + r.bytes
def toList : T → List (Nm × ByteArray)
  | nil => []
  | node l n v r => l.toList ++ (n, v) :: r.toList
def left : T → T | nil => nil | node l _ _ _ => l
def right : T → T | nil => nil | node _ _ _ r => r
/-- balance. -/
def bal (l : T) (n : Nm) (v : ByteArray) (r : T) : T :=
  if r.h + 1 < l.h then
    match l with
    | node ll ln lv lr =>
      if lr.h ≤ ll.h then node ll ln lv (node lr n v r)
      else match lr with
        | node a mn mv b => node (node ll ln lv a) mn mv (node b n v r)
        | nil => node l n v r
    | nil => node l n v r
  else if l.h + 1 < r.h then
    match r with
    | node rl rn rv rr =>
      if rl.h ≤ rr.h then node (node l n v rl) rn rv rr
      else match rl with
        | node a mn mv b => node (node l n v a) mn mv (node b rn rv rr)
        | nil => node l n v r
    | nil => node l n v r
  else node l n v r
def with_ : T → Nm → ByteArray → T
  | nil, n, v => node nil n v nil
  | node l m x r, n, v => if cmpN n m < 0 then bal (l.with_ n v) m x r else if 0 < cmpN n m then bal l m x (r.with_ n v) else node l n v r
/-- The tree without its first object, and this object. -/
def first : T → Nm → ByteArray → T → T × (Nm × ByteArray)
  | nil, n, v, r => (r, (n, v))
  | node l' n' v' r', n, v, r => (bal (first l' n' v' r').1 n v r, (first l' n' v' r').2)
def without : T → Nm → T
  | nil, _ => nil
  | node l m x r, n =>
    if cmpN n m < 0 then bal (l.without n) m x r
    else if 0 < cmpN n m then bal l m x (r.without n)
    else match r with
      | nil => l
      | node rl rn rv rr => bal l (first rl rn rv rr).2.1 (first rl rn rv rr).2.2 (first rl rn rv rr).1
def get : T → Nm → Option ByteArray
  | nil, _ => none
  | node l m x r, n => if cmpN n m < 0 then l.get n else if 0 < cmpN n m then r.get n else some x
/-- All names and values are Go's. -/
def Ok : T → Prop
  | nil => True
  | node l n v r => l.Ok ∧ n.Ok ∧ v.size ≤ maxLen ∧ r.Ok
/-- Small enough that no counter wraps. -/
def Fits (t : T) : Prop := t.size ≤ 1000000 ∧ t.bytes ≤ 1000000000

theorem size_eq (t : T) : t.size = t.toList.length := by
  induction t with
  | nil => rfl
  | node l n v r ihl ihr => simp [size, toList, ihl, ihr]; omega
def sumB (l : List (Nm × ByteArray)) : Nat := (l.map fun x => x.2.size).sum
theorem bytes_eq (t : T) : t.bytes = sumB t.toList := by
  induction t with
  | nil => rfl
  | node l n v r ihl ihr => simp [bytes, toList, ihl, ihr, sumB]; omega
theorem h_le (t : T) : t.h ≤ t.size := by
  induction t with
  | nil => exact Nat.le_refl _
  | node l n v r ihl ihr => simp only [h, size]; omega
theorem Fits.of_list {t u : T} (h : t.Fits) (e : u.toList = t.toList) : u.Fits := by
  unfold Fits at *
  rw [size_eq, bytes_eq, e, ← size_eq, ← bytes_eq]; exact h
theorem bal_list (l : T) (n : Nm) (v : ByteArray) (r : T) : (bal l n v r).toList = l.toList ++ (n, v) :: r.toList := by
  unfold bal
  split
  · split
    · split
      · simp [toList]
      · split <;> simp [toList]
    · simp [toList]
  · split
    · split
      · split
        · simp [toList]
        · split <;> simp [toList]
      · simp [toList]
    · simp [toList]
def okL (l : List (Nm × ByteArray)) : Prop := ∀ x ∈ l, x.1.Ok ∧ x.2.size ≤ maxLen
theorem ok_iff (t : T) : t.Ok ↔ okL t.toList := by
  induction t with
  | nil => simp [Ok, okL, toList]
  | node l n v r ihl ihr =>
    simp only [Ok, ihl, ihr, okL, toList, List.mem_append, List.mem_cons]
    constructor
    · rintro ⟨h1, h2, h3, h4⟩ x (h | rfl | h)
      · exact h1 x h
      · exact ⟨h2, h3⟩
      · exact h4 x h
    · intro h
      exact ⟨fun x hx => h x (.inl hx), (h (n, v) (.inr (.inl rfl))).1, (h (n, v) (.inr (.inl rfl))).2, fun x hx => h x (.inr (.inr hx))⟩
end T

def nodeCells (n : Nm) (v : ByteArray) (pl pr : Option Addr) (h s b : Nat) : Array Value :=
  #[.int .i64 n.kind, .string n.owner, .int .i64 n.number, .int .i64 n.index, .string n.text, .string v, .pointer pl, .pointer pr, .int .i64 h, .int .i64 s, .int .i64 b]

/-- The tree that a pointer leads to. -/
def IsTree (w : World) : Option Addr → T → Prop
  | p, .nil => p = none
  | p, .node l n v r => ∃ (b : Nat) (pl pr : Option Addr), p = some ⟨b, 0, none⟩ ∧ Blk w b 82 (nodeCells n v pl pr (T.node l n v r).h (T.node l n v r).size (T.node l n v r).bytes) ∧ IsTree w pl l ∧ IsTree w pr r
theorem IsTree.below {w w' : World} (hb : Below w.heap.size w w') : ∀ {t : T} {p : Option Addr}, IsTree w p t → IsTree w' p t
  | .nil, _, h => h
  | .node _ _ _ _, _, ⟨b, pl, pr, hp, hk, hl, hr⟩ => ⟨b, pl, pr, hp, hk.below hb hk.lt, IsTree.below hb hl, IsTree.below hb hr⟩
theorem IsTree.nil_iff {w : World} {p : Option Addr} {t : T} (h : IsTree w p t) : p = none ↔ t = .nil := by
  cases t with
  | nil => exact ⟨fun _ => rfl, fun _ => h⟩
  | node l n v r =>
    obtain ⟨b, pl, pr, rfl, _⟩ := h
    exact ⟨fun e => (nomatch e), fun e => (nomatch e)⟩
end Go.Proofs.YtfdbanhbegngoaaGreatDoor
namespace Go.Proofs.YtfdbanhbegngoaaGreatDoor
open Go.RowKit

abbrev EL := List (Nm × ByteArray)
def eCells (x : Nm × ByteArray) : List Value := nmCells x.1 ++ [.string x.2]
theorem eCells_len (x : Nm × ByteArray) : (eCells x).length = 6 := rfl
theorem flat_get {α : Type} (f : α → List Value) (m : Nat) (hf : ∀ x, (f x).length = m) : ∀ (l : List α) (k j : Nat) (_ : j < m) (hk : k < l.length), (l.flatMap f)[k * m + j]? = (f l[k])[j]?
  | [], k, j, _, hk => by simp at hk
  | x :: r, 0, j, hj, _ => by
    rw [List.flatMap_cons, Nat.zero_mul, Nat.zero_add, List.getElem?_append_left (by rw [hf]; exact hj)]; rfl
  | x :: r, k + 1, j, hj, hk => by
    rw [List.flatMap_cons, List.getElem?_append_right (by rw [hf, Nat.succ_mul]; omega), hf, show (k + 1) * m + j - m = k * m + j by rw [Nat.succ_mul]; omega]
    exact flat_get f m hf r k j hj (by simpa using hk)
theorem flat_len {α : Type} (f : α → List Value) (m : Nat) (hf : ∀ x, (f x).length = m) (l : List α) : (l.flatMap f).length = l.length * m := by
  induction l with
  | nil => simp
  | cons x r ih => rw [List.flatMap_cons, List.length_append, hf, ih, List.length_cons, Nat.succ_mul]; omega
/-- The cells of an element. -/
theorem Sl.elem {α : Type} {w : World} {B m n c : Nat} {A : Option Addr} {f : α → List Value} {l : List α} (h : Sl w B m A n c (l.flatMap f)) (hf : ∀ x, (f x).length = m) (hm : 0 < m) :
    n = l.length ∧ n ≤ maxLen ∧ (l = [] ∨ ∃ b off, A = some ⟨b, off, none⟩ ∧ b < B ∧ ∀ k j u (hk : k < l.length), j < m → (f l[k])[j]? = some u → w.cell? ⟨b, off + k * m + j, none⟩ = some u) := by
  obtain ⟨h1, h2, h3, h4⟩ := h
  rw [flat_len f m hf] at h1
  have hn : n = l.length := Nat.eq_of_mul_eq_mul_right hm h1.symm
  refine ⟨hn, by omega, ?_⟩
  rcases h4 with h4 | ⟨b, off, hA, hb, hc⟩
  · left; exact List.eq_nil_of_length_eq_zero (by omega)
  · right
    refine ⟨b, off, hA, hb, fun k j u hk hj hu => ?_⟩
    have := hc (k * m + j) u (by rw [flat_get f m hf l k j hj hk]; exact hu)
    rw [← Nat.add_assoc] at this
    exact this

def findL : EL → Nm → Nat
  | [], _ => 0
  | x :: r, n => if cmpN x.1 n < 0 then findL r n + 1 else 0
theorem findL_le (l : EL) (n : Nm) : findL l n ≤ l.length := by
  induction l with
  | nil => exact Nat.le_refl _
  | cons x r ih => unfold findL; split <;> simp <;> omega
theorem findL_drop (l : EL) (n : Nm) (k : Nat) (hk : k < l.length) : findL (l.drop k) n = if cmpN l[k].1 n < 0 then findL (l.drop (k + 1)) n + 1 else 0 := by
  rw [List.drop_eq_getElem_cons hk, findL]
/-- Whether the element there is the one. -/
def isL (l : EL) (n : Nm) : Bool := match l[findL l n]? with | some x => eqN x.1 n | none => false
def smallE (l : EL) : Prop := ∀ x ∈ l, x.1.owner.size ≤ 1000000
/-- The value found. -/
def getL (l : EL) (n : Nm) : Option ByteArray := if isL l n then (l[findL l n]?).map (·.2) else none
end Go.Proofs.YtfdbanhbegngoaaGreatDoor
