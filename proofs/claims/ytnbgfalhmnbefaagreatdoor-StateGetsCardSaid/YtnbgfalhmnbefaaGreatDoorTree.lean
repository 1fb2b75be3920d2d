/-
  LAYER 5: the balanced tree as a datum, and where it lies in memory. No function of the program is walked here.
-/
import Derived.Test.YtnbgfalhmnbefaaGreatDoorObj4
namespace Go.Proofs.YtnbgfalhmnbefaaGreatDoor
open Go.RowKit

inductive T where
  | nil
  | node (l : T) (n : Nm) (v : ByteArray) (r : T)

namespace T
def h : T → Nat
  | nil => 0
  | node l _ _ r => 1 + max l.h r.h
def size : T → Nat
  | nil => 0
  | node l _ _ r => 1 + l.size + r.size
def bytes : T → Nat
  | nil => 0
  | node l _ v r => v.size + l.bytes + r.bytes
def toList : T → List (Nm × ByteArray)
  | nil => []
  | node l n v r => l.toList ++ (n, v) :: r.toList
def left : T → T | nil => nil | node l _ _ _ => l
def right : T → T | nil => nil | node _ _ _ r => r
/-- balance. -/
def bal (l : T) (n : Nm) (v : ByteArray) (r : T) : T :=
  if r.h + 1 < l.h then
    match l with
    | node ll ln lv lr =>
      if lr.h ≤ ll.h then node ll ln lv (node lr n v r)
      else match lr with
        | node a mn mv b => node (node ll ln lv a) mn mv (node b n v r)
        | nil => node l n v r
    | nil => node l n v r
  else if l.h + 1 < r.h then
    match r with
    | node rl rn rv rr =>
      if rl.h ≤ rr.h then node (node l n v rl) rn rv rr
      else match rl with
        | node a mn mv b => node (node l n v a) mn mv (node b rn rv rr)
        | nil => node l n v r
    | nil => node l n v r
  else node l n v r
def with_ : T → Nm → ByteArray → T
  | nil, n, v => node nil n v nil
  | node l m x r, n, v => if cmpN n m < 0 then bal (l.with_ n v) m x r else if 0 < cmpN n m then bal l m x (r.with_ n v) else node l n v r
/-- The tree without its first object, and this object. -/
def first : T → Nm → ByteArray → T → T × (Nm × ByteArray)
  | nil, n, v, r => (r, (n, v))
  | node l' n' v' r', n, v, r => (bal (first l' n' v' r').1 n v r, (first l' n' v' r').2)
def without : T → Nm → T
  | nil, _ => nil
  | node l m x r, n =>
    if cmpN n m < 0 then bal (l.without n) m x r
    else if 0 < cmpN n m then bal l m x (r.without n)
    else match r with
      | nil => l
      | node rl rn rv rr => bal l (first rl rn rv rr).2.1 (first rl rn rv rr).2.2 (first rl rn rv rr).1
def get : T → Nm → Option ByteArray
  | nil, _ => none
  | node l m x r, n => if cmpN n m < 0 then l.get n else if 0 < cmpN n m then r.get n else some x
/-- All names and values are Go's. -/
def Ok : T → Prop
  | nil => True
  | node l n v r => l.Ok ∧ n.Ok ∧ v.size ≤ maxLen ∧ r.Ok
/-- Small enough that no counter wraps. -/
def Fits (t : T) : Prop := t.size ≤ 1000000 ∧ t.bytes ≤ 1000000000

theorem size_eq (t : T) : t.size = t.toList.length := by
  induction t with
  | nil => rfl
  | node l n v r ihl ihr => simp [size, toList, ihl, ihr]; omega
def sumB (l : List (Nm × ByteArray)) : Nat := (l.map fun x => x.2.size).sum
theorem bytes_eq (t : T) : t.bytes = sumB t.toList := by
  induction t with
  | nil => rfl
  | node l n v r ihl ihr => simp [bytes, toList, ihl, ihr, sumB]; omega
theorem h_le (t : T) : t.h ≤ t.size := by
  induction t with
  | nil => exact Nat.le_refl _
  | node l n v r ihl ihr => simp only [h, size]; omega
theorem Fits.of_list {t u : T} (h : t.Fits) (e : u.toList = t.toList) : u.Fits := by
  unfold Fits at *
  rw [size_eq, bytes_eq, e, ← size_eq, ← bytes_eq]; exact h
theorem bal_list (l : T) (n : Nm) (v : ByteArray) (r : T) : (bal l n v r).toList = l.toList ++ (n, v) :: r.toList := by
  unfold bal
  split
  · split
    · split
      · simp [toList]
      · split <;> simp [toList]
    · simp [toList]
  · split
    · split
      · split
        · simp [toList]
        · split <;> simp [toList]
      · simp [toList]
    · simp [toList]
def okL (l : List (Nm × ByteArray)) : Prop := ∀ x ∈ l, x.1.Ok ∧ x.2.size ≤ maxLen
theorem ok_iff (t : T) : t.Ok ↔ okL t.toList := by
  induction t with
  | nil => simp [Ok, okL, toList]
  | node l n v r ihl ihr =>
    simp only [Ok, ihl, ihr, okL, toList, List.mem_append, List.mem_cons]
    constructor
    · rintro ⟨h1, h2, h3, h4⟩ x (h | rfl | h)
      · exact h1 x h
      · exact ⟨h2, h3⟩
      · exact h4 x h
    · intro h
      exact ⟨fun x hx => h x (.inl hx), (h (n, v) (.inr (.inl rfl))).1, (h (n, v) (.inr (.inl rfl))).2, fun x hx => h x (.inr (.inr hx))⟩
end T

def nodeCells (n : Nm) (v : ByteArray) (pl pr : Option Addr) (h s b : Nat) : Array Value :=
  #[.int .i64 n.kind, .string n.owner, .int .i64 n.number, .int .i64 n.index, .string n.text, .string v, .pointer pl, .pointer pr, .int .i64 h, .int .i64 s, .int .i64 b]

/-- The tree that a pointer leads to. -/
def IsTree (w : World) : Option Addr → T → Prop
  | p, .nil => p = none
  | p, .node l n v r => ∃ (b : Nat) (pl pr : Option Addr), p = some ⟨b, 0, none⟩ ∧ Blk w b 89 (nodeCells n v pl pr (T.node l n v r).h (T.node l n v r).size (T.node l n v r).bytes) ∧ IsTree w pl l ∧ IsTree w pr r
theorem IsTree.below {w w' : World} (hb : Below w.heap.size w w') : ∀ {t : T} {p : Option Addr}, IsTree w p t → IsTree w' p t
  | .nil, _, h => h
  | .node _ _ _ _, _, ⟨b, pl, pr, hp, hk, hl, hr⟩ => ⟨b, pl, pr, hp, hk.below hb hk.lt, IsTree.below hb hl, IsTree.below hb hr⟩
theorem IsTree.nil_iff {w : World} {p : Option Addr} {t : T} (h : IsTree w p t) : p = none ↔ t = .nil := by
  cases t with
  | nil => exact ⟨fun _ => rfl, fun _ => h⟩
  | node l n v r =>
    obtain ⟨b, pl, pr, rfl, _⟩ := h
    exact ⟨fun e => (nomatch e), fun e => (nomatch e)⟩
end Go.Proofs.YtnbgfalhmnbefaaGreatDoor
