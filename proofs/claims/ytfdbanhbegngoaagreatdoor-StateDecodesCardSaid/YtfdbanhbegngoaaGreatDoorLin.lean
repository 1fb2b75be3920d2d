/-
  PLAIN MATHEMATICS OF LAYER 3 (lineage): what lineage.parts, parse, Valid, Ordinals and Compare compute, on lists of bytes. No program in sight.
-/
import Derived.Lib.Atoi
namespace Go.Proofs.YtfdbanhbegngoaaGreatDoor.M
open Go

abbrev Bs := List UInt8
def isDig (c : UInt8) : Bool := decide (48 ≤ c.toNat) && decide (c.toNat ≤ 57)
def digs (l : Bs) : Bs := l.takeWhile isDig
def numOf (l : Bs) : Int := ((Lib.decFrom 0 l).getD 0 : Nat)

/-- One part: the ordinal, the offset, the error. -/
structure Part where
  ord : Int
  at_ : Int
  e : Int

/-- The error of the part at the beginning of 'rest', 'n' parts being there before. -/
def partE (n : Nat) (rest : Bs) : Int :=
  if n = 8 then 9 else if rest = [] then 4 else if digs rest = [] then 6 else if rest.head? = some 48 then 3 else if 6 < (digs rest).length then 2 else 0

/-- The parts from offset 'at_' on. -/
def partsGo : Nat → Nat → Nat → Bs → List Part
  | 0, _, _, _ => []
  | f + 1, n, at_, rest =>
    if partE n rest ≠ 0 then [⟨0, at_, partE n rest⟩]
    else ⟨numOf (digs rest), at_, 0⟩ ::
      match rest.drop (digs rest).length with
      | [] => []
      | c :: r => if c ≠ 46 then [⟨0, at_ + (digs rest).length, 6⟩] else partsGo f (n + 1) (at_ + (digs rest).length + 1) r

def parts (s : Bs) : List Part := if s = [] then [] else partsGo 9 0 0 s

def collect : List Part → List Int → List Int × Int × Int
  | [], acc => (acc, 0, 0)
  | p :: r, acc => if p.e ≠ 0 then ([], p.at_, p.e) else collect r (acc ++ [p.ord])

def parse (s : Bs) : List Int × Int × Int := collect (parts s) []
def valid (s : Bs) : Bool := (parse s).2.2 == 0
def ords (s : Bs) : List Int := (parse s).1

/-- slices.Compare at []int. -/
def cmpInts : List Int → List Int → Int
  | [], [] => 0
  | [], _ :: _ => -1
  | _ :: _, [] => 1
  | a :: x, b :: y => if a < b then -1 else if b < a then 1 else cmpInts x y

theorem mem_takeWhile {p : UInt8 → Bool} {l : Bs} {c : UInt8} (h : c ∈ l.takeWhile p) : p c = true := by
  induction l with
  | nil => simp at h
  | cons a r ih =>
    rw [List.takeWhile_cons] at h
    split at h
    · rcases List.mem_cons.1 h with rfl | h
      · assumption
      · exact ih h
    · simp at h
theorem digs_dig {l : Bs} {c : UInt8} (h : c ∈ digs l) : isDig c = true := mem_takeWhile h
theorem digs_le (l : Bs) : (digs l).length ≤ l.length := (List.takeWhile_prefix isDig).length_le

/-- A row of digits spells a number. -/
theorem decFrom_some (l : Bs) (h : ∀ c ∈ l, isDig c = true) (acc : Nat) : ∃ n, Lib.decFrom acc l = some n := by
  induction l generalizing acc with
  | nil => exact ⟨acc, rfl⟩
  | cons c r ih =>
    have hc := h c (by simp)
    simp only [isDig, Bool.and_eq_true, decide_eq_true_eq] at hc
    simp only [Lib.decFrom, Lib.digitVal, if_pos hc]
    exact ih (fun c hc => h c (by simp [hc])) _

/-- What strconv.Atoi makes of digits. -/
theorem atoi_digs (l : Bs) (h : ∀ c ∈ l, isDig c = true) (hne : l ≠ []) : Lib.atoi l = some (numOf l) := by
  cases l with
  | nil => exact absurd rfl hne
  | cons c r =>
    have hc := h c (by simp)
    simp only [isDig, Bool.and_eq_true, decide_eq_true_eq] at hc
    obtain ⟨n, hn⟩ := decFrom_some (c :: r) h 0
    have h45 : (c == 45) = false := by rw [beq_eq_false_iff_ne]; rintro rfl; simp at hc
    have h43 : (c == 43) = false := by rw [beq_eq_false_iff_ne]; rintro rfl; simp at hc
    simp only [Lib.atoi, h45, h43, Lib.decNat, List.isEmpty_cons, Bool.false_eq_true, if_false, hn, numOf, Option.map_some, Option.getD_some]

/-- The digits from k on, the first k bytes being digits. -/
theorem digs_step {l : Bs} {k : Nat} (hk : k ≤ (digs l).length) (hlt : k < l.length) : (isDig l[k] = true ↔ k < (digs l).length) := by
  induction l generalizing k with
  | nil => simp at hlt
  | cons a r ih =>
    unfold digs at *
    rw [List.takeWhile_cons] at *
    cases ha : isDig a with
    | true =>
      simp only [ha, if_true, List.length_cons] at hk ⊢
      cases k with
      | zero => simp [ha]
      | succ k =>
        simp only [List.getElem_cons_succ, Nat.add_lt_add_iff_right]
        exact ih (by omega) (by simpa using hlt)
    | false =>
      simp only [ha, Bool.false_eq_true, if_false, List.length_nil, Nat.le_zero] at hk ⊢
      subst hk
      simp [ha]
theorem digs_take (l : Bs) : l.take (digs l).length = digs l := by
  have := List.takeWhile_prefix isDig (l := l)
  exact (List.prefix_iff_eq_take.1 this).symm

end Go.Proofs.YtfdbanhbegngoaaGreatDoor.M
