/-
  PLAIN LAW OF CHANGES: performing changes one after the other on the tree and on the sorted list. No function of the program is walked here.
-/
import Derived.Test.YtnbgfalhmnbefaaGreatDoorLaw
namespace Go.Proofs.YtnbgfalhmnbefaaGreatDoor
open Go.RowKit

/-- A change. -/
structure Ch where
  name : Nm
  value : ByteArray
  absent : Bool
def chCells (c : Ch) : List Value := nmCells c.name ++ [.string c.value, .bool c.absent]
theorem chCells_len (c : Ch) : (chCells c).length = 7 := rfl
def chV (c : Ch) : Value := .agg #[.int .i64 c.name.kind, .string c.name.owner, .int .i64 c.name.number, .int .i64 c.name.index, .string c.name.text, .string c.value, .bool c.absent]
theorem chCells_one (l : List Ch) : ∀ u ∈ l.flatMap chCells, u.oneCell' = true := by
  intro u hu
  obtain ⟨x, _, hx⟩ := List.mem_flatMap.1 hu
  simp only [chCells, nmCells, List.cons_append, List.nil_append, List.mem_cons, List.not_mem_nil, or_false] at hx
  rcases hx with rfl | rfl | rfl | rfl | rfl | rfl | rfl <;> rfl

/-- A change that the laws let by. -/
def Ch.Small (c : Ch) : Prop := c.name.owner.size ≤ 100 ∧ c.name.text.size ≤ 100 ∧ c.value.size ≤ 200
theorem Ch.Small.ok {c : Ch} (h : c.Small) : c.name.Ok := by obtain ⟨h1, h2, _⟩ := h; exact ⟨by unfold maxLen; omega, by unfold maxLen; omega⟩

def stepLE (l : EL) (c : Ch) : Int := if c.absent then withoutE c.name else withRE l c.name c.value
def stepL (l : EL) (c : Ch) : EL := if c.absent then outL l c.name else withL l c.name c.value
def stepTE (t : T) (c : Ch) : Int := if c.absent then withoutE c.name else withE t c.name c.value
def stepT (t : T) (c : Ch) : T := if c.absent then withoutT t c.name else t.with_ c.name c.value
theorem step_e {t : T} {l : EL} {c : Ch} (h : t.toList = l) (hs : Sorted l) : stepTE t c = stepLE l c := by
  subst h
  unfold stepTE stepLE withE withRE
  rw [get_list t _ hs, ← isL_getL, T.size_eq]
theorem step_list {t : T} {l : EL} {c : Ch} (h : t.toList = l) (hs : Sorted l) : (stepT t c).toList = stepL l c := by
  subst h
  unfold stepT stepL
  split
  · exact withoutT_list t _ hs
  · exact with_list t _ _ hs
theorem Good.step {k : Nat} {l : EL} (h : Good k l) {c : Ch} (hc : c.Small) : Good (k + 1) (stepL l c) := by
  unfold stepL
  split
  · exact h.out _
  · exact h.with hc.1 hc.2.1 hc.2.2

/-- Apply: the first error ends it. -/
def applyLE (l : EL) : List Ch → Int
  | [] => 0
  | c :: r => if stepLE l c ≠ 0 then stepLE l c else applyLE (stepL l c) r
def applyL (l : EL) : List Ch → EL
  | [] => l
  | c :: r => if stepLE l c ≠ 0 then [] else applyL (stepL l c) r
def applyTE (t : T) : List Ch → Int
  | [] => 0
  | c :: r => if stepTE t c ≠ 0 then stepTE t c else applyTE (stepT t c) r
def applyT (t : T) : List Ch → T
  | [] => t
  | c :: r => if stepTE t c ≠ 0 then .nil else applyT (stepT t c) r
theorem apply_eq : ∀ (cs : List Ch) (k : Nat) (t : T) (l : EL), t.toList = l → Good k l → (∀ c ∈ cs, c.Small) → applyTE t cs = applyLE l cs ∧ (applyT t cs).toList = applyL l cs ∧ Good (k + cs.length) (applyL l cs)
  | [], k, t, l, h, hg, _ => ⟨rfl, h, hg⟩
  | c :: r, k, t, l, h, hg, hc => by
    have he := step_e (c := c) h hg.sorted
    unfold applyTE applyLE applyT applyL
    rw [he]
    by_cases h0 : stepLE l c ≠ 0
    · rw [if_pos h0, if_pos h0, if_pos h0, if_pos h0]
      exact ⟨rfl, rfl, Good.nil.more (Nat.zero_le _)⟩
    · rw [if_neg h0, if_neg h0, if_neg h0, if_neg h0]
      have := apply_eq r (k + 1) (stepT t c) (stepL l c) (step_list h hg.sorted) (hg.step (hc c (by simp))) (fun x hx => hc x (by simp [hx]))
      rw [show k + 1 + r.length = k + (c :: r).length by simp; omega] at this
      exact this

/-- one: a change that fails leaves the state as it is. -/
def oneT (t : T) (c : Ch) : T := if stepTE t c = 0 then stepT t c else t
def oneL (l : EL) (c : Ch) : EL := if stepLE l c = 0 then stepL l c else l
theorem one_list {t : T} {l : EL} {c : Ch} (h : t.toList = l) (hs : Sorted l) : (oneT t c).toList = oneL l c := by
  unfold oneT oneL
  rw [step_e h hs]
  split
  · exact step_list h hs
  · exact h
theorem Good.one {k : Nat} {l : EL} (h : Good k l) {c : Ch} (hc : c.Small) : Good (k + 1) (oneL l c) := by
  unfold oneL
  split
  · exact h.step hc
  · exact h.more (by omega)
def fillT (cs : List Ch) : T := cs.foldl oneT .nil
def fillL (cs : List Ch) : EL := cs.foldl oneL []
theorem fold_eq : ∀ (cs : List Ch) (k : Nat) (t : T) (l : EL), t.toList = l → Good k l → (∀ c ∈ cs, c.Small) → (cs.foldl oneT t).toList = cs.foldl oneL l ∧ Good (k + cs.length) (cs.foldl oneL l)
  | [], k, t, l, h, hg, _ => ⟨h, hg⟩
  | c :: r, k, t, l, h, hg, hc => by
    have := fold_eq r (k + 1) (oneT t c) (oneL l c) (one_list h hg.sorted) (hg.one (hc c (by simp))) (fun x hx => hc x (by simp [hx]))
    rw [show k + 1 + r.length = k + (c :: r).length by simp; omega] at this
    exact this
theorem fill_eq {cs : List Ch} (hc : ∀ c ∈ cs, c.Small) : (fillT cs).toList = fillL cs ∧ Good cs.length (fillL cs) := by
  have := fold_eq cs 0 .nil [] rfl Good.nil hc
  rw [Nat.zero_add] at this
  exact this

/-- What To makes of a change. -/
def cutB (n : Nat) (s : ByteArray) : ByteArray := s.extract 0 (min s.size n)
theorem cutB_size (n : Nat) (s : ByteArray) : (cutB n s).size ≤ n := by unfold cutB; simp; omega
def cutC (c : Ch) : Ch := ⟨{ c.name with owner := cutB 100 c.name.owner, text := cutB 100 c.name.text }, cutB 200 c.value, c.absent⟩
theorem cutC_small (c : Ch) : (cutC c).Small := ⟨cutB_size _ _, cutB_size _ _, cutB_size _ _⟩
def toC (l : List Ch) : List Ch := (l.take 24).map cutC
theorem toC_small (l : List Ch) : ∀ c ∈ toC l, c.Small := by
  intro c hc
  obtain ⟨x, _, rfl⟩ := List.mem_map.1 hc
  exact cutC_small x
theorem toC_len (l : List Ch) : (toC l).length ≤ 24 := by unfold toC; simp; omega
end Go.Proofs.YtnbgfalhmnbefaaGreatDoor
