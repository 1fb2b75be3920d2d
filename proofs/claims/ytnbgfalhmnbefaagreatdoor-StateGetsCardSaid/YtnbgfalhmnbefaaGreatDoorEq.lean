/-
  THE EQUALITY OF NAMES, AS THE PROGRAM HAS IT.
-/
import Derived.Test.YtnbgfalhmnbefaaGreatDoorRef4c
import Derived.Laws.StructEq
namespace Go.Proofs.YtnbgfalhmnbefaaGreatDoor
open Go.RowKit

def eqN (a b : Nm) : Bool := a.kind == b.kind && (a.owner.toList == b.owner.toList && (a.number == b.number && (a.index == b.index && a.text.toList == b.text.toList)))
theorem eqN_iff (a b : Nm) : eqN a b = true ↔ a = b := by
  obtain ⟨k, o, n, i, t⟩ := a
  obtain ⟨k', o', n', i', t'⟩ := b
  have hb : ∀ x y : ByteArray, (x.toList == y.toList) = true ↔ x = y := by
    intro x y
    rw [beq_iff_eq, ByteArray.toList_eq, ByteArray.toList_eq]
    refine ⟨fun h => ?_, fun h => by rw [h]⟩
    obtain ⟨⟨x⟩⟩ := x
    obtain ⟨⟨y⟩⟩ := y
    simp only at h
    rw [h]
  simp only [eqN, Bool.and_eq_true, beq_iff_eq, Nm.mk.injEq]
  constructor
  · rintro ⟨h1, h2, h3, h4, h5⟩
    exact ⟨h1, (hb _ _).1 (by simpa using h2), h3, h4, (hb _ _).1 (by simpa using h5)⟩
  · rintro ⟨rfl, rfl, rfl, rfl, rfl⟩
    exact ⟨rfl, rfl, rfl, rfl, rfl⟩
theorem eqlN (a b : Nm) (w : World) : (binOp .eql 24 (nmV a) (nmV b)).run Tryz.prog w = .ok (.bool (eqN a b)) w := by
  unfold nmV
  simp [go_sem]
  unfold eqN
  by_cases h1 : a.kind = b.kind <;> by_cases h2 : a.owner.toList = b.owner.toList <;> by_cases h3 : a.number = b.number <;> by_cases h4 : a.index = b.index <;> by_cases h5 : a.text.toList = b.text.toList <;> simp [h1, h2, h3, h4, h5]
end Go.Proofs.YtnbgfalhmnbefaaGreatDoor
