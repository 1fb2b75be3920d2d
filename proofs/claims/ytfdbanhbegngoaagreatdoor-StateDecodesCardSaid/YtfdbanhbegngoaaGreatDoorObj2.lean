/-
  LAYER 4, WALKED: object.uses (a table), the check of a name.
-/
import Derived.Deep.RegionHeld3
import Derived.Deep.DeepCutAuto
import Derived.BigQuiet
import Derived.Test.YtfdbanhbegngoaaGreatDoorObj
namespace Go.Proofs.YtfdbanhbegngoaaGreatDoor
open Go.RowKit

def kOwn : Nat → Bool
  | 0 => false
  | 1 => true
  | 2 => true
  | 3 => true
  | 4 => true
  | 5 => true
  | 6 => true
  | 7 => true
  | 8 => true
  | 9 => true
  | 10 => true
  | 11 => true
  | 12 => true
  | 13 => false
  | 14 => false
  | 15 => false
  | 16 => false
  | 17 => false
  | 18 => true
  | 19 => true
  | 20 => false
  | _ => false
def kNum : Nat → Bool
  | 0 => false
  | 1 => false
  | 2 => false
  | 3 => false
  | 4 => false
  | 5 => false
  | 6 => false
  | 7 => true
  | 8 => true
  | 9 => true
  | 10 => true
  | 11 => true
  | 12 => true
  | 13 => true
  | 14 => false
  | 15 => false
  | 16 => true
  | 17 => false
  | 18 => true
  | 19 => false
  | 20 => false
  | _ => false
def kTxt : Nat → Bool
  | 0 => false
  | 1 => false
  | 2 => false
  | 3 => false
  | 4 => false
  | 5 => false
  | 6 => false
  | 7 => false
  | 8 => false
  | 9 => true
  | 10 => false
  | 11 => false
  | 12 => false
  | 13 => false
  | 14 => true
  | 15 => false
  | 16 => false
  | 17 => true
  | 18 => false
  | 19 => false
  | 20 => false
  | _ => false
def kMost : Nat → Int
  | 0 => 0
  | 1 => -1
  | 2 => -1
  | 3 => 63
  | 4 => -1
  | 5 => -1
  | 6 => -1
  | 7 => -1
  | 8 => 63
  | 9 => -1
  | 10 => -1
  | 11 => -1
  | 12 => -1
  | 13 => -1
  | 14 => -1
  | 15 => -1
  | 16 => -1
  | 17 => -1
  | 18 => 1073741824
  | 19 => -1
  | 20 => -1
  | _ => -1
def usesCells : Array Value := #[.string ⟨#[]⟩, .bool false, .bool false, .bool false, .int .i64 (0), .string ⟨#[112, 114, 111, 99, 101, 115, 115]⟩, .bool true, .bool false, .bool false, .int .i64 (-1), .string ⟨#[114, 101, 103, 105, 115, 116, 101, 114, 115]⟩, .bool true, .bool false, .bool false, .int .i64 (-1), .string ⟨#[112, 97, 103, 101]⟩, .bool true, .bool false, .bool false, .int .i64 (63), .string ⟨#[116, 97, 98, 108, 101]⟩, .bool true, .bool false, .bool false, .int .i64 (-1), .string ⟨#[99, 111, 117, 110, 116, 101, 114]⟩, .bool true, .bool false, .bool false, .int .i64 (-1), .string ⟨#[112, 101, 110, 100, 105, 110, 103]⟩, .bool true, .bool false, .bool false, .int .i64 (-1), .string ⟨#[110, 111, 100, 101]⟩, .bool true, .bool true, .bool false, .int .i64 (-1), .string ⟨#[98, 108, 111, 99, 107]⟩, .bool true, .bool true, .bool false, .int .i64 (63), .string ⟨#[101, 110, 116, 114, 121]⟩, .bool true, .bool true, .bool true, .int .i64 (-1), .string ⟨#[108, 105, 115, 116, 105, 110, 103]⟩, .bool true, .bool true, .bool false, .int .i64 (-1), .string ⟨#[112, 105, 112, 101]⟩, .bool true, .bool true, .bool false, .int .i64 (-1), .string ⟨#[108, 111, 99, 107]⟩, .bool true, .bool true, .bool false, .int .i64 (-1), .string ⟨#[116, 101, 114, 109, 105, 110, 97, 108]⟩, .bool false, .bool true, .bool false, .int .i64 (-1), .string ⟨#[97, 99, 99, 111, 117, 110, 116]⟩, .bool false, .bool false, .bool true, .int .i64 (-1), .string ⟨#[99, 108, 111, 99, 107]⟩, .bool false, .bool false, .bool false, .int .i64 (-1), .string ⟨#[112, 111, 114, 116]⟩, .bool false, .bool true, .bool false, .int .i64 (-1), .string ⟨#[98, 111, 120]⟩, .bool false, .bool false, .bool true, .int .i64 (-1), .string ⟨#[111, 117, 116]⟩, .bool true, .bool true, .bool false, .int .i64 (1073741824), .string ⟨#[115, 104, 101, 108, 108]⟩, .bool true, .bool false, .bool false, .int .i64 (-1), .string ⟨#[101, 112, 111, 99, 104]⟩, .bool false, .bool false, .bool false, .int .i64 (-1)]

theorem wpList_build_at {P : Program} {ops : Array Oper} {rest : List Oper} {o : Oper} {a : Act} {w : World} {Q : Exit → Act → World → Prop} (hg : o.guard = none) (t : TypeId) (parts : Array (Nat × Operand)) (ho : o.op = .build t parts)
    (cells : Array Value) (hb : P.built t (parts.map fun (i, x) => (i, a.eval x)).toList = some cells) (h : wpList P ops Q rest (a.put o.dst (.agg cells)) w) : wpList P ops Q (o :: rest) a w :=
  wpList_build hg t parts ho (by rw [hb]; rfl) (by rw [hb]; exact h)

theorem setRow_new (w : World) (cs cs' : Array Value) (t : TypeId) : (w.alloc (.cells cs t)).setRow w.heap.size cs' = w.alloc (.cells cs' t) := by
  show World.mk _ _ _ _ _ = World.mk _ _ _ _ _
  congr 1
  simp [World.alloc, -World.alloc_eq]
  apply Array.ext
  · simp
  · intro k h1 h2
    simp only [Array.getElem_modify, Array.getElem_push]
    split
    · rename_i hk; subst hk; simp
    · rename_i hk
      split
      · rfl
      · rename_i hk2; exfalso; simp at h1; omega

set_option maxRecDepth 100000 in
set_option maxHeartbeats 2000000 in
theorem uses_any (w : World) : Calls Tryz.prog 47 #[] w fun e w' => e = .returned (.agg usesCells) ∧ w' = w.alloc (.cells usesCells 100) := by
  go_enter Tryz.func47, Tryz.ntmps47
  go_wp2_with (first | (refine wpList_build_at rfl 100 _ rfl usesCells (by kernel_rfl) ?_) | (refine wpList_store_row rfl 100 _ _ rfl w.heap.size usesCells rfl rfl 100 _ (heap_alloc_new w _) (by kernel_rfl) (by kernel_rfl) (by kernel_rfl) ?_; rw [setRow_new]))
  exact bodyPost_ret (v := .agg usesCells) (results_cell_row rfl _ _ w.heap.size 100 usesCells (0, 0) _ rfl (heap_alloc_new w _) Tryz.underlying100 rfl (by kernel_rfl)) rfl ⟨rfl, rfl⟩
end Go.Proofs.YtfdbanhbegngoaaGreatDoor
