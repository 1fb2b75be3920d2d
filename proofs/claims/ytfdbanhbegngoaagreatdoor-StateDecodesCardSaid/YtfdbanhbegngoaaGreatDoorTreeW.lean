/-
  LAYER 5, WALKED: tall, many, total, join.
-/
import Derived.Test.YtfdbanhbegngoaaGreatDoorEl
namespace Go.Proofs.YtfdbanhbegngoaaGreatDoor
open Go.RowKit

set_option maxHeartbeats 400000 in
theorem tall_any (p : Option Addr) (t : T) (w : World) (h : IsTree w p t) : Calls Tryz.prog 85 #[.pointer p] w fun e w' => e = .returned (.int .i64 t.h) ∧ w = w' := by
  cases t with
  | nil =>
    obtain rfl : p = none := h
    go_enter Tryz.func85, Tryz.ntmps85
    go_wp2
    go_ret
    exact ⟨rfl, rfl⟩
  | node l n v r =>
    obtain ⟨b, pl, pr, rfl, hk, hl, hr⟩ := h
    have c8 : w.cell? ⟨b, 8, none⟩ = some (.int .i64 (T.node l n v r).h) := hk.cell 8
    generalize (T.node l n v r).h = x at *
    clear hk hl hr
    go_enter Tryz.func85, Tryz.ntmps85
    go_wp2
    go_ret
    exact ⟨rfl, rfl⟩
set_option maxHeartbeats 400000 in
theorem many_any (p : Option Addr) (t : T) (w : World) (h : IsTree w p t) : Calls Tryz.prog 68 #[.pointer p] w fun e w' => e = .returned (.int .i64 t.size) ∧ w = w' := by
  cases t with
  | nil =>
    obtain rfl : p = none := h
    go_enter Tryz.func68, Tryz.ntmps68
    go_wp2
    go_ret
    exact ⟨rfl, rfl⟩
  | node l n v r =>
    obtain ⟨b, pl, pr, rfl, hk, hl, hr⟩ := h
    have c8 : w.cell? ⟨b, 9, none⟩ = some (.int .i64 (T.node l n v r).size) := hk.cell 9
    generalize (T.node l n v r).size = x at *
    clear hk hl hr
    go_enter Tryz.func68, Tryz.ntmps68
    go_wp2
    go_ret
    exact ⟨rfl, rfl⟩
set_option maxHeartbeats 400000 in
theorem total_any (p : Option Addr) (t : T) (w : World) (h : IsTree w p t) : Calls Tryz.prog 69 #[.pointer p] w fun e w' => e = .returned (.int .i64 t.bytes) ∧ w = w' := by
  cases t with
  | nil =>
    obtain rfl : p = none := h
    go_enter Tryz.func69, Tryz.ntmps69
    go_wp2
    go_ret
    exact ⟨rfl, rfl⟩
  | node l n v r =>
    obtain ⟨b, pl, pr, rfl, hk, hl, hr⟩ := h
    have c8 : w.cell? ⟨b, 10, none⟩ = some (.int .i64 (T.node l n v r).bytes) := hk.cell 10
    generalize (T.node l n v r).bytes = x at *
    clear hk hl hr
    go_enter Tryz.func69, Tryz.ntmps69
    go_wp2
    go_ret
    exact ⟨rfl, rfl⟩

set_option maxRecDepth 100000 in
set_option maxHeartbeats 1600000 in
theorem join_any (pl pr : Option Addr) (l r : T) (n : Nm) (v : ByteArray) (w : World) (hl : IsTree w pl l) (hr : IsTree w pr r) (hf : (T.node l n v r).Fits) :
    Calls Tryz.prog 52 #[.pointer pl, nmV n, .string v, .pointer pr] w fun e w' => ∃ p, e = .returned (.pointer p) ∧ IsTree w' p (.node l n v r) ∧ Below w.heap.size w w' := by
  obtain ⟨f1, f2⟩ := hf
  have g1 := T.h_le l
  have g2 := T.h_le r
  simp only [T.size, T.bytes] at f1 f2
  have a1 := fun w' (hb : Below w.heap.size w w') => tall_any pl l w' (hl.below hb)
  have a2 := fun w' (hb : Below w.heap.size w w') => tall_any pr r w' (hr.below hb)
  have a3 := fun w' (hb : Below w.heap.size w w') => many_any pl l w' (hl.below hb)
  have a4 := fun w' (hb : Below w.heap.size w w') => many_any pr r w' (hr.below hb)
  have a5 := fun w' (hb : Below w.heap.size w w') => total_any pl l w' (hl.below hb)
  have a6 := fun w' (hb : Below w.heap.size w w') => total_any pr r w' (hr.below hb)
  have hsp : ∀ w' : World, Below w.heap.size w w' → IsTree (w'.alloc (.cells (nodeCells n v pl pr (1 + max l.h r.h) (1 + l.size + r.size) (v.size + l.bytes + r.bytes)) 82)) (some ⟨w'.heap.size, 0, none⟩) (.node l n v r) := by
    intro w' hb
    have hb' := hb.alloc hb.size (.cells (nodeCells n v pl pr (1 + max l.h r.h) (1 + l.size + r.size) (v.size + l.bytes + r.bytes)) 82)
    exact ⟨_, pl, pr, rfl, Blk.new _ _ _, hl.below hb', hr.below hb'⟩
  unfold nodeCells at hsp
  generalize hlh : l.h = lh at *
  generalize hrh : r.h = rh at *
  generalize hls : l.size = ls at *
  generalize hrs : r.size = rs at *
  generalize hlb : l.bytes = lb at *
  generalize hrb : r.bytes = rb at *
  clear hlh hrh hls hrs hlb hrb
  have A1 := hid a1; have A2 := hid a2; have A3 := hid a3; have A4 := hid a4; have A5 := hid a5; have A6 := hid a6; have HSP := hid hsp
  clear a1 a2 a3 a4 a5 a6 hsp hl hr
  obtain ⟨k, o, nu, i, t⟩ := n
  unfold nmV
  dsimp only at HSP
  go_enter Tryz.func52, Tryz.ntmps52
  go_wp2_with fail
  generalize hW : w.alloc (.cells #[.int .i64 k, .string o, .int .i64 nu, .int .i64 i, .string t] 38) = W
  have b1 : Blk W w.heap.size 38 #[.int .i64 k, .string o, .int .i64 nu, .int .i64 i, .string t] := by rw [← hW]; exact Blk.new _ _ _
  have hB0 : Below w.heap.size w W := by rw [← hW]; exact (Below.refl _ _).alloc (Nat.le_refl _) _
  have c0 : W.cell? ⟨w.heap.size, 0, none⟩ = some (.int .i64 k) := b1.cell 0
  have c1 : W.cell? ⟨w.heap.size, 1, none⟩ = some (.string o) := b1.cell 1
  have c2 : W.cell? ⟨w.heap.size, 2, none⟩ = some (.int .i64 nu) := b1.cell 2
  have c3 : W.cell? ⟨w.heap.size, 3, none⟩ = some (.int .i64 i) := b1.cell 3
  have c4 : W.cell? ⟨w.heap.size, 4, none⟩ = some (.string t) := b1.cell 4
  clear hW b1
  have w1 : IntKind.i64.wrap (1 + max (lh : Int) (rh : Int)) = ((1 + max lh rh : Nat) : Int) := by rw [IntWalk.i64_in _ (by omega)]; omega
  have w2 : IntKind.i64.wrap (IntKind.i64.wrap (1 + (ls : Int)) + (rs : Int)) = ((1 + ls + rs : Nat) : Int) := by rw [IntWalk.i64_in (1 + (ls : Int)) (by omega), IntWalk.i64_in _ (by omega)]; omega
  have w3 : IntKind.i64.wrap (IntKind.i64.wrap ((v.size : Int) + (lb : Int)) + (rb : Int)) = ((v.size + lb + rb : Nat) : Int) := by rw [IntWalk.i64_in ((v.size : Int) + (lb : Int)) (by omega), IntWalk.i64_in _ (by omega)]; omega
  have W1 := hid w1; have W2 := hid w2; have W3 := hid w3
  clear w1 w2 w3
  go_region_held3 (fun w' => w'.cell? ⟨w.heap.size, 0, none⟩ = some (.int .i64 k) ∧ w'.cell? ⟨w.heap.size, 1, none⟩ = some (.string o) ∧ w'.cell? ⟨w.heap.size, 2, none⟩ = some (.int .i64 nu) ∧ w'.cell? ⟨w.heap.size, 3, none⟩ = some (.int .i64 i) ∧ w'.cell? ⟨w.heap.size, 4, none⟩ = some (.string t))
    (go_keep)
    (first
      | (go_at_call_of 85 (Value.pointer pl); refine (A1.out _ hB0.drew).mono ?_; rintro e w' ⟨rfl, rfl⟩)
      | (go_at_call_of 85 (Value.pointer pr); refine (A2.out _ hB0.drew).mono ?_; rintro e w' ⟨rfl, rfl⟩)
      | (go_at_call_of 68 (Value.pointer pl); refine (A3.out _ hB0.drew).mono ?_; rintro e w' ⟨rfl, rfl⟩)
      | (go_at_call_of 68 (Value.pointer pr); refine (A4.out _ hB0.drew).mono ?_; rintro e w' ⟨rfl, rfl⟩)
      | (go_at_call_of 69 (Value.pointer pl); refine (A5.out _ hB0.drew).mono ?_; rintro e w' ⟨rfl, rfl⟩)
      | (go_at_call_of 69 (Value.pointer pr); refine (A6.out _ hB0.drew).mono ?_; rintro e w' ⟨rfl, rfl⟩))
  all_goals
    go_wp2_with fail
    go_ret
    refine ⟨_, rfl, ?_, ?_⟩
    · rw [W1.out, W2.out, W3.out]
      exact (HSP.out W hB0).below ((Below.refl _ _).drew)
    · exact (hB0.alloc hB0.size _).drew
end Go.Proofs.YtfdbanhbegngoaaGreatDoor
