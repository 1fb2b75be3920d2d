/-
  LAYER 5, WALKED: with, first, without. (Written by the program gen_with.py.)
  LAYER 5, WALKED: New, tree, Get. (Written by the program gen_state.py.)
  LAYER 24 (view): what a view is, as a datum; New, Get, walked.
  LAYER 24 (view), WALKED: slices.Clone at changes.
  LAYER 24 (view), WALKED: Get.
-/
import Derived.Test.YtfgecaphhdedcaaGreatDoorZ7
import Derived.Test.YtfgecaphhdedcaaGreatDoorZ6
import Derived.Test.YtfgecaphhdedcaaGreatDoorZ5
import Derived.Test.YtfgecaphhdedcaaGreatDoorZ3
import Derived.BigRegion
import Derived.Deep.RegionHeld3
import Derived.Test.YtfgecaphhdedcaaGreatDoorZ1
namespace Go.Proofs.YtfgecaphhdedcaaGreatDoor
open Go.RowKit

theorem bal_any (pl pr : Option Addr) (l r : T) (n : Nm) (v : ByteArray) (w : World) (hl : IsTree w pl l) (hr : IsTree w pr r) (hf : (T.node l n v r).Fits) :
    Calls Tryz.prog 88 #[.pointer pl, nmV n, .string v, .pointer pr] w fun e w' => ∃ p, e = .returned (.pointer p) ∧ IsTree w' p (T.bal l n v r) ∧ Below w.heap.size w w' := by
  unfold T.bal
  split
  · next h1 =>
    split
    · next ll ln lv lr =>
      split
      · next h2 => exact balA1 pl pr _ ll lr r n ln v lv w hl hr rfl hf h1 h2
      · next h2 =>
        split
        · next a mn mv b => exact balA2 pl pr _ ll _ r a b n ln mn v lv mv w hl hr rfl rfl hf h1 h2
        · next => exact absurd (Nat.zero_le _) h2
    · next => exact absurd h1 (by simp [T.h])
  · next h1 =>
    split
    · next h3 =>
      split
      · next ll ln lv lr =>
        split
        · next h2 => exact balB1 pl pr l ll lr _ n ln v lv w hl hr rfl hf h3 h2
        · next h2 =>
          split
          · next a mn mv b => exact balB2 pl pr l _ lr _ a b n ln mn v lv mv w hl hr rfl rfl hf h3 h2
          · next => exact absurd (Nat.zero_le _) h2
      · next => exact absurd h3 (by simp [T.h])
    · next h3 => exact balC pl pr l r n v w hl hr hf h1 h3

namespace T
theorem bal_size (l : T) (n : Nm) (v : ByteArray) (r : T) : (bal l n v r).size = 1 + l.size + r.size := by
  rw [size_eq, bal_list, size_eq l, size_eq r]; simp; omega
theorem bal_bytes (l : T) (n : Nm) (v : ByteArray) (r : T) : (bal l n v r).bytes = v.size + l.bytes + r.bytes := by
  rw [bytes_eq, bal_list, bytes_eq l, bytes_eq r]; simp [sumB]; omega
theorem bal_ok {l : T} {n : Nm} {v : ByteArray} {r : T} (h1 : l.Ok) (h2 : n.Ok) (h3 : v.size ≤ maxLen) (h4 : r.Ok) : (bal l n v r).Ok := by
  rw [ok_iff, bal_list, ← show (node l n v r).toList = l.toList ++ (n, v) :: r.toList from rfl, ← ok_iff]; exact ⟨h1, h2, h3, h4⟩
theorem with_size (t : T) (n : Nm) (v : ByteArray) : (t.with_ n v).size ≤ t.size + 1 ∧ (t.with_ n v).bytes ≤ t.bytes + v.size := by
  induction t with
  | nil => simp [with_, size, bytes]
  | node l m x r ihl ihr =>
    unfold with_
    split
    · rw [bal_size, bal_bytes]; simp only [size, bytes]; omega
    · split
      · rw [bal_size, bal_bytes]; simp only [size, bytes]; omega
      · simp only [size, bytes]; omega
theorem with_ok (t : T) (n : Nm) (v : ByteArray) (hn : n.Ok) (hv : v.size ≤ maxLen) (h : t.Ok) : (t.with_ n v).Ok := by
  induction t with
  | nil => exact ⟨trivial, hn, hv, trivial⟩
  | node l m x r ihl ihr =>
    obtain ⟨h1, h2, h3, h4⟩ := h
    unfold with_
    split
    · exact bal_ok (ihl h1) h2 h3 h4
    · split
      · exact bal_ok h1 h2 h3 (ihr h4)
      · exact ⟨h1, hn, hv, h4⟩
theorem first_list (l : T) (n : Nm) (v : ByteArray) (r : T) : (first l n v r).2 :: (first l n v r).1.toList = l.toList ++ (n, v) :: r.toList := by
  induction l generalizing n v r with
  | nil => rfl
  | node l' n' v' r' ih _ =>
    unfold first
    simp only [bal_list, toList]
    rw [← List.cons_append, ih n' v' r']
theorem first_size (l : T) (n : Nm) (v : ByteArray) (r : T) : (first l n v r).1.size + 1 = 1 + l.size + r.size ∧ (first l n v r).1.bytes + (first l n v r).2.2.size = v.size + l.bytes + r.bytes := by
  have h := first_list l n v r
  have a := congrArg List.length h
  have b := congrArg sumB h
  rw [size_eq, size_eq l, size_eq r, bytes_eq, bytes_eq l, bytes_eq r]
  simp [sumB] at a b ⊢
  omega
theorem first_ok {l : T} {n : Nm} {v : ByteArray} {r : T} (h : (node l n v r).Ok) : (first l n v r).1.Ok ∧ (first l n v r).2.1.Ok ∧ (first l n v r).2.2.size ≤ maxLen := by
  rw [ok_iff, show (node l n v r).toList = l.toList ++ (n, v) :: r.toList from rfl, ← first_list] at h
  refine ⟨(ok_iff _).2 fun x hx => h x (.tail _ hx), h _ (.head _)⟩
theorem without_size (t : T) (n : Nm) : (t.without n).size ≤ t.size ∧ (t.without n).bytes ≤ t.bytes := by
  induction t with
  | nil => simp [without]
  | node l m x r ihl ihr =>
    unfold without
    split
    · rw [bal_size, bal_bytes]; simp only [size, bytes]; omega
    · split
      · rw [bal_size, bal_bytes]; simp only [size, bytes]; omega
      · split
        · simp only [size, bytes]; omega
        · next rl rn rv rr => 
          have := first_size rl rn rv rr
          rw [bal_size, bal_bytes]; simp only [size, bytes]; omega
end T

theorem IsTree.blk {w : World} {p : Option Addr} {l r : T} {n : Nm} {v : ByteArray} (h : IsTree w p (.node l n v r)) : ∃ (b : Nat) (pl pr : Option Addr), p = some ⟨b, 0, none⟩ ∧ (∃ x y z, Blk w b 136 (nodeCells n v pl pr x y z)) ∧ IsTree w pl l ∧ IsTree w pr r := by
  obtain ⟨b, pl, pr, h1, h2, h3, h4⟩ := h
  exact ⟨b, pl, pr, h1, ⟨_, _, _, h2⟩, h3, h4⟩

set_option maxRecDepth 100000 in
set_option maxHeartbeats 3200000 in
theorem with_nil (n : Nm) (v : ByteArray) (w : World) (hf : (T.node .nil n v .nil).Fits) :
    Calls Tryz.prog 58 #[.pointer none, nmV n, .string v] w fun e w' => ∃ p, e = .returned (.pointer p) ∧ IsTree w' p (.node .nil n v .nil) ∧ Below w.heap.size w w' := by
  unfold nmV
  go_enter Tryz.func58, Tryz.ntmps58
  go_upto_region 1 with fail
  generalize hW : w.alloc (.cells #[.int .i64 n.kind, .string n.owner, .int .i64 n.number, .int .i64 n.index, .string n.text] 66) = W
  have b0 : Blk W w.heap.size 66 #[.int .i64 n.kind, .string n.owner, .int .i64 n.number, .int .i64 n.index, .string n.text] := by rw [← hW]; exact Blk.new _ _ _
  have hB0 : Below w.heap.size w W := by rw [← hW]; exact (Below.refl _ _).alloc (Nat.le_refl _) _
  have lW : w.heap.size < W.heap.size := b0.lt
  clear hW
  have c0 : W.cell? ⟨w.heap.size, 0, none⟩ = some (.int .i64 n.kind) := b0.cell 0
  have c1 : W.cell? ⟨w.heap.size, 1, none⟩ = some (.string n.owner) := b0.cell 1
  have c2 : W.cell? ⟨w.heap.size, 2, none⟩ = some (.int .i64 n.number) := b0.cell 2
  have c3 : W.cell? ⟨w.heap.size, 3, none⟩ = some (.int .i64 n.index) := b0.cell 3
  have c4 : W.cell? ⟨w.heap.size, 4, none⟩ = some (.string n.text) := b0.cell 4
  have J := hid (fun w' (hb : Below w.heap.size w w') => join_any none none .nil .nil n v w' rfl rfl hf)
  go_wp2_with (go_at_call 87; refine (J.out _ hB0).mono ?_; rintro e w1 ⟨p, rfl, ht, hb1⟩)
  go_ret
  exact ⟨p, rfl, ht, hB0.trans (hb1.mono hB0.size)⟩

set_option maxRecDepth 100000 in
set_option maxHeartbeats 3200000 in
theorem with_lt (b x' y' z' : Nat) (pl pr : Option Addr) (l r : T) (n m : Nm) (v x : ByteArray) (w : World) (hn : n.Ok) (hm : m.Ok) (k : Blk w b 136 (nodeCells m x pl pr x' y' z')) (_hl : IsTree w pl l) (hr : IsTree w pr r) (hc : cmpN n m < 0) (hf : (T.node (l.with_ n v) m x r).Fits) (IH : ∀ w', Below w.heap.size w w' → Calls Tryz.prog 58 #[.pointer pl, nmV n, .string v] w' fun e w2 => ∃ p, e = .returned (.pointer p) ∧ IsTree w2 p (l.with_ n v) ∧ Below w'.heap.size w' w2) :
    Calls Tryz.prog 58 #[.pointer (some ⟨b, 0, none⟩), nmV n, .string v] w fun e w' => ∃ p, e = .returned (.pointer p) ∧ IsTree w' p (T.bal (l.with_ n v) m x r) ∧ Below w.heap.size w w' := by
  unfold nmV
  go_enter Tryz.func58, Tryz.ntmps58
  go_upto_region 1 with fail
  generalize hW : w.alloc (.cells #[.int .i64 n.kind, .string n.owner, .int .i64 n.number, .int .i64 n.index, .string n.text] 66) = W
  have b0 : Blk W w.heap.size 66 #[.int .i64 n.kind, .string n.owner, .int .i64 n.number, .int .i64 n.index, .string n.text] := by rw [← hW]; exact Blk.new _ _ _
  have hB0 : Below w.heap.size w W := by rw [← hW]; exact (Below.refl _ _).alloc (Nat.le_refl _) _
  have lW : w.heap.size < W.heap.size := b0.lt
  clear hW
  have k0 := k.below hB0 k.lt
  have bl : b < W.heap.size := k0.lt
  have KK : ∀ w', Below W.heap.size W w' → w'.cell? ⟨b, 0, none⟩ = some (.int .i64 m.kind) ∧ w'.cell? ⟨b, 1, none⟩ = some (.string m.owner) ∧ w'.cell? ⟨b, 2, none⟩ = some (.int .i64 m.number) ∧ w'.cell? ⟨b, 3, none⟩ = some (.int .i64 m.index) ∧ w'.cell? ⟨b, 4, none⟩ = some (.string m.text) ∧ w'.cell? ⟨b, 5, none⟩ = some (.string x) ∧ w'.cell? ⟨b, 6, none⟩ = some (.pointer pl) ∧ w'.cell? ⟨b, 7, none⟩ = some (.pointer pr) ∧ w'.cell? ⟨w.heap.size, 0, none⟩ = some (.int .i64 n.kind) ∧ w'.cell? ⟨w.heap.size, 1, none⟩ = some (.string n.owner) ∧ w'.cell? ⟨w.heap.size, 2, none⟩ = some (.int .i64 n.number) ∧ w'.cell? ⟨w.heap.size, 3, none⟩ = some (.int .i64 n.index) ∧ w'.cell? ⟨w.heap.size, 4, none⟩ = some (.string n.text) := by
    intro w' hb
    have k1 := k0.below hb k0.lt
    have b1 := b0.below hb b0.lt
    exact ⟨k1.cell 0, k1.cell 1, k1.cell 2, k1.cell 3, k1.cell 4, k1.cell 5, k1.cell 6, k1.cell 7, b1.cell 0, b1.cell 1, b1.cell 2, b1.cell 3, b1.cell 4⟩
  have d0 : W.cell? ⟨b, 0, none⟩ = some (.int .i64 m.kind) := k0.cell 0
  have d1 : W.cell? ⟨b, 1, none⟩ = some (.string m.owner) := k0.cell 1
  have d2 : W.cell? ⟨b, 2, none⟩ = some (.int .i64 m.number) := k0.cell 2
  have d3 : W.cell? ⟨b, 3, none⟩ = some (.int .i64 m.index) := k0.cell 3
  have d4 : W.cell? ⟨b, 4, none⟩ = some (.string m.text) := k0.cell 4
  have d5 : W.cell? ⟨b, 5, none⟩ = some (.string x) := k0.cell 5
  have d6 : W.cell? ⟨b, 6, none⟩ = some (.pointer pl) := k0.cell 6
  have d7 : W.cell? ⟨b, 7, none⟩ = some (.pointer pr) := k0.cell 7
  have c0 : W.cell? ⟨w.heap.size, 0, none⟩ = some (.int .i64 n.kind) := b0.cell 0
  have c1 : W.cell? ⟨w.heap.size, 1, none⟩ = some (.string n.owner) := b0.cell 1
  have c2 : W.cell? ⟨w.heap.size, 2, none⟩ = some (.int .i64 n.number) := b0.cell 2
  have c3 : W.cell? ⟨w.heap.size, 3, none⟩ = some (.int .i64 n.index) := b0.cell 3
  have c4 : W.cell? ⟨w.heap.size, 4, none⟩ = some (.string n.text) := b0.cell 4
  have CM := hid (fun w' => cmpN_any n m hn hm w')
  unfold nmV at CM
  have K := hid KK
  have I1 := hid IH
  unfold nmV at I1
  have J1 := hid (fun pj w' (hb : Below w.heap.size w w') (hj : IsTree w' pj (l.with_ n v)) => bal_any pj pr (l.with_ n v) r m x w' hj (hr.below hb) hf)
  unfold nmV at J1
  clear IH hf
  clear KK k k0 b0 _hl hr hn hm
  generalize cmpN n m = c at *
  go_wp2_with fail
  go_region_held3 (fun w' => w'.cell? ⟨b, 0, none⟩ = some (.int .i64 m.kind) ∧ w'.cell? ⟨b, 1, none⟩ = some (.string m.owner) ∧ w'.cell? ⟨b, 2, none⟩ = some (.int .i64 m.number) ∧ w'.cell? ⟨b, 3, none⟩ = some (.int .i64 m.index) ∧ w'.cell? ⟨b, 4, none⟩ = some (.string m.text) ∧ w'.cell? ⟨b, 5, none⟩ = some (.string x) ∧ w'.cell? ⟨b, 6, none⟩ = some (.pointer pl) ∧ w'.cell? ⟨b, 7, none⟩ = some (.pointer pr) ∧ w'.cell? ⟨w.heap.size, 0, none⟩ = some (.int .i64 n.kind) ∧ w'.cell? ⟨w.heap.size, 1, none⟩ = some (.string n.owner) ∧ w'.cell? ⟨w.heap.size, 2, none⟩ = some (.int .i64 n.number) ∧ w'.cell? ⟨w.heap.size, 3, none⟩ = some (.int .i64 n.index) ∧ w'.cell? ⟨w.heap.size, 4, none⟩ = some (.string n.text))
    (first | go_keep | exact K.out _ (((Below.refl W.heap.size W).drew).trans hb1))
    (first | (go_at_call 83; refine (CM.out _).mono ?_; rintro e w1 ⟨rfl, hb1⟩))
  have hB1 : Below w.heap.size w w1 := hB0.drew.trans (hb1.mono hB0.drew.size)
  have K1 : w1.cell? ⟨b, 0, none⟩ = some (.int .i64 m.kind) ∧ w1.cell? ⟨b, 1, none⟩ = some (.string m.owner) ∧ w1.cell? ⟨b, 2, none⟩ = some (.int .i64 m.number) ∧ w1.cell? ⟨b, 3, none⟩ = some (.int .i64 m.index) ∧ w1.cell? ⟨b, 4, none⟩ = some (.string m.text) ∧ w1.cell? ⟨b, 5, none⟩ = some (.string x) ∧ w1.cell? ⟨b, 6, none⟩ = some (.pointer pl) ∧ w1.cell? ⟨b, 7, none⟩ = some (.pointer pr) ∧ w1.cell? ⟨w.heap.size, 0, none⟩ = some (.int .i64 n.kind) ∧ w1.cell? ⟨w.heap.size, 1, none⟩ = some (.string n.owner) ∧ w1.cell? ⟨w.heap.size, 2, none⟩ = some (.int .i64 n.number) ∧ w1.cell? ⟨w.heap.size, 3, none⟩ = some (.int .i64 n.index) ∧ w1.cell? ⟨w.heap.size, 4, none⟩ = some (.string n.text) := K.out _ (((Below.refl W.heap.size W).drew).trans hb1)
  go_wp2_with fail
  obtain ⟨q0, q1, q2, q3, q4, q5, q6, q7, q8, q9, q10, q11, q12⟩ := K1
  go_region_held3 (fun w' => w'.cell? ⟨b, 0, none⟩ = some (.int .i64 m.kind) ∧ w'.cell? ⟨b, 1, none⟩ = some (.string m.owner) ∧ w'.cell? ⟨b, 2, none⟩ = some (.int .i64 m.number) ∧ w'.cell? ⟨b, 3, none⟩ = some (.int .i64 m.index) ∧ w'.cell? ⟨b, 4, none⟩ = some (.string m.text) ∧ w'.cell? ⟨b, 5, none⟩ = some (.string x) ∧ w'.cell? ⟨b, 6, none⟩ = some (.pointer pl) ∧ w'.cell? ⟨b, 7, none⟩ = some (.pointer pr) ∧ w'.cell? ⟨w.heap.size, 0, none⟩ = some (.int .i64 n.kind) ∧ w'.cell? ⟨w.heap.size, 1, none⟩ = some (.string n.owner) ∧ w'.cell? ⟨w.heap.size, 2, none⟩ = some (.int .i64 n.number) ∧ w'.cell? ⟨w.heap.size, 3, none⟩ = some (.int .i64 n.index) ∧ w'.cell? ⟨w.heap.size, 4, none⟩ = some (.string n.text))
    (first | go_keep | exact K.out _ (((((Below.refl W.heap.size W).drew).trans hb1).drew).trans (hb2.mono (by simpa using hb1.size))) | exact K.out _ (((((Below.refl W.heap.size W).drew).trans hb1).drew).trans ((hb2.trans (hb3.mono hb2.size)).mono (by simpa using hb1.size))))
    (first
      | (go_at_call 58; refine (I1.out _ hB1.drew).mono ?_; rintro e w2 ⟨pj, rfl, hj, hb2⟩; have hBj := hB1.drew.trans (hb2.mono hB1.drew.size))
      | (go_at_call 88; refine (J1.out pj _ hBj hj).mono ?_; rintro e w3 ⟨pk, rfl, hk, hb3⟩))
  go_wp2_with fail
  go_ret
  exact ⟨pk, rfl, hk, hBj.trans (hb3.mono hBj.size)⟩

set_option maxRecDepth 100000 in
set_option maxHeartbeats 3200000 in
theorem with_gt (b x' y' z' : Nat) (pl pr : Option Addr) (l r : T) (n m : Nm) (v x : ByteArray) (w : World) (hn : n.Ok) (hm : m.Ok) (k : Blk w b 136 (nodeCells m x pl pr x' y' z')) (hl : IsTree w pl l) (_hr : IsTree w pr r) (hc : 0 < cmpN n m) (hf : (T.node l m x (r.with_ n v)).Fits) (IH : ∀ w', Below w.heap.size w w' → Calls Tryz.prog 58 #[.pointer pr, nmV n, .string v] w' fun e w2 => ∃ p, e = .returned (.pointer p) ∧ IsTree w2 p (r.with_ n v) ∧ Below w'.heap.size w' w2) :
    Calls Tryz.prog 58 #[.pointer (some ⟨b, 0, none⟩), nmV n, .string v] w fun e w' => ∃ p, e = .returned (.pointer p) ∧ IsTree w' p (T.bal l m x (r.with_ n v)) ∧ Below w.heap.size w w' := by
  unfold nmV
  go_enter Tryz.func58, Tryz.ntmps58
  go_upto_region 1 with fail
  generalize hW : w.alloc (.cells #[.int .i64 n.kind, .string n.owner, .int .i64 n.number, .int .i64 n.index, .string n.text] 66) = W
  have b0 : Blk W w.heap.size 66 #[.int .i64 n.kind, .string n.owner, .int .i64 n.number, .int .i64 n.index, .string n.text] := by rw [← hW]; exact Blk.new _ _ _
  have hB0 : Below w.heap.size w W := by rw [← hW]; exact (Below.refl _ _).alloc (Nat.le_refl _) _
  have lW : w.heap.size < W.heap.size := b0.lt
  clear hW
  have k0 := k.below hB0 k.lt
  have bl : b < W.heap.size := k0.lt
  have KK : ∀ w', Below W.heap.size W w' → w'.cell? ⟨b, 0, none⟩ = some (.int .i64 m.kind) ∧ w'.cell? ⟨b, 1, none⟩ = some (.string m.owner) ∧ w'.cell? ⟨b, 2, none⟩ = some (.int .i64 m.number) ∧ w'.cell? ⟨b, 3, none⟩ = some (.int .i64 m.index) ∧ w'.cell? ⟨b, 4, none⟩ = some (.string m.text) ∧ w'.cell? ⟨b, 5, none⟩ = some (.string x) ∧ w'.cell? ⟨b, 6, none⟩ = some (.pointer pl) ∧ w'.cell? ⟨b, 7, none⟩ = some (.pointer pr) ∧ w'.cell? ⟨w.heap.size, 0, none⟩ = some (.int .i64 n.kind) ∧ w'.cell? ⟨w.heap.size, 1, none⟩ = some (.string n.owner) ∧ w'.cell? ⟨w.heap.size, 2, none⟩ = some (.int .i64 n.number) ∧ w'.cell? ⟨w.heap.size, 3, none⟩ = some (.int .i64 n.index) ∧ w'.cell? ⟨w.heap.size, 4, none⟩ = some (.string n.text) := by
    intro w' hb
    have k1 := k0.below hb k0.lt
    have b1 := b0.below hb b0.lt
    exact ⟨k1.cell 0, k1.cell 1, k1.cell 2, k1.cell 3, k1.cell 4, k1.cell 5, k1.cell 6, k1.cell 7, b1.cell 0, b1.cell 1, b1.cell 2, b1.cell 3, b1.cell 4⟩
  have d0 : W.cell? ⟨b, 0, none⟩ = some (.int .i64 m.kind) := k0.cell 0
  have d1 : W.cell? ⟨b, 1, none⟩ = some (.string m.owner) := k0.cell 1
  have d2 : W.cell? ⟨b, 2, none⟩ = some (.int .i64 m.number) := k0.cell 2
  have d3 : W.cell? ⟨b, 3, none⟩ = some (.int .i64 m.index) := k0.cell 3
  have d4 : W.cell? ⟨b, 4, none⟩ = some (.string m.text) := k0.cell 4
  have d5 : W.cell? ⟨b, 5, none⟩ = some (.string x) := k0.cell 5
  have d6 : W.cell? ⟨b, 6, none⟩ = some (.pointer pl) := k0.cell 6
  have d7 : W.cell? ⟨b, 7, none⟩ = some (.pointer pr) := k0.cell 7
  have c0 : W.cell? ⟨w.heap.size, 0, none⟩ = some (.int .i64 n.kind) := b0.cell 0
  have c1 : W.cell? ⟨w.heap.size, 1, none⟩ = some (.string n.owner) := b0.cell 1
  have c2 : W.cell? ⟨w.heap.size, 2, none⟩ = some (.int .i64 n.number) := b0.cell 2
  have c3 : W.cell? ⟨w.heap.size, 3, none⟩ = some (.int .i64 n.index) := b0.cell 3
  have c4 : W.cell? ⟨w.heap.size, 4, none⟩ = some (.string n.text) := b0.cell 4
  have CM := hid (fun w' => cmpN_any n m hn hm w')
  unfold nmV at CM
  have K := hid KK
  have I1 := hid IH
  unfold nmV at I1
  have J1 := hid (fun pj w' (hb : Below w.heap.size w w') (hj : IsTree w' pj (r.with_ n v)) => bal_any pl pj l (r.with_ n v) m x w' (hl.below hb) hj hf)
  unfold nmV at J1
  clear IH hf
  clear KK k k0 b0 hl _hr hn hm
  generalize cmpN n m = c at *
  go_wp2_with fail
  go_region_held3 (fun w' => w'.cell? ⟨b, 0, none⟩ = some (.int .i64 m.kind) ∧ w'.cell? ⟨b, 1, none⟩ = some (.string m.owner) ∧ w'.cell? ⟨b, 2, none⟩ = some (.int .i64 m.number) ∧ w'.cell? ⟨b, 3, none⟩ = some (.int .i64 m.index) ∧ w'.cell? ⟨b, 4, none⟩ = some (.string m.text) ∧ w'.cell? ⟨b, 5, none⟩ = some (.string x) ∧ w'.cell? ⟨b, 6, none⟩ = some (.pointer pl) ∧ w'.cell? ⟨b, 7, none⟩ = some (.pointer pr) ∧ w'.cell? ⟨w.heap.size, 0, none⟩ = some (.int .i64 n.kind) ∧ w'.cell? ⟨w.heap.size, 1, none⟩ = some (.string n.owner) ∧ w'.cell? ⟨w.heap.size, 2, none⟩ = some (.int .i64 n.number) ∧ w'.cell? ⟨w.heap.size, 3, none⟩ = some (.int .i64 n.index) ∧ w'.cell? ⟨w.heap.size, 4, none⟩ = some (.string n.text))
    (first | go_keep | exact K.out _ (((Below.refl W.heap.size W).drew).trans hb1))
    (first | (go_at_call 83; refine (CM.out _).mono ?_; rintro e w1 ⟨rfl, hb1⟩))
  have hB1 : Below w.heap.size w w1 := hB0.drew.trans (hb1.mono hB0.drew.size)
  have K1 : w1.cell? ⟨b, 0, none⟩ = some (.int .i64 m.kind) ∧ w1.cell? ⟨b, 1, none⟩ = some (.string m.owner) ∧ w1.cell? ⟨b, 2, none⟩ = some (.int .i64 m.number) ∧ w1.cell? ⟨b, 3, none⟩ = some (.int .i64 m.index) ∧ w1.cell? ⟨b, 4, none⟩ = some (.string m.text) ∧ w1.cell? ⟨b, 5, none⟩ = some (.string x) ∧ w1.cell? ⟨b, 6, none⟩ = some (.pointer pl) ∧ w1.cell? ⟨b, 7, none⟩ = some (.pointer pr) ∧ w1.cell? ⟨w.heap.size, 0, none⟩ = some (.int .i64 n.kind) ∧ w1.cell? ⟨w.heap.size, 1, none⟩ = some (.string n.owner) ∧ w1.cell? ⟨w.heap.size, 2, none⟩ = some (.int .i64 n.number) ∧ w1.cell? ⟨w.heap.size, 3, none⟩ = some (.int .i64 n.index) ∧ w1.cell? ⟨w.heap.size, 4, none⟩ = some (.string n.text) := K.out _ (((Below.refl W.heap.size W).drew).trans hb1)
  go_wp2_with fail
  obtain ⟨q0, q1, q2, q3, q4, q5, q6, q7, q8, q9, q10, q11, q12⟩ := K1
  go_region_held3 (fun w' => w'.cell? ⟨b, 0, none⟩ = some (.int .i64 m.kind) ∧ w'.cell? ⟨b, 1, none⟩ = some (.string m.owner) ∧ w'.cell? ⟨b, 2, none⟩ = some (.int .i64 m.number) ∧ w'.cell? ⟨b, 3, none⟩ = some (.int .i64 m.index) ∧ w'.cell? ⟨b, 4, none⟩ = some (.string m.text) ∧ w'.cell? ⟨b, 5, none⟩ = some (.string x) ∧ w'.cell? ⟨b, 6, none⟩ = some (.pointer pl) ∧ w'.cell? ⟨b, 7, none⟩ = some (.pointer pr) ∧ w'.cell? ⟨w.heap.size, 0, none⟩ = some (.int .i64 n.kind) ∧ w'.cell? ⟨w.heap.size, 1, none⟩ = some (.string n.owner) ∧ w'.cell? ⟨w.heap.size, 2, none⟩ = some (.int .i64 n.number) ∧ w'.cell? ⟨w.heap.size, 3, none⟩ = some (.int .i64 n.index) ∧ w'.cell? ⟨w.heap.size, 4, none⟩ = some (.string n.text))
    (first | go_keep | exact K.out _ (((((Below.refl W.heap.size W).drew).trans hb1).drew).trans (hb2.mono (by simpa using hb1.size))) | exact K.out _ (((((Below.refl W.heap.size W).drew).trans hb1).drew).trans ((hb2.trans (hb3.mono hb2.size)).mono (by simpa using hb1.size))))
    (first
      | (go_at_call 58; refine (I1.out _ hB1.drew).mono ?_; rintro e w2 ⟨pj, rfl, hj, hb2⟩; have hBj := hB1.drew.trans (hb2.mono hB1.drew.size))
      | (go_at_call 88; refine (J1.out pj _ hBj hj).mono ?_; rintro e w3 ⟨pk, rfl, hk, hb3⟩))
  go_wp2_with fail
  go_ret
  exact ⟨pk, rfl, hk, hBj.trans (hb3.mono hBj.size)⟩

set_option maxRecDepth 100000 in
set_option maxHeartbeats 3200000 in
theorem with_eq (b x' y' z' : Nat) (pl pr : Option Addr) (l r : T) (n m : Nm) (v x : ByteArray) (w : World) (hn : n.Ok) (hm : m.Ok) (k : Blk w b 136 (nodeCells m x pl pr x' y' z')) (hl : IsTree w pl l) (hr : IsTree w pr r) (hc : cmpN n m = 0) (hf : (T.node l n v r).Fits) :
    Calls Tryz.prog 58 #[.pointer (some ⟨b, 0, none⟩), nmV n, .string v] w fun e w' => ∃ p, e = .returned (.pointer p) ∧ IsTree w' p (.node l n v r) ∧ Below w.heap.size w w' := by
  unfold nmV
  go_enter Tryz.func58, Tryz.ntmps58
  go_upto_region 1 with fail
  generalize hW : w.alloc (.cells #[.int .i64 n.kind, .string n.owner, .int .i64 n.number, .int .i64 n.index, .string n.text] 66) = W
  have b0 : Blk W w.heap.size 66 #[.int .i64 n.kind, .string n.owner, .int .i64 n.number, .int .i64 n.index, .string n.text] := by rw [← hW]; exact Blk.new _ _ _
  have hB0 : Below w.heap.size w W := by rw [← hW]; exact (Below.refl _ _).alloc (Nat.le_refl _) _
  have lW : w.heap.size < W.heap.size := b0.lt
  clear hW
  have k0 := k.below hB0 k.lt
  have bl : b < W.heap.size := k0.lt
  have KK : ∀ w', Below W.heap.size W w' → w'.cell? ⟨b, 0, none⟩ = some (.int .i64 m.kind) ∧ w'.cell? ⟨b, 1, none⟩ = some (.string m.owner) ∧ w'.cell? ⟨b, 2, none⟩ = some (.int .i64 m.number) ∧ w'.cell? ⟨b, 3, none⟩ = some (.int .i64 m.index) ∧ w'.cell? ⟨b, 4, none⟩ = some (.string m.text) ∧ w'.cell? ⟨b, 5, none⟩ = some (.string x) ∧ w'.cell? ⟨b, 6, none⟩ = some (.pointer pl) ∧ w'.cell? ⟨b, 7, none⟩ = some (.pointer pr) ∧ w'.cell? ⟨w.heap.size, 0, none⟩ = some (.int .i64 n.kind) ∧ w'.cell? ⟨w.heap.size, 1, none⟩ = some (.string n.owner) ∧ w'.cell? ⟨w.heap.size, 2, none⟩ = some (.int .i64 n.number) ∧ w'.cell? ⟨w.heap.size, 3, none⟩ = some (.int .i64 n.index) ∧ w'.cell? ⟨w.heap.size, 4, none⟩ = some (.string n.text) := by
    intro w' hb
    have k1 := k0.below hb k0.lt
    have b1 := b0.below hb b0.lt
    exact ⟨k1.cell 0, k1.cell 1, k1.cell 2, k1.cell 3, k1.cell 4, k1.cell 5, k1.cell 6, k1.cell 7, b1.cell 0, b1.cell 1, b1.cell 2, b1.cell 3, b1.cell 4⟩
  have d0 : W.cell? ⟨b, 0, none⟩ = some (.int .i64 m.kind) := k0.cell 0
  have d1 : W.cell? ⟨b, 1, none⟩ = some (.string m.owner) := k0.cell 1
  have d2 : W.cell? ⟨b, 2, none⟩ = some (.int .i64 m.number) := k0.cell 2
  have d3 : W.cell? ⟨b, 3, none⟩ = some (.int .i64 m.index) := k0.cell 3
  have d4 : W.cell? ⟨b, 4, none⟩ = some (.string m.text) := k0.cell 4
  have d5 : W.cell? ⟨b, 5, none⟩ = some (.string x) := k0.cell 5
  have d6 : W.cell? ⟨b, 6, none⟩ = some (.pointer pl) := k0.cell 6
  have d7 : W.cell? ⟨b, 7, none⟩ = some (.pointer pr) := k0.cell 7
  have c0 : W.cell? ⟨w.heap.size, 0, none⟩ = some (.int .i64 n.kind) := b0.cell 0
  have c1 : W.cell? ⟨w.heap.size, 1, none⟩ = some (.string n.owner) := b0.cell 1
  have c2 : W.cell? ⟨w.heap.size, 2, none⟩ = some (.int .i64 n.number) := b0.cell 2
  have c3 : W.cell? ⟨w.heap.size, 3, none⟩ = some (.int .i64 n.index) := b0.cell 3
  have c4 : W.cell? ⟨w.heap.size, 4, none⟩ = some (.string n.text) := b0.cell 4
  have CM := hid (fun w' => cmpN_any n m hn hm w')
  unfold nmV at CM
  have K := hid KK
  have J1 := hid (fun w' (hb : Below w.heap.size w w') => join_any pl pr l r n v w' (hl.below hb) (hr.below hb) hf)
  unfold nmV at J1
  clear hf
  clear KK k k0 b0 hl hr hn hm
  generalize cmpN n m = c at *
  go_wp2_with fail
  go_region_held3 (fun w' => w'.cell? ⟨b, 0, none⟩ = some (.int .i64 m.kind) ∧ w'.cell? ⟨b, 1, none⟩ = some (.string m.owner) ∧ w'.cell? ⟨b, 2, none⟩ = some (.int .i64 m.number) ∧ w'.cell? ⟨b, 3, none⟩ = some (.int .i64 m.index) ∧ w'.cell? ⟨b, 4, none⟩ = some (.string m.text) ∧ w'.cell? ⟨b, 5, none⟩ = some (.string x) ∧ w'.cell? ⟨b, 6, none⟩ = some (.pointer pl) ∧ w'.cell? ⟨b, 7, none⟩ = some (.pointer pr) ∧ w'.cell? ⟨w.heap.size, 0, none⟩ = some (.int .i64 n.kind) ∧ w'.cell? ⟨w.heap.size, 1, none⟩ = some (.string n.owner) ∧ w'.cell? ⟨w.heap.size, 2, none⟩ = some (.int .i64 n.number) ∧ w'.cell? ⟨w.heap.size, 3, none⟩ = some (.int .i64 n.index) ∧ w'.cell? ⟨w.heap.size, 4, none⟩ = some (.string n.text))
    (first | go_keep | exact K.out _ (((Below.refl W.heap.size W).drew).trans hb1))
    (first | (go_at_call 83; refine (CM.out _).mono ?_; rintro e w1 ⟨rfl, hb1⟩))
  have hB1 : Below w.heap.size w w1 := hB0.drew.trans (hb1.mono hB0.drew.size)
  have K1 : w1.cell? ⟨b, 0, none⟩ = some (.int .i64 m.kind) ∧ w1.cell? ⟨b, 1, none⟩ = some (.string m.owner) ∧ w1.cell? ⟨b, 2, none⟩ = some (.int .i64 m.number) ∧ w1.cell? ⟨b, 3, none⟩ = some (.int .i64 m.index) ∧ w1.cell? ⟨b, 4, none⟩ = some (.string m.text) ∧ w1.cell? ⟨b, 5, none⟩ = some (.string x) ∧ w1.cell? ⟨b, 6, none⟩ = some (.pointer pl) ∧ w1.cell? ⟨b, 7, none⟩ = some (.pointer pr) ∧ w1.cell? ⟨w.heap.size, 0, none⟩ = some (.int .i64 n.kind) ∧ w1.cell? ⟨w.heap.size, 1, none⟩ = some (.string n.owner) ∧ w1.cell? ⟨w.heap.size, 2, none⟩ = some (.int .i64 n.number) ∧ w1.cell? ⟨w.heap.size, 3, none⟩ = some (.int .i64 n.index) ∧ w1.cell? ⟨w.heap.size, 4, none⟩ = some (.string n.text) := K.out _ (((Below.refl W.heap.size W).drew).trans hb1)
  go_wp2_with fail
  obtain ⟨q0, q1, q2, q3, q4, q5, q6, q7, q8, q9, q10, q11, q12⟩ := K1
  go_region_held3 (fun w' => w'.cell? ⟨b, 0, none⟩ = some (.int .i64 m.kind) ∧ w'.cell? ⟨b, 1, none⟩ = some (.string m.owner) ∧ w'.cell? ⟨b, 2, none⟩ = some (.int .i64 m.number) ∧ w'.cell? ⟨b, 3, none⟩ = some (.int .i64 m.index) ∧ w'.cell? ⟨b, 4, none⟩ = some (.string m.text) ∧ w'.cell? ⟨b, 5, none⟩ = some (.string x) ∧ w'.cell? ⟨b, 6, none⟩ = some (.pointer pl) ∧ w'.cell? ⟨b, 7, none⟩ = some (.pointer pr) ∧ w'.cell? ⟨w.heap.size, 0, none⟩ = some (.int .i64 n.kind) ∧ w'.cell? ⟨w.heap.size, 1, none⟩ = some (.string n.owner) ∧ w'.cell? ⟨w.heap.size, 2, none⟩ = some (.int .i64 n.number) ∧ w'.cell? ⟨w.heap.size, 3, none⟩ = some (.int .i64 n.index) ∧ w'.cell? ⟨w.heap.size, 4, none⟩ = some (.string n.text))
    (first | go_keep | exact K.out _ (((((Below.refl W.heap.size W).drew).trans hb1).drew).trans (hb2.mono (by simpa using hb1.size))))
    (first | (go_at_call 87; refine (J1.out _ hB1.drew).mono ?_; rintro e w2 ⟨pj, rfl, hj, hb2⟩))
  go_wp2_with fail
  go_ret
  exact ⟨pj, rfl, hj, hB1.drew.trans (hb2.mono hB1.drew.size)⟩

theorem with_any (t : T) (n : Nm) (v : ByteArray) (hn : n.Ok) (ht : t.Ok) (h1 : t.size + 1 ≤ 1000000) (h2 : t.bytes + v.size ≤ 1000000000) : ∀ (p : Option Addr) (w : World), IsTree w p t → Calls Tryz.prog 58 #[.pointer p, nmV n, .string v] w fun e w' => ∃ p, e = .returned (.pointer p) ∧ IsTree w' p (t.with_ n v) ∧ Below w.heap.size w w' := by
  induction t with
  | nil =>
    intro p w hp
    obtain rfl : p = none := hp
    exact with_nil n v w ⟨by simp [T.size], by simp only [T.bytes] at h2 ⊢; omega⟩
  | node l m x r ihl ihr =>
    intro p w hp
    obtain ⟨b, pl, pr, rfl, ⟨x', y', z', k⟩, hl, hr⟩ := hp.blk
    obtain ⟨o1, o2, o3, o4⟩ := ht
    simp only [T.size, T.bytes] at h1 h2
    have z1 := T.with_size l n v
    have z2 := T.with_size r n v
    unfold T.with_
    split
    · next hc =>
      exact with_lt b x' y' z' pl pr l r n m v x w hn o2 k hl hr hc ⟨by simp only [T.size]; omega, by simp only [T.bytes]; omega⟩ (fun w' hb => ihl o1 (by omega) (by omega) pl w' (hl.below hb))
    · next hc =>
      split
      · next hc' =>
        exact with_gt b x' y' z' pl pr l r n m v x w hn o2 k hl hr hc' ⟨by simp only [T.size]; omega, by simp only [T.bytes]; omega⟩ (fun w' hb => ihr o4 (by omega) (by omega) pr w' (hr.below hb))
      · next hc' =>
        exact with_eq b x' y' z' pl pr l r n m v x w hn o2 k hl hr (by omega) ⟨by simp only [T.size]; omega, by simp only [T.bytes]; omega⟩
end Go.Proofs.YtfgecaphhdedcaaGreatDoor
namespace Go.Proofs.YtfgecaphhdedcaaGreatDoor
open Go.RowKit

/-- A pointer to a state that holds a tree. -/
def IsState (w : World) (p : Option Addr) (t : T) : Prop := ∃ (s : Nat) (r : Option Addr), p = some ⟨s, 0, none⟩ ∧ Blk w s 88 #[.pointer r] ∧ IsTree w r t
theorem IsState.below {w w' : World} {p : Option Addr} {t : T} (h : IsState w p t) (hb : Below w.heap.size w w') : IsState w' p t := by
  obtain ⟨s, r, hp, hk, ht⟩ := h
  exact ⟨s, r, hp, hk.below hb hk.lt, ht.below hb⟩
/-- Or no state at all. -/
def StT (w : World) (p : Option Addr) (t : T) : Prop := (p = none ∧ t = .nil) ∨ IsState w p t
theorem StT.below {w w' : World} {p : Option Addr} {t : T} (h : StT w p t) (hb : Below w.heap.size w w') : StT w' p t := h.imp_right fun h => h.below hb

theorem ret_tup2 {a b c d : Value} (h1 : a = c) (h2 : b = d) : Ending.returned (.tuple #[a, b]) = .returned (.tuple #[c, d]) := by rw [h1, h2]

theorem new_any (w : World) : Calls Tryz.prog 15 #[] w fun e w' => ∃ p, e = .returned (.pointer p) ∧ IsState w' p .nil ∧ Below w.heap.size w w' := by
  go_enter Tryz.func15, Tryz.ntmps15
  go_wp2
  go_ret
  exact ⟨_, rfl, ⟨_, none, rfl, Blk.new _ _ _, rfl⟩, (Below.refl _ _).alloc (Nat.le_refl _) _⟩

theorem treeOf_any (p : Option Addr) (t : T) (w : World) (h : StT w p t) : Calls Tryz.prog 82 #[.pointer p] w fun e w' => ∃ r, e = .returned (.pointer r) ∧ IsTree w r t ∧ w = w' := by
  rcases h with ⟨rfl, rfl⟩ | ⟨s, r, rfl, hk, ht⟩
  · go_enter Tryz.func82, Tryz.ntmps82
    go_wp2
    go_ret
    exact ⟨none, rfl, rfl, rfl⟩
  · have c0 : w.cell? ⟨s, 0, none⟩ = some (.pointer r) := hk.cell 0
    have H := hid ht
    clear ht hk
    go_enter Tryz.func82, Tryz.ntmps82
    go_wp2
    go_ret
    exact ⟨r, rfl, H.out, rfl⟩
theorem len_any (p : Option Addr) (t : T) (w : World) (h : StT w p t) : Calls Tryz.prog 57 #[.pointer p] w fun e w' => e = .returned (.int .i64 t.size) ∧ w = w' := by
  go_enter Tryz.func57, Tryz.ntmps57
  go_wp2_with (first
    | (go_at_call 82; refine (treeOf_any p t _ h).mono ?_; rintro e w' ⟨r, rfl, hr, rfl⟩)
    | (go_at_call 86; refine (many_any r t _ hr).mono ?_; rintro e w' ⟨rfl, rfl⟩))
  go_ret
  exact ⟨rfl, rfl⟩
/-- What the size's cell of a tree says. -/
def treeSz (w : World) (v : Value) : Nat := match v with | .pointer (some a) => (intOf ((w.cell? ⟨a.block, 9, none⟩).getD (.bool false))).toNat | _ => 0
theorem treeSz_of {w : World} {p : Option Addr} {t : T} (h : IsTree w p t) : treeSz w (.pointer p) = t.size := by
  cases t with
  | nil => obtain rfl : p = none := h; rfl
  | node l n v r =>
    obtain ⟨b, pl, pr, rfl, hk, -, -⟩ := h
    have c : w.cell? ⟨b, 9, none⟩ = some (.int .i64 (T.node l n v r).size) := hk.cell 9
    simp [treeSz, c, intOf]

def getS (o : Option ByteArray) : ByteArray := o.getD ⟨#[]⟩

set_option maxRecDepth 100000 in
set_option maxHeartbeats 3200000 in
theorem get_any (p : Option Addr) (t : T) (n : Nm) (hn : n.Ok) (hT : t.Ok) (w : World) (h : StT w p t) :
    Calls Tryz.prog 55 #[.pointer p, nmV n] w fun e w' => e = .returned (.tuple #[.string (getS (t.get n)), .bool (t.get n).isSome]) ∧ Below w.heap.size w w' := by
  unfold nmV
  go_enter Tryz.func55, Tryz.ntmps55
  go_upto_region 1 with fail
  generalize hW : w.alloc (.cells #[.int .i64 n.kind, .string n.owner, .int .i64 n.number, .int .i64 n.index, .string n.text] 66) = W
  have b0 : Blk W w.heap.size 66 #[.int .i64 n.kind, .string n.owner, .int .i64 n.number, .int .i64 n.index, .string n.text] := by rw [← hW]; exact Blk.new _ _ _
  have hB0 : Below w.heap.size w W := by rw [← hW]; exact (Below.refl _ _).alloc (Nat.le_refl _) _
  have lW : w.heap.size < W.heap.size := b0.lt
  clear hW
  have h' := h.below hB0
  clear h
  go_wp2_with (go_at_call 82; refine (treeOf_any p t _ h').mono ?_; rintro e w' ⟨r, rfl, hr, rfl⟩)
  have H' := hid h'
  clear h'
  go_loopw [6] (fun tv wr => ∃ (tr : T) (ptr : Option Addr), tv = .pointer ptr ∧ IsTree W ptr tr ∧ tr.Ok ∧ t.get n = tr.get n ∧ Below W.heap.size W wr) (fun tv _ => treeSz W tv)
  case atStart => exact ⟨t, r, rfl, hr, hT, rfl, Below.refl _ _⟩
  case round =>
    obtain ⟨tr, ptr, rfl, htr, hok, he, hBw⟩ := hrel
    have HE := hid he; clear he
    have HSZ := hid (treeSz_of htr)
    cases tr with
    | nil =>
      obtain rfl : ptr = none := htr
      go_wp2
      go_ret2
      exact ⟨ret_tup2 (by rw [HE.out]; rfl) (by rw [HE.out]; rfl), hB0.trans (hBw.mono hB0.size)⟩
    | node l m x rt =>
      obtain ⟨b, pl, pr, rfl, ⟨x', y', z', k0⟩, hl, hr'⟩ := htr.blk
      clear htr
      have bl : b < W.heap.size := k0.lt
      have KK : ∀ w', Below W.heap.size W w' → w'.cell? ⟨b, 0, none⟩ = some (.int .i64 m.kind) ∧ w'.cell? ⟨b, 1, none⟩ = some (.string m.owner) ∧ w'.cell? ⟨b, 2, none⟩ = some (.int .i64 m.number) ∧ w'.cell? ⟨b, 3, none⟩ = some (.int .i64 m.index) ∧ w'.cell? ⟨b, 4, none⟩ = some (.string m.text) ∧ w'.cell? ⟨b, 5, none⟩ = some (.string x) ∧ w'.cell? ⟨b, 6, none⟩ = some (.pointer pl) ∧ w'.cell? ⟨b, 7, none⟩ = some (.pointer pr) ∧ w'.cell? ⟨w.heap.size, 0, none⟩ = some (.int .i64 n.kind) ∧ w'.cell? ⟨w.heap.size, 1, none⟩ = some (.string n.owner) ∧ w'.cell? ⟨w.heap.size, 2, none⟩ = some (.int .i64 n.number) ∧ w'.cell? ⟨w.heap.size, 3, none⟩ = some (.int .i64 n.index) ∧ w'.cell? ⟨w.heap.size, 4, none⟩ = some (.string n.text) := by
        intro w' hb
        have k1 := k0.below hb k0.lt
        have b1 := b0.below hb b0.lt
        exact ⟨k1.cell 0, k1.cell 1, k1.cell 2, k1.cell 3, k1.cell 4, k1.cell 5, k1.cell 6, k1.cell 7, b1.cell 0, b1.cell 1, b1.cell 2, b1.cell 3, b1.cell 4⟩
      obtain ⟨o1, o2, o3, o4⟩ := hok
      have CM := hid (fun w' => cmpN_any n m hn o2 w')
      unfold nmV at CM
      have HD := hid (show (T.node l m x rt).get n = if cmpN n m < 0 then l.get n else if 0 < cmpN n m then rt.get n else some x from rfl)
      obtain ⟨q0, q1, q2, q3, q4, q5, q6, q7, q8, q9, q10, q11, q12⟩ := KK wr hBw
      have K := hid KK
      have L := hid (And.intro hl (And.intro hr' (And.intro o1 o4)))
      clear KK k0 hl hr' o1 o2 o3 o4
      generalize cmpN n m = c at *
      go_wp2_with fail
      go_region_held3 (fun w' => w'.cell? ⟨b, 0, none⟩ = some (.int .i64 m.kind) ∧ w'.cell? ⟨b, 1, none⟩ = some (.string m.owner) ∧ w'.cell? ⟨b, 2, none⟩ = some (.int .i64 m.number) ∧ w'.cell? ⟨b, 3, none⟩ = some (.int .i64 m.index) ∧ w'.cell? ⟨b, 4, none⟩ = some (.string m.text) ∧ w'.cell? ⟨b, 5, none⟩ = some (.string x) ∧ w'.cell? ⟨b, 6, none⟩ = some (.pointer pl) ∧ w'.cell? ⟨b, 7, none⟩ = some (.pointer pr) ∧ w'.cell? ⟨w.heap.size, 0, none⟩ = some (.int .i64 n.kind) ∧ w'.cell? ⟨w.heap.size, 1, none⟩ = some (.string n.owner) ∧ w'.cell? ⟨w.heap.size, 2, none⟩ = some (.int .i64 n.number) ∧ w'.cell? ⟨w.heap.size, 3, none⟩ = some (.int .i64 n.index) ∧ w'.cell? ⟨w.heap.size, 4, none⟩ = some (.string n.text))
        (first | go_keep | exact K.out _ ((hBw.drew).trans (hb1.mono hBw.drew.size)))
        (first | (go_at_call 83; refine (CM.out _).mono ?_; rintro e w1 ⟨rfl, hb1⟩))
      have hB1 : Below W.heap.size W w1 := (hBw.drew).trans (hb1.mono hBw.drew.size)
      obtain ⟨u0, u1, u2, u3, u4, u5, u6, u7, u8, u9, u10, u11, u12⟩ := K.out _ hB1
      by_cases hc : c < 0
      · go_wp2_with fail
        go_roundw
        case rel => exact ⟨l, pl, rfl, L.out.1, L.out.2.2.1, by rw [HE.out, HD.out, if_pos hc], hB1⟩
        case measure => rw [treeSz_of L.out.1, HSZ.out]; simp only [T.size]; omega
      · by_cases hc' : 0 < c
        · go_wp2_with fail
          go_roundw
          case rel => exact ⟨rt, pr, rfl, L.out.2.1, L.out.2.2.2, by rw [HE.out, HD.out, if_neg (show ¬ c < 0 by omega), if_pos (show 0 < c by omega)], hB1⟩
          case measure => rw [treeSz_of L.out.2.1, HSZ.out]; simp only [T.size]; omega
        · go_wp2_with fail
          go_ret2
          exact ⟨ret_tup2 (by rw [HE.out, HD.out, if_neg (show ¬ c < 0 by omega), if_neg (show ¬ 0 < c by omega)]; rfl) (by rw [HE.out, HD.out, if_neg (show ¬ c < 0 by omega), if_neg (show ¬ 0 < c by omega)]; rfl), hB0.trans (hB1.mono hB0.size)⟩
end Go.Proofs.YtfgecaphhdedcaaGreatDoor
namespace Go.Proofs.YtfgecaphhdedcaaGreatDoor
open Go.RowKit

/-- A slice value that reads as a row of cells of one type. -/
structure RowG (w : World) (t : TypeId) (size : Nat) (A : Option Addr) (n c : Nat) (xs : List Value) : Prop where
  s : Sl w w.heap.size size A n c xs
  z : A = none → c = 0
  ty : ∀ ad, A = some ad → ∃ cs, w.heap[ad.block]? = some (.cells cs t (0, 0))
  one : ∀ u ∈ xs, u.oneCell' = true
section
variable {w w' : World} {t : TypeId} {size n c : Nat} {A : Option Addr} {xs : List Value}
theorem RowG.nil (w : World) (t : TypeId) (size : Nat) : RowG w t size none 0 0 [] := ⟨Sl.nil _ _ _, fun _ => rfl, (fun _ h => by cases h), (fun _ h => by cases h)⟩
theorem RowG.below (h : RowG w t size A n c xs) (hb : Below w.heap.size w w') : RowG w' t size A n c xs :=
  ⟨(h.1.below hb).more hb.size, h.2, fun ad e => by
    obtain ⟨cs, hc⟩ := h.3 ad e
    exact ⟨cs, (hb.block _ (Array.getElem?_eq_some_iff.1 hc).1).trans hc⟩, h.4⟩
/-- A row stays while only blocks of other kinds turn. -/
theorem RowG.keep (h : RowG w t size A n c xs) (hk : ∀ (k : Nat) (cs : Array Value), w.heap[k]? = some (Obj.cells cs t (0, 0)) → w'.heap[k]? = some (Obj.cells cs t (0, 0))) (hs : w.heap.size ≤ w'.heap.size) : RowG w' t size A n c xs := by
  obtain ⟨⟨h1, h2, h3, h4⟩, z, ty, one⟩ := h
  refine ⟨⟨h1, h2, h3, h4.imp_right ?_⟩, z, fun ad e => ?_, one⟩
  · rintro ⟨b, off, rfl, hb, hc⟩
    refine ⟨b, off, rfl, Nat.lt_of_lt_of_le hb hs, fun j u hu => ?_⟩
    obtain ⟨cs, hcs⟩ := ty _ rfl
    rw [← hc j u hu]
    have hcs' : w.heap[b]? = some (Obj.cells cs t (0, 0)) := hcs
    simp only [World.cell?, hcs', hk _ _ hcs']
  · obtain ⟨cs, hcs⟩ := ty ad e
    exact ⟨cs, hk _ _ hcs⟩
theorem RowG.of_own {base : Nat} {v : Value} (h : w.ownsRow base t size v n xs) (one : ∀ u ∈ xs, u.oneCell' = true) : ∃ A c, v = .slice A n c ∧ RowG w t size A n c xs := by
  obtain ⟨A, c, hv, hs⟩ := Sl.of_own h
  refine ⟨A, c, hv, hs, fun e => ?_, fun ad e => ?_, one⟩
  · subst e hv
    rcases h.2 with ⟨h1, _⟩ | ⟨g, cap, cur, h1, _⟩
    · cases h1; rfl
    · cases h1
  · subst e hv
    rcases h.2 with ⟨h1, _⟩ | ⟨g, cap, cur, h1, _, hh, _⟩
    · cases h1
    · cases h1
      exact ⟨cur, hh⟩
theorem addr_add' (b off j : Nat) : (⟨b, off, none⟩ : Addr).add j = ⟨b, off + j, none⟩ := by
  unfold Addr.add; split <;> simp_all
/-- Its cells, as an append wants them. -/
theorem RowG.news (h : RowG w t size A n c xs) (hw : Below w.heap.size w w') : ∀ ad, A = some ad → ∀ j u, xs[j]? = some u → w'.cell? (ad.add j) = some u := by
  intro ad e j u hu
  rcases h.1.2.2.2 with h0 | ⟨b, off, hA, hb, hc⟩
  · have := h.1.1
    rw [h0, Nat.zero_mul] at this
    rw [List.eq_nil_of_length_eq_zero this] at hu
    simp at hu
  · rw [hA] at e
    cases e
    rw [addr_add']
    exact ((bcell hw).1 _ _ hb).trans (hc j u hu)
theorem RowG.none_ (h : RowG w t size A n c xs) : A = none → n = 0 ∧ c = 0 := fun e => by
  refine ⟨?_, h.z e⟩
  rcases h.1.2.2.2 with h0 | ⟨b, off, hA, -⟩
  · exact h0
  · rw [hA] at e; cases e
end

/-- What an action has done to a name: nothing, made it absent, given it a value. -/
abbrev NF := Nm → Option (Option ByteArray)
def chOf (n : Nm) (o : Option ByteArray) : Ch := ⟨n, getS o, !o.isSome⟩
def mpF (f : NF) : Nm → Option Ch := fun n => (f n).map (chOf n)
def setF (f : NF) (n : Nm) (o : Option ByteArray) : NF := fun m => if m = n then some o else f m
theorem mpF_set (f : NF) (n : Nm) (o : Option ByteArray) : upF (mpF f) n (chOf n o) = mpF (setF f n o) := by
  funext m
  unfold upF mpF setF
  by_cases h : m = n
  · subst h; simp
  · simp [h]
/-- The value of a name as the action sees it. -/
def curV (T : T) (f : NF) (n : Nm) : Option ByteArray := if checkN n ≠ 0 then none else match f n with | some o => o | none => T.get n

/-- Whatever is no map and no view stays. -/
def KeepV (w w' : World) : Prop := ∀ (k : Nat) (o : Obj), w.heap[k]? = some o → (∀ es cl, o ≠ .map es cl) → (∀ cs fr, o ≠ .cells cs 85 fr) → w'.heap[k]? = some o
theorem KeepV.below {w w' : World} (h : Below w.heap.size w w') : KeepV w w' := fun k _ hk _ _ => (h.block k (Array.getElem?_eq_some_iff.1 hk).1).trans hk
theorem KeepV.trans {a b c : World} (h : KeepV a b) (k : KeepV b c) : KeepV a c := fun i o h1 h2 h3 => k i o (h i o h1 h2 h3) h2 h3
theorem KeepV.map {w w' : World} {b : Nat} (hb : ∃ es cl, w.heap[b]? = some (.map es cl)) (h : w.grownBy w' (some b)) : KeepV w w' := fun k o hk h1 _ => by
  refine (h.block k (Array.getElem?_eq_some_iff.1 hk).1 ?_).trans hk
  intro e
  cases e
  obtain ⟨es, cl, he⟩ := hb
  rw [he] at hk
  cases hk
  exact h1 _ _ rfl
theorem KeepV.blk {w w' : World} (h : KeepV w w') {g : Nat} {t : TypeId} {cs : Array Value} (hk : Blk w g t cs) (ht : t ≠ 85) : Blk w' g t cs := h g _ hk (fun _ _ e => by cases e) (fun _ _ e => by cases e; exact ht rfl)
theorem KeepV.rowG {w w' : World} (h : KeepV w w') {t : TypeId} {size n c : Nat} {A : Option Addr} {xs : List Value} (hr : RowG w t size A n c xs) (ht : t ≠ 85) (hs : w.heap.size ≤ w'.heap.size) : RowG w' t size A n c xs :=
  hr.keep (fun k cs hk => h k _ hk (fun _ _ e => by cases e) (fun _ _ e => by cases e; exact ht rfl)) hs

structure VwAt (w : World) (lo vb k : Nat) (T : T) (f : NF) (sp : Option Addr) (br bn : Nat) (A : Option Addr) (n c : Nat) (xs : List Value) : Prop where
  bk : Blk w vb 85 #[.pointer sp, .map (some br), .slice A n c, .map (some bn)]
  l1 : lo ≤ vb
  l2 : lo ≤ br
  l3 : lo ≤ bn
  ne : br ≠ bn
  st : ∃ w0 : World, w0.heap.size ≤ lo ∧ IsState w0 sp T ∧ Below w0.heap.size w0 w
  ok : T.Ok
  mr : ∃ rf, IsMp w br k rf
  mn : IsMp w bn k (mpF f)
  ro : RowG w 148 7 A n c xs
  nk : n ≤ k
/-- Block vb is a view of a state that holds T, its blocks from lo on; f: what the action has done; k bounds the calls. -/
def IsView (w : World) (lo vb k : Nat) (T : T) (f : NF) : Prop := ∃ sp br bn A n c xs, VwAt w lo vb k T f sp br bn A n c xs
section
variable {w w' : World} {lo vb k : Nat} {T : T} {f : NF} {sp A : Option Addr} {br bn n c : Nat} {xs : List Value}
theorem VwAt.lt (h : VwAt w lo vb k T f sp br bn A n c xs) : lo ≤ w.heap.size := by have := h.bk.lt; have := h.l1; omega
theorem VwAt.below (h : VwAt w lo vb k T f sp br bn A n c xs) (hb : Below w.heap.size w w') : VwAt w' lo vb k T f sp br bn A n c xs := by
  have hlt := h.lt
  obtain ⟨bk, l1, l2, l3, ne, ⟨w0, h0, h1, h2⟩, ok, ⟨rf, mr⟩, mn, ro, nk⟩ := h
  exact ⟨bk.below hb bk.lt, l1, l2, l3, ne, ⟨w0, h0, h1, h2.trans (hb.mono (by omega))⟩, ok, ⟨rf, mr.below hb mr.lt⟩, mn.below hb mn.lt, ro.below hb, nk⟩
theorem IsView.below (h : IsView w lo vb k T f) (hb : Below w.heap.size w w') : IsView w' lo vb k T f := let ⟨_, _, _, _, _, _, _, h⟩ := h; ⟨_, _, _, _, _, _, _, h.below hb⟩
theorem IsView.lt (h : IsView w lo vb k T f) : lo ≤ w.heap.size := let ⟨_, _, _, _, _, _, _, h⟩ := h; h.lt
theorem VwAt.mono (h : VwAt w lo vb k T f sp br bn A n c xs) {k' : Nat} (hk : k ≤ k') : VwAt w lo vb k' T f sp br bn A n c xs := by
  obtain ⟨bk, l1, l2, l3, ne, st, ok, ⟨rf, mr⟩, mn, ro, nk⟩ := h
  exact ⟨bk, l1, l2, l3, ne, st, ok, ⟨rf, mr.mono hk⟩, mn.mono hk, ro, by omega⟩
theorem IsView.mono (h : IsView w lo vb k T f) {k' : Nat} (hk : k ≤ k') : IsView w lo vb k' T f := let ⟨_, _, _, _, _, _, _, h⟩ := h; ⟨_, _, _, _, _, _, _, h.mono hk⟩
theorem VwAt.state (h : VwAt w lo vb k T f sp br bn A n c xs) : StT w sp T := by
  obtain ⟨w0, -, h1, h2⟩ := h.st
  exact .inr (h1.below h2)
theorem map_ne {g : Nat} {t : TypeId} {cs : Array Value} {b : Nat} (hk : Blk w g t cs) (hb : ∃ es cl, w.heap[b]? = some (.map es cl)) : g ≠ b := by
  rintro rfl
  obtain ⟨es, cl, he⟩ := hb
  unfold Blk at hk
  rw [he] at hk
  cases hk
theorem VwAt.reads (h : VwAt w lo vb k T f sp br bn A n c xs) {rf : Nm → Option Ch} (hm : IsMp w' br (k + 1) rf) (hg : w.grownBy w' (some br)) : VwAt w' lo vb (k + 1) T f sp br bn A n c xs := by
  have hlt := h.lt
  obtain ⟨bk, l1, l2, l3, ne, ⟨w0, h0, h1, h2⟩, ok, ⟨rf, mr⟩, mn, ro, nk⟩ := h
  have kv := KeepV.map mr.obj hg
  exact ⟨bk.grown hg (fun e => map_ne bk mr.obj (by cases e; rfl)), l1, l2, l3, ne, ⟨w0, h0, h1, h2.grown hg (by omega) (fun j e => by cases e; omega)⟩, ok, ⟨_, hm⟩, (mn.kept hg (fun e => ne (by cases e; rfl))).mono (by omega), kv.rowG ro (by decide) hg.size, by omega⟩
end

theorem vnew_any (p : Option Addr) (T : T) (w : World) (h : IsState w p T) (hT : T.Ok) : Calls Tryz.prog 14 #[.pointer p] w fun o w' => ∃ vb, o = .returned (.pointer (some ⟨vb, 0, none⟩)) ∧ IsView w' w.heap.size vb 0 T (fun _ => none) ∧ Below w.heap.size w w' := by
  obtain ⟨s, r, rfl, hk, ht⟩ := h
  have HS := hid (show IsState w (some ⟨s, 0, none⟩) T from ⟨s, r, rfl, hk, ht⟩)
  clear hk ht
  have hmm := @run_makeMap Tryz.prog
  go_enter Tryz.func14, Tryz.ntmps14
  go_wp2
  go_ret
  refine ⟨_, rfl, ⟨some ⟨s, 0, none⟩, w.heap.size, w.heap.size + 1, none, 0, 0, [], ?_⟩, ?_⟩
  · have b1 : Below w.heap.size w (w.alloc (.map #[] 0)) := (Below.refl _ _).alloc (Nat.le_refl _) _
    have b2 : Below w.heap.size w ((w.alloc (.map #[] 0)).alloc (.map #[] 0)) := b1.alloc b1.size _
    have e1 : (w.alloc (.map #[] 0)).heap.size = w.heap.size + 1 := by simp
    have m1 := (IsMp.made w)
    have m2 : IsMp ((w.alloc (.map #[] 0)).alloc (.map #[] 0)) (w.heap.size + 1) 0 (fun _ => none) := IsMp.made_ _ e1.symm
    have b3 : ∀ o, Below (w.alloc (.map #[] 0)).heap.size (w.alloc (.map #[] 0)) (((w.alloc (.map #[] 0)).alloc (.map #[] 0)).alloc o) := fun o => ((Below.refl _ _).alloc (Nat.le_refl _) _).alloc (by simp) _
    have b4 : ∀ o, Below ((w.alloc (.map #[] 0)).alloc (.map #[] 0)).heap.size ((w.alloc (.map #[] 0)).alloc (.map #[] 0)) (((w.alloc (.map #[] 0)).alloc (.map #[] 0)).alloc o) := fun o => (Below.refl _ _).alloc (Nat.le_refl _) _
    exact ⟨Blk.new_ _ _ _ (by simp), by omega, Nat.le_refl _, by omega, by omega, ⟨w, Nat.le_refl _, HS.out, b2.alloc b2.size _⟩, hT, ⟨_, m1.below (b3 _) m1.lt⟩, m2.below (b4 _) m2.lt, RowG.nil _ _ _, Nat.le_refl _⟩
  · have b1 : Below w.heap.size w (w.alloc (.map #[] 0)) := (Below.refl _ _).alloc (Nat.le_refl _) _
    have b2 : Below w.heap.size w ((w.alloc (.map #[] 0)).alloc (.map #[] 0)) := b1.alloc b1.size _
    exact b2.alloc b2.size _
end Go.Proofs.YtfgecaphhdedcaaGreatDoor
namespace Go.Proofs.YtfgecaphhdedcaaGreatDoor
open Go.RowKit

theorem Tryz.info_chg : (Tryz.prog.info? 148).map (fun i => (i.zero, i.size, i.bytes)) = some (some (.agg #[.int .i64 0, .string ⟨#[]⟩, .int .i64 0, .int .i64 0, .string ⟨#[]⟩, .string ⟨#[]⟩, .bool false]), 7, 80) := by kernel_rfl
set_option maxRecDepth 100000 in
set_option maxHeartbeats 3200000 in
theorem vclone_any (A : Option Addr) (n c : Nat) (xs : List Value) (hn : n ≤ 1000000000) (w : World) (h : RowG w 148 7 A n c xs) :
    Calls Tryz.prog 108 #[.slice A n c] w fun o w' => ∃ v, o = .returned v ∧ w'.ownsRow w.heap.size 148 7 v n xs ∧ Below w.heap.size w w' := by
  obtain ⟨i0, hi, hz0, hz1, hz2⟩ := info_parts Tryz.info_chg
  have hnl := fun (w : World) (A : Option Addr) (n c n' c' : Nat) => Lib.run_eql_slice_nil (P := Tryz.prog) w 69 148 A n c n' c' Tryz.underlying69
  cases A with
  | none =>
    obtain ⟨rfl, rfl⟩ := h.none_ rfl
    have hx : xs = [] := List.eq_nil_of_length_eq_zero (by have := h.1.1; simpa using this)
    subst hx
    clear h
    go_enter Tryz.func108, Tryz.ntmps108
    go_wp2_with fail
    go_ret
    exact ⟨_, rfl, World.ownsRow_nil _ _ _ _, Below.refl _ _⟩
  | some ad =>
    have H := hid h
    have hl : xs.length = n * 7 := h.1.1
    have ho := h.one
    clear h
    go_enter Tryz.func108, Tryz.ntmps108
    go_wp2_with (at_builtin; refine wpList_append_gen _ rfl (.tmp 5) (.tmp 6) _ rfl w.heap.size 148 i0 (.agg #[.int .i64 0, .string ⟨#[]⟩, .int .i64 0, .int .i64 0, .string ⟨#[]⟩, .string ⟨#[]⟩, .bool false]) 7 80 Tryz.underlying69 hi hz0 hz1 hz2 rfl (by decide) (.slice (some ⟨w.heap.size, 0, none⟩) 0 0) 0 [] rfl (World.ownsRow_lit (base := w.heap.size) w #[] 0 (Nat.le_refl _) (by unfold maxLen; omega) rfl) (some ad) n c xs rfl hl (fun e => nomatch e) (H.out.news ((Below.refl _ _).alloc (Nat.le_refl _) _)) ho (by unfold maxLen; omega) (by omega) (by simp) ?_; intro v w1 ho1 hg1)
    have hb := Below.grown ((Below.refl w.heap.size w).alloc (Nat.le_refl _) _) hg1 (by simp) (fun j e => by have e2 : w.heap.size = j := (by simpa [Value.ownBlock] using e); omega)
    rw [Nat.zero_add, List.nil_append] at ho1
    go_wp2_with fail
    go_ret
    exact ⟨_, rfl, ho1, hb⟩
end Go.Proofs.YtfgecaphhdedcaaGreatDoor
namespace Go.Proofs.YtfgecaphhdedcaaGreatDoor
open Go.RowKit

set_option maxRecDepth 100000 in
set_option maxHeartbeats 3200000 in
theorem vget_any (lo vb k : Nat) (T : T) (f : NF) (n : Nm) (hn : n.Ok) (hk : k < maxLen) (w : World) (h : IsView w lo vb k T f) :
    Calls Tryz.prog 77 #[.pointer (some ⟨vb, 0, none⟩), nmV n] w fun o w' => o = .returned (.tuple #[.string (getS (curV T f n)), .bool (curV T f n).isSome]) ∧ IsView w' lo vb (k + 1) T f ∧ Below lo w w' ∧ KeepV w w' := by
  have HC := hid (fun w' => checkN_any n hn w')
  have CV := hid (show curV T f n = if checkN n ≠ 0 then none else match f n with | some o => o | none => T.get n from rfl)
  have HNU := hid (fun h => Nm.num (n := n) hn h)
  have NV := hid (show nmV n = .agg #[.int .i64 n.kind, .string n.owner, .int .i64 n.number, .int .i64 n.index, .string n.text] from rfl)
  unfold nmV at HC
  unfold nmV
  obtain ⟨sp, br, bn, A, cl, cc, xs, hv⟩ := h
  have hlo := hv.lt
  have GT := hid (fun w' hb => get_any sp T n hn hv.ok w' (hv.below (w' := w') hb).state)
  unfold nmV at GT
  generalize hce : checkN n = ce at *
  go_enter Tryz.func77, Tryz.ntmps77
  go_upto_region 1 with fail
  generalize hW : w.alloc (.cells #[.int .i64 n.kind, .string n.owner, .int .i64 n.number, .int .i64 n.index, .string n.text] 66) = W
  have b0 : Blk W w.heap.size 66 #[.int .i64 n.kind, .string n.owner, .int .i64 n.number, .int .i64 n.index, .string n.text] := by rw [← hW]; exact Blk.new _ _ _
  have hB0 : Below w.heap.size w W := by rw [← hW]; exact (Below.refl _ _).alloc (Nat.le_refl _) _
  have lW : w.heap.size < W.heap.size := b0.lt
  clear hW
  have KK : ∀ w', Below W.heap.size W w' → w'.cell? ⟨w.heap.size, 0, none⟩ = some (.int .i64 n.kind) ∧ w'.cell? ⟨w.heap.size, 1, none⟩ = some (.string n.owner) ∧ w'.cell? ⟨w.heap.size, 2, none⟩ = some (.int .i64 n.number) ∧ w'.cell? ⟨w.heap.size, 3, none⟩ = some (.int .i64 n.index) ∧ w'.cell? ⟨w.heap.size, 4, none⟩ = some (.string n.text) := by
    intro w' hb'
    have cc := b0.below hb' lW
    exact ⟨cc.cell 0, cc.cell 1, cc.cell 2, cc.cell 3, cc.cell 4⟩
  have K := hid KK
  obtain ⟨q0, q1, q2, q3, q4⟩ := KK W (Below.refl _ _)
  clear KK b0
  by_cases hc0 : ce = 0
  · subst hc0
    have hnum := HNU.out rfl
    have cv := CV.out
    rw [if_neg (by simp)] at cv
    have CV2 := hid cv
    clear cv CV HNU hce
    go_upto_region 3 with (go_at_call 56; refine (HC.out _).mono ?_; rintro e w2 ⟨rfl, hb2⟩)
    have hB2 : Below w.heap.size w w2 := hB0.trans (hb2.mono hB0.size)
    have hv2 := hv.below hB2
    have hB3 : Below w2.heap.size w2 (w2.alloc (.cells #[.int .i64 0, .string ⟨#[]⟩, .int .i64 0, .int .i64 0, .string ⟨#[]⟩, .string ⟨#[]⟩, .bool false] 148)).drew := ((Below.refl _ _).alloc (Nat.le_refl _) _).drew
    have hv3 := hv2.below hB3
    have c3 : (w2.alloc (.cells #[.int .i64 0, .string ⟨#[]⟩, .int .i64 0, .int .i64 0, .string ⟨#[]⟩, .string ⟨#[]⟩, .bool false] 148)).drew.cell? ⟨vb, 3, none⟩ = some (.map (some bn)) := hv3.bk.cell 3
    obtain ⟨r0, r1, r2, r3, r4⟩ := K.out _ (hb2.trans (hB3.mono hb2.size))
    have LK0 := hv3.mn.look hnum
    have c3' : w2.cell? ⟨vb, 3, none⟩ = some (.map (some bn)) := hv2.bk.cell 3
    obtain ⟨s0, s1, s2, s3, s4⟩ := K.out _ hb2
    have LK1 := (hv2.below (Below.refl _ _).drew).mn.look hnum
    unfold mpF nmV at LK0 LK1
    cases hf : f n with
    | some o =>
      have cv := CV2.out
      rw [hf] at cv LK0 LK1
      have CV3 := hid (show curV T f n = o from cv)
      have HV := hid hv2
      have HBB := hid hB2
      unfold foundV chV chOf at LK0 LK1
      dsimp only [Option.map_some] at LK0 LK1
      clear cv CV2 hv2 hv hB2 hv3 hB3 hb2
      have HFIN := hid (show ∀ (w3 : World), Below w2.heap.size w2 w3 → IsView w3 lo vb (k + 1) T f ∧ Below lo w w3 ∧ KeepV w w3 from fun w3 h3 => ⟨⟨_, _, _, _, _, _, _, (HV.out.below h3).mono (Nat.le_succ _)⟩, (HBB.out.mono hlo).trans (h3.mono (Nat.le_trans hlo HBB.out.size)), KeepV.below (HBB.out.trans (h3.mono HBB.out.size))⟩)
      go_region
      all_goals
        go_upto_region 5 with fail
        go_quiet (fail)
        go_wp2_with fail
        go_ret2
        exact ⟨by rw [CV3.out]; rfl, HFIN.out _ (dN ((Below.refl _ _).alloc (Nat.le_refl _) _).drew _)⟩
    | none =>
      have cv := CV2.out
      rw [hf] at cv LK0 LK1
      have CV3 := hid (show curV T f n = T.get n from cv)
      have HV := hid hv2
      have HBB := hid hB2
      unfold foundV at LK0 LK1
      dsimp only [Option.map_none] at LK0 LK1
      have HV3 := hid hv3
      have HB3 := hid hB3
      have HH2 := hid hb2
      clear cv CV2 hv2 hv hB2 hv3 hB3 hb2
      go_region
      all_goals
        generalize (w2.alloc (.cells #[.int .i64 0, .string ⟨#[]⟩, .int .i64 0, .int .i64 0, .string ⟨#[]⟩, .string ⟨#[]⟩, .bool false] 148)).drew = W3 at *
        go_upto_region 6 with fail
        have g0 : W3.cell? ⟨vb, 0, none⟩ = some (.pointer sp) := HV3.out.bk.cell 0
        clear r0 r1 r2 r3 r4 s0 s1 s2 s3 s4
        obtain ⟨r0, r1, r2, r3, r4⟩ := K.out _ (HH2.out.trans (HB3.out.mono HH2.out.size))
        have GT1 := hid (GT.out W3.drew ((HBB.out.trans (HB3.out.mono HBB.out.size)).drew))
        have CV4 := CV3.out
        generalize T.get n = tv at *
        go_region_with (go_at_call 55; refine GT1.out.mono ?_; rintro e w5 ⟨rfl, hb5⟩)
        all_goals
          have HB5 := hid (((Below.refl W3.heap.size W3).drew).trans hb5)
          have HV5 := hid (HV3.out.below HB5.out)
          have HW5 := hid (HH2.out.trans ((HB3.out.mono HH2.out.size).trans (HB5.out.mono (Nat.le_trans HH2.out.size HB3.out.size))))
          have HX5 := hid (HBB.out.trans ((HB3.out.mono HBB.out.size).trans (HB5.out.mono (Nat.le_trans HBB.out.size HB3.out.size))))
          go_upto_region 7 with fail
          have g1 : w5.cell? ⟨vb, 1, none⟩ = some (.map (some br)) := HV5.out.bk.cell 1
          clear r0 r1 r2 r3 r4
          obtain ⟨r0, r1, r2, r3, r4⟩ := K.out _ HW5.out
          obtain ⟨rf, hmr⟩ := (HV5.out.below (Below.refl _ _).drew).mr
          obtain ⟨w6, hr6, hm6, hg6⟩ := hmr.store hk hnum (chOf n tv)
          rw [show chV (chOf n tv) = .agg #[.int .i64 n.kind, .string n.owner, .int .i64 n.number, .int .i64 n.index, .string n.text, .string (getS tv), .bool tv.isNone] from by cases tv <;> rfl, show nmV n = .agg #[.int .i64 n.kind, .string n.owner, .int .i64 n.number, .int .i64 n.index, .string n.text] from rfl] at hr6
          have HM6 := hid hm6
          have HG6 := hid hg6
          clear hmr hm6 hg6
          have HV6 := hid ((HV5.out.below (Below.refl _ _).drew).reads HM6.out HG6.out)
          have HB6 := hid (((HX5.out.drew).mono hlo).grown HG6.out (Nat.le_trans hlo HX5.out.size) (fun j e => by cases e; exact HV5.out.l2))
          have HK6 := hid ((KeepV.below HX5.out.drew).trans (KeepV.map ((HV5.out.below (Below.refl _ _).drew).mr.elim fun _ h => h.obj) HG6.out))
          clear hB0 lW q0 q1 q2 q3 q4 K HC
          go_region
          all_goals
            go_wp2_with fail
            go_ret2
            exact ⟨by rw [CV4]; rfl, ⟨_, _, _, _, _, _, _, HV6.out⟩, HB6.out, HK6.out⟩
  · have cv := CV.out
    rw [if_pos hc0] at cv
    have CV2 := hid cv
    have hcb : decide (ce = 0) = false := by simp [hc0]
    clear cv CV HNU hce
    go_wp2_with (go_at_call 56; refine (HC.out _).mono ?_; rintro e w2 ⟨rfl, hb2⟩)
    have hB2 : Below w.heap.size w w2 := hB0.trans (hb2.mono hB0.size)
    go_ret2
    exact ⟨by rw [CV2.out]; rfl, ⟨_, _, _, _, _, _, _, (hv.below hB2).mono (Nat.le_succ _)⟩, hB2.mono hlo, KeepV.below hB2⟩
end Go.Proofs.YtfgecaphhdedcaaGreatDoor
