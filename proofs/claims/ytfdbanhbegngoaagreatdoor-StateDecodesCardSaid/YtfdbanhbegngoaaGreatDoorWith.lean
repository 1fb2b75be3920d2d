/-
  LAYER 5, WALKED: with, first, without. (Written by the program gen_with.py.)
-/
import Derived.Test.YtfdbanhbegngoaaGreatDoorBal
namespace Go.Proofs.YtfdbanhbegngoaaGreatDoor
open Go.RowKit

theorem bal_any (pl pr : Option Addr) (l r : T) (n : Nm) (v : ByteArray) (w : World) (hl : IsTree w pl l) (hr : IsTree w pr r) (hf : (T.node l n v r).Fits) :
    Calls Tryz.prog 53 #[.pointer pl, nmV n, .string v, .pointer pr] w fun e w' => ∃ p, e = .returned (.pointer p) ∧ IsTree w' p (T.bal l n v r) ∧ Below w.heap.size w w' := by
  unfold T.bal
  split
  · next h1 =>
    split
    · next ll ln lv lr =>
      split
      · next h2 => exact balA1 pl pr _ ll lr r n ln v lv w hl hr rfl hf h1 h2
      · next h2 =>
        split
        · next a mn mv b => exact balA2 pl pr _ ll _ r a b n ln mn v lv mv w hl hr rfl rfl hf h1 h2
        · next => exact absurd (Nat.zero_le _) h2
    · next => exact absurd h1 (by simp [T.h])
  · next h1 =>
    split
    · next h3 =>
      split
      · next ll ln lv lr =>
        split
        · next h2 => exact balB1 pl pr l ll lr _ n ln v lv w hl hr rfl hf h3 h2
        · next h2 =>
          split
          · next a mn mv b => exact balB2 pl pr l _ lr _ a b n ln mn v lv mv w hl hr rfl rfl hf h3 h2
          · next => exact absurd (Nat.zero_le _) h2
      · next => exact absurd h3 (by simp [T.h])
    · next h3 => exact balC pl pr l r n v w hl hr hf h1 h3

namespace T
theorem bal_size (l : T) (n : Nm) (v : ByteArray) (r : T) : (bal l n v r).size = 1 + l.size + r.size := by
  rw [size_eq, bal_list, size_eq l, size_eq r]; simp; omega
theorem bal_bytes (l : T) (n : Nm) (v : ByteArray) (r : T) : (bal l n v r).bytes = v.size + l.bytes + r.bytes := by
  rw [bytes_eq, bal_list, bytes_eq l, bytes_eq r]; simp [sumB]; omega
theorem bal_ok {l : T} {n : Nm} {v : ByteArray} {r : T} (h1 : l.Ok) (h2 : n.Ok) (h3 : v.size ≤ maxLen) (h4 : r.Ok) : (bal l n v r).Ok := by
  rw [ok_iff, bal_list, ← show (node l n v r).toList = l.toList ++ (n, v) :: r.toList from rfl, ← ok_iff]; exact ⟨h1, h2, h3, h4⟩
theorem with_size (t : T) (n : Nm) (v : ByteArray) : (t.with_ n v).size ≤ t.size + 1 ∧ (t.with_ n v).bytes ≤ t.bytes + v.size := by
  induction t with
  | nil => simp [with_, size, bytes]
  | node l m x r ihl ihr =>
    unfold with_
    split
    · rw [bal_size, bal_bytes]; simp only [size, bytes]; omega
    · split
      · rw [bal_size, bal_bytes]; simp only [size, bytes]; omega
      · simp only [size, bytes]; omega
theorem with_ok (t : T) (n : Nm) (v : ByteArray) (hn : n.Ok) (hv : v.size ≤ maxLen) (h : t.Ok) : (t.with_ n v).Ok := by
  induction t with
  | nil => exact ⟨trivial, hn, hv, trivial⟩
  | node l m x r ihl ihr =>
    obtain ⟨h1, h2, h3, h4⟩ := h
    unfold with_
    split
    · exact bal_ok (ihl h1) h2 h3 h4
    · split
      · exact bal_ok h1 h2 h3 (ihr h4)
      · exact ⟨h1, hn, hv, h4⟩
theorem first_list (l : T) (n : Nm) (v : ByteArray) (r : T) : (first l n v r).2 :: (first l n v r).1.toList = l.toList ++ (n, v) :: r.toList := by
  induction l generalizing n v r with
  | nil => rfl
  | node l' n' v' r' ih _ =>
    unfold first
    simp only [bal_list, toList]
    rw [← List.cons_append, ih n' v' r']
theorem first_size (l : T) (n : Nm) (v : ByteArray) (r : T) : (first l n v r).1.size + 1 = 1 + l.size + r.size ∧ (first l n v r).1.bytes + (first l n v r).2.2.size = v.size + l.bytes + r.bytes := by
  have h := first_list l n v r
  have a := congrArg List.length h
  have b := congrArg sumB h
  rw [size_eq, size_eq l, size_eq r, bytes_eq, bytes_eq l, bytes_eq r]
  simp [sumB] at a b ⊢
  omega
theorem first_ok {l : T} {n : Nm} {v : ByteArray} {r : T} (h : (node l n v r).Ok) : (first l n v r).1.Ok ∧ (first l n v r).2.1.Ok ∧ (first l n v r).2.2.size ≤ maxLen := by
  rw [ok_iff, show (node l n v r).toList = l.toList ++ (n, v) :: r.toList from rfl, ← first_list] at h
  refine ⟨(ok_iff _).2 fun x hx => h x (.tail _ hx), h _ (.head _)⟩
theorem without_size (t : T) (n : Nm) : (t.without n).size ≤ t.size ∧ (t.without n).bytes ≤ t.bytes := by
  induction t with
  | nil => simp [without]
  | node l m x r ihl ihr =>
    unfold without
    split
    · rw [bal_size, bal_bytes]; simp only [size, bytes]; omega
    · split
      · rw [bal_size, bal_bytes]; simp only [size, bytes]; omega
      · split
        · simp only [size, bytes]; omega
        · next rl rn rv rr => 
          have := first_size rl rn rv rr
          rw [bal_size, bal_bytes]; simp only [size, bytes]; omega
end T

theorem IsTree.blk {w : World} {p : Option Addr} {l r : T} {n : Nm} {v : ByteArray} (h : IsTree w p (.node l n v r)) : ∃ (b : Nat) (pl pr : Option Addr), p = some ⟨b, 0, none⟩ ∧ (∃ x y z, Blk w b 82 (nodeCells n v pl pr x y z)) ∧ IsTree w pl l ∧ IsTree w pr r := by
  obtain ⟨b, pl, pr, h1, h2, h3, h4⟩ := h
  exact ⟨b, pl, pr, h1, ⟨_, _, _, h2⟩, h3, h4⟩

set_option maxRecDepth 100000 in
set_option maxHeartbeats 3200000 in
theorem with_nil (n : Nm) (v : ByteArray) (w : World) (hf : (T.node .nil n v .nil).Fits) :
    Calls Tryz.prog 21 #[.pointer none, nmV n, .string v] w fun e w' => ∃ p, e = .returned (.pointer p) ∧ IsTree w' p (.node .nil n v .nil) ∧ Below w.heap.size w w' := by
  unfold nmV
  go_enter Tryz.func21, Tryz.ntmps21
  go_upto_region 1 with fail
  generalize hW : w.alloc (.cells #[.int .i64 n.kind, .string n.owner, .int .i64 n.number, .int .i64 n.index, .string n.text] 38) = W
  have b0 : Blk W w.heap.size 38 #[.int .i64 n.kind, .string n.owner, .int .i64 n.number, .int .i64 n.index, .string n.text] := by rw [← hW]; exact Blk.new _ _ _
  have hB0 : Below w.heap.size w W := by rw [← hW]; exact (Below.refl _ _).alloc (Nat.le_refl _) _
  have lW : w.heap.size < W.heap.size := b0.lt
  clear hW
  have c0 : W.cell? ⟨w.heap.size, 0, none⟩ = some (.int .i64 n.kind) := b0.cell 0
  have c1 : W.cell? ⟨w.heap.size, 1, none⟩ = some (.string n.owner) := b0.cell 1
  have c2 : W.cell? ⟨w.heap.size, 2, none⟩ = some (.int .i64 n.number) := b0.cell 2
  have c3 : W.cell? ⟨w.heap.size, 3, none⟩ = some (.int .i64 n.index) := b0.cell 3
  have c4 : W.cell? ⟨w.heap.size, 4, none⟩ = some (.string n.text) := b0.cell 4
  have J := hid (fun w' (hb : Below w.heap.size w w') => join_any none none .nil .nil n v w' rfl rfl hf)
  go_wp2_with (go_at_call 52; refine (J.out _ hB0).mono ?_; rintro e w1 ⟨p, rfl, ht, hb1⟩)
  go_ret
  exact ⟨p, rfl, ht, hB0.trans (hb1.mono hB0.size)⟩

set_option maxRecDepth 100000 in
set_option maxHeartbeats 3200000 in
theorem with_lt (b x' y' z' : Nat) (pl pr : Option Addr) (l r : T) (n m : Nm) (v x : ByteArray) (w : World) (hn : n.Ok) (hm : m.Ok) (k : Blk w b 82 (nodeCells m x pl pr x' y' z')) (_hl : IsTree w pl l) (hr : IsTree w pr r) (hc : cmpN n m < 0) (hf : (T.node (l.with_ n v) m x r).Fits) (IH : ∀ w', Below w.heap.size w w' → Calls Tryz.prog 21 #[.pointer pl, nmV n, .string v] w' fun e w2 => ∃ p, e = .returned (.pointer p) ∧ IsTree w2 p (l.with_ n v) ∧ Below w'.heap.size w' w2) :
    Calls Tryz.prog 21 #[.pointer (some ⟨b, 0, none⟩), nmV n, .string v] w fun e w' => ∃ p, e = .returned (.pointer p) ∧ IsTree w' p (T.bal (l.with_ n v) m x r) ∧ Below w.heap.size w w' := by
  unfold nmV
  go_enter Tryz.func21, Tryz.ntmps21
  go_upto_region 1 with fail
  generalize hW : w.alloc (.cells #[.int .i64 n.kind, .string n.owner, .int .i64 n.number, .int .i64 n.index, .string n.text] 38) = W
  have b0 : Blk W w.heap.size 38 #[.int .i64 n.kind, .string n.owner, .int .i64 n.number, .int .i64 n.index, .string n.text] := by rw [← hW]; exact Blk.new _ _ _
  have hB0 : Below w.heap.size w W := by rw [← hW]; exact (Below.refl _ _).alloc (Nat.le_refl _) _
  have lW : w.heap.size < W.heap.size := b0.lt
  clear hW
  have k0 := k.below hB0 k.lt
  have bl : b < W.heap.size := k0.lt
  have KK : ∀ w', Below W.heap.size W w' → w'.cell? ⟨b, 0, none⟩ = some (.int .i64 m.kind) ∧ w'.cell? ⟨b, 1, none⟩ = some (.string m.owner) ∧ w'.cell? ⟨b, 2, none⟩ = some (.int .i64 m.number) ∧ w'.cell? ⟨b, 3, none⟩ = some (.int .i64 m.index) ∧ w'.cell? ⟨b, 4, none⟩ = some (.string m.text) ∧ w'.cell? ⟨b, 5, none⟩ = some (.string x) ∧ w'.cell? ⟨b, 6, none⟩ = some (.pointer pl) ∧ w'.cell? ⟨b, 7, none⟩ = some (.pointer pr) ∧ w'.cell? ⟨w.heap.size, 0, none⟩ = some (.int .i64 n.kind) ∧ w'.cell? ⟨w.heap.size, 1, none⟩ = some (.string n.owner) ∧ w'.cell? ⟨w.heap.size, 2, none⟩ = some (.int .i64 n.number) ∧ w'.cell? ⟨w.heap.size, 3, none⟩ = some (.int .i64 n.index) ∧ w'.cell? ⟨w.heap.size, 4, none⟩ = some (.string n.text) := by
    intro w' hb
    have k1 := k0.below hb k0.lt
    have b1 := b0.below hb b0.lt
    exact ⟨k1.cell 0, k1.cell 1, k1.cell 2, k1.cell 3, k1.cell 4, k1.cell 5, k1.cell 6, k1.cell 7, b1.cell 0, b1.cell 1, b1.cell 2, b1.cell 3, b1.cell 4⟩
  have d0 : W.cell? ⟨b, 0, none⟩ = some (.int .i64 m.kind) := k0.cell 0
  have d1 : W.cell? ⟨b, 1, none⟩ = some (.string m.owner) := k0.cell 1
  have d2 : W.cell? ⟨b, 2, none⟩ = some (.int .i64 m.number) := k0.cell 2
  have d3 : W.cell? ⟨b, 3, none⟩ = some (.int .i64 m.index) := k0.cell 3
  have d4 : W.cell? ⟨b, 4, none⟩ = some (.string m.text) := k0.cell 4
  have d5 : W.cell? ⟨b, 5, none⟩ = some (.string x) := k0.cell 5
  have d6 : W.cell? ⟨b, 6, none⟩ = some (.pointer pl) := k0.cell 6
  have d7 : W.cell? ⟨b, 7, none⟩ = some (.pointer pr) := k0.cell 7
  have c0 : W.cell? ⟨w.heap.size, 0, none⟩ = some (.int .i64 n.kind) := b0.cell 0
  have c1 : W.cell? ⟨w.heap.size, 1, none⟩ = some (.string n.owner) := b0.cell 1
  have c2 : W.cell? ⟨w.heap.size, 2, none⟩ = some (.int .i64 n.number) := b0.cell 2
  have c3 : W.cell? ⟨w.heap.size, 3, none⟩ = some (.int .i64 n.index) := b0.cell 3
  have c4 : W.cell? ⟨w.heap.size, 4, none⟩ = some (.string n.text) := b0.cell 4
  have CM := hid (fun w' => cmpN_any n m hn hm w')
  unfold nmV at CM
  have K := hid KK
  have I1 := hid IH
  unfold nmV at I1
  have J1 := hid (fun pj w' (hb : Below w.heap.size w w') (hj : IsTree w' pj (l.with_ n v)) => bal_any pj pr (l.with_ n v) r m x w' hj (hr.below hb) hf)
  unfold nmV at J1
  clear IH hf
  clear KK k k0 b0 _hl hr hn hm
  generalize cmpN n m = c at *
  go_wp2_with fail
  go_region_held3 (fun w' => w'.cell? ⟨b, 0, none⟩ = some (.int .i64 m.kind) ∧ w'.cell? ⟨b, 1, none⟩ = some (.string m.owner) ∧ w'.cell? ⟨b, 2, none⟩ = some (.int .i64 m.number) ∧ w'.cell? ⟨b, 3, none⟩ = some (.int .i64 m.index) ∧ w'.cell? ⟨b, 4, none⟩ = some (.string m.text) ∧ w'.cell? ⟨b, 5, none⟩ = some (.string x) ∧ w'.cell? ⟨b, 6, none⟩ = some (.pointer pl) ∧ w'.cell? ⟨b, 7, none⟩ = some (.pointer pr) ∧ w'.cell? ⟨w.heap.size, 0, none⟩ = some (.int .i64 n.kind) ∧ w'.cell? ⟨w.heap.size, 1, none⟩ = some (.string n.owner) ∧ w'.cell? ⟨w.heap.size, 2, none⟩ = some (.int .i64 n.number) ∧ w'.cell? ⟨w.heap.size, 3, none⟩ = some (.int .i64 n.index) ∧ w'.cell? ⟨w.heap.size, 4, none⟩ = some (.string n.text))
    (first | go_keep | exact K.out _ (((Below.refl W.heap.size W).drew).trans hb1))
    (first | (go_at_call 20; refine (CM.out _).mono ?_; rintro e w1 ⟨rfl, hb1⟩))
  have hB1 : Below w.heap.size w w1 := hB0.drew.trans (hb1.mono hB0.drew.size)
  have K1 : w1.cell? ⟨b, 0, none⟩ = some (.int .i64 m.kind) ∧ w1.cell? ⟨b, 1, none⟩ = some (.string m.owner) ∧ w1.cell? ⟨b, 2, none⟩ = some (.int .i64 m.number) ∧ w1.cell? ⟨b, 3, none⟩ = some (.int .i64 m.index) ∧ w1.cell? ⟨b, 4, none⟩ = some (.string m.text) ∧ w1.cell? ⟨b, 5, none⟩ = some (.string x) ∧ w1.cell? ⟨b, 6, none⟩ = some (.pointer pl) ∧ w1.cell? ⟨b, 7, none⟩ = some (.pointer pr) ∧ w1.cell? ⟨w.heap.size, 0, none⟩ = some (.int .i64 n.kind) ∧ w1.cell? ⟨w.heap.size, 1, none⟩ = some (.string n.owner) ∧ w1.cell? ⟨w.heap.size, 2, none⟩ = some (.int .i64 n.number) ∧ w1.cell? ⟨w.heap.size, 3, none⟩ = some (.int .i64 n.index) ∧ w1.cell? ⟨w.heap.size, 4, none⟩ = some (.string n.text) := K.out _ (((Below.refl W.heap.size W).drew).trans hb1)
  go_wp2_with fail
  obtain ⟨q0, q1, q2, q3, q4, q5, q6, q7, q8, q9, q10, q11, q12⟩ := K1
  go_region_held3 (fun w' => w'.cell? ⟨b, 0, none⟩ = some (.int .i64 m.kind) ∧ w'.cell? ⟨b, 1, none⟩ = some (.string m.owner) ∧ w'.cell? ⟨b, 2, none⟩ = some (.int .i64 m.number) ∧ w'.cell? ⟨b, 3, none⟩ = some (.int .i64 m.index) ∧ w'.cell? ⟨b, 4, none⟩ = some (.string m.text) ∧ w'.cell? ⟨b, 5, none⟩ = some (.string x) ∧ w'.cell? ⟨b, 6, none⟩ = some (.pointer pl) ∧ w'.cell? ⟨b, 7, none⟩ = some (.pointer pr) ∧ w'.cell? ⟨w.heap.size, 0, none⟩ = some (.int .i64 n.kind) ∧ w'.cell? ⟨w.heap.size, 1, none⟩ = some (.string n.owner) ∧ w'.cell? ⟨w.heap.size, 2, none⟩ = some (.int .i64 n.number) ∧ w'.cell? ⟨w.heap.size, 3, none⟩ = some (.int .i64 n.index) ∧ w'.cell? ⟨w.heap.size, 4, none⟩ = some (.string n.text))
    (first | go_keep | exact K.out _ (((((Below.refl W.heap.size W).drew).trans hb1).drew).trans (hb2.mono (by simpa using hb1.size))) | exact K.out _ (((((Below.refl W.heap.size W).drew).trans hb1).drew).trans ((hb2.trans (hb3.mono hb2.size)).mono (by simpa using hb1.size))))
    (first
      | (go_at_call 21; refine (I1.out _ hB1.drew).mono ?_; rintro e w2 ⟨pj, rfl, hj, hb2⟩; have hBj := hB1.drew.trans (hb2.mono hB1.drew.size))
      | (go_at_call 53; refine (J1.out pj _ hBj hj).mono ?_; rintro e w3 ⟨pk, rfl, hk, hb3⟩))
  go_wp2_with fail
  go_ret
  exact ⟨pk, rfl, hk, hBj.trans (hb3.mono hBj.size)⟩

set_option maxRecDepth 100000 in
set_option maxHeartbeats 3200000 in
theorem with_gt (b x' y' z' : Nat) (pl pr : Option Addr) (l r : T) (n m : Nm) (v x : ByteArray) (w : World) (hn : n.Ok) (hm : m.Ok) (k : Blk w b 82 (nodeCells m x pl pr x' y' z')) (hl : IsTree w pl l) (_hr : IsTree w pr r) (hc : 0 < cmpN n m) (hf : (T.node l m x (r.with_ n v)).Fits) (IH : ∀ w', Below w.heap.size w w' → Calls Tryz.prog 21 #[.pointer pr, nmV n, .string v] w' fun e w2 => ∃ p, e = .returned (.pointer p) ∧ IsTree w2 p (r.with_ n v) ∧ Below w'.heap.size w' w2) :
    Calls Tryz.prog 21 #[.pointer (some ⟨b, 0, none⟩), nmV n, .string v] w fun e w' => ∃ p, e = .returned (.pointer p) ∧ IsTree w' p (T.bal l m x (r.with_ n v)) ∧ Below w.heap.size w w' := by
  unfold nmV
  go_enter Tryz.func21, Tryz.ntmps21
  go_upto_region 1 with fail
  generalize hW : w.alloc (.cells #[.int .i64 n.kind, .string n.owner, .int .i64 n.number, .int .i64 n.index, .string n.text] 38) = W
  have b0 : Blk W w.heap.size 38 #[.int .i64 n.kind, .string n.owner, .int .i64 n.number, .int .i64 n.index, .string n.text] := by rw [← hW]; exact Blk.new _ _ _
  have hB0 : Below w.heap.size w W := by rw [← hW]; exact (Below.refl _ _).alloc (Nat.le_refl _) _
  have lW : w.heap.size < W.heap.size := b0.lt
  clear hW
  have k0 := k.below hB0 k.lt
  have bl : b < W.heap.size := k0.lt
  have KK : ∀ w', Below W.heap.size W w' → w'.cell? ⟨b, 0, none⟩ = some (.int .i64 m.kind) ∧ w'.cell? ⟨b, 1, none⟩ = some (.string m.owner) ∧ w'.cell? ⟨b, 2, none⟩ = some (.int .i64 m.number) ∧ w'.cell? ⟨b, 3, none⟩ = some (.int .i64 m.index) ∧ w'.cell? ⟨b, 4, none⟩ = some (.string m.text) ∧ w'.cell? ⟨b, 5, none⟩ = some (.string x) ∧ w'.cell? ⟨b, 6, none⟩ = some (.pointer pl) ∧ w'.cell? ⟨b, 7, none⟩ = some (.pointer pr) ∧ w'.cell? ⟨w.heap.size, 0, none⟩ = some (.int .i64 n.kind) ∧ w'.cell? ⟨w.heap.size, 1, none⟩ = some (.string n.owner) ∧ w'.cell? ⟨w.heap.size, 2, none⟩ = some (.int .i64 n.number) ∧ w'.cell? ⟨w.heap.size, 3, none⟩ = some (.int .i64 n.index) ∧ w'.cell? ⟨w.heap.size, 4, none⟩ = some (.string n.text) := by
    intro w' hb
    have k1 := k0.below hb k0.lt
    have b1 := b0.below hb b0.lt
    exact ⟨k1.cell 0, k1.cell 1, k1.cell 2, k1.cell 3, k1.cell 4, k1.cell 5, k1.cell 6, k1.cell 7, b1.cell 0, b1.cell 1, b1.cell 2, b1.cell 3, b1.cell 4⟩
  have d0 : W.cell? ⟨b, 0, none⟩ = some (.int .i64 m.kind) := k0.cell 0
  have d1 : W.cell? ⟨b, 1, none⟩ = some (.string m.owner) := k0.cell 1
  have d2 : W.cell? ⟨b, 2, none⟩ = some (.int .i64 m.number) := k0.cell 2
  have d3 : W.cell? ⟨b, 3, none⟩ = some (.int .i64 m.index) := k0.cell 3
  have d4 : W.cell? ⟨b, 4, none⟩ = some (.string m.text) := k0.cell 4
  have d5 : W.cell? ⟨b, 5, none⟩ = some (.string x) := k0.cell 5
  have d6 : W.cell? ⟨b, 6, none⟩ = some (.pointer pl) := k0.cell 6
  have d7 : W.cell? ⟨b, 7, none⟩ = some (.pointer pr) := k0.cell 7
  have c0 : W.cell? ⟨w.heap.size, 0, none⟩ = some (.int .i64 n.kind) := b0.cell 0
  have c1 : W.cell? ⟨w.heap.size, 1, none⟩ = some (.string n.owner) := b0.cell 1
  have c2 : W.cell? ⟨w.heap.size, 2, none⟩ = some (.int .i64 n.number) := b0.cell 2
  have c3 : W.cell? ⟨w.heap.size, 3, none⟩ = some (.int .i64 n.index) := b0.cell 3
  have c4 : W.cell? ⟨w.heap.size, 4, none⟩ = some (.string n.text) := b0.cell 4
  have CM := hid (fun w' => cmpN_any n m hn hm w')
  unfold nmV at CM
  have K := hid KK
  have I1 := hid IH
  unfold nmV at I1
  have J1 := hid (fun pj w' (hb : Below w.heap.size w w') (hj : IsTree w' pj (r.with_ n v)) => bal_any pl pj l (r.with_ n v) m x w' (hl.below hb) hj hf)
  unfold nmV at J1
  clear IH hf
  clear KK k k0 b0 hl _hr hn hm
  generalize cmpN n m = c at *
  go_wp2_with fail
  go_region_held3 (fun w' => w'.cell? ⟨b, 0, none⟩ = some (.int .i64 m.kind) ∧ w'.cell? ⟨b, 1, none⟩ = some (.string m.owner) ∧ w'.cell? ⟨b, 2, none⟩ = some (.int .i64 m.number) ∧ w'.cell? ⟨b, 3, none⟩ = some (.int .i64 m.index) ∧ w'.cell? ⟨b, 4, none⟩ = some (.string m.text) ∧ w'.cell? ⟨b, 5, none⟩ = some (.string x) ∧ w'.cell? ⟨b, 6, none⟩ = some (.pointer pl) ∧ w'.cell? ⟨b, 7, none⟩ = some (.pointer pr) ∧ w'.cell? ⟨w.heap.size, 0, none⟩ = some (.int .i64 n.kind) ∧ w'.cell? ⟨w.heap.size, 1, none⟩ = some (.string n.owner) ∧ w'.cell? ⟨w.heap.size, 2, none⟩ = some (.int .i64 n.number) ∧ w'.cell? ⟨w.heap.size, 3, none⟩ = some (.int .i64 n.index) ∧ w'.cell? ⟨w.heap.size, 4, none⟩ = some (.string n.text))
    (first | go_keep | exact K.out _ (((Below.refl W.heap.size W).drew).trans hb1))
    (first | (go_at_call 20; refine (CM.out _).mono ?_; rintro e w1 ⟨rfl, hb1⟩))
  have hB1 : Below w.heap.size w w1 := hB0.drew.trans (hb1.mono hB0.drew.size)
  have K1 : w1.cell? ⟨b, 0, none⟩ = some (.int .i64 m.kind) ∧ w1.cell? ⟨b, 1, none⟩ = some (.string m.owner) ∧ w1.cell? ⟨b, 2, none⟩ = some (.int .i64 m.number) ∧ w1.cell? ⟨b, 3, none⟩ = some (.int .i64 m.index) ∧ w1.cell? ⟨b, 4, none⟩ = some (.string m.text) ∧ w1.cell? ⟨b, 5, none⟩ = some (.string x) ∧ w1.cell? ⟨b, 6, none⟩ = some (.pointer pl) ∧ w1.cell? ⟨b, 7, none⟩ = some (.pointer pr) ∧ w1.cell? ⟨w.heap.size, 0, none⟩ = some (.int .i64 n.kind) ∧ w1.cell? ⟨w.heap.size, 1, none⟩ = some (.string n.owner) ∧ w1.cell? ⟨w.heap.size, 2, none⟩ = some (.int .i64 n.number) ∧ w1.cell? ⟨w.heap.size, 3, none⟩ = some (.int .i64 n.index) ∧ w1.cell? ⟨w.heap.size, 4, none⟩ = some (.string n.text) := K.out _ (((Below.refl W.heap.size W).drew).trans hb1)
  go_wp2_with fail
  obtain ⟨q0, q1, q2, q3, q4, q5, q6, q7, q8, q9, q10, q11, q12⟩ := K1
  go_region_held3 (fun w' => w'.cell? ⟨b, 0, none⟩ = some (.int .i64 m.kind) ∧ w'.cell? ⟨b, 1, none⟩ = some (.string m.owner) ∧ w'.cell? ⟨b, 2, none⟩ = some (.int .i64 m.number) ∧ w'.cell? ⟨b, 3, none⟩ = some (.int .i64 m.index) ∧ w'.cell? ⟨b, 4, none⟩ = some (.string m.text) ∧ w'.cell? ⟨b, 5, none⟩ = some (.string x) ∧ w'.cell? ⟨b, 6, none⟩ = some (.pointer pl) ∧ w'.cell? ⟨b, 7, none⟩ = some (.pointer pr) ∧ w'.cell? ⟨w.heap.size, 0, none⟩ = some (.int .i64 n.kind) ∧ w'.cell? ⟨w.heap.size, 1, none⟩ = some (.string n.owner) ∧ w'.cell? ⟨w.heap.size, 2, none⟩ = some (.int .i64 n.number) ∧ w'.cell? ⟨w.heap.size, 3, none⟩ = some (.int .i64 n.index) ∧ w'.cell? ⟨w.heap.size, 4, none⟩ = some (.string n.text))
    (first | go_keep | exact K.out _ (((((Below.refl W.heap.size W).drew).trans hb1).drew).trans (hb2.mono (by simpa using hb1.size))) | exact K.out _ (((((Below.refl W.heap.size W).drew).trans hb1).drew).trans ((hb2.trans (hb3.mono hb2.size)).mono (by simpa using hb1.size))))
    (first
      | (go_at_call 21; refine (I1.out _ hB1.drew).mono ?_; rintro e w2 ⟨pj, rfl, hj, hb2⟩; have hBj := hB1.drew.trans (hb2.mono hB1.drew.size))
      | (go_at_call 53; refine (J1.out pj _ hBj hj).mono ?_; rintro e w3 ⟨pk, rfl, hk, hb3⟩))
  go_wp2_with fail
  go_ret
  exact ⟨pk, rfl, hk, hBj.trans (hb3.mono hBj.size)⟩

set_option maxRecDepth 100000 in
set_option maxHeartbeats 3200000 in
theorem with_eq (b x' y' z' : Nat) (pl pr : Option Addr) (l r : T) (n m : Nm) (v x : ByteArray) (w : World) (hn : n.Ok) (hm : m.Ok) (k : Blk w b 82 (nodeCells m x pl pr x' y' z')) (hl : IsTree w pl l) (hr : IsTree w pr r) (hc : cmpN n m = 0) (hf : (T.node l n v r).Fits) :
    Calls Tryz.prog 21 #[.pointer (some ⟨b, 0, none⟩), nmV n, .string v] w fun e w' => ∃ p, e = .returned (.pointer p) ∧ IsTree w' p (.node l n v r) ∧ Below w.heap.size w w' := by
  unfold nmV
  go_enter Tryz.func21, Tryz.ntmps21
  go_upto_region 1 with fail
  generalize hW : w.alloc (.cells #[.int .i64 n.kind, .string n.owner, .int .i64 n.number, .int .i64 n.index, .string n.text] 38) = W
  have b0 : Blk W w.heap.size 38 #[.int .i64 n.kind, .string n.owner, .int .i64 n.number, .int .i64 n.index, .string n.text] := by rw [← hW]; exact Blk.new _ _ _
  have hB0 : Below w.heap.size w W := by rw [← hW]; exact (Below.refl _ _).alloc (Nat.le_refl _) _
  have lW : w.heap.size < W.heap.size := b0.lt
  clear hW
  have k0 := k.below hB0 k.lt
  have bl : b < W.heap.size := k0.lt
  have KK : ∀ w', Below W.heap.size W w' → w'.cell? ⟨b, 0, none⟩ = some (.int .i64 m.kind) ∧ w'.cell? ⟨b, 1, none⟩ = some (.string m.owner) ∧ w'.cell? ⟨b, 2, none⟩ = some (.int .i64 m.number) ∧ w'.cell? ⟨b, 3, none⟩ = some (.int .i64 m.index) ∧ w'.cell? ⟨b, 4, none⟩ = some (.string m.text) ∧ w'.cell? ⟨b, 5, none⟩ = some (.string x) ∧ w'.cell? ⟨b, 6, none⟩ = some (.pointer pl) ∧ w'.cell? ⟨b, 7, none⟩ = some (.pointer pr) ∧ w'.cell? ⟨w.heap.size, 0, none⟩ = some (.int .i64 n.kind) ∧ w'.cell? ⟨w.heap.size, 1, none⟩ = some (.string n.owner) ∧ w'.cell? ⟨w.heap.size, 2, none⟩ = some (.int .i64 n.number) ∧ w'.cell? ⟨w.heap.size, 3, none⟩ = some (.int .i64 n.index) ∧ w'.cell? ⟨w.heap.size, 4, none⟩ = some (.string n.text) := by
    intro w' hb
    have k1 := k0.below hb k0.lt
    have b1 := b0.below hb b0.lt
    exact ⟨k1.cell 0, k1.cell 1, k1.cell 2, k1.cell 3, k1.cell 4, k1.cell 5, k1.cell 6, k1.cell 7, b1.cell 0, b1.cell 1, b1.cell 2, b1.cell 3, b1.cell 4⟩
  have d0 : W.cell? ⟨b, 0, none⟩ = some (.int .i64 m.kind) := k0.cell 0
  have d1 : W.cell? ⟨b, 1, none⟩ = some (.string m.owner) := k0.cell 1
  have d2 : W.cell? ⟨b, 2, none⟩ = some (.int .i64 m.number) := k0.cell 2
  have d3 : W.cell? ⟨b, 3, none⟩ = some (.int .i64 m.index) := k0.cell 3
  have d4 : W.cell? ⟨b, 4, none⟩ = some (.string m.text) := k0.cell 4
  have d5 : W.cell? ⟨b, 5, none⟩ = some (.string x) := k0.cell 5
  have d6 : W.cell? ⟨b, 6, none⟩ = some (.pointer pl) := k0.cell 6
  have d7 : W.cell? ⟨b, 7, none⟩ = some (.pointer pr) := k0.cell 7
  have c0 : W.cell? ⟨w.heap.size, 0, none⟩ = some (.int .i64 n.kind) := b0.cell 0
  have c1 : W.cell? ⟨w.heap.size, 1, none⟩ = some (.string n.owner) := b0.cell 1
  have c2 : W.cell? ⟨w.heap.size, 2, none⟩ = some (.int .i64 n.number) := b0.cell 2
  have c3 : W.cell? ⟨w.heap.size, 3, none⟩ = some (.int .i64 n.index) := b0.cell 3
  have c4 : W.cell? ⟨w.heap.size, 4, none⟩ = some (.string n.text) := b0.cell 4
  have CM := hid (fun w' => cmpN_any n m hn hm w')
  unfold nmV at CM
  have K := hid KK
  have J1 := hid (fun w' (hb : Below w.heap.size w w') => join_any pl pr l r n v w' (hl.below hb) (hr.below hb) hf)
  unfold nmV at J1
  clear hf
  clear KK k k0 b0 hl hr hn hm
  generalize cmpN n m = c at *
  go_wp2_with fail
  go_region_held3 (fun w' => w'.cell? ⟨b, 0, none⟩ = some (.int .i64 m.kind) ∧ w'.cell? ⟨b, 1, none⟩ = some (.string m.owner) ∧ w'.cell? ⟨b, 2, none⟩ = some (.int .i64 m.number) ∧ w'.cell? ⟨b, 3, none⟩ = some (.int .i64 m.index) ∧ w'.cell? ⟨b, 4, none⟩ = some (.string m.text) ∧ w'.cell? ⟨b, 5, none⟩ = some (.string x) ∧ w'.cell? ⟨b, 6, none⟩ = some (.pointer pl) ∧ w'.cell? ⟨b, 7, none⟩ = some (.pointer pr) ∧ w'.cell? ⟨w.heap.size, 0, none⟩ = some (.int .i64 n.kind) ∧ w'.cell? ⟨w.heap.size, 1, none⟩ = some (.string n.owner) ∧ w'.cell? ⟨w.heap.size, 2, none⟩ = some (.int .i64 n.number) ∧ w'.cell? ⟨w.heap.size, 3, none⟩ = some (.int .i64 n.index) ∧ w'.cell? ⟨w.heap.size, 4, none⟩ = some (.string n.text))
    (first | go_keep | exact K.out _ (((Below.refl W.heap.size W).drew).trans hb1))
    (first | (go_at_call 20; refine (CM.out _).mono ?_; rintro e w1 ⟨rfl, hb1⟩))
  have hB1 : Below w.heap.size w w1 := hB0.drew.trans (hb1.mono hB0.drew.size)
  have K1 : w1.cell? ⟨b, 0, none⟩ = some (.int .i64 m.kind) ∧ w1.cell? ⟨b, 1, none⟩ = some (.string m.owner) ∧ w1.cell? ⟨b, 2, none⟩ = some (.int .i64 m.number) ∧ w1.cell? ⟨b, 3, none⟩ = some (.int .i64 m.index) ∧ w1.cell? ⟨b, 4, none⟩ = some (.string m.text) ∧ w1.cell? ⟨b, 5, none⟩ = some (.string x) ∧ w1.cell? ⟨b, 6, none⟩ = some (.pointer pl) ∧ w1.cell? ⟨b, 7, none⟩ = some (.pointer pr) ∧ w1.cell? ⟨w.heap.size, 0, none⟩ = some (.int .i64 n.kind) ∧ w1.cell? ⟨w.heap.size, 1, none⟩ = some (.string n.owner) ∧ w1.cell? ⟨w.heap.size, 2, none⟩ = some (.int .i64 n.number) ∧ w1.cell? ⟨w.heap.size, 3, none⟩ = some (.int .i64 n.index) ∧ w1.cell? ⟨w.heap.size, 4, none⟩ = some (.string n.text) := K.out _ (((Below.refl W.heap.size W).drew).trans hb1)
  go_wp2_with fail
  obtain ⟨q0, q1, q2, q3, q4, q5, q6, q7, q8, q9, q10, q11, q12⟩ := K1
  go_region_held3 (fun w' => w'.cell? ⟨b, 0, none⟩ = some (.int .i64 m.kind) ∧ w'.cell? ⟨b, 1, none⟩ = some (.string m.owner) ∧ w'.cell? ⟨b, 2, none⟩ = some (.int .i64 m.number) ∧ w'.cell? ⟨b, 3, none⟩ = some (.int .i64 m.index) ∧ w'.cell? ⟨b, 4, none⟩ = some (.string m.text) ∧ w'.cell? ⟨b, 5, none⟩ = some (.string x) ∧ w'.cell? ⟨b, 6, none⟩ = some (.pointer pl) ∧ w'.cell? ⟨b, 7, none⟩ = some (.pointer pr) ∧ w'.cell? ⟨w.heap.size, 0, none⟩ = some (.int .i64 n.kind) ∧ w'.cell? ⟨w.heap.size, 1, none⟩ = some (.string n.owner) ∧ w'.cell? ⟨w.heap.size, 2, none⟩ = some (.int .i64 n.number) ∧ w'.cell? ⟨w.heap.size, 3, none⟩ = some (.int .i64 n.index) ∧ w'.cell? ⟨w.heap.size, 4, none⟩ = some (.string n.text))
    (first | go_keep | exact K.out _ (((((Below.refl W.heap.size W).drew).trans hb1).drew).trans (hb2.mono (by simpa using hb1.size))))
    (first | (go_at_call 52; refine (J1.out _ hB1.drew).mono ?_; rintro e w2 ⟨pj, rfl, hj, hb2⟩))
  go_wp2_with fail
  go_ret
  exact ⟨pj, rfl, hj, hB1.drew.trans (hb2.mono hB1.drew.size)⟩

theorem with_any (t : T) (n : Nm) (v : ByteArray) (hn : n.Ok) (ht : t.Ok) (h1 : t.size + 1 ≤ 1000000) (h2 : t.bytes + v.size ≤ 1000000000) : ∀ (p : Option Addr) (w : World), IsTree w p t → Calls Tryz.prog 21 #[.pointer p, nmV n, .string v] w fun e w' => ∃ p, e = .returned (.pointer p) ∧ IsTree w' p (t.with_ n v) ∧ Below w.heap.size w w' := by
  induction t with
  | nil =>
    intro p w hp
    obtain rfl : p = none := hp
    exact with_nil n v w ⟨by simp [T.size], by simp only [T.bytes] at h2 ⊢; omega⟩
  | node l m x r ihl ihr =>
    intro p w hp
    obtain ⟨b, pl, pr, rfl, ⟨x', y', z', k⟩, hl, hr⟩ := hp.blk
    obtain ⟨o1, o2, o3, o4⟩ := ht
    simp only [T.size, T.bytes] at h1 h2
    have z1 := T.with_size l n v
    have z2 := T.with_size r n v
    unfold T.with_
    split
    · next hc =>
      exact with_lt b x' y' z' pl pr l r n m v x w hn o2 k hl hr hc ⟨by simp only [T.size]; omega, by simp only [T.bytes]; omega⟩ (fun w' hb => ihl o1 (by omega) (by omega) pl w' (hl.below hb))
    · next hc =>
      split
      · next hc' =>
        exact with_gt b x' y' z' pl pr l r n m v x w hn o2 k hl hr hc' ⟨by simp only [T.size]; omega, by simp only [T.bytes]; omega⟩ (fun w' hb => ihr o4 (by omega) (by omega) pr w' (hr.below hb))
      · next hc' =>
        exact with_eq b x' y' z' pl pr l r n m v x w hn o2 k hl hr (by omega) ⟨by simp only [T.size]; omega, by simp only [T.bytes]; omega⟩
end Go.Proofs.YtfdbanhbegngoaaGreatDoor
