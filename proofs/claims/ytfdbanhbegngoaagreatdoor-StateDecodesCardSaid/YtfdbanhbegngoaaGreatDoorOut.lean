/-
  LAYER 5, WALKED: first, without. (Written by the program gen_with.py.)
-/
import Derived.Test.YtfdbanhbegngoaaGreatDoorWith
namespace Go.Proofs.YtfdbanhbegngoaaGreatDoor
open Go.RowKit

set_option maxRecDepth 100000 in
set_option maxHeartbeats 3200000 in
theorem first_nil (b x' y' z' : Nat) (pr : Option Addr) (r : T) (m : Nm) (x : ByteArray) (w : World) (k : Blk w b 82 (nodeCells m x none pr x' y' z')) (hr : IsTree w pr r) :
    Calls Tryz.prog 77 #[.pointer (some ⟨b, 0, none⟩)] w fun e w' => ∃ p q, e = .returned (.tuple #[.pointer p, .pointer q]) ∧ IsTree w' p (T.first .nil m x r).1 ∧ (∃ g ql qr xx yy zz, q = some ⟨g, 0, none⟩ ∧ Blk w g 82 (nodeCells (T.first .nil m x r).2.1 (T.first .nil m x r).2.2 ql qr xx yy zz)) ∧ Below w.heap.size w w' := by
  have d0 : w.cell? ⟨b, 0, none⟩ = some (.int .i64 m.kind) := k.cell 0
  have d1 : w.cell? ⟨b, 1, none⟩ = some (.string m.owner) := k.cell 1
  have d2 : w.cell? ⟨b, 2, none⟩ = some (.int .i64 m.number) := k.cell 2
  have d3 : w.cell? ⟨b, 3, none⟩ = some (.int .i64 m.index) := k.cell 3
  have d4 : w.cell? ⟨b, 4, none⟩ = some (.string m.text) := k.cell 4
  have d5 : w.cell? ⟨b, 5, none⟩ = some (.string x) := k.cell 5
  have d6 : w.cell? ⟨b, 6, none⟩ = some (.pointer none) := k.cell 6
  have d7 : w.cell? ⟨b, 7, none⟩ = some (.pointer pr) := k.cell 7
  go_enter Tryz.func77, Tryz.ntmps77
  have H := hid (And.intro k hr)
  clear k hr
  go_wp2
  go_ret2
  exact ⟨pr, some ⟨b, 0, none⟩, rfl, H.out.2, ⟨b, none, pr, x', y', z', rfl, H.out.1⟩, Below.refl _ _⟩

set_option maxRecDepth 100000 in
set_option maxHeartbeats 3200000 in
theorem first_more (b x' y' z' b2 : Nat) (pr : Option Addr) (l' r' r : T) (m n' : Nm) (x v' : ByteArray) (w : World) (k : Blk w b 82 (nodeCells m x (some ⟨b2, 0, none⟩) pr x' y' z')) (hr : IsTree w pr r) (hf : (T.node (T.first l' n' v' r').1 m x r).Fits) (IH : Calls Tryz.prog 77 #[.pointer (some ⟨b2, 0, none⟩)] w fun e w' => ∃ p q, e = .returned (.tuple #[.pointer p, .pointer q]) ∧ IsTree w' p (T.first l' n' v' r').1 ∧ (∃ g ql qr xx yy zz, q = some ⟨g, 0, none⟩ ∧ Blk w g 82 (nodeCells (T.first l' n' v' r').2.1 (T.first l' n' v' r').2.2 ql qr xx yy zz)) ∧ Below w.heap.size w w') :
    Calls Tryz.prog 77 #[.pointer (some ⟨b, 0, none⟩)] w fun e w' => ∃ p q, e = .returned (.tuple #[.pointer p, .pointer q]) ∧ IsTree w' p (T.first (.node l' n' v' r') m x r).1 ∧ (∃ g ql qr xx yy zz, q = some ⟨g, 0, none⟩ ∧ Blk w g 82 (nodeCells (T.first (.node l' n' v' r') m x r).2.1 (T.first (.node l' n' v' r') m x r).2.2 ql qr xx yy zz)) ∧ Below w.heap.size w w' := by
  have d0 : w.cell? ⟨b, 0, none⟩ = some (.int .i64 m.kind) := k.cell 0
  have d1 : w.cell? ⟨b, 1, none⟩ = some (.string m.owner) := k.cell 1
  have d2 : w.cell? ⟨b, 2, none⟩ = some (.int .i64 m.number) := k.cell 2
  have d3 : w.cell? ⟨b, 3, none⟩ = some (.int .i64 m.index) := k.cell 3
  have d4 : w.cell? ⟨b, 4, none⟩ = some (.string m.text) := k.cell 4
  have d5 : w.cell? ⟨b, 5, none⟩ = some (.string x) := k.cell 5
  have d6 : w.cell? ⟨b, 6, none⟩ = some (.pointer (some ⟨b2, 0, none⟩)) := k.cell 6
  have d7 : w.cell? ⟨b, 7, none⟩ = some (.pointer pr) := k.cell 7
  have bl : b < w.heap.size := k.lt
  have J1 := hid (fun pj w' (hb : Below w.heap.size w w') (hj : IsTree w' pj (T.first l' n' v' r').1) => bal_any pj pr (T.first l' n' v' r').1 r m x w' hj (hr.below hb) hf)
  unfold nmV at J1
  have KK : ∀ w', Below w.heap.size w w' → w'.cell? ⟨b, 0, none⟩ = some (.int .i64 m.kind) ∧ w'.cell? ⟨b, 1, none⟩ = some (.string m.owner) ∧ w'.cell? ⟨b, 2, none⟩ = some (.int .i64 m.number) ∧ w'.cell? ⟨b, 3, none⟩ = some (.int .i64 m.index) ∧ w'.cell? ⟨b, 4, none⟩ = some (.string m.text) ∧ w'.cell? ⟨b, 5, none⟩ = some (.string x) ∧ w'.cell? ⟨b, 6, none⟩ = some (.pointer (some ⟨b2, 0, none⟩)) ∧ w'.cell? ⟨b, 7, none⟩ = some (.pointer pr) := by
    intro w' hb
    have k1 := k.below hb k.lt
    exact ⟨k1.cell 0, k1.cell 1, k1.cell 2, k1.cell 3, k1.cell 4, k1.cell 5, k1.cell 6, k1.cell 7⟩
  have I := hid IH
  have K := hid KK
  clear hf IH k hr KK
  go_enter Tryz.func77, Tryz.ntmps77
  go_wp2_with (go_at_call 77; refine I.out.mono ?_; rintro e w1 ⟨p, q, rfl, hp, hq, hb1⟩)
  have K1 := K.out _ hb1
  obtain ⟨q0, q1, q2, q3, q4, q5, q6, q7⟩ := K1
  have HQ := hid hq
  have lb := hb1.size
  clear hq
  go_region_held3 (fun w' => w'.cell? ⟨b, 0, none⟩ = some (.int .i64 m.kind) ∧ w'.cell? ⟨b, 1, none⟩ = some (.string m.owner) ∧ w'.cell? ⟨b, 2, none⟩ = some (.int .i64 m.number) ∧ w'.cell? ⟨b, 3, none⟩ = some (.int .i64 m.index) ∧ w'.cell? ⟨b, 4, none⟩ = some (.string m.text) ∧ w'.cell? ⟨b, 5, none⟩ = some (.string x) ∧ w'.cell? ⟨b, 6, none⟩ = some (.pointer (some ⟨b2, 0, none⟩)) ∧ w'.cell? ⟨b, 7, none⟩ = some (.pointer pr))
    (first | go_keep | exact K.out _ ((hb1.drew).trans (hb2.mono hb1.drew.size)))
    (first | (go_at_call 53; refine (J1.out p _ hb1.drew (hp.below ((Below.refl _ _).drew))).mono ?_; rintro e w2 ⟨pj, rfl, hj, hb2⟩))
  go_wp2_with fail
  go_ret2
  exact ⟨pj, q, rfl, hj, HQ.out, hb1.drew.trans (hb2.mono hb1.drew.size)⟩

theorem first_any (l : T) : ∀ (m : Nm) (x : ByteArray) (r : T), (T.node l m x r).Fits → ∀ (p : Option Addr) (w : World), IsTree w p (.node l m x r) → Calls Tryz.prog 77 #[.pointer p] w fun e w' => ∃ p q, e = .returned (.tuple #[.pointer p, .pointer q]) ∧ IsTree w' p (T.first l m x r).1 ∧ (∃ g ql qr xx yy zz, q = some ⟨g, 0, none⟩ ∧ Blk w g 82 (nodeCells (T.first l m x r).2.1 (T.first l m x r).2.2 ql qr xx yy zz)) ∧ Below w.heap.size w w' := by
  induction l with
  | nil =>
    intro m x r hf p w hp
    obtain ⟨b, pl, pr, rfl, ⟨x', y', z', k⟩, hl, hr⟩ := hp.blk
    obtain rfl : pl = none := hl
    exact first_nil b x' y' z' pr r m x w k hr
  | node l' n' v' r' ih _ =>
    intro m x r hf p w hp
    obtain ⟨b, pl, pr, rfl, ⟨x', y', z', k⟩, hl, hr⟩ := hp.blk
    obtain ⟨b2, pl2, pr2, rfl, -⟩ := hl.blk
    have z := T.first_size l' n' v' r'
    obtain ⟨f1, f2⟩ := hf
    simp only [T.size, T.bytes] at f1 f2
    exact first_more b x' y' z' b2 pr l' r' r m n' x v' w k hr ⟨by simp only [T.size]; omega, by simp only [T.bytes]; omega⟩
      (ih n' v' r' ⟨by simp only [T.size]; omega, by simp only [T.bytes]; omega⟩ _ w hl)

set_option maxRecDepth 100000 in
set_option maxHeartbeats 3200000 in
theorem without_nil (n : Nm) (w : World) :
    Calls Tryz.prog 39 #[.pointer none, nmV n] w fun e w' => ∃ p, e = .returned (.pointer p) ∧ IsTree w' p (.nil) ∧ Below w.heap.size w w' := by
  unfold nmV
  go_enter Tryz.func39, Tryz.ntmps39
  go_upto_region 1 with fail
  generalize hW : w.alloc (.cells #[.int .i64 n.kind, .string n.owner, .int .i64 n.number, .int .i64 n.index, .string n.text] 38) = W
  have b0 : Blk W w.heap.size 38 #[.int .i64 n.kind, .string n.owner, .int .i64 n.number, .int .i64 n.index, .string n.text] := by rw [← hW]; exact Blk.new _ _ _
  have hB0 : Below w.heap.size w W := by rw [← hW]; exact (Below.refl _ _).alloc (Nat.le_refl _) _
  have lW : w.heap.size < W.heap.size := b0.lt
  clear hW
  have c0 : W.cell? ⟨w.heap.size, 0, none⟩ = some (.int .i64 n.kind) := b0.cell 0
  have c1 : W.cell? ⟨w.heap.size, 1, none⟩ = some (.string n.owner) := b0.cell 1
  have c2 : W.cell? ⟨w.heap.size, 2, none⟩ = some (.int .i64 n.number) := b0.cell 2
  have c3 : W.cell? ⟨w.heap.size, 3, none⟩ = some (.int .i64 n.index) := b0.cell 3
  have c4 : W.cell? ⟨w.heap.size, 4, none⟩ = some (.string n.text) := b0.cell 4
  go_wp2
  go_ret
  exact ⟨none, rfl, rfl, hB0⟩

set_option maxRecDepth 100000 in
set_option maxHeartbeats 3200000 in
theorem without_lt (b x' y' z' : Nat) (pl pr : Option Addr) (l r : T) (n m : Nm) (x : ByteArray) (w : World) (hn : n.Ok) (hm : m.Ok) (k : Blk w b 82 (nodeCells m x pl pr x' y' z')) (_hl : IsTree w pl l) (hr : IsTree w pr r) (hc : cmpN n m < 0) (hf : (T.node (l.without n) m x r).Fits) (IH : ∀ w', Below w.heap.size w w' → Calls Tryz.prog 39 #[.pointer pl, nmV n] w' fun e w2 => ∃ p, e = .returned (.pointer p) ∧ IsTree w2 p (l.without n) ∧ Below w'.heap.size w' w2) :
    Calls Tryz.prog 39 #[.pointer (some ⟨b, 0, none⟩), nmV n] w fun e w' => ∃ p, e = .returned (.pointer p) ∧ IsTree w' p (T.bal (l.without n) m x r) ∧ Below w.heap.size w w' := by
  unfold nmV
  go_enter Tryz.func39, Tryz.ntmps39
  go_upto_region 1 with fail
  generalize hW : w.alloc (.cells #[.int .i64 n.kind, .string n.owner, .int .i64 n.number, .int .i64 n.index, .string n.text] 38) = W
  have b0 : Blk W w.heap.size 38 #[.int .i64 n.kind, .string n.owner, .int .i64 n.number, .int .i64 n.index, .string n.text] := by rw [← hW]; exact Blk.new _ _ _
  have hB0 : Below w.heap.size w W := by rw [← hW]; exact (Below.refl _ _).alloc (Nat.le_refl _) _
  have lW : w.heap.size < W.heap.size := b0.lt
  clear hW
  have k0 := k.below hB0 k.lt
  have bl : b < W.heap.size := k0.lt
  have KK : ∀ w', Below W.heap.size W w' → w'.cell? ⟨b, 0, none⟩ = some (.int .i64 m.kind) ∧ w'.cell? ⟨b, 1, none⟩ = some (.string m.owner) ∧ w'.cell? ⟨b, 2, none⟩ = some (.int .i64 m.number) ∧ w'.cell? ⟨b, 3, none⟩ = some (.int .i64 m.index) ∧ w'.cell? ⟨b, 4, none⟩ = some (.string m.text) ∧ w'.cell? ⟨b, 5, none⟩ = some (.string x) ∧ w'.cell? ⟨b, 6, none⟩ = some (.pointer pl) ∧ w'.cell? ⟨b, 7, none⟩ = some (.pointer pr) ∧ w'.cell? ⟨w.heap.size, 0, none⟩ = some (.int .i64 n.kind) ∧ w'.cell? ⟨w.heap.size, 1, none⟩ = some (.string n.owner) ∧ w'.cell? ⟨w.heap.size, 2, none⟩ = some (.int .i64 n.number) ∧ w'.cell? ⟨w.heap.size, 3, none⟩ = some (.int .i64 n.index) ∧ w'.cell? ⟨w.heap.size, 4, none⟩ = some (.string n.text) := by
    intro w' hb
    have k1 := k0.below hb k0.lt
    have b1 := b0.below hb b0.lt
    exact ⟨k1.cell 0, k1.cell 1, k1.cell 2, k1.cell 3, k1.cell 4, k1.cell 5, k1.cell 6, k1.cell 7, b1.cell 0, b1.cell 1, b1.cell 2, b1.cell 3, b1.cell 4⟩
  have d0 : W.cell? ⟨b, 0, none⟩ = some (.int .i64 m.kind) := k0.cell 0
  have d1 : W.cell? ⟨b, 1, none⟩ = some (.string m.owner) := k0.cell 1
  have d2 : W.cell? ⟨b, 2, none⟩ = some (.int .i64 m.number) := k0.cell 2
  have d3 : W.cell? ⟨b, 3, none⟩ = some (.int .i64 m.index) := k0.cell 3
  have d4 : W.cell? ⟨b, 4, none⟩ = some (.string m.text) := k0.cell 4
  have d5 : W.cell? ⟨b, 5, none⟩ = some (.string x) := k0.cell 5
  have d6 : W.cell? ⟨b, 6, none⟩ = some (.pointer pl) := k0.cell 6
  have d7 : W.cell? ⟨b, 7, none⟩ = some (.pointer pr) := k0.cell 7
  have c0 : W.cell? ⟨w.heap.size, 0, none⟩ = some (.int .i64 n.kind) := b0.cell 0
  have c1 : W.cell? ⟨w.heap.size, 1, none⟩ = some (.string n.owner) := b0.cell 1
  have c2 : W.cell? ⟨w.heap.size, 2, none⟩ = some (.int .i64 n.number) := b0.cell 2
  have c3 : W.cell? ⟨w.heap.size, 3, none⟩ = some (.int .i64 n.index) := b0.cell 3
  have c4 : W.cell? ⟨w.heap.size, 4, none⟩ = some (.string n.text) := b0.cell 4
  have CM := hid (fun w' => cmpN_any n m hn hm w')
  unfold nmV at CM
  have K := hid KK
  have I1 := hid IH
  unfold nmV at I1
  have J1 := hid (fun pj w' (hb : Below w.heap.size w w') (hj : IsTree w' pj (l.without n)) => bal_any pj pr (l.without n) r m x w' hj (hr.below hb) hf)
  unfold nmV at J1
  clear IH hf
  clear KK k k0 b0 _hl hr hn hm
  generalize cmpN n m = c at *
  go_wp2_with fail
  go_region_held3 (fun w' => w'.cell? ⟨b, 0, none⟩ = some (.int .i64 m.kind) ∧ w'.cell? ⟨b, 1, none⟩ = some (.string m.owner) ∧ w'.cell? ⟨b, 2, none⟩ = some (.int .i64 m.number) ∧ w'.cell? ⟨b, 3, none⟩ = some (.int .i64 m.index) ∧ w'.cell? ⟨b, 4, none⟩ = some (.string m.text) ∧ w'.cell? ⟨b, 5, none⟩ = some (.string x) ∧ w'.cell? ⟨b, 6, none⟩ = some (.pointer pl) ∧ w'.cell? ⟨b, 7, none⟩ = some (.pointer pr) ∧ w'.cell? ⟨w.heap.size, 0, none⟩ = some (.int .i64 n.kind) ∧ w'.cell? ⟨w.heap.size, 1, none⟩ = some (.string n.owner) ∧ w'.cell? ⟨w.heap.size, 2, none⟩ = some (.int .i64 n.number) ∧ w'.cell? ⟨w.heap.size, 3, none⟩ = some (.int .i64 n.index) ∧ w'.cell? ⟨w.heap.size, 4, none⟩ = some (.string n.text))
    (first | go_keep | exact K.out _ (((Below.refl W.heap.size W).drew).trans hb1))
    (first | (go_at_call 20; refine (CM.out _).mono ?_; rintro e w1 ⟨rfl, hb1⟩))
  have hB1 : Below w.heap.size w w1 := hB0.drew.trans (hb1.mono hB0.drew.size)
  have K1 : w1.cell? ⟨b, 0, none⟩ = some (.int .i64 m.kind) ∧ w1.cell? ⟨b, 1, none⟩ = some (.string m.owner) ∧ w1.cell? ⟨b, 2, none⟩ = some (.int .i64 m.number) ∧ w1.cell? ⟨b, 3, none⟩ = some (.int .i64 m.index) ∧ w1.cell? ⟨b, 4, none⟩ = some (.string m.text) ∧ w1.cell? ⟨b, 5, none⟩ = some (.string x) ∧ w1.cell? ⟨b, 6, none⟩ = some (.pointer pl) ∧ w1.cell? ⟨b, 7, none⟩ = some (.pointer pr) ∧ w1.cell? ⟨w.heap.size, 0, none⟩ = some (.int .i64 n.kind) ∧ w1.cell? ⟨w.heap.size, 1, none⟩ = some (.string n.owner) ∧ w1.cell? ⟨w.heap.size, 2, none⟩ = some (.int .i64 n.number) ∧ w1.cell? ⟨w.heap.size, 3, none⟩ = some (.int .i64 n.index) ∧ w1.cell? ⟨w.heap.size, 4, none⟩ = some (.string n.text) := K.out _ (((Below.refl W.heap.size W).drew).trans hb1)
  go_wp2_with fail
  obtain ⟨q0, q1, q2, q3, q4, q5, q6, q7, q8, q9, q10, q11, q12⟩ := K1
  go_region_held3 (fun w' => w'.cell? ⟨b, 0, none⟩ = some (.int .i64 m.kind) ∧ w'.cell? ⟨b, 1, none⟩ = some (.string m.owner) ∧ w'.cell? ⟨b, 2, none⟩ = some (.int .i64 m.number) ∧ w'.cell? ⟨b, 3, none⟩ = some (.int .i64 m.index) ∧ w'.cell? ⟨b, 4, none⟩ = some (.string m.text) ∧ w'.cell? ⟨b, 5, none⟩ = some (.string x) ∧ w'.cell? ⟨b, 6, none⟩ = some (.pointer pl) ∧ w'.cell? ⟨b, 7, none⟩ = some (.pointer pr) ∧ w'.cell? ⟨w.heap.size, 0, none⟩ = some (.int .i64 n.kind) ∧ w'.cell? ⟨w.heap.size, 1, none⟩ = some (.string n.owner) ∧ w'.cell? ⟨w.heap.size, 2, none⟩ = some (.int .i64 n.number) ∧ w'.cell? ⟨w.heap.size, 3, none⟩ = some (.int .i64 n.index) ∧ w'.cell? ⟨w.heap.size, 4, none⟩ = some (.string n.text))
    (first | go_keep | exact K.out _ (((((Below.refl W.heap.size W).drew).trans hb1).drew).trans (hb2.mono (by simpa using hb1.size))) | exact K.out _ (((((Below.refl W.heap.size W).drew).trans hb1).drew).trans ((hb2.trans (hb3.mono hb2.size)).mono (by simpa using hb1.size))))
    (first
      | (go_at_call 39; refine (I1.out _ hB1.drew).mono ?_; rintro e w2 ⟨pj, rfl, hj, hb2⟩; have hBj := hB1.drew.trans (hb2.mono hB1.drew.size))
      | (go_at_call 53; refine (J1.out pj _ hBj hj).mono ?_; rintro e w3 ⟨pk, rfl, hk, hb3⟩))
  go_wp2_with fail
  go_ret
  exact ⟨pk, rfl, hk, hBj.trans (hb3.mono hBj.size)⟩

set_option maxRecDepth 100000 in
set_option maxHeartbeats 3200000 in
theorem without_gt (b x' y' z' : Nat) (pl pr : Option Addr) (l r : T) (n m : Nm) (x : ByteArray) (w : World) (hn : n.Ok) (hm : m.Ok) (k : Blk w b 82 (nodeCells m x pl pr x' y' z')) (hl : IsTree w pl l) (_hr : IsTree w pr r) (hc : 0 < cmpN n m) (hf : (T.node l m x (r.without n)).Fits) (IH : ∀ w', Below w.heap.size w w' → Calls Tryz.prog 39 #[.pointer pr, nmV n] w' fun e w2 => ∃ p, e = .returned (.pointer p) ∧ IsTree w2 p (r.without n) ∧ Below w'.heap.size w' w2) :
    Calls Tryz.prog 39 #[.pointer (some ⟨b, 0, none⟩), nmV n] w fun e w' => ∃ p, e = .returned (.pointer p) ∧ IsTree w' p (T.bal l m x (r.without n)) ∧ Below w.heap.size w w' := by
  unfold nmV
  go_enter Tryz.func39, Tryz.ntmps39
  go_upto_region 1 with fail
  generalize hW : w.alloc (.cells #[.int .i64 n.kind, .string n.owner, .int .i64 n.number, .int .i64 n.index, .string n.text] 38) = W
  have b0 : Blk W w.heap.size 38 #[.int .i64 n.kind, .string n.owner, .int .i64 n.number, .int .i64 n.index, .string n.text] := by rw [← hW]; exact Blk.new _ _ _
  have hB0 : Below w.heap.size w W := by rw [← hW]; exact (Below.refl _ _).alloc (Nat.le_refl _) _
  have lW : w.heap.size < W.heap.size := b0.lt
  clear hW
  have k0 := k.below hB0 k.lt
  have bl : b < W.heap.size := k0.lt
  have KK : ∀ w', Below W.heap.size W w' → w'.cell? ⟨b, 0, none⟩ = some (.int .i64 m.kind) ∧ w'.cell? ⟨b, 1, none⟩ = some (.string m.owner) ∧ w'.cell? ⟨b, 2, none⟩ = some (.int .i64 m.number) ∧ w'.cell? ⟨b, 3, none⟩ = some (.int .i64 m.index) ∧ w'.cell? ⟨b, 4, none⟩ = some (.string m.text) ∧ w'.cell? ⟨b, 5, none⟩ = some (.string x) ∧ w'.cell? ⟨b, 6, none⟩ = some (.pointer pl) ∧ w'.cell? ⟨b, 7, none⟩ = some (.pointer pr) ∧ w'.cell? ⟨w.heap.size, 0, none⟩ = some (.int .i64 n.kind) ∧ w'.cell? ⟨w.heap.size, 1, none⟩ = some (.string n.owner) ∧ w'.cell? ⟨w.heap.size, 2, none⟩ = some (.int .i64 n.number) ∧ w'.cell? ⟨w.heap.size, 3, none⟩ = some (.int .i64 n.index) ∧ w'.cell? ⟨w.heap.size, 4, none⟩ = some (.string n.text) := by
    intro w' hb
    have k1 := k0.below hb k0.lt
    have b1 := b0.below hb b0.lt
    exact ⟨k1.cell 0, k1.cell 1, k1.cell 2, k1.cell 3, k1.cell 4, k1.cell 5, k1.cell 6, k1.cell 7, b1.cell 0, b1.cell 1, b1.cell 2, b1.cell 3, b1.cell 4⟩
  have d0 : W.cell? ⟨b, 0, none⟩ = some (.int .i64 m.kind) := k0.cell 0
  have d1 : W.cell? ⟨b, 1, none⟩ = some (.string m.owner) := k0.cell 1
  have d2 : W.cell? ⟨b, 2, none⟩ = some (.int .i64 m.number) := k0.cell 2
  have d3 : W.cell? ⟨b, 3, none⟩ = some (.int .i64 m.index) := k0.cell 3
  have d4 : W.cell? ⟨b, 4, none⟩ = some (.string m.text) := k0.cell 4
  have d5 : W.cell? ⟨b, 5, none⟩ = some (.string x) := k0.cell 5
  have d6 : W.cell? ⟨b, 6, none⟩ = some (.pointer pl) := k0.cell 6
  have d7 : W.cell? ⟨b, 7, none⟩ = some (.pointer pr) := k0.cell 7
  have c0 : W.cell? ⟨w.heap.size, 0, none⟩ = some (.int .i64 n.kind) := b0.cell 0
  have c1 : W.cell? ⟨w.heap.size, 1, none⟩ = some (.string n.owner) := b0.cell 1
  have c2 : W.cell? ⟨w.heap.size, 2, none⟩ = some (.int .i64 n.number) := b0.cell 2
  have c3 : W.cell? ⟨w.heap.size, 3, none⟩ = some (.int .i64 n.index) := b0.cell 3
  have c4 : W.cell? ⟨w.heap.size, 4, none⟩ = some (.string n.text) := b0.cell 4
  have CM := hid (fun w' => cmpN_any n m hn hm w')
  unfold nmV at CM
  have K := hid KK
  have I1 := hid IH
  unfold nmV at I1
  have J1 := hid (fun pj w' (hb : Below w.heap.size w w') (hj : IsTree w' pj (r.without n)) => bal_any pl pj l (r.without n) m x w' (hl.below hb) hj hf)
  unfold nmV at J1
  clear IH hf
  clear KK k k0 b0 hl _hr hn hm
  generalize cmpN n m = c at *
  go_wp2_with fail
  go_region_held3 (fun w' => w'.cell? ⟨b, 0, none⟩ = some (.int .i64 m.kind) ∧ w'.cell? ⟨b, 1, none⟩ = some (.string m.owner) ∧ w'.cell? ⟨b, 2, none⟩ = some (.int .i64 m.number) ∧ w'.cell? ⟨b, 3, none⟩ = some (.int .i64 m.index) ∧ w'.cell? ⟨b, 4, none⟩ = some (.string m.text) ∧ w'.cell? ⟨b, 5, none⟩ = some (.string x) ∧ w'.cell? ⟨b, 6, none⟩ = some (.pointer pl) ∧ w'.cell? ⟨b, 7, none⟩ = some (.pointer pr) ∧ w'.cell? ⟨w.heap.size, 0, none⟩ = some (.int .i64 n.kind) ∧ w'.cell? ⟨w.heap.size, 1, none⟩ = some (.string n.owner) ∧ w'.cell? ⟨w.heap.size, 2, none⟩ = some (.int .i64 n.number) ∧ w'.cell? ⟨w.heap.size, 3, none⟩ = some (.int .i64 n.index) ∧ w'.cell? ⟨w.heap.size, 4, none⟩ = some (.string n.text))
    (first | go_keep | exact K.out _ (((Below.refl W.heap.size W).drew).trans hb1))
    (first | (go_at_call 20; refine (CM.out _).mono ?_; rintro e w1 ⟨rfl, hb1⟩))
  have hB1 : Below w.heap.size w w1 := hB0.drew.trans (hb1.mono hB0.drew.size)
  have K1 : w1.cell? ⟨b, 0, none⟩ = some (.int .i64 m.kind) ∧ w1.cell? ⟨b, 1, none⟩ = some (.string m.owner) ∧ w1.cell? ⟨b, 2, none⟩ = some (.int .i64 m.number) ∧ w1.cell? ⟨b, 3, none⟩ = some (.int .i64 m.index) ∧ w1.cell? ⟨b, 4, none⟩ = some (.string m.text) ∧ w1.cell? ⟨b, 5, none⟩ = some (.string x) ∧ w1.cell? ⟨b, 6, none⟩ = some (.pointer pl) ∧ w1.cell? ⟨b, 7, none⟩ = some (.pointer pr) ∧ w1.cell? ⟨w.heap.size, 0, none⟩ = some (.int .i64 n.kind) ∧ w1.cell? ⟨w.heap.size, 1, none⟩ = some (.string n.owner) ∧ w1.cell? ⟨w.heap.size, 2, none⟩ = some (.int .i64 n.number) ∧ w1.cell? ⟨w.heap.size, 3, none⟩ = some (.int .i64 n.index) ∧ w1.cell? ⟨w.heap.size, 4, none⟩ = some (.string n.text) := K.out _ (((Below.refl W.heap.size W).drew).trans hb1)
  go_wp2_with fail
  obtain ⟨q0, q1, q2, q3, q4, q5, q6, q7, q8, q9, q10, q11, q12⟩ := K1
  go_region_held3 (fun w' => w'.cell? ⟨b, 0, none⟩ = some (.int .i64 m.kind) ∧ w'.cell? ⟨b, 1, none⟩ = some (.string m.owner) ∧ w'.cell? ⟨b, 2, none⟩ = some (.int .i64 m.number) ∧ w'.cell? ⟨b, 3, none⟩ = some (.int .i64 m.index) ∧ w'.cell? ⟨b, 4, none⟩ = some (.string m.text) ∧ w'.cell? ⟨b, 5, none⟩ = some (.string x) ∧ w'.cell? ⟨b, 6, none⟩ = some (.pointer pl) ∧ w'.cell? ⟨b, 7, none⟩ = some (.pointer pr) ∧ w'.cell? ⟨w.heap.size, 0, none⟩ = some (.int .i64 n.kind) ∧ w'.cell? ⟨w.heap.size, 1, none⟩ = some (.string n.owner) ∧ w'.cell? ⟨w.heap.size, 2, none⟩ = some (.int .i64 n.number) ∧ w'.cell? ⟨w.heap.size, 3, none⟩ = some (.int .i64 n.index) ∧ w'.cell? ⟨w.heap.size, 4, none⟩ = some (.string n.text))
    (first | go_keep | exact K.out _ (((((Below.refl W.heap.size W).drew).trans hb1).drew).trans (hb2.mono (by simpa using hb1.size))) | exact K.out _ (((((Below.refl W.heap.size W).drew).trans hb1).drew).trans ((hb2.trans (hb3.mono hb2.size)).mono (by simpa using hb1.size))))
    (first
      | (go_at_call 39; refine (I1.out _ hB1.drew).mono ?_; rintro e w2 ⟨pj, rfl, hj, hb2⟩; have hBj := hB1.drew.trans (hb2.mono hB1.drew.size))
      | (go_at_call 53; refine (J1.out pj _ hBj hj).mono ?_; rintro e w3 ⟨pk, rfl, hk, hb3⟩))
  go_wp2_with fail
  go_ret
  exact ⟨pk, rfl, hk, hBj.trans (hb3.mono hBj.size)⟩

set_option maxRecDepth 100000 in
set_option maxHeartbeats 3200000 in
theorem without_eq1 (b x' y' z' : Nat) (pl : Option Addr) (l : T) (n m : Nm) (x : ByteArray) (w : World) (hn : n.Ok) (hm : m.Ok) (k : Blk w b 82 (nodeCells m x pl none x' y' z')) (hl : IsTree w pl l) (hc : cmpN n m = 0) :
    Calls Tryz.prog 39 #[.pointer (some ⟨b, 0, none⟩), nmV n] w fun e w' => ∃ p, e = .returned (.pointer p) ∧ IsTree w' p (l) ∧ Below w.heap.size w w' := by
  unfold nmV
  go_enter Tryz.func39, Tryz.ntmps39
  go_upto_region 1 with fail
  generalize hW : w.alloc (.cells #[.int .i64 n.kind, .string n.owner, .int .i64 n.number, .int .i64 n.index, .string n.text] 38) = W
  have b0 : Blk W w.heap.size 38 #[.int .i64 n.kind, .string n.owner, .int .i64 n.number, .int .i64 n.index, .string n.text] := by rw [← hW]; exact Blk.new _ _ _
  have hB0 : Below w.heap.size w W := by rw [← hW]; exact (Below.refl _ _).alloc (Nat.le_refl _) _
  have lW : w.heap.size < W.heap.size := b0.lt
  clear hW
  have k0 := k.below hB0 k.lt
  have bl : b < W.heap.size := k0.lt
  have KK : ∀ w', Below W.heap.size W w' → w'.cell? ⟨b, 0, none⟩ = some (.int .i64 m.kind) ∧ w'.cell? ⟨b, 1, none⟩ = some (.string m.owner) ∧ w'.cell? ⟨b, 2, none⟩ = some (.int .i64 m.number) ∧ w'.cell? ⟨b, 3, none⟩ = some (.int .i64 m.index) ∧ w'.cell? ⟨b, 4, none⟩ = some (.string m.text) ∧ w'.cell? ⟨b, 5, none⟩ = some (.string x) ∧ w'.cell? ⟨b, 6, none⟩ = some (.pointer pl) ∧ w'.cell? ⟨b, 7, none⟩ = some (.pointer none) ∧ w'.cell? ⟨w.heap.size, 0, none⟩ = some (.int .i64 n.kind) ∧ w'.cell? ⟨w.heap.size, 1, none⟩ = some (.string n.owner) ∧ w'.cell? ⟨w.heap.size, 2, none⟩ = some (.int .i64 n.number) ∧ w'.cell? ⟨w.heap.size, 3, none⟩ = some (.int .i64 n.index) ∧ w'.cell? ⟨w.heap.size, 4, none⟩ = some (.string n.text) := by
    intro w' hb
    have k1 := k0.below hb k0.lt
    have b1 := b0.below hb b0.lt
    exact ⟨k1.cell 0, k1.cell 1, k1.cell 2, k1.cell 3, k1.cell 4, k1.cell 5, k1.cell 6, k1.cell 7, b1.cell 0, b1.cell 1, b1.cell 2, b1.cell 3, b1.cell 4⟩
  have d0 : W.cell? ⟨b, 0, none⟩ = some (.int .i64 m.kind) := k0.cell 0
  have d1 : W.cell? ⟨b, 1, none⟩ = some (.string m.owner) := k0.cell 1
  have d2 : W.cell? ⟨b, 2, none⟩ = some (.int .i64 m.number) := k0.cell 2
  have d3 : W.cell? ⟨b, 3, none⟩ = some (.int .i64 m.index) := k0.cell 3
  have d4 : W.cell? ⟨b, 4, none⟩ = some (.string m.text) := k0.cell 4
  have d5 : W.cell? ⟨b, 5, none⟩ = some (.string x) := k0.cell 5
  have d6 : W.cell? ⟨b, 6, none⟩ = some (.pointer pl) := k0.cell 6
  have d7 : W.cell? ⟨b, 7, none⟩ = some (.pointer none) := k0.cell 7
  have c0 : W.cell? ⟨w.heap.size, 0, none⟩ = some (.int .i64 n.kind) := b0.cell 0
  have c1 : W.cell? ⟨w.heap.size, 1, none⟩ = some (.string n.owner) := b0.cell 1
  have c2 : W.cell? ⟨w.heap.size, 2, none⟩ = some (.int .i64 n.number) := b0.cell 2
  have c3 : W.cell? ⟨w.heap.size, 3, none⟩ = some (.int .i64 n.index) := b0.cell 3
  have c4 : W.cell? ⟨w.heap.size, 4, none⟩ = some (.string n.text) := b0.cell 4
  have CM := hid (fun w' => cmpN_any n m hn hm w')
  unfold nmV at CM
  have K := hid KK
  have J1 := hid hl
  clear KK k k0 b0 hl hn hm
  generalize cmpN n m = c at *
  go_wp2_with fail
  go_region_held3 (fun w' => w'.cell? ⟨b, 0, none⟩ = some (.int .i64 m.kind) ∧ w'.cell? ⟨b, 1, none⟩ = some (.string m.owner) ∧ w'.cell? ⟨b, 2, none⟩ = some (.int .i64 m.number) ∧ w'.cell? ⟨b, 3, none⟩ = some (.int .i64 m.index) ∧ w'.cell? ⟨b, 4, none⟩ = some (.string m.text) ∧ w'.cell? ⟨b, 5, none⟩ = some (.string x) ∧ w'.cell? ⟨b, 6, none⟩ = some (.pointer pl) ∧ w'.cell? ⟨b, 7, none⟩ = some (.pointer none) ∧ w'.cell? ⟨w.heap.size, 0, none⟩ = some (.int .i64 n.kind) ∧ w'.cell? ⟨w.heap.size, 1, none⟩ = some (.string n.owner) ∧ w'.cell? ⟨w.heap.size, 2, none⟩ = some (.int .i64 n.number) ∧ w'.cell? ⟨w.heap.size, 3, none⟩ = some (.int .i64 n.index) ∧ w'.cell? ⟨w.heap.size, 4, none⟩ = some (.string n.text))
    (first | go_keep | exact K.out _ (((Below.refl W.heap.size W).drew).trans hb1))
    (first | (go_at_call 20; refine (CM.out _).mono ?_; rintro e w1 ⟨rfl, hb1⟩))
  have hB1 : Below w.heap.size w w1 := hB0.drew.trans (hb1.mono hB0.drew.size)
  have K1 : w1.cell? ⟨b, 0, none⟩ = some (.int .i64 m.kind) ∧ w1.cell? ⟨b, 1, none⟩ = some (.string m.owner) ∧ w1.cell? ⟨b, 2, none⟩ = some (.int .i64 m.number) ∧ w1.cell? ⟨b, 3, none⟩ = some (.int .i64 m.index) ∧ w1.cell? ⟨b, 4, none⟩ = some (.string m.text) ∧ w1.cell? ⟨b, 5, none⟩ = some (.string x) ∧ w1.cell? ⟨b, 6, none⟩ = some (.pointer pl) ∧ w1.cell? ⟨b, 7, none⟩ = some (.pointer none) ∧ w1.cell? ⟨w.heap.size, 0, none⟩ = some (.int .i64 n.kind) ∧ w1.cell? ⟨w.heap.size, 1, none⟩ = some (.string n.owner) ∧ w1.cell? ⟨w.heap.size, 2, none⟩ = some (.int .i64 n.number) ∧ w1.cell? ⟨w.heap.size, 3, none⟩ = some (.int .i64 n.index) ∧ w1.cell? ⟨w.heap.size, 4, none⟩ = some (.string n.text) := K.out _ (((Below.refl W.heap.size W).drew).trans hb1)
  obtain ⟨q0, q1, q2, q3, q4, q5, q6, q7, q8, q9, q10, q11, q12⟩ := K1
  go_wp2_with fail
  go_ret
  exact ⟨pl, rfl, J1.out.below hB1, hB1⟩

set_option maxRecDepth 100000 in
set_option maxHeartbeats 3200000 in
theorem without_eq2 (b b2 x' y' z' : Nat) (pl : Option Addr) (l r rl rr : T) (rn : Nm) (rv : ByteArray) (n m : Nm) (x : ByteArray) (w : World) (hn : n.Ok) (hm : m.Ok) (k : Blk w b 82 (nodeCells m x pl (some ⟨b2, 0, none⟩) x' y' z')) (hl : IsTree w pl l) (hr : IsTree w (some ⟨b2, 0, none⟩) r) (hrr : r = .node rl rn rv rr) (hc : cmpN n m = 0) (hf : (T.node l (T.first rl rn rv rr).2.1 (T.first rl rn rv rr).2.2 (T.first rl rn rv rr).1).Fits) (hfr : (T.node rl rn rv rr).Fits) :
    Calls Tryz.prog 39 #[.pointer (some ⟨b, 0, none⟩), nmV n] w fun e w' => ∃ p, e = .returned (.pointer p) ∧ IsTree w' p (T.bal l (T.first rl rn rv rr).2.1 (T.first rl rn rv rr).2.2 (T.first rl rn rv rr).1) ∧ Below w.heap.size w w' := by
  unfold nmV
  go_enter Tryz.func39, Tryz.ntmps39
  go_upto_region 1 with fail
  generalize hW : w.alloc (.cells #[.int .i64 n.kind, .string n.owner, .int .i64 n.number, .int .i64 n.index, .string n.text] 38) = W
  have b0 : Blk W w.heap.size 38 #[.int .i64 n.kind, .string n.owner, .int .i64 n.number, .int .i64 n.index, .string n.text] := by rw [← hW]; exact Blk.new _ _ _
  have hB0 : Below w.heap.size w W := by rw [← hW]; exact (Below.refl _ _).alloc (Nat.le_refl _) _
  have lW : w.heap.size < W.heap.size := b0.lt
  clear hW
  have k0 := k.below hB0 k.lt
  have bl : b < W.heap.size := k0.lt
  have KK : ∀ w', Below W.heap.size W w' → w'.cell? ⟨b, 0, none⟩ = some (.int .i64 m.kind) ∧ w'.cell? ⟨b, 1, none⟩ = some (.string m.owner) ∧ w'.cell? ⟨b, 2, none⟩ = some (.int .i64 m.number) ∧ w'.cell? ⟨b, 3, none⟩ = some (.int .i64 m.index) ∧ w'.cell? ⟨b, 4, none⟩ = some (.string m.text) ∧ w'.cell? ⟨b, 5, none⟩ = some (.string x) ∧ w'.cell? ⟨b, 6, none⟩ = some (.pointer pl) ∧ w'.cell? ⟨b, 7, none⟩ = some (.pointer (some ⟨b2, 0, none⟩)) ∧ w'.cell? ⟨w.heap.size, 0, none⟩ = some (.int .i64 n.kind) ∧ w'.cell? ⟨w.heap.size, 1, none⟩ = some (.string n.owner) ∧ w'.cell? ⟨w.heap.size, 2, none⟩ = some (.int .i64 n.number) ∧ w'.cell? ⟨w.heap.size, 3, none⟩ = some (.int .i64 n.index) ∧ w'.cell? ⟨w.heap.size, 4, none⟩ = some (.string n.text) := by
    intro w' hb
    have k1 := k0.below hb k0.lt
    have b1 := b0.below hb b0.lt
    exact ⟨k1.cell 0, k1.cell 1, k1.cell 2, k1.cell 3, k1.cell 4, k1.cell 5, k1.cell 6, k1.cell 7, b1.cell 0, b1.cell 1, b1.cell 2, b1.cell 3, b1.cell 4⟩
  have d0 : W.cell? ⟨b, 0, none⟩ = some (.int .i64 m.kind) := k0.cell 0
  have d1 : W.cell? ⟨b, 1, none⟩ = some (.string m.owner) := k0.cell 1
  have d2 : W.cell? ⟨b, 2, none⟩ = some (.int .i64 m.number) := k0.cell 2
  have d3 : W.cell? ⟨b, 3, none⟩ = some (.int .i64 m.index) := k0.cell 3
  have d4 : W.cell? ⟨b, 4, none⟩ = some (.string m.text) := k0.cell 4
  have d5 : W.cell? ⟨b, 5, none⟩ = some (.string x) := k0.cell 5
  have d6 : W.cell? ⟨b, 6, none⟩ = some (.pointer pl) := k0.cell 6
  have d7 : W.cell? ⟨b, 7, none⟩ = some (.pointer (some ⟨b2, 0, none⟩)) := k0.cell 7
  have c0 : W.cell? ⟨w.heap.size, 0, none⟩ = some (.int .i64 n.kind) := b0.cell 0
  have c1 : W.cell? ⟨w.heap.size, 1, none⟩ = some (.string n.owner) := b0.cell 1
  have c2 : W.cell? ⟨w.heap.size, 2, none⟩ = some (.int .i64 n.number) := b0.cell 2
  have c3 : W.cell? ⟨w.heap.size, 3, none⟩ = some (.int .i64 n.index) := b0.cell 3
  have c4 : W.cell? ⟨w.heap.size, 4, none⟩ = some (.string n.text) := b0.cell 4
  have CM := hid (fun w' => cmpN_any n m hn hm w')
  unfold nmV at CM
  have K := hid KK
  subst hrr
  have J1 := hid (fun w' (hb : Below w.heap.size w w') => first_any rl rn rv rr hfr (some ⟨b2, 0, none⟩) w' (hr.below hb))
  have J2 := hid (fun pj w' (hb : Below w.heap.size w w') (hj : IsTree w' pj (T.first rl rn rv rr).1) => bal_any pl pj l (T.first rl rn rv rr).1 (T.first rl rn rv rr).2.1 (T.first rl rn rv rr).2.2 w' (hl.below hb) hj hf)
  unfold nmV at J2
  clear hf hfr
  clear KK k k0 b0 hl hr hn hm
  generalize cmpN n m = c at *
  go_wp2_with fail
  go_region_held3 (fun w' => w'.cell? ⟨b, 0, none⟩ = some (.int .i64 m.kind) ∧ w'.cell? ⟨b, 1, none⟩ = some (.string m.owner) ∧ w'.cell? ⟨b, 2, none⟩ = some (.int .i64 m.number) ∧ w'.cell? ⟨b, 3, none⟩ = some (.int .i64 m.index) ∧ w'.cell? ⟨b, 4, none⟩ = some (.string m.text) ∧ w'.cell? ⟨b, 5, none⟩ = some (.string x) ∧ w'.cell? ⟨b, 6, none⟩ = some (.pointer pl) ∧ w'.cell? ⟨b, 7, none⟩ = some (.pointer (some ⟨b2, 0, none⟩)) ∧ w'.cell? ⟨w.heap.size, 0, none⟩ = some (.int .i64 n.kind) ∧ w'.cell? ⟨w.heap.size, 1, none⟩ = some (.string n.owner) ∧ w'.cell? ⟨w.heap.size, 2, none⟩ = some (.int .i64 n.number) ∧ w'.cell? ⟨w.heap.size, 3, none⟩ = some (.int .i64 n.index) ∧ w'.cell? ⟨w.heap.size, 4, none⟩ = some (.string n.text))
    (first | go_keep | exact K.out _ (((Below.refl W.heap.size W).drew).trans hb1))
    (first | (go_at_call 20; refine (CM.out _).mono ?_; rintro e w1 ⟨rfl, hb1⟩))
  have hB1 : Below w.heap.size w w1 := hB0.drew.trans (hb1.mono hB0.drew.size)
  have K1 : w1.cell? ⟨b, 0, none⟩ = some (.int .i64 m.kind) ∧ w1.cell? ⟨b, 1, none⟩ = some (.string m.owner) ∧ w1.cell? ⟨b, 2, none⟩ = some (.int .i64 m.number) ∧ w1.cell? ⟨b, 3, none⟩ = some (.int .i64 m.index) ∧ w1.cell? ⟨b, 4, none⟩ = some (.string m.text) ∧ w1.cell? ⟨b, 5, none⟩ = some (.string x) ∧ w1.cell? ⟨b, 6, none⟩ = some (.pointer pl) ∧ w1.cell? ⟨b, 7, none⟩ = some (.pointer (some ⟨b2, 0, none⟩)) ∧ w1.cell? ⟨w.heap.size, 0, none⟩ = some (.int .i64 n.kind) ∧ w1.cell? ⟨w.heap.size, 1, none⟩ = some (.string n.owner) ∧ w1.cell? ⟨w.heap.size, 2, none⟩ = some (.int .i64 n.number) ∧ w1.cell? ⟨w.heap.size, 3, none⟩ = some (.int .i64 n.index) ∧ w1.cell? ⟨w.heap.size, 4, none⟩ = some (.string n.text) := K.out _ (((Below.refl W.heap.size W).drew).trans hb1)
  obtain ⟨q0, q1, q2, q3, q4, q5, q6, q7, q8, q9, q10, q11, q12⟩ := K1
  go_wp2_with (go_at_call 77; refine (J1.out _ hB1).mono ?_; rintro e w2 ⟨pf, qf, rfl, hpf, ⟨g, ql, qr, fx, fy, fz, rfl, hg⟩, hb2⟩)
  have hB2 : Below w.heap.size w w2 := hB1.trans (hb2.mono hB1.size)
  have hBW2 : Below W.heap.size W w2 := (((Below.refl W.heap.size W).drew).trans hb1).trans (hb2.mono hb1.size)
  have gl : g < w2.heap.size := Nat.lt_of_lt_of_le hg.lt hb2.size
  have lb2 := hb2.size
  have KG : ∀ w', Below w2.heap.size w2 w' → w'.cell? ⟨g, 0, none⟩ = some (.int .i64 (T.first rl rn rv rr).2.1.kind) ∧ w'.cell? ⟨g, 1, none⟩ = some (.string (T.first rl rn rv rr).2.1.owner) ∧ w'.cell? ⟨g, 2, none⟩ = some (.int .i64 (T.first rl rn rv rr).2.1.number) ∧ w'.cell? ⟨g, 3, none⟩ = some (.int .i64 (T.first rl rn rv rr).2.1.index) ∧ w'.cell? ⟨g, 4, none⟩ = some (.string (T.first rl rn rv rr).2.1.text) ∧ w'.cell? ⟨g, 5, none⟩ = some (.string (T.first rl rn rv rr).2.2) ∧ w'.cell? ⟨g, 6, none⟩ = some (.pointer ql) ∧ w'.cell? ⟨g, 7, none⟩ = some (.pointer qr) := by
    intro w' hb
    have k1 := (hg.below hb2 hg.lt).below hb gl
    exact ⟨k1.cell 0, k1.cell 1, k1.cell 2, k1.cell 3, k1.cell 4, k1.cell 5, k1.cell 6, k1.cell 7⟩
  clear hg
  generalize hff : T.first rl rn rv rr = ff at *
  have HFF := hid hff
  clear hff
  obtain ⟨ft, fn, fv⟩ := ff
  dsimp only at hpf KG J2
  have KF := hid KG
  have K2 := K.out _ hBW2
  have K3 := KF.out _ (Below.refl _ _)
  clear KG
  obtain ⟨u0, u1, u2, u3, u4, u5, u6, u7, u8, u9, u10, u11, u12⟩ := K2
  obtain ⟨s0, s1, s2, s3, s4, s5, s6, s7⟩ := K3
  go_region_held3 (fun w' => w'.cell? ⟨b, 0, none⟩ = some (.int .i64 m.kind) ∧ w'.cell? ⟨b, 1, none⟩ = some (.string m.owner) ∧ w'.cell? ⟨b, 2, none⟩ = some (.int .i64 m.number) ∧ w'.cell? ⟨b, 3, none⟩ = some (.int .i64 m.index) ∧ w'.cell? ⟨b, 4, none⟩ = some (.string m.text) ∧ w'.cell? ⟨b, 5, none⟩ = some (.string x) ∧ w'.cell? ⟨b, 6, none⟩ = some (.pointer pl) ∧ w'.cell? ⟨b, 7, none⟩ = some (.pointer (some ⟨b2, 0, none⟩)) ∧ w'.cell? ⟨w.heap.size, 0, none⟩ = some (.int .i64 n.kind) ∧ w'.cell? ⟨w.heap.size, 1, none⟩ = some (.string n.owner) ∧ w'.cell? ⟨w.heap.size, 2, none⟩ = some (.int .i64 n.number) ∧ w'.cell? ⟨w.heap.size, 3, none⟩ = some (.int .i64 n.index) ∧ w'.cell? ⟨w.heap.size, 4, none⟩ = some (.string n.text) ∧ w'.cell? ⟨g, 0, none⟩ = some (.int .i64 fn.kind) ∧ w'.cell? ⟨g, 1, none⟩ = some (.string fn.owner) ∧ w'.cell? ⟨g, 2, none⟩ = some (.int .i64 fn.number) ∧ w'.cell? ⟨g, 3, none⟩ = some (.int .i64 fn.index) ∧ w'.cell? ⟨g, 4, none⟩ = some (.string fn.text) ∧ w'.cell? ⟨g, 5, none⟩ = some (.string fv) ∧ w'.cell? ⟨g, 6, none⟩ = some (.pointer ql) ∧ w'.cell? ⟨g, 7, none⟩ = some (.pointer qr))
    (first | go_keep | (have hK := K.out _ ((hBW2.drew).trans (hb3.mono (by simpa using hBW2.size))); have hG := KF.out _ (((Below.refl _ w2).drew).trans hb3); exact ⟨hK.1, hK.2.1, hK.2.2.1, hK.2.2.2.1, hK.2.2.2.2.1, hK.2.2.2.2.2.1, hK.2.2.2.2.2.2.1, hK.2.2.2.2.2.2.2.1, hK.2.2.2.2.2.2.2.2.1, hK.2.2.2.2.2.2.2.2.2.1, hK.2.2.2.2.2.2.2.2.2.2.1, hK.2.2.2.2.2.2.2.2.2.2.2.1, hK.2.2.2.2.2.2.2.2.2.2.2.2, hG⟩))
    (first | (go_at_call 53; refine (J2.out pf _ hB2.drew (hpf.below ((Below.refl _ _).drew))).mono ?_; rintro e w3 ⟨pj, rfl, hj, hb3⟩))
  go_wp2_with fail
  go_ret
  exact ⟨pj, rfl, by rw [HFF.out]; exact hj, hB2.drew.trans (hb3.mono hB2.drew.size)⟩

theorem without_any (t : T) (n : Nm) (hn : n.Ok) (ht : t.Ok) (h1 : t.Fits) : ∀ (p : Option Addr) (w : World), IsTree w p t → Calls Tryz.prog 39 #[.pointer p, nmV n] w fun e w' => ∃ p, e = .returned (.pointer p) ∧ IsTree w' p (t.without n) ∧ Below w.heap.size w w' := by
  induction t with
  | nil =>
    intro p w hp
    obtain rfl : p = none := hp
    exact without_nil n w
  | node l m x r ihl ihr =>
    intro p w hp
    obtain ⟨b, pl, pr, rfl, ⟨x', y', z', k⟩, hl, hr⟩ := hp.blk
    obtain ⟨o1, o2, o3, o4⟩ := ht
    obtain ⟨h1, h2⟩ := h1
    simp only [T.size, T.bytes] at h1 h2
    have z1 := T.without_size l n
    have z2 := T.without_size r n
    unfold T.without
    split
    · next hc =>
      exact without_lt b x' y' z' pl pr l r n m x w hn o2 k hl hr hc ⟨by simp only [T.size]; omega, by simp only [T.bytes]; omega⟩ (fun w' hb => ihl o1 ⟨by omega, by omega⟩ pl w' (hl.below hb))
    · next hc =>
      split
      · next hc' =>
        exact without_gt b x' y' z' pl pr l r n m x w hn o2 k hl hr hc' ⟨by simp only [T.size]; omega, by simp only [T.bytes]; omega⟩ (fun w' hb => ihr o4 ⟨by omega, by omega⟩ pr w' (hr.below hb))
      · next hc' =>
        split
        · next =>
          obtain rfl : pr = none := hr
          exact without_eq1 b x' y' z' pl l n m x w hn o2 k hl (by omega)
        · next rl rn rv rr =>
          obtain ⟨b2, pl2, pr2, rfl, -⟩ := hr.blk
          have z := T.first_size rl rn rv rr
          simp only [T.size, T.bytes] at h1 h2
          exact without_eq2 b b2 x' y' z' pl l _ rl rr rn rv n m x w hn o2 k hl hr rfl (by omega) ⟨by simp only [T.size]; omega, by simp only [T.bytes]; omega⟩ ⟨by simp only [T.size]; omega, by simp only [T.bytes]; omega⟩
end Go.Proofs.YtfdbanhbegngoaaGreatDoor
