/-
  LAYER 5, WALKED: walk, all: the iterator over a tree. (After the kit's worked iterator over a binary tree.)
-/
import Derived.Test.YtfdbanhbegngoaaGreatDoorState2
namespace Go.Proofs.YtfdbanhbegngoaaGreatDoor
open Go.RowKit Go.Shelf

attribute [local go_sem] Oper.semAt_some

theorem room_of_none {F : Fence} (hd : F.depth = none) (k : Nat) : F.room k := fun d h => by rw [hd] at h; cases h
theorem RoundIn.anyDepth {F : Fence} (hd : F.depth = none) {m m' : Nat} {P : Program} {l : Nat} {f : FuncId} {tmps : Array Value} {assign body : Code} {w : World} {R : Ending → World → Prop}
    (h : RoundIn F m P l f tmps assign body w R) : RoundIn F m' P l f tmps assign body w R := ⟨h.1, fun c cs _ => h.2 c cs (room_of_none hd _)⟩
theorem YieldAt.anyDepth {F : Fence} (hd : F.depth = none) {m : Nat} (m' : Nat) {P : Program} {l : Nat} {args : Array Value} {W : World} {R : Ending → World → Prop} (h : YieldAt F m P l args W R) : YieldAt F m' P l args W R := by
  obtain ⟨fn, tmps, assign, body, hy, hR⟩ := h
  exact ⟨fn, tmps, assign, body, hy, RoundIn.anyDepth hd hR⟩

/-- What lies at a node, and what is known of its name and value. -/
def NodeAt (Q : Nm × ByteArray → Prop) (w : World) (x : Nat × Nm × ByteArray) : Prop := (∃ pl pr a b c, Blk w x.1 82 (nodeCells x.2.1 x.2.2 pl pr a b c)) ∧ Q x.2
abbrev Node (Q : Nm × ByteArray → Prop) (w : World) := { x : Nat × Nm × ByteArray // NodeAt Q w x }
variable {Q : Nm × ByteArray → Prop}
def nodeV {w : World} (x : Node Q w) : Value := .pointer (some ⟨x.1.1, 0, none⟩)
/-- A tree and its nodes in order. -/
def ITree (w : World) : Option Addr → T → List (Node Q w) → Prop
  | p, .nil, xs => p = none ∧ xs = []
  | p, .node l n v r, xs => ∃ (b : Nat) (pl pr : Option Addr) (xl xr : List (Node Q w)) (h : NodeAt Q w (b, n, v)), p = some ⟨b, 0, none⟩ ∧ xs = xl ++ ⟨(b, n, v), h⟩ :: xr ∧ w.cell? ⟨b, 6, none⟩ = some (.pointer pl) ∧ w.cell? ⟨b, 7, none⟩ = some (.pointer pr) ∧ ITree w pl l xl ∧ ITree w pr r xr
theorem IsTree.nodes {w : World} : ∀ {t : T} {p : Option Addr}, IsTree w p t → (∀ x ∈ t.toList, Q x) → ∃ xs : List (Node Q w), ITree w p t xs ∧ xs.map (fun x => x.1.2) = t.toList
  | .nil, _, h, _ => ⟨[], ⟨h, rfl⟩, rfl⟩
  | .node l n v r, _, ⟨b, pl, pr, hp, hk, hl, hr⟩, hQ => by
    obtain ⟨xl, a1, a2⟩ := IsTree.nodes hl (fun x hx => hQ x (by simp [T.toList, hx]))
    obtain ⟨xr, b1, b2⟩ := IsTree.nodes hr (fun x hx => hQ x (by simp [T.toList, hx]))
    have hn : NodeAt Q w (b, n, v) := ⟨⟨_, _, _, _, _, hk⟩, hQ (n, v) (by simp [T.toList])⟩
    exact ⟨xl ++ ⟨(b, n, v), hn⟩ :: xr, ⟨b, pl, pr, xl, xr, hn, hp, rfl, hk.cell 6, hk.cell 7, a1, b1⟩, by simp [a2, b2, T.toList]⟩

set_option maxRecDepth 100000 in
set_option maxHeartbeats 2000000 in
theorem treeWalk_in (w0 : World) (F : Fence) (hd : F.depth = none) (h6 : F.fn 73) (hro : F.round = none) (l N : Nat) (J Jx : List (Node Q w0) → World → Prop)
    (hY : ∀ m pre x W, J pre W → pre.length < N → YieldAt F m Tryz.prog l #[nodeV x] W fun e W' =>
      (e = .returned (.bool true) ∧ J (pre ++ [x]) W' ∧ Below w0.heap.size W W') ∨ (e = .returned (.bool false) ∧ Jx (pre ++ [x]) W')) (t : T) :
    ∀ (n : Nat) (p : Option Addr) (xs pre : List (Node Q w0)) (W : World), ITree w0 p t xs → Below w0.heap.size w0 W → J pre W → pre.length + xs.length ≤ N →
      CallsIn F n Tryz.prog 73 #[.pointer p, .func (.yield l) #[] #[]] W fun e W' =>
        (e = .returned (.bool true) ∧ J (pre ++ xs) W' ∧ Below w0.heap.size W W') ∨ (e = .returned (.bool false) ∧ ∃ q, q <+: xs ∧ Jx (pre ++ q) W') := by
  induction t with
  | nil =>
    intro n p xs pre W ht _ hJ _
    obtain ⟨rfl, rfl⟩ : p = none ∧ xs = [] := ht
    refine callsIn_of_wp Tryz.func73 rfl h6 ?_ hro
    simp only [Tryz.ntmps73, List.size_toArray, List.length_cons, List.length_nil, Nat.reduceAdd, Nat.reduceSub, Array.replicate_succ, Array.replicate_zero, List.push_toArray, List.append_toArray, List.nil_append, List.cons_append]
    gi_wp2
    · exact absurd ‹some undef = some (Value.bool _)› (by unfold undef; intro h; cases h)
    all_goals
      refine ⟨fun _ h => (by cases h), ?_⟩
      gi_wp2
      go_ret
      exact .inl ⟨rfl, by simpa using hJ, Below.refl _ _⟩
  | node tl m v tr ihl ihr =>
    intro n p xs pre W ht hBW hJ hN
    obtain ⟨b, pl, pr, xl, xr, hx, rfl, rfl, c0, c2, hl, hr⟩ := ht
    have hdd : ∀ k : Nat, (F.depth.isSome = true → 1 ≤ k) := fun k h => by rw [hd] at h; cases h
    simp only [List.length_append, List.length_cons] at hN
    have hb : b < w0.heap.size := by obtain ⟨⟨_, _, _, _, _, h⟩, _⟩ := hx; exact h.lt
    have c0 := (hBW.cell (p := ⟨b, 6, none⟩) hb).trans c0
    have hy2 : ∀ W1, J (pre ++ xl) W1 → Below w0.heap.size W W1 → YieldAt F (n - 1) Tryz.prog l #[.pointer (some ⟨b, 0, none⟩)] W1 fun e W2 =>
        (e = .returned (.bool true) ∧ J (pre ++ xl ++ [⟨(b, m, v), hx⟩]) W2 ∧ Below w0.heap.size W W2 ∧ W2.cell? ⟨b, 7, none⟩ = some (.pointer pr)) ∨ (e = .returned (.bool false) ∧ Jx (pre ++ xl ++ [⟨(b, m, v), hx⟩]) W2) := fun W1 hJ1 hb1 =>
      YieldAt.mono (hY (n - 1) _ ⟨(b, m, v), hx⟩ W1 hJ1 (by simp; omega)) fun e W2 h => h.elim
        (fun ⟨he, hj, hb2⟩ => .inl ⟨he, hj, hb1.trans hb2, ((hBW.trans (hb1.trans hb2)).cell (p := ⟨b, 7, none⟩) hb).trans c2⟩) .inr
    have ih1 := (ihl (n - 1) pl xl pre W hl hBW hJ (by omega)).mono (R' := fun e W1 =>
        (e = .returned (.bool true) ∧ YieldAt F (n - 1) Tryz.prog l #[.pointer (some ⟨b, 0, none⟩)] W1 fun e W2 =>
          (e = .returned (.bool true) ∧ J (pre ++ xl ++ [⟨(b, m, v), hx⟩]) W2 ∧ Below w0.heap.size W W2 ∧ W2.cell? ⟨b, 7, none⟩ = some (.pointer pr)) ∨ (e = .returned (.bool false) ∧ Jx (pre ++ xl ++ [⟨(b, m, v), hx⟩]) W2)) ∨
        (e = .returned (.bool false) ∧ ∃ q, q <+: xl ∧ Jx (pre ++ q) W1))
      (fun e W1 h => h.elim (fun ⟨he, hj, hb1⟩ => .inl ⟨he, hy2 W1 hj hb1⟩) .inr)
    clear hy2 ihl
    refine callsIn_of_wp Tryz.func73 rfl h6 ?_ hro
    simp only [Tryz.ntmps73, List.size_toArray, List.length_cons, List.length_nil, Nat.reduceAdd, Nat.reduceSub, Array.replicate_succ, Array.replicate_zero, List.push_toArray, List.append_toArray, List.nil_append, List.cons_append]
    gi_wp2_with (first
      | ((try refine ⟨hdd _, ?_⟩); gi_at_call 73; refine ih1.mono ?_; clear ih1; rintro e W1 (⟨rfl, fn, tmps, assign, body, hy, hR⟩ | ⟨rfl, q, hq, hx1⟩))
      | ((try refine ⟨hdd _, ?_⟩); refine hR.mono ?_; clear hR; rintro e W2 (⟨rfl, hJ2, hb2, c2'⟩ | ⟨rfl, hx2⟩))
      | ((try refine ⟨hdd _, ?_⟩); gi_at_call 73; refine (ihr (n - 1) pr xr _ _ hr (hBW.trans hb2) hJ2 (by simp; omega)).mono ?_; rintro e W3 (⟨rfl, hJ3, hb3⟩ | ⟨rfl, q, hq, hx3⟩)))
    · go_ret
      exact .inl ⟨rfl, by simpa [List.append_assoc] using hJ3, hb2.trans hb3⟩
    · go_ret
      obtain ⟨r, hr'⟩ := hq
      exact .inr ⟨rfl, xl ++ ⟨(b, m, v), hx⟩ :: q, ⟨r, by simp [← hr']⟩, by simpa [List.append_assoc] using hx3⟩
    · go_ret
      exact .inr ⟨rfl, xl ++ [⟨(b, m, v), hx⟩], ⟨xr, by simp⟩, by simpa [List.append_assoc] using hx2⟩
    · refine ⟨fun _ h => (by cases h), ?_⟩
      gi_wp2
      go_ret
      exact .inr ⟨rfl, q, hq.trans (by simp), hx1⟩

set_option maxHeartbeats 1000000 in
theorem all1_in (w0 : World) (F : Fence) (hd : F.depth = none) (n : Nat) (h5 : F.fn 72) (h6 : F.fn 73) (hro : F.round = none) (l Bt : Nat) (p0 : Option Addr) (t : T) (xs : List (Node Q w0)) (J Jx : List (Node Q w0) → World → Prop)
    (hY : ∀ pre x W, J pre W → pre.length < xs.length → YieldAt F (n - 1) Tryz.prog l #[nodeV x] W fun e W' =>
      (e = .returned (.bool true) ∧ J (pre ++ [x]) W' ∧ Below w0.heap.size W W') ∨ (e = .returned (.bool false) ∧ Jx (pre ++ [x]) W'))
    (W : World) (hBW : Below w0.heap.size w0 W) (hBt : W.cell? ⟨Bt, 0, none⟩ = some (.pointer p0)) (hT : ITree w0 p0 t xs) (h0 : J [] W) :
    CallsIn F n Tryz.prog 72 #[.func (.yield l) #[] #[], .pointer (some ⟨Bt, 0, none⟩)] W fun e W' => (∃ v, e = .returned v) ∧
      ((∃ ys, ys = xs ∧ J ys W') ∨ (∃ pre, pre <+: xs ∧ Jx pre W')) := by
  have hdd : ∀ k : Nat, (F.depth.isSome = true → 1 ≤ k) := fun k h => by rw [hd] at h; cases h
  have hp := treeWalk_in w0 F hd h6 hro l xs.length J Jx (fun m pre x W hj hl => YieldAt.anyDepth hd m (hY pre x W hj hl)) t (n - 1) p0 xs [] W hT hBW h0 (by simp)
  refine callsIn_of_wp Tryz.func72 rfl h5 ?_ hro
  simp only [Tryz.ntmps72, List.size_toArray, List.length_cons, List.length_nil, Nat.reduceAdd, Nat.reduceSub, Array.replicate_succ, Array.replicate_zero, List.push_toArray, List.append_toArray, List.nil_append, List.cons_append]
  gi_wp2_with ((try refine ⟨hdd _, ?_⟩); gi_at_call 73; refine hp.mono ?_; clear hp; rintro e W1 (⟨rfl, hJ1, _⟩ | ⟨rfl, q, hq, hx⟩))
  · go_end0
    exact ⟨⟨_, rfl⟩, .inl ⟨_, rfl, by simpa using hJ1⟩⟩
  · go_end0
    exact ⟨⟨_, rfl⟩, .inr ⟨q, hq, by simpa using hx⟩⟩

set_option maxHeartbeats 1000000 in
theorem all_in (n : Nat) (p0 : Option Addr) (w : World) :
    CallsIn Fence.wide n Tryz.prog 34 #[.pointer p0] w fun e w' => e = .returned (.func (.func 72) #[] #[.pointer (some ⟨w.heap.size, 0, none⟩)]) ∧ w' = w.alloc (.cells #[.pointer p0] 53) := by
  refine callsIn_of_wp Tryz.func34 rfl trivial ?_ rfl
  simp only [Tryz.ntmps34, List.size_toArray, List.length_cons, List.length_nil, Nat.reduceAdd, Nat.reduceSub, Array.replicate_succ, Array.replicate_zero, List.push_toArray, List.append_toArray, List.nil_append, List.cons_append]
  gi_wp2
  go_ret
  exact ⟨rfl, rfl⟩

/-- The iterator stops: all nodes in order, or a part from the beginning. -/
theorem all_stops (w0 : World) (n : Nat) (Bt : Nat) (p0 : Option Addr) (t : T) (xs : List (Node Q w0)) (w : World) (hBt : Bt < w.heap.size) (hBw : Below w0.heap.size w0 w)
    (hc : w.cell? ⟨Bt, 0, none⟩ = some (.pointer p0)) (hT : ITree w0 p0 t xs) :
    SeqStopsK Fence.wide n Tryz.prog 72 #[.pointer (some ⟨Bt, 0, none⟩)] (fun x : Node Q w0 => #[nodeV x]) (Below w0.heap.size) (fun ys => ys = xs) (fun pre => pre <+: xs) xs.length w := fun l J Jx W hW _ _ hY h0 =>
  all1_in w0 Fence.wide rfl n trivial trivial rfl l Bt p0 t xs J Jx hY W (hBw.trans (hW.mono hBw.size)) ((hW.cell (p := ⟨Bt, 0, none⟩) hBt).trans hc) hT h0
end Go.Proofs.YtfdbanhbegngoaaGreatDoor
