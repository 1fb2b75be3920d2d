/-
  LAYER 5, WALKED: New, tree, Get. (Written by the program gen_state.py.)
-/
import Derived.Test.YtnbgfalhmnbefaaGreatDoorOut
namespace Go.Proofs.YtnbgfalhmnbefaaGreatDoor
open Go.RowKit

/-- A pointer to a state that holds a tree. -/
def IsState (w : World) (p : Option Addr) (t : T) : Prop := ∃ (s : Nat) (r : Option Addr), p = some ⟨s, 0, none⟩ ∧ Blk w s 95 #[.pointer r] ∧ IsTree w r t
theorem IsState.below {w w' : World} {p : Option Addr} {t : T} (h : IsState w p t) (hb : Below w.heap.size w w') : IsState w' p t := by
  obtain ⟨s, r, hp, hk, ht⟩ := h
  exact ⟨s, r, hp, hk.below hb hk.lt, ht.below hb⟩
/-- Or no state at all. -/
def StT (w : World) (p : Option Addr) (t : T) : Prop := (p = none ∧ t = .nil) ∨ IsState w p t
theorem StT.below {w w' : World} {p : Option Addr} {t : T} (h : StT w p t) (hb : Below w.heap.size w w') : StT w' p t := h.imp_right fun h => h.below hb

theorem ret_tup2 {a b c d : Value} (h1 : a = c) (h2 : b = d) : Ending.returned (.tuple #[a, b]) = .returned (.tuple #[c, d]) := by rw [h1, h2]

theorem new_any (w : World) : Calls Tryz.prog 20 #[] w fun e w' => ∃ p, e = .returned (.pointer p) ∧ IsState w' p .nil ∧ Below w.heap.size w w' := by
  go_enter Tryz.func20, Tryz.ntmps20
  go_wp2
  go_ret
  exact ⟨_, rfl, ⟨_, none, rfl, Blk.new _ _ _, rfl⟩, (Below.refl _ _).alloc (Nat.le_refl _) _⟩

theorem treeOf_any (p : Option Addr) (t : T) (w : World) (h : StT w p t) : Calls Tryz.prog 43 #[.pointer p] w fun e w' => ∃ r, e = .returned (.pointer r) ∧ IsTree w r t ∧ w = w' := by
  rcases h with ⟨rfl, rfl⟩ | ⟨s, r, rfl, hk, ht⟩
  · go_enter Tryz.func43, Tryz.ntmps43
    go_wp2
    go_ret
    exact ⟨none, rfl, rfl, rfl⟩
  · have c0 : w.cell? ⟨s, 0, none⟩ = some (.pointer r) := hk.cell 0
    have H := hid ht
    clear ht hk
    go_enter Tryz.func43, Tryz.ntmps43
    go_wp2
    go_ret
    exact ⟨r, rfl, H.out, rfl⟩
theorem len_any (p : Option Addr) (t : T) (w : World) (h : StT w p t) : Calls Tryz.prog 34 #[.pointer p] w fun e w' => e = .returned (.int .i64 t.size) ∧ w = w' := by
  go_enter Tryz.func34, Tryz.ntmps34
  go_wp2_with (first
    | (go_at_call 43; refine (treeOf_any p t _ h).mono ?_; rintro e w' ⟨r, rfl, hr, rfl⟩)
    | (go_at_call 66; refine (many_any r t _ hr).mono ?_; rintro e w' ⟨rfl, rfl⟩))
  go_ret
  exact ⟨rfl, rfl⟩
theorem total2_any (p : Option Addr) (t : T) (w : World) (h : StT w p t) : Calls Tryz.prog 35 #[.pointer p] w fun e w' => e = .returned (.int .i64 t.bytes) ∧ w = w' := by
  go_enter Tryz.func35, Tryz.ntmps35
  go_wp2_with (first
    | (go_at_call 43; refine (treeOf_any p t _ h).mono ?_; rintro e w' ⟨r, rfl, hr, rfl⟩)
    | (go_at_call 67; refine (total_any r t _ hr).mono ?_; rintro e w' ⟨rfl, rfl⟩))
  go_ret
  exact ⟨rfl, rfl⟩

/-- What the size's cell of a tree says. -/
def treeSz (w : World) (v : Value) : Nat := match v with | .pointer (some a) => (intOf ((w.cell? ⟨a.block, 9, none⟩).getD (.bool false))).toNat | _ => 0
theorem treeSz_of {w : World} {p : Option Addr} {t : T} (h : IsTree w p t) : treeSz w (.pointer p) = t.size := by
  cases t with
  | nil => obtain rfl : p = none := h; rfl
  | node l n v r =>
    obtain ⟨b, pl, pr, rfl, hk, -, -⟩ := h
    have c : w.cell? ⟨b, 9, none⟩ = some (.int .i64 (T.node l n v r).size) := hk.cell 9
    simp [treeSz, c, intOf]

def getS (o : Option ByteArray) : ByteArray := o.getD ⟨#[]⟩

set_option maxRecDepth 100000 in
set_option maxHeartbeats 3200000 in
theorem get_any (p : Option Addr) (t : T) (n : Nm) (hn : n.Ok) (hT : t.Ok) (w : World) (h : StT w p t) :
    Calls Tryz.prog 15 #[.pointer p, nmV n] w fun e w' => e = .returned (.tuple #[.string (getS (t.get n)), .bool (t.get n).isSome]) ∧ Below w.heap.size w w' := by
  unfold nmV
  go_enter Tryz.func15, Tryz.ntmps15
  go_upto_region 1 with fail
  generalize hW : w.alloc (.cells #[.int .i64 n.kind, .string n.owner, .int .i64 n.number, .int .i64 n.index, .string n.text] 34) = W
  have b0 : Blk W w.heap.size 34 #[.int .i64 n.kind, .string n.owner, .int .i64 n.number, .int .i64 n.index, .string n.text] := by rw [← hW]; exact Blk.new _ _ _
  have hB0 : Below w.heap.size w W := by rw [← hW]; exact (Below.refl _ _).alloc (Nat.le_refl _) _
  have lW : w.heap.size < W.heap.size := b0.lt
  clear hW
  have h' := h.below hB0
  clear h
  go_wp2_with (go_at_call 43; refine (treeOf_any p t _ h').mono ?_; rintro e w' ⟨r, rfl, hr, rfl⟩)
  have H' := hid h'
  clear h'
  go_loopw [6] (fun tv wr => ∃ (tr : T) (ptr : Option Addr), tv = .pointer ptr ∧ IsTree W ptr tr ∧ tr.Ok ∧ t.get n = tr.get n ∧ Below W.heap.size W wr) (fun tv _ => treeSz W tv)
  case atStart => exact ⟨t, r, rfl, hr, hT, rfl, Below.refl _ _⟩
  case round =>
    obtain ⟨tr, ptr, rfl, htr, hok, he, hBw⟩ := hrel
    have HE := hid he; clear he
    have HSZ := hid (treeSz_of htr)
    cases tr with
    | nil =>
      obtain rfl : ptr = none := htr
      go_wp2
      go_ret2
      exact ⟨ret_tup2 (by rw [HE.out]; rfl) (by rw [HE.out]; rfl), hB0.trans (hBw.mono hB0.size)⟩
    | node l m x rt =>
      obtain ⟨b, pl, pr, rfl, ⟨x', y', z', k0⟩, hl, hr'⟩ := htr.blk
      clear htr
      have bl : b < W.heap.size := k0.lt
      have KK : ∀ w', Below W.heap.size W w' → w'.cell? ⟨b, 0, none⟩ = some (.int .i64 m.kind) ∧ w'.cell? ⟨b, 1, none⟩ = some (.string m.owner) ∧ w'.cell? ⟨b, 2, none⟩ = some (.int .i64 m.number) ∧ w'.cell? ⟨b, 3, none⟩ = some (.int .i64 m.index) ∧ w'.cell? ⟨b, 4, none⟩ = some (.string m.text) ∧ w'.cell? ⟨b, 5, none⟩ = some (.string x) ∧ w'.cell? ⟨b, 6, none⟩ = some (.pointer pl) ∧ w'.cell? ⟨b, 7, none⟩ = some (.pointer pr) ∧ w'.cell? ⟨w.heap.size, 0, none⟩ = some (.int .i64 n.kind) ∧ w'.cell? ⟨w.heap.size, 1, none⟩ = some (.string n.owner) ∧ w'.cell? ⟨w.heap.size, 2, none⟩ = some (.int .i64 n.number) ∧ w'.cell? ⟨w.heap.size, 3, none⟩ = some (.int .i64 n.index) ∧ w'.cell? ⟨w.heap.size, 4, none⟩ = some (.string n.text) := by
        intro w' hb
        have k1 := k0.below hb k0.lt
        have b1 := b0.below hb b0.lt
        exact ⟨k1.cell 0, k1.cell 1, k1.cell 2, k1.cell 3, k1.cell 4, k1.cell 5, k1.cell 6, k1.cell 7, b1.cell 0, b1.cell 1, b1.cell 2, b1.cell 3, b1.cell 4⟩
      obtain ⟨o1, o2, o3, o4⟩ := hok
      have CM := hid (fun w' => cmpN_any n m hn o2 w')
      unfold nmV at CM
      have HD := hid (show (T.node l m x rt).get n = if cmpN n m < 0 then l.get n else if 0 < cmpN n m then rt.get n else some x from rfl)
      obtain ⟨q0, q1, q2, q3, q4, q5, q6, q7, q8, q9, q10, q11, q12⟩ := KK wr hBw
      have K := hid KK
      have L := hid (And.intro hl (And.intro hr' (And.intro o1 o4)))
      clear KK k0 hl hr' o1 o2 o3 o4
      generalize cmpN n m = c at *
      go_wp2_with fail
      go_region_held3 (fun w' => w'.cell? ⟨b, 0, none⟩ = some (.int .i64 m.kind) ∧ w'.cell? ⟨b, 1, none⟩ = some (.string m.owner) ∧ w'.cell? ⟨b, 2, none⟩ = some (.int .i64 m.number) ∧ w'.cell? ⟨b, 3, none⟩ = some (.int .i64 m.index) ∧ w'.cell? ⟨b, 4, none⟩ = some (.string m.text) ∧ w'.cell? ⟨b, 5, none⟩ = some (.string x) ∧ w'.cell? ⟨b, 6, none⟩ = some (.pointer pl) ∧ w'.cell? ⟨b, 7, none⟩ = some (.pointer pr) ∧ w'.cell? ⟨w.heap.size, 0, none⟩ = some (.int .i64 n.kind) ∧ w'.cell? ⟨w.heap.size, 1, none⟩ = some (.string n.owner) ∧ w'.cell? ⟨w.heap.size, 2, none⟩ = some (.int .i64 n.number) ∧ w'.cell? ⟨w.heap.size, 3, none⟩ = some (.int .i64 n.index) ∧ w'.cell? ⟨w.heap.size, 4, none⟩ = some (.string n.text))
        (first | go_keep | exact K.out _ ((hBw.drew).trans (hb1.mono hBw.drew.size)))
        (first | (go_at_call 44; refine (CM.out _).mono ?_; rintro e w1 ⟨rfl, hb1⟩))
      have hB1 : Below W.heap.size W w1 := (hBw.drew).trans (hb1.mono hBw.drew.size)
      obtain ⟨u0, u1, u2, u3, u4, u5, u6, u7, u8, u9, u10, u11, u12⟩ := K.out _ hB1
      by_cases hc : c < 0
      · go_wp2_with fail
        go_roundw
        case rel => exact ⟨l, pl, rfl, L.out.1, L.out.2.2.1, by rw [HE.out, HD.out, if_pos hc], hB1⟩
        case measure => rw [treeSz_of L.out.1, HSZ.out]; simp only [T.size]; omega
      · by_cases hc' : 0 < c
        · go_wp2_with fail
          go_roundw
          case rel => exact ⟨rt, pr, rfl, L.out.2.1, L.out.2.2.2, by rw [HE.out, HD.out, if_neg (show ¬ c < 0 by omega), if_pos (show 0 < c by omega)], hB1⟩
          case measure => rw [treeSz_of L.out.2.1, HSZ.out]; simp only [T.size]; omega
        · go_wp2_with fail
          go_ret2
          exact ⟨ret_tup2 (by rw [HE.out, HD.out, if_neg (show ¬ c < 0 by omega), if_neg (show ¬ 0 < c by omega)]; rfl) (by rw [HE.out, HD.out, if_neg (show ¬ c < 0 by omega), if_neg (show ¬ 0 < c by omega)]; rfl), hB0.trans (hB1.mono hB0.size)⟩
end Go.Proofs.YtnbgfalhmnbefaaGreatDoor
