/-
  LAYER 5, WALKED: New, tree, Get. (Written by the program gen_state.py.)
  LAYER 5, WALKED: With, Without of a state. (Written by the program gen_state2.py.)
-/
import Derived.Test.YtfdbanhbegngoaaGreatDoorOut
namespace Go.Proofs.YtfdbanhbegngoaaGreatDoor
open Go.RowKit

/-- A pointer to a state that holds a tree. -/
def IsState (w : World) (p : Option Addr) (t : T) : Prop := ∃ (s : Nat) (r : Option Addr), p = some ⟨s, 0, none⟩ ∧ Blk w s 55 #[.pointer r] ∧ IsTree w r t
theorem IsState.below {w w' : World} {p : Option Addr} {t : T} (h : IsState w p t) (hb : Below w.heap.size w w') : IsState w' p t := by
  obtain ⟨s, r, hp, hk, ht⟩ := h
  exact ⟨s, r, hp, hk.below hb hk.lt, ht.below hb⟩
/-- Or no state at all. -/
def StT (w : World) (p : Option Addr) (t : T) : Prop := (p = none ∧ t = .nil) ∨ IsState w p t
theorem StT.below {w w' : World} {p : Option Addr} {t : T} (h : StT w p t) (hb : Below w.heap.size w w') : StT w' p t := h.imp_right fun h => h.below hb

theorem ret_tup2 {a b c d : Value} (h1 : a = c) (h2 : b = d) : Ending.returned (.tuple #[a, b]) = .returned (.tuple #[c, d]) := by rw [h1, h2]

theorem new_any (w : World) : Calls Tryz.prog 9 #[] w fun e w' => ∃ p, e = .returned (.pointer p) ∧ IsState w' p .nil ∧ Below w.heap.size w w' := by
  go_enter Tryz.func9, Tryz.ntmps9
  go_wp2
  go_ret
  exact ⟨_, rfl, ⟨_, none, rfl, Blk.new _ _ _, rfl⟩, (Below.refl _ _).alloc (Nat.le_refl _) _⟩

theorem treeOf_any (p : Option Addr) (t : T) (w : World) (h : StT w p t) : Calls Tryz.prog 40 #[.pointer p] w fun e w' => ∃ r, e = .returned (.pointer r) ∧ IsTree w r t ∧ w = w' := by
  rcases h with ⟨rfl, rfl⟩ | ⟨s, r, rfl, hk, ht⟩
  · go_enter Tryz.func40, Tryz.ntmps40
    go_wp2
    go_ret
    exact ⟨none, rfl, rfl, rfl⟩
  · have c0 : w.cell? ⟨s, 0, none⟩ = some (.pointer r) := hk.cell 0
    have H := hid ht
    clear ht hk
    go_enter Tryz.func40, Tryz.ntmps40
    go_wp2
    go_ret
    exact ⟨r, rfl, H.out, rfl⟩
theorem len_any (p : Option Addr) (t : T) (w : World) (h : StT w p t) : Calls Tryz.prog 28 #[.pointer p] w fun e w' => e = .returned (.int .i64 t.size) ∧ w = w' := by
  go_enter Tryz.func28, Tryz.ntmps28
  go_wp2_with (first
    | (go_at_call 40; refine (treeOf_any p t _ h).mono ?_; rintro e w' ⟨r, rfl, hr, rfl⟩)
    | (go_at_call 68; refine (many_any r t _ hr).mono ?_; rintro e w' ⟨rfl, rfl⟩))
  go_ret
  exact ⟨rfl, rfl⟩
theorem total2_any (p : Option Addr) (t : T) (w : World) (h : StT w p t) : Calls Tryz.prog 29 #[.pointer p] w fun e w' => e = .returned (.int .i64 t.bytes) ∧ w = w' := by
  go_enter Tryz.func29, Tryz.ntmps29
  go_wp2_with (first
    | (go_at_call 40; refine (treeOf_any p t _ h).mono ?_; rintro e w' ⟨r, rfl, hr, rfl⟩)
    | (go_at_call 69; refine (total_any r t _ hr).mono ?_; rintro e w' ⟨rfl, rfl⟩))
  go_ret
  exact ⟨rfl, rfl⟩

/-- What the size's cell of a tree says. -/
def treeSz (w : World) (v : Value) : Nat := match v with | .pointer (some a) => (intOf ((w.cell? ⟨a.block, 9, none⟩).getD (.bool false))).toNat | _ => 0
theorem treeSz_of {w : World} {p : Option Addr} {t : T} (h : IsTree w p t) : treeSz w (.pointer p) = t.size := by
  cases t with
  | nil => obtain rfl : p = none := h; rfl
  | node l n v r =>
    obtain ⟨b, pl, pr, rfl, hk, -, -⟩ := h
    have c : w.cell? ⟨b, 9, none⟩ = some (.int .i64 (T.node l n v r).size) := hk.cell 9
    simp [treeSz, c, intOf]

def getS (o : Option ByteArray) : ByteArray := o.getD ⟨#[]⟩

set_option maxRecDepth 100000 in
set_option maxHeartbeats 3200000 in
theorem get_any (p : Option Addr) (t : T) (n : Nm) (hn : n.Ok) (hT : t.Ok) (w : World) (h : StT w p t) :
    Calls Tryz.prog 13 #[.pointer p, nmV n] w fun e w' => e = .returned (.tuple #[.string (getS (t.get n)), .bool (t.get n).isSome]) ∧ Below w.heap.size w w' := by
  unfold nmV
  go_enter Tryz.func13, Tryz.ntmps13
  go_upto_region 1 with fail
  generalize hW : w.alloc (.cells #[.int .i64 n.kind, .string n.owner, .int .i64 n.number, .int .i64 n.index, .string n.text] 38) = W
  have b0 : Blk W w.heap.size 38 #[.int .i64 n.kind, .string n.owner, .int .i64 n.number, .int .i64 n.index, .string n.text] := by rw [← hW]; exact Blk.new _ _ _
  have hB0 : Below w.heap.size w W := by rw [← hW]; exact (Below.refl _ _).alloc (Nat.le_refl _) _
  have lW : w.heap.size < W.heap.size := b0.lt
  clear hW
  have h' := h.below hB0
  clear h
  go_wp2_with (go_at_call 40; refine (treeOf_any p t _ h').mono ?_; rintro e w' ⟨r, rfl, hr, rfl⟩)
  have H' := hid h'
  clear h'
  go_loopw [6] (fun tv wr => ∃ (tr : T) (ptr : Option Addr), tv = .pointer ptr ∧ IsTree W ptr tr ∧ tr.Ok ∧ t.get n = tr.get n ∧ Below W.heap.size W wr) (fun tv _ => treeSz W tv)
  case atStart => exact ⟨t, r, rfl, hr, hT, rfl, Below.refl _ _⟩
  case round =>
    obtain ⟨tr, ptr, rfl, htr, hok, he, hBw⟩ := hrel
    have HE := hid he; clear he
    have HSZ := hid (treeSz_of htr)
    cases tr with
    | nil =>
      obtain rfl : ptr = none := htr
      go_wp2
      go_ret2
      exact ⟨ret_tup2 (by rw [HE.out]; rfl) (by rw [HE.out]; rfl), hB0.trans (hBw.mono hB0.size)⟩
    | node l m x rt =>
      obtain ⟨b, pl, pr, rfl, ⟨x', y', z', k0⟩, hl, hr'⟩ := htr.blk
      clear htr
      have bl : b < W.heap.size := k0.lt
      have KK : ∀ w', Below W.heap.size W w' → w'.cell? ⟨b, 0, none⟩ = some (.int .i64 m.kind) ∧ w'.cell? ⟨b, 1, none⟩ = some (.string m.owner) ∧ w'.cell? ⟨b, 2, none⟩ = some (.int .i64 m.number) ∧ w'.cell? ⟨b, 3, none⟩ = some (.int .i64 m.index) ∧ w'.cell? ⟨b, 4, none⟩ = some (.string m.text) ∧ w'.cell? ⟨b, 5, none⟩ = some (.string x) ∧ w'.cell? ⟨b, 6, none⟩ = some (.pointer pl) ∧ w'.cell? ⟨b, 7, none⟩ = some (.pointer pr) ∧ w'.cell? ⟨w.heap.size, 0, none⟩ = some (.int .i64 n.kind) ∧ w'.cell? ⟨w.heap.size, 1, none⟩ = some (.string n.owner) ∧ w'.cell? ⟨w.heap.size, 2, none⟩ = some (.int .i64 n.number) ∧ w'.cell? ⟨w.heap.size, 3, none⟩ = some (.int .i64 n.index) ∧ w'.cell? ⟨w.heap.size, 4, none⟩ = some (.string n.text) := by
        intro w' hb
        have k1 := k0.below hb k0.lt
        have b1 := b0.below hb b0.lt
        exact ⟨k1.cell 0, k1.cell 1, k1.cell 2, k1.cell 3, k1.cell 4, k1.cell 5, k1.cell 6, k1.cell 7, b1.cell 0, b1.cell 1, b1.cell 2, b1.cell 3, b1.cell 4⟩
      obtain ⟨o1, o2, o3, o4⟩ := hok
      have CM := hid (fun w' => cmpN_any n m hn o2 w')
      unfold nmV at CM
      have HD := hid (show (T.node l m x rt).get n = if cmpN n m < 0 then l.get n else if 0 < cmpN n m then rt.get n else some x from rfl)
      obtain ⟨q0, q1, q2, q3, q4, q5, q6, q7, q8, q9, q10, q11, q12⟩ := KK wr hBw
      have K := hid KK
      have L := hid (And.intro hl (And.intro hr' (And.intro o1 o4)))
      clear KK k0 hl hr' o1 o2 o3 o4
      generalize cmpN n m = c at *
      go_wp2_with fail
      go_region_held3 (fun w' => w'.cell? ⟨b, 0, none⟩ = some (.int .i64 m.kind) ∧ w'.cell? ⟨b, 1, none⟩ = some (.string m.owner) ∧ w'.cell? ⟨b, 2, none⟩ = some (.int .i64 m.number) ∧ w'.cell? ⟨b, 3, none⟩ = some (.int .i64 m.index) ∧ w'.cell? ⟨b, 4, none⟩ = some (.string m.text) ∧ w'.cell? ⟨b, 5, none⟩ = some (.string x) ∧ w'.cell? ⟨b, 6, none⟩ = some (.pointer pl) ∧ w'.cell? ⟨b, 7, none⟩ = some (.pointer pr) ∧ w'.cell? ⟨w.heap.size, 0, none⟩ = some (.int .i64 n.kind) ∧ w'.cell? ⟨w.heap.size, 1, none⟩ = some (.string n.owner) ∧ w'.cell? ⟨w.heap.size, 2, none⟩ = some (.int .i64 n.number) ∧ w'.cell? ⟨w.heap.size, 3, none⟩ = some (.int .i64 n.index) ∧ w'.cell? ⟨w.heap.size, 4, none⟩ = some (.string n.text))
        (first | go_keep | exact K.out _ ((hBw.drew).trans (hb1.mono hBw.drew.size)))
        (first | (go_at_call 20; refine (CM.out _).mono ?_; rintro e w1 ⟨rfl, hb1⟩))
      have hB1 : Below W.heap.size W w1 := (hBw.drew).trans (hb1.mono hBw.drew.size)
      obtain ⟨u0, u1, u2, u3, u4, u5, u6, u7, u8, u9, u10, u11, u12⟩ := K.out _ hB1
      by_cases hc : c < 0
      · go_wp2_with fail
        go_roundw
        case rel => exact ⟨l, pl, rfl, L.out.1, L.out.2.2.1, by rw [HE.out, HD.out, if_pos hc], hB1⟩
        case measure => rw [treeSz_of L.out.1, HSZ.out]; simp only [T.size]; omega
      · by_cases hc' : 0 < c
        · go_wp2_with fail
          go_roundw
          case rel => exact ⟨rt, pr, rfl, L.out.2.1, L.out.2.2.2, by rw [HE.out, HD.out, if_neg (show ¬ c < 0 by omega), if_pos (show 0 < c by omega)], hB1⟩
          case measure => rw [treeSz_of L.out.2.1, HSZ.out]; simp only [T.size]; omega
        · go_wp2_with fail
          go_ret2
          exact ⟨ret_tup2 (by rw [HE.out, HD.out, if_neg (show ¬ c < 0 by omega), if_neg (show ¬ 0 < c by omega)]; rfl) (by rw [HE.out, HD.out, if_neg (show ¬ c < 0 by omega), if_neg (show ¬ 0 < c by omega)]; rfl), hB0.trans (hB1.mono hB0.size)⟩
end Go.Proofs.YtfdbanhbegngoaaGreatDoor
namespace Go.Proofs.YtfdbanhbegngoaaGreatDoor
open Go.RowKit

theorem checkN_ne {c : Int} (h : c ≠ 0) : (c != 0) = true := by simp [h]
theorem checkN_eq {c : Int} (h : c = 0) : (c != 0) = false := by simp [h]
def withE (t : T) (n : Nm) (v : ByteArray) : Int := if checkN n ≠ 0 then 12 else if 65536 < v.size then 5 else if (t.get n).isSome = false ∧ 65536 ≤ t.size then 9 else 0
def SPost (w : World) (e : Int) (t : T) (o : Ending) (w' : World) : Prop := ∃ q, o = .returned (.tuple #[.pointer q, .int .i64 e]) ∧ (e ≠ 0 → q = none) ∧ (e = 0 → IsState w' q t) ∧ Below w.heap.size w w'

theorem spost_err {w w' : World} {e e' : Int} {t : T} (h : e = e') (hne : e ≠ 0) (hb : Below w.heap.size w w') : SPost w e' t (.returned (.tuple #[.pointer none, .int .i64 e])) w' := by
  subst h; exact ⟨none, rfl, fun _ => rfl, fun h => absurd h hne, hb⟩
theorem spost_ok {w w' : World} {e' : Int} {q : Option Addr} {t : T} (h : 0 = e') (hs : IsState w' q t) (hb : Below w.heap.size w w') : SPost w e' t (.returned (.tuple #[.pointer q, .int .i64 0])) w' := by
  subst h; exact ⟨q, rfl, fun h => absurd rfl h, fun _ => hs, hb⟩

set_option maxRecDepth 100000 in
set_option maxHeartbeats 3200000 in
theorem stWith_any (p : Option Addr) (t : T) (n : Nm) (v : ByteArray) (hn : n.Ok) (hT : t.Ok) (h1 : t.size + 1 ≤ 1000000) (h2 : t.bytes + v.size ≤ 1000000000) (w : World) (h : IsState w p t) :
    Calls Tryz.prog 10 #[.pointer p, nmV n, .string v] w (SPost w (withE t n v) (t.with_ n v)) := by
  obtain ⟨s, r, rfl, hk, ht⟩ := h
  unfold nmV
  go_enter Tryz.func10, Tryz.ntmps10
  go_upto_region 1 with fail
  generalize hW : w.alloc (.cells #[.int .i64 n.kind, .string n.owner, .int .i64 n.number, .int .i64 n.index, .string n.text] 38) = W
  have b0 : Blk W w.heap.size 38 #[.int .i64 n.kind, .string n.owner, .int .i64 n.number, .int .i64 n.index, .string n.text] := by rw [← hW]; exact Blk.new _ _ _
  have hB0 : Below w.heap.size w W := by rw [← hW]; exact (Below.refl _ _).alloc (Nat.le_refl _) _
  have lW : w.heap.size < W.heap.size := b0.lt
  clear hW
  have k0 := hk.below hB0 hk.lt
  have sl : s < W.heap.size := k0.lt
  have KK : ∀ w', Below W.heap.size W w' → w'.cell? ⟨s, 0, none⟩ = some (.pointer r) ∧ w'.cell? ⟨w.heap.size, 0, none⟩ = some (.int .i64 n.kind) ∧ w'.cell? ⟨w.heap.size, 1, none⟩ = some (.string n.owner) ∧ w'.cell? ⟨w.heap.size, 2, none⟩ = some (.int .i64 n.number) ∧ w'.cell? ⟨w.heap.size, 3, none⟩ = some (.int .i64 n.index) ∧ w'.cell? ⟨w.heap.size, 4, none⟩ = some (.string n.text) := by
    intro w' hb
    have k1 := k0.below hb k0.lt
    have b1 := b0.below hb b0.lt
    exact ⟨k1.cell 0, b1.cell 0, b1.cell 1, b1.cell 2, b1.cell 3, b1.cell 4⟩
  have hS : IsState W (some ⟨s, 0, none⟩) t := ⟨s, r, rfl, k0, ht.below hB0⟩
  have G := hid (get_any (some ⟨s, 0, none⟩) t n hn hT W (.inr hS))
  have C := hid (fun w' => checkN_any n hn w')
  have NN := hid hn
  have TT := hid hT
  have HS := hid hS
  unfold nmV at G C
  obtain ⟨p0, p1, p2, p3, p4, p5⟩ := KK W (Below.refl _ _)
  have K := hid KK
  clear KK k0 hk ht b0 hn hT hS
  have J := hid (fun w' (hb : Below W.heap.size W w') => with_any t n v NN.out TT.out h1 h2 r w' (by obtain ⟨s', r', e1, e2, e3⟩ := HS.out.below hb; cases e1; have a := e2.cell 0; have b := K.out _ hb; rw [b.1] at a; cases a; exact e3))
  unfold nmV at J
  have L := hid (fun w' (hb : Below W.heap.size W w') => len_any (some ⟨s, 0, none⟩) t w' (.inr (HS.out.below hb)))
  have HE := hid (show withE t n v = if checkN n ≠ 0 then 12 else if 65536 < v.size then 5 else if (t.get n).isSome = false ∧ 65536 ≤ t.size then 9 else 0 from rfl)
  have i3 : (t.size : Int) ≤ 1000000 := by omega
  have i4 : (v.size : Int) ≤ 1000000000 := by omega
  clear h1 h2
  generalize withE t n v = E at *
  generalize hg : (t.get n).isSome = g at *
  generalize getS (t.get n) = gs at *
  generalize t.size = ts at *
  generalize t.with_ n v = tw at *
  generalize checkN n = c at *
  clear hg
  by_cases hc : c = 0
  · by_cases hv : 65536 < v.size
    · have hv' : (65536 : Int) < (v.size : Int) := by omega
      have hcb := checkN_eq hc
      go_wp2_with (first
        | (go_at_call 13; refine G.out.mono ?_; rintro e w1 ⟨rfl, hb1⟩; obtain ⟨q0, q1, q2, q3, q4, q5⟩ := K.out _ hb1)
        | (go_at_call 38; refine (C.out _).mono ?_; rintro e w2 ⟨rfl, hb2⟩))
      go_ret2
      exact spost_err (by rw [HE.out, if_neg (by omega), if_pos (by omega)]) (by decide) (hB0.trans ((hb1.trans (hb2.mono hb1.size)).mono hB0.size))
    · by_cases hf : g = false ∧ 65536 ≤ ts
      · obtain ⟨rfl, hf2⟩ := hf
        have hf3 : (65536 : Int) ≤ (ts : Int) := by omega
        have hv' : (v.size : Int) ≤ 65536 := by omega
        have hcb := checkN_eq hc
        go_wp2_with (first
          | (go_at_call 13; refine G.out.mono ?_; rintro e w1 ⟨rfl, hb1⟩; obtain ⟨q0, q1, q2, q3, q4, q5⟩ := K.out _ hb1)
          | (go_at_call 38; refine (C.out _).mono ?_; rintro e w2 ⟨rfl, hb2⟩; have hB2 := hb1.trans (hb2.mono hb1.size))
          | (go_at_call 28; refine (L.out _ hB2).mono ?_; rintro e w3 ⟨rfl, rfl⟩))
        go_ret2
        exact spost_err (by rw [HE.out, if_neg (by omega), if_neg (by omega), if_pos ⟨by simp, by omega⟩]) (by decide) (hB0.trans (hB2.mono hB0.size))
      · have hv' : (v.size : Int) ≤ 65536 := by omega
        have hcb := checkN_eq hc
        have fin : ∀ w2 w3 w4 pj, Below W.heap.size W w2 → Below w2.heap.size w2 w3 → IsTree w3 pj tw → w4 = w3.alloc (.cells #[.pointer pj] 55) → SPost w E tw (.returned (.tuple #[.pointer (some ⟨w3.heap.size, 0, none⟩), .int .i64 0])) w4 := by
          intro w2 w3 w4 pj a1 a2 a3 a4
          subst a4
          have a5 := a1.trans (a2.mono a1.size)
          exact spost_ok (by rw [HE.out, if_neg (by omega), if_neg (by omega), if_neg hf]) ⟨_, pj, rfl, Blk.new _ _ _, a3.below ((Below.refl _ _).alloc (Nat.le_refl _) _)⟩ ((hB0.trans (a5.mono hB0.size)).alloc (Nat.le_trans hB0.size a5.size) _)
        have FIN := hid fin
        clear fin
        cases g with
        | true =>
          clear hf
          go_wp2_with (first
            | (go_at_call 13; refine G.out.mono ?_; rintro e w1 ⟨rfl, hb1⟩; obtain ⟨q0, q1, q2, q3, q4, q5⟩ := K.out _ hb1)
            | (go_at_call 38; refine (C.out _).mono ?_; rintro e w2 ⟨rfl, hb2⟩; have hB2 := hb1.trans (hb2.mono hb1.size); obtain ⟨s0, s1, s2, s3, s4, s5⟩ := K.out _ hB2))
          go_region_held3 (fun w' => w'.cell? ⟨s, 0, none⟩ = some (.pointer r) ∧ w'.cell? ⟨w.heap.size, 0, none⟩ = some (.int .i64 n.kind) ∧ w'.cell? ⟨w.heap.size, 1, none⟩ = some (.string n.owner) ∧ w'.cell? ⟨w.heap.size, 2, none⟩ = some (.int .i64 n.number) ∧ w'.cell? ⟨w.heap.size, 3, none⟩ = some (.int .i64 n.index) ∧ w'.cell? ⟨w.heap.size, 4, none⟩ = some (.string n.text))
            (first | go_keep | exact K.out _ ((hB2.drew).trans (hb3.mono hB2.drew.size)))
            (first | (go_at_call 21; refine (J.out _ hB2.drew).mono ?_; rintro e w3 ⟨pj, rfl, hj, hb3⟩))
          go_wp2_with fail
          go_ret2
          exact FIN.out w2.drew w3 _ pj hB2.drew hb3 hj rfl
        | false =>
          have hf3 : ¬ (65536 : Int) ≤ (ts : Int) := by have : ¬ 65536 ≤ ts := fun h => hf ⟨rfl, h⟩; omega
          clear hf
          generalize (ts : Int) = tsi at *
          go_wp2_with (first
            | (go_at_call 13; refine G.out.mono ?_; rintro e w1 ⟨rfl, hb1⟩; obtain ⟨q0, q1, q2, q3, q4, q5⟩ := K.out _ hb1)
            | (go_at_call 38; refine (C.out _).mono ?_; rintro e w2 ⟨rfl, hb2⟩; have hB2 := hb1.trans (hb2.mono hb1.size); obtain ⟨s0, s1, s2, s3, s4, s5⟩ := K.out _ hB2)
            | (go_at_call 28; refine (L.out _ hB2).mono ?_; rintro e w3 ⟨rfl, rfl⟩))
          go_region_held3 (fun w' => w'.cell? ⟨s, 0, none⟩ = some (.pointer r) ∧ w'.cell? ⟨w.heap.size, 0, none⟩ = some (.int .i64 n.kind) ∧ w'.cell? ⟨w.heap.size, 1, none⟩ = some (.string n.owner) ∧ w'.cell? ⟨w.heap.size, 2, none⟩ = some (.int .i64 n.number) ∧ w'.cell? ⟨w.heap.size, 3, none⟩ = some (.int .i64 n.index) ∧ w'.cell? ⟨w.heap.size, 4, none⟩ = some (.string n.text))
            (first | go_keep | exact K.out _ ((hB2.drew).trans (hb3.mono hB2.drew.size)))
            (first | (go_at_call 21; refine (J.out _ hB2.drew).mono ?_; rintro e w3 ⟨pj, rfl, hj, hb3⟩))
          go_wp2_with fail
          go_ret2
          exact FIN.out w2.drew w3 _ pj hB2.drew hb3 hj rfl
  · have hcb := checkN_ne hc
    go_wp2_with (first
      | (go_at_call 13; refine G.out.mono ?_; rintro e w1 ⟨rfl, hb1⟩; obtain ⟨q0, q1, q2, q3, q4, q5⟩ := K.out _ hb1)
      | (go_at_call 38; refine (C.out _).mono ?_; rintro e w2 ⟨rfl, hb2⟩))
    go_ret2
    exact spost_err (by rw [HE.out, if_pos (by simpa using hcb)]) (by decide) (hB0.trans ((hb1.trans (hb2.mono hb1.size)).mono hB0.size))

def withoutE (n : Nm) : Int := if checkN n ≠ 0 then 12 else 0
def withoutT (t : T) (n : Nm) : T := if (t.get n).isSome then t.without n else t

set_option maxRecDepth 100000 in
set_option maxHeartbeats 3200000 in
theorem stWithout_any (p : Option Addr) (t : T) (n : Nm) (hn : n.Ok) (hT : t.Ok) (hF : t.Fits) (w : World) (h : IsState w p t) :
    Calls Tryz.prog 12 #[.pointer p, nmV n] w (SPost w (withoutE n) (withoutT t n)) := by
  obtain ⟨s, r, rfl, hk, ht⟩ := h
  unfold nmV
  go_enter Tryz.func12, Tryz.ntmps12
  go_upto_region 1 with fail
  generalize hW : w.alloc (.cells #[.int .i64 n.kind, .string n.owner, .int .i64 n.number, .int .i64 n.index, .string n.text] 38) = W
  have b0 : Blk W w.heap.size 38 #[.int .i64 n.kind, .string n.owner, .int .i64 n.number, .int .i64 n.index, .string n.text] := by rw [← hW]; exact Blk.new _ _ _
  have hB0 : Below w.heap.size w W := by rw [← hW]; exact (Below.refl _ _).alloc (Nat.le_refl _) _
  have lW : w.heap.size < W.heap.size := b0.lt
  clear hW
  have k0 := hk.below hB0 hk.lt
  have sl : s < W.heap.size := k0.lt
  have KK : ∀ w', Below W.heap.size W w' → w'.cell? ⟨s, 0, none⟩ = some (.pointer r) ∧ w'.cell? ⟨w.heap.size, 0, none⟩ = some (.int .i64 n.kind) ∧ w'.cell? ⟨w.heap.size, 1, none⟩ = some (.string n.owner) ∧ w'.cell? ⟨w.heap.size, 2, none⟩ = some (.int .i64 n.number) ∧ w'.cell? ⟨w.heap.size, 3, none⟩ = some (.int .i64 n.index) ∧ w'.cell? ⟨w.heap.size, 4, none⟩ = some (.string n.text) := by
    intro w' hb
    have k1 := k0.below hb k0.lt
    have b1 := b0.below hb b0.lt
    exact ⟨k1.cell 0, b1.cell 0, b1.cell 1, b1.cell 2, b1.cell 3, b1.cell 4⟩
  have hS : IsState W (some ⟨s, 0, none⟩) t := ⟨s, r, rfl, k0, ht.below hB0⟩
  have G := hid (get_any (some ⟨s, 0, none⟩) t n hn hT W (.inr hS))
  have C := hid (fun w' => checkN_any n hn w')
  have NN := hid hn
  have TT := hid hT
  have HS := hid hS
  unfold nmV at G C
  obtain ⟨p0, p1, p2, p3, p4, p5⟩ := KK W (Below.refl _ _)
  have K := hid KK
  clear KK k0 hk ht b0 hn hT hS
  have J := hid (fun w' (hb : Below W.heap.size W w') => without_any t n NN.out TT.out hF r w' (by obtain ⟨s', r', e1, e2, e3⟩ := HS.out.below hb; cases e1; have a := e2.cell 0; have b := K.out _ hb; rw [b.1] at a; cases a; exact e3))
  unfold nmV at J
  have G' := hid (fun w' (hb : Below W.heap.size W w') => get_any (some ⟨s, 0, none⟩) t n NN.out TT.out w' (.inr (HS.out.below hb)))
  unfold nmV at G'
  have HE := hid (show withoutE n = if checkN n ≠ 0 then 12 else 0 from rfl)
  have HT := hid (show withoutT t n = if (t.get n).isSome then t.without n else t from rfl)
  clear hF G
  generalize withoutE n = E at *
  generalize withoutT t n = tw at *
  generalize hg : (t.get n).isSome = g at *
  generalize getS (t.get n) = gs at *
  generalize t.without n = tw0 at *
  generalize checkN n = c at *
  clear hg
  by_cases hc : c = 0
  · have hcb := checkN_eq hc
    cases g with
    | false =>
      go_wp2_with (first
        | (go_at_call 38; refine (C.out _).mono ?_; rintro e w1 ⟨rfl, hb1⟩; obtain ⟨q0, q1, q2, q3, q4, q5⟩ := K.out _ hb1)
        | (go_at_call 13; refine (G'.out _ hb1).mono ?_; rintro e w2 ⟨rfl, hb2⟩))
      go_ret2
      have hB2 := hb1.trans (hb2.mono hb1.size)
      exact spost_ok (by rw [HE.out, if_neg (by omega)]) (by rw [HT.out]; exact HS.out.below hB2) (hB0.trans (hB2.mono hB0.size))
    | true =>
      go_wp2_with (first
        | (go_at_call 38; refine (C.out _).mono ?_; rintro e w1 ⟨rfl, hb1⟩; obtain ⟨q0, q1, q2, q3, q4, q5⟩ := K.out _ hb1)
        | (go_at_call 13; refine (G'.out _ hb1).mono ?_; rintro e w2 ⟨rfl, hb2⟩; have hB2 := hb1.trans (hb2.mono hb1.size); obtain ⟨s0, s1, s2, s3, s4, s5⟩ := K.out _ hB2))
      go_region_held3 (fun w' => w'.cell? ⟨s, 0, none⟩ = some (.pointer r) ∧ w'.cell? ⟨w.heap.size, 0, none⟩ = some (.int .i64 n.kind) ∧ w'.cell? ⟨w.heap.size, 1, none⟩ = some (.string n.owner) ∧ w'.cell? ⟨w.heap.size, 2, none⟩ = some (.int .i64 n.number) ∧ w'.cell? ⟨w.heap.size, 3, none⟩ = some (.int .i64 n.index) ∧ w'.cell? ⟨w.heap.size, 4, none⟩ = some (.string n.text))
        (first | go_keep | exact K.out _ ((hB2.drew).trans (hb3.mono hB2.drew.size)))
        (first | (go_at_call 39; refine (J.out _ hB2.drew).mono ?_; rintro e w3 ⟨pj, rfl, hj, hb3⟩))
      go_wp2_with fail
      go_ret2
      have a5 := hB2.drew.trans (hb3.mono hB2.drew.size)
      exact spost_ok (by rw [HE.out, if_neg (by omega)]) (by rw [HT.out]; exact ⟨_, pj, rfl, Blk.new _ _ _, hj.below ((Below.refl _ _).alloc (Nat.le_refl _) _)⟩) ((hB0.trans (a5.mono hB0.size)).alloc (Nat.le_trans hB0.size a5.size) _)
  · have hcb := checkN_ne hc
    go_wp2_with (first
      | (go_at_call 38; refine (C.out _).mono ?_; rintro e w1 ⟨rfl, hb1⟩))
    go_ret2
    exact spost_err (by rw [HE.out, if_pos (by simpa using hcb)]) (by decide) (hB0.trans (hb1.mono hB0.size))
end Go.Proofs.YtfdbanhbegngoaaGreatDoor
