/-
  LAYER 5, WALKED: With, Without of a state. (Written by the program gen_state2.py.)
-/
import Derived.Test.YtnbgfalhmnbefaaGreatDoorState
namespace Go.Proofs.YtnbgfalhmnbefaaGreatDoor
open Go.RowKit

theorem checkN_ne {c : Int} (h : c ≠ 0) : (c != 0) = true := by simp [h]
theorem checkN_eq {c : Int} (h : c = 0) : (c != 0) = false := by simp [h]
def withE (t : T) (n : Nm) (v : ByteArray) : Int := if checkN n ≠ 0 then 12 else if 65536 < v.size then 5 else if (t.get n).isSome = false ∧ 65536 ≤ t.size then 9 else 0
def SPost (w : World) (e : Int) (t : T) (o : Ending) (w' : World) : Prop := ∃ q, o = .returned (.tuple #[.pointer q, .int .i64 e]) ∧ (e ≠ 0 → q = none) ∧ (e = 0 → IsState w' q t) ∧ Below w.heap.size w w'

theorem spost_err {w w' : World} {e e' : Int} {t : T} (h : e = e') (hne : e ≠ 0) (hb : Below w.heap.size w w') : SPost w e' t (.returned (.tuple #[.pointer none, .int .i64 e])) w' := by
  subst h; exact ⟨none, rfl, fun _ => rfl, fun h => absurd h hne, hb⟩
theorem spost_ok {w w' : World} {e' : Int} {q : Option Addr} {t : T} (h : 0 = e') (hs : IsState w' q t) (hb : Below w.heap.size w w') : SPost w e' t (.returned (.tuple #[.pointer q, .int .i64 0])) w' := by
  subst h; exact ⟨q, rfl, fun h => absurd rfl h, fun _ => hs, hb⟩

set_option maxRecDepth 100000 in
set_option maxHeartbeats 3200000 in
theorem stWith_any (p : Option Addr) (t : T) (n : Nm) (v : ByteArray) (hn : n.Ok) (hT : t.Ok) (h1 : t.size + 1 ≤ 1000000) (h2 : t.bytes + v.size ≤ 1000000000) (w : World) (h : IsState w p t) :
    Calls Tryz.prog 32 #[.pointer p, nmV n, .string v] w (SPost w (withE t n v) (t.with_ n v)) := by
  obtain ⟨s, r, rfl, hk, ht⟩ := h
  unfold nmV
  go_enter Tryz.func32, Tryz.ntmps32
  go_upto_region 1 with fail
  generalize hW : w.alloc (.cells #[.int .i64 n.kind, .string n.owner, .int .i64 n.number, .int .i64 n.index, .string n.text] 34) = W
  have b0 : Blk W w.heap.size 34 #[.int .i64 n.kind, .string n.owner, .int .i64 n.number, .int .i64 n.index, .string n.text] := by rw [← hW]; exact Blk.new _ _ _
  have hB0 : Below w.heap.size w W := by rw [← hW]; exact (Below.refl _ _).alloc (Nat.le_refl _) _
  have lW : w.heap.size < W.heap.size := b0.lt
  clear hW
  have k0 := hk.below hB0 hk.lt
  have sl : s < W.heap.size := k0.lt
  have KK : ∀ w', Below W.heap.size W w' → w'.cell? ⟨s, 0, none⟩ = some (.pointer r) ∧ w'.cell? ⟨w.heap.size, 0, none⟩ = some (.int .i64 n.kind) ∧ w'.cell? ⟨w.heap.size, 1, none⟩ = some (.string n.owner) ∧ w'.cell? ⟨w.heap.size, 2, none⟩ = some (.int .i64 n.number) ∧ w'.cell? ⟨w.heap.size, 3, none⟩ = some (.int .i64 n.index) ∧ w'.cell? ⟨w.heap.size, 4, none⟩ = some (.string n.text) := by
    intro w' hb
    have k1 := k0.below hb k0.lt
    have b1 := b0.below hb b0.lt
    exact ⟨k1.cell 0, b1.cell 0, b1.cell 1, b1.cell 2, b1.cell 3, b1.cell 4⟩
  have hS : IsState W (some ⟨s, 0, none⟩) t := ⟨s, r, rfl, k0, ht.below hB0⟩
  have G := hid (get_any (some ⟨s, 0, none⟩) t n hn hT W (.inr hS))
  have C := hid (fun w' => checkN_any n hn w')
  have NN := hid hn
  have TT := hid hT
  have HS := hid hS
  unfold nmV at G C
  obtain ⟨p0, p1, p2, p3, p4, p5⟩ := KK W (Below.refl _ _)
  have K := hid KK
  clear KK k0 hk ht b0 hn hT hS
  have J := hid (fun w' (hb : Below W.heap.size W w') => with_any t n v NN.out TT.out h1 h2 r w' (by obtain ⟨s', r', e1, e2, e3⟩ := HS.out.below hb; cases e1; have a := e2.cell 0; have b := K.out _ hb; rw [b.1] at a; cases a; exact e3))
  unfold nmV at J
  have L := hid (fun w' (hb : Below W.heap.size W w') => len_any (some ⟨s, 0, none⟩) t w' (.inr (HS.out.below hb)))
  have HE := hid (show withE t n v = if checkN n ≠ 0 then 12 else if 65536 < v.size then 5 else if (t.get n).isSome = false ∧ 65536 ≤ t.size then 9 else 0 from rfl)
  have i3 : (t.size : Int) ≤ 1000000 := by omega
  have i4 : (v.size : Int) ≤ 1000000000 := by omega
  clear h1 h2
  generalize withE t n v = E at *
  generalize hg : (t.get n).isSome = g at *
  generalize getS (t.get n) = gs at *
  generalize t.size = ts at *
  generalize t.with_ n v = tw at *
  generalize checkN n = c at *
  clear hg
  by_cases hc : c = 0
  · by_cases hv : 65536 < v.size
    · have hv' : (65536 : Int) < (v.size : Int) := by omega
      have hcb := checkN_eq hc
      go_wp2_with (first
        | (go_at_call 15; refine G.out.mono ?_; rintro e w1 ⟨rfl, hb1⟩; obtain ⟨q0, q1, q2, q3, q4, q5⟩ := K.out _ hb1)
        | (go_at_call 31; refine (C.out _).mono ?_; rintro e w2 ⟨rfl, hb2⟩))
      go_ret2
      exact spost_err (by rw [HE.out, if_neg (by omega), if_pos (by omega)]) (by decide) (hB0.trans ((hb1.trans (hb2.mono hb1.size)).mono hB0.size))
    · by_cases hf : g = false ∧ 65536 ≤ ts
      · obtain ⟨rfl, hf2⟩ := hf
        have hf3 : (65536 : Int) ≤ (ts : Int) := by omega
        have hv' : (v.size : Int) ≤ 65536 := by omega
        have hcb := checkN_eq hc
        go_wp2_with (first
          | (go_at_call 15; refine G.out.mono ?_; rintro e w1 ⟨rfl, hb1⟩; obtain ⟨q0, q1, q2, q3, q4, q5⟩ := K.out _ hb1)
          | (go_at_call 31; refine (C.out _).mono ?_; rintro e w2 ⟨rfl, hb2⟩; have hB2 := hb1.trans (hb2.mono hb1.size))
          | (go_at_call 34; refine (L.out _ hB2).mono ?_; rintro e w3 ⟨rfl, rfl⟩))
        go_ret2
        exact spost_err (by rw [HE.out, if_neg (by omega), if_neg (by omega), if_pos ⟨by simp, by omega⟩]) (by decide) (hB0.trans (hB2.mono hB0.size))
      · have hv' : (v.size : Int) ≤ 65536 := by omega
        have hcb := checkN_eq hc
        have fin : ∀ w2 w3 w4 pj, Below W.heap.size W w2 → Below w2.heap.size w2 w3 → IsTree w3 pj tw → w4 = w3.alloc (.cells #[.pointer pj] 95) → SPost w E tw (.returned (.tuple #[.pointer (some ⟨w3.heap.size, 0, none⟩), .int .i64 0])) w4 := by
          intro w2 w3 w4 pj a1 a2 a3 a4
          subst a4
          have a5 := a1.trans (a2.mono a1.size)
          exact spost_ok (by rw [HE.out, if_neg (by omega), if_neg (by omega), if_neg hf]) ⟨_, pj, rfl, Blk.new _ _ _, a3.below ((Below.refl _ _).alloc (Nat.le_refl _) _)⟩ ((hB0.trans (a5.mono hB0.size)).alloc (Nat.le_trans hB0.size a5.size) _)
        have FIN := hid fin
        clear fin
        cases g with
        | true =>
          clear hf
          go_wp2_with (first
            | (go_at_call 15; refine G.out.mono ?_; rintro e w1 ⟨rfl, hb1⟩; obtain ⟨q0, q1, q2, q3, q4, q5⟩ := K.out _ hb1)
            | (go_at_call 31; refine (C.out _).mono ?_; rintro e w2 ⟨rfl, hb2⟩; have hB2 := hb1.trans (hb2.mono hb1.size); obtain ⟨s0, s1, s2, s3, s4, s5⟩ := K.out _ hB2))
          go_region_held3 (fun w' => w'.cell? ⟨s, 0, none⟩ = some (.pointer r) ∧ w'.cell? ⟨w.heap.size, 0, none⟩ = some (.int .i64 n.kind) ∧ w'.cell? ⟨w.heap.size, 1, none⟩ = some (.string n.owner) ∧ w'.cell? ⟨w.heap.size, 2, none⟩ = some (.int .i64 n.number) ∧ w'.cell? ⟨w.heap.size, 3, none⟩ = some (.int .i64 n.index) ∧ w'.cell? ⟨w.heap.size, 4, none⟩ = some (.string n.text))
            (first | go_keep | exact K.out _ ((hB2.drew).trans (hb3.mono hB2.drew.size)))
            (first | (go_at_call 64; refine (J.out _ hB2.drew).mono ?_; rintro e w3 ⟨pj, rfl, hj, hb3⟩))
          go_wp2_with fail
          go_ret2
          exact FIN.out w2.drew w3 _ pj hB2.drew hb3 hj rfl
        | false =>
          have hf3 : ¬ (65536 : Int) ≤ (ts : Int) := by have : ¬ 65536 ≤ ts := fun h => hf ⟨rfl, h⟩; omega
          clear hf
          generalize (ts : Int) = tsi at *
          go_wp2_with (first
            | (go_at_call 15; refine G.out.mono ?_; rintro e w1 ⟨rfl, hb1⟩; obtain ⟨q0, q1, q2, q3, q4, q5⟩ := K.out _ hb1)
            | (go_at_call 31; refine (C.out _).mono ?_; rintro e w2 ⟨rfl, hb2⟩; have hB2 := hb1.trans (hb2.mono hb1.size); obtain ⟨s0, s1, s2, s3, s4, s5⟩ := K.out _ hB2)
            | (go_at_call 34; refine (L.out _ hB2).mono ?_; rintro e w3 ⟨rfl, rfl⟩))
          go_region_held3 (fun w' => w'.cell? ⟨s, 0, none⟩ = some (.pointer r) ∧ w'.cell? ⟨w.heap.size, 0, none⟩ = some (.int .i64 n.kind) ∧ w'.cell? ⟨w.heap.size, 1, none⟩ = some (.string n.owner) ∧ w'.cell? ⟨w.heap.size, 2, none⟩ = some (.int .i64 n.number) ∧ w'.cell? ⟨w.heap.size, 3, none⟩ = some (.int .i64 n.index) ∧ w'.cell? ⟨w.heap.size, 4, none⟩ = some (.string n.text))
            (first | go_keep | exact K.out _ ((hB2.drew).trans (hb3.mono hB2.drew.size)))
            (first | (go_at_call 64; refine (J.out _ hB2.drew).mono ?_; rintro e w3 ⟨pj, rfl, hj, hb3⟩))
          go_wp2_with fail
          go_ret2
          exact FIN.out w2.drew w3 _ pj hB2.drew hb3 hj rfl
  · have hcb := checkN_ne hc
    go_wp2_with (first
      | (go_at_call 15; refine G.out.mono ?_; rintro e w1 ⟨rfl, hb1⟩; obtain ⟨q0, q1, q2, q3, q4, q5⟩ := K.out _ hb1)
      | (go_at_call 31; refine (C.out _).mono ?_; rintro e w2 ⟨rfl, hb2⟩))
    go_ret2
    exact spost_err (by rw [HE.out, if_pos (by simpa using hcb)]) (by decide) (hB0.trans ((hb1.trans (hb2.mono hb1.size)).mono hB0.size))

def withoutE (n : Nm) : Int := if checkN n ≠ 0 then 12 else 0
def withoutT (t : T) (n : Nm) : T := if (t.get n).isSome then t.without n else t

set_option maxRecDepth 100000 in
set_option maxHeartbeats 3200000 in
theorem stWithout_any (p : Option Addr) (t : T) (n : Nm) (hn : n.Ok) (hT : t.Ok) (hF : t.Fits) (w : World) (h : IsState w p t) :
    Calls Tryz.prog 33 #[.pointer p, nmV n] w (SPost w (withoutE n) (withoutT t n)) := by
  obtain ⟨s, r, rfl, hk, ht⟩ := h
  unfold nmV
  go_enter Tryz.func33, Tryz.ntmps33
  go_upto_region 1 with fail
  generalize hW : w.alloc (.cells #[.int .i64 n.kind, .string n.owner, .int .i64 n.number, .int .i64 n.index, .string n.text] 34) = W
  have b0 : Blk W w.heap.size 34 #[.int .i64 n.kind, .string n.owner, .int .i64 n.number, .int .i64 n.index, .string n.text] := by rw [← hW]; exact Blk.new _ _ _
  have hB0 : Below w.heap.size w W := by rw [← hW]; exact (Below.refl _ _).alloc (Nat.le_refl _) _
  have lW : w.heap.size < W.heap.size := b0.lt
  clear hW
  have k0 := hk.below hB0 hk.lt
  have sl : s < W.heap.size := k0.lt
  have KK : ∀ w', Below W.heap.size W w' → w'.cell? ⟨s, 0, none⟩ = some (.pointer r) ∧ w'.cell? ⟨w.heap.size, 0, none⟩ = some (.int .i64 n.kind) ∧ w'.cell? ⟨w.heap.size, 1, none⟩ = some (.string n.owner) ∧ w'.cell? ⟨w.heap.size, 2, none⟩ = some (.int .i64 n.number) ∧ w'.cell? ⟨w.heap.size, 3, none⟩ = some (.int .i64 n.index) ∧ w'.cell? ⟨w.heap.size, 4, none⟩ = some (.string n.text) := by
    intro w' hb
    have k1 := k0.below hb k0.lt
    have b1 := b0.below hb b0.lt
    exact ⟨k1.cell 0, b1.cell 0, b1.cell 1, b1.cell 2, b1.cell 3, b1.cell 4⟩
  have hS : IsState W (some ⟨s, 0, none⟩) t := ⟨s, r, rfl, k0, ht.below hB0⟩
  have G := hid (get_any (some ⟨s, 0, none⟩) t n hn hT W (.inr hS))
  have C := hid (fun w' => checkN_any n hn w')
  have NN := hid hn
  have TT := hid hT
  have HS := hid hS
  unfold nmV at G C
  obtain ⟨p0, p1, p2, p3, p4, p5⟩ := KK W (Below.refl _ _)
  have K := hid KK
  clear KK k0 hk ht b0 hn hT hS
  have J := hid (fun w' (hb : Below W.heap.size W w') => without_any t n NN.out TT.out hF r w' (by obtain ⟨s', r', e1, e2, e3⟩ := HS.out.below hb; cases e1; have a := e2.cell 0; have b := K.out _ hb; rw [b.1] at a; cases a; exact e3))
  unfold nmV at J
  have G' := hid (fun w' (hb : Below W.heap.size W w') => get_any (some ⟨s, 0, none⟩) t n NN.out TT.out w' (.inr (HS.out.below hb)))
  unfold nmV at G'
  have HE := hid (show withoutE n = if checkN n ≠ 0 then 12 else 0 from rfl)
  have HT := hid (show withoutT t n = if (t.get n).isSome then t.without n else t from rfl)
  clear hF G
  generalize withoutE n = E at *
  generalize withoutT t n = tw at *
  generalize hg : (t.get n).isSome = g at *
  generalize getS (t.get n) = gs at *
  generalize t.without n = tw0 at *
  generalize checkN n = c at *
  clear hg
  by_cases hc : c = 0
  · have hcb := checkN_eq hc
    cases g with
    | false =>
      go_wp2_with (first
        | (go_at_call 31; refine (C.out _).mono ?_; rintro e w1 ⟨rfl, hb1⟩; obtain ⟨q0, q1, q2, q3, q4, q5⟩ := K.out _ hb1)
        | (go_at_call 15; refine (G'.out _ hb1).mono ?_; rintro e w2 ⟨rfl, hb2⟩))
      go_ret2
      have hB2 := hb1.trans (hb2.mono hb1.size)
      exact spost_ok (by rw [HE.out, if_neg (by omega)]) (by rw [HT.out]; exact HS.out.below hB2) (hB0.trans (hB2.mono hB0.size))
    | true =>
      go_wp2_with (first
        | (go_at_call 31; refine (C.out _).mono ?_; rintro e w1 ⟨rfl, hb1⟩; obtain ⟨q0, q1, q2, q3, q4, q5⟩ := K.out _ hb1)
        | (go_at_call 15; refine (G'.out _ hb1).mono ?_; rintro e w2 ⟨rfl, hb2⟩; have hB2 := hb1.trans (hb2.mono hb1.size); obtain ⟨s0, s1, s2, s3, s4, s5⟩ := K.out _ hB2))
      go_region_held3 (fun w' => w'.cell? ⟨s, 0, none⟩ = some (.pointer r) ∧ w'.cell? ⟨w.heap.size, 0, none⟩ = some (.int .i64 n.kind) ∧ w'.cell? ⟨w.heap.size, 1, none⟩ = some (.string n.owner) ∧ w'.cell? ⟨w.heap.size, 2, none⟩ = some (.int .i64 n.number) ∧ w'.cell? ⟨w.heap.size, 3, none⟩ = some (.int .i64 n.index) ∧ w'.cell? ⟨w.heap.size, 4, none⟩ = some (.string n.text))
        (first | go_keep | exact K.out _ ((hB2.drew).trans (hb3.mono hB2.drew.size)))
        (first | (go_at_call 65; refine (J.out _ hB2.drew).mono ?_; rintro e w3 ⟨pj, rfl, hj, hb3⟩))
      go_wp2_with fail
      go_ret2
      have a5 := hB2.drew.trans (hb3.mono hB2.drew.size)
      exact spost_ok (by rw [HE.out, if_neg (by omega)]) (by rw [HT.out]; exact ⟨_, pj, rfl, Blk.new _ _ _, hj.below ((Below.refl _ _).alloc (Nat.le_refl _) _)⟩) ((hB0.trans (a5.mono hB0.size)).alloc (Nat.le_trans hB0.size a5.size) _)
  · have hcb := checkN_ne hc
    go_wp2_with (first
      | (go_at_call 31; refine (C.out _).mono ?_; rintro e w1 ⟨rfl, hb1⟩))
    go_ret2
    exact spost_err (by rw [HE.out, if_pos (by simpa using hcb)]) (by decide) (hB0.trans (hb1.mono hB0.size))
end Go.Proofs.YtnbgfalhmnbefaaGreatDoor
