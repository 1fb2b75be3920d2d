/-
  THE REFERENCE OF LAYER 5, WALKED: Find, Get, Bytes.
-/
import Derived.Test.YtnbgfalhmnbefaaGreatDoorEq
import Derived.BigQuiet
namespace Go.Proofs.YtnbgfalhmnbefaaGreatDoor
open Go.RowKit

theorem dN {B : Nat} {a w : World} (h : Below B a w) (n : Nat) : Below B a (w.drewN n) := h.trans ⟨rfl, rfl, rfl, Nat.le_refl _, fun _ _ => rfl⟩
abbrev EL := List (Nm × ByteArray)
def eCells (x : Nm × ByteArray) : List Value := nmCells x.1 ++ [.string x.2]
theorem eCells_len (x : Nm × ByteArray) : (eCells x).length = 6 := rfl
theorem flat_get {α : Type} (f : α → List Value) (m : Nat) (hf : ∀ x, (f x).length = m) : ∀ (l : List α) (k j : Nat) (_ : j < m) (hk : k < l.length), (l.flatMap f)[k * m + j]? = (f l[k])[j]?
  | [], k, j, _, hk => by simp at hk
  | x :: r, 0, j, hj, _ => by
    rw [List.flatMap_cons, Nat.zero_mul, Nat.zero_add, List.getElem?_append_left (by rw [hf]; exact hj)]; rfl
  | x :: r, k + 1, j, hj, hk => by
    rw [List.flatMap_cons, List.getElem?_append_right (by rw [hf, Nat.succ_mul]; omega), hf, show (k + 1) * m + j - m = k * m + j by rw [Nat.succ_mul]; omega]
    exact flat_get f m hf r k j hj (by simpa using hk)
theorem flat_len {α : Type} (f : α → List Value) (m : Nat) (hf : ∀ x, (f x).length = m) (l : List α) : (l.flatMap f).length = l.length * m := by
  induction l with
  | nil => simp
  | cons x r ih => rw [List.flatMap_cons, List.length_append, hf, ih, List.length_cons, Nat.succ_mul]; omega
/-- The cells of an element. -/
theorem Sl.elem {α : Type} {w : World} {B m n c : Nat} {A : Option Addr} {f : α → List Value} {l : List α} (h : Sl w B m A n c (l.flatMap f)) (hf : ∀ x, (f x).length = m) (hm : 0 < m) :
    n = l.length ∧ n ≤ maxLen ∧ (l = [] ∨ ∃ b off, A = some ⟨b, off, none⟩ ∧ b < B ∧ ∀ k j u (hk : k < l.length), j < m → (f l[k])[j]? = some u → w.cell? ⟨b, off + k * m + j, none⟩ = some u) := by
  obtain ⟨h1, h2, h3, h4⟩ := h
  rw [flat_len f m hf] at h1
  have hn : n = l.length := Nat.eq_of_mul_eq_mul_right hm h1.symm
  refine ⟨hn, by omega, ?_⟩
  rcases h4 with h4 | ⟨b, off, hA, hb, hc⟩
  · left; exact List.eq_nil_of_length_eq_zero (by omega)
  · right
    refine ⟨b, off, hA, hb, fun k j u hk hj hu => ?_⟩
    have := hc (k * m + j) u (by rw [flat_get f m hf l k j hj hk]; exact hu)
    rw [← Nat.add_assoc] at this
    exact this

def findL : EL → Nm → Nat
  | [], _ => 0
  | x :: r, n => if cmpN x.1 n < 0 then findL r n + 1 else 0
theorem findL_le (l : EL) (n : Nm) : findL l n ≤ l.length := by
  induction l with
  | nil => exact Nat.le_refl _
  | cons x r ih => unfold findL; split <;> simp <;> omega
theorem findL_drop (l : EL) (n : Nm) (k : Nat) (hk : k < l.length) : findL (l.drop k) n = if cmpN l[k].1 n < 0 then findL (l.drop (k + 1)) n + 1 else 0 := by
  rw [List.drop_eq_getElem_cons hk, findL]
/-- Whether the element there is the one. -/
def isL (l : EL) (n : Nm) : Bool := match l[findL l n]? with | some x => eqN x.1 n | none => false
def smallE (l : EL) : Prop := ∀ x ∈ l, x.1.owner.size ≤ 1000000

set_option maxRecDepth 100000 in
set_option maxHeartbeats 3200000 in
theorem find_any (A : Option Addr) (n c : Nat) (l : EL) (nm : Nm) (hl : smallE l) (hn : nm.owner.size ≤ 1000000) (w : World) (hs : Sl w w.heap.size 6 A n c (l.flatMap eCells)) :
    Calls Tryz.prog 45 #[.slice A n c, nmV nm] w fun e w' => e = .returned (.tuple #[.int .i64 (findL l nm), .bool (isL l nm)]) ∧ Below w.heap.size w w' := by
  obtain ⟨rfl, hmx, hel⟩ := hs.elem eCells_len (by decide)
  unfold maxLen at hmx
  unfold nmV
  go_enter Tryz.func45, Tryz.ntmps45
  go_upto_region 1 with fail
  generalize hW : w.alloc (.cells #[.int .i64 nm.kind, .string nm.owner, .int .i64 nm.number, .int .i64 nm.index, .string nm.text] 24) = W
  have b0 : Blk W w.heap.size 24 #[.int .i64 nm.kind, .string nm.owner, .int .i64 nm.number, .int .i64 nm.index, .string nm.text] := by rw [← hW]; exact Blk.new _ _ _
  have hB0 : Below w.heap.size w W := by rw [← hW]; exact (Below.refl _ _).alloc (Nat.le_refl _) _
  have lW : w.heap.size < W.heap.size := b0.lt
  clear hW
  have HS := hid hs
  clear hs
  go_wp2_with fail
  go_loopw [6] (fun a wr => ∃ k : Nat, a = .int .i64 k ∧ k ≤ l.length ∧ findL l nm = k + findL (l.drop k) nm ∧ Below W.heap.size W wr) (fun a _ => l.length - (intOf a).toNat)
  case atStart => exact ⟨0, rfl, Nat.zero_le _, by simp, Below.refl _ _⟩
  case round =>
    obtain ⟨k, rfl, hk, he, hBw⟩ := hrel
    have HE := hid he
    clear he
    by_cases h1 : k < l.length
    · have h1i : (k : Int) < (l.length : Int) := by omega
      have h1d : decide ((k : Int) < (l.length : Int)) = true := by simp; omega
      rcases hel with rfl | ⟨b, off, rfl, hb, hc⟩
      · simp at h1
      have KK : ∀ w', Below W.heap.size W w' → w'.cell? ⟨b, off + k * 6, none⟩ = some (.int .i64 l[k].1.kind) ∧ w'.cell? ⟨b, off + k * 6 + 1, none⟩ = some (.string l[k].1.owner) ∧ w'.cell? ⟨b, off + k * 6 + 2, none⟩ = some (.int .i64 l[k].1.number) ∧ w'.cell? ⟨b, off + k * 6 + 3, none⟩ = some (.int .i64 l[k].1.index) ∧ w'.cell? ⟨b, off + k * 6 + 4, none⟩ = some (.string l[k].1.text) ∧
          w'.cell? ⟨w.heap.size, 0, none⟩ = some (.int .i64 nm.kind) ∧ w'.cell? ⟨w.heap.size, 1, none⟩ = some (.string nm.owner) ∧ w'.cell? ⟨w.heap.size, 2, none⟩ = some (.int .i64 nm.number) ∧ w'.cell? ⟨w.heap.size, 3, none⟩ = some (.int .i64 nm.index) ∧ w'.cell? ⟨w.heap.size, 4, none⟩ = some (.string nm.text) := by
        intro w' hb'
        have hk := hB0.trans (hb'.mono hB0.size)
        have cc := b0.below hb' lW
        exact ⟨((bcell hk).1 _ _ hb).trans (hc k 0 _ h1 (by decide) rfl), ((bcell hk).1 _ _ hb).trans (hc k 1 _ h1 (by decide) rfl), ((bcell hk).1 _ _ hb).trans (hc k 2 _ h1 (by decide) rfl), ((bcell hk).1 _ _ hb).trans (hc k 3 _ h1 (by decide) rfl), ((bcell hk).1 _ _ hb).trans (hc k 4 _ h1 (by decide) rfl), cc.cell 0, cc.cell 1, cc.cell 2, cc.cell 3, cc.cell 4⟩
      obtain ⟨q0, q1, q2, q3, q4, q5, q6, q7, q8, q9⟩ := KK wr hBw
      have CM := hid (fun w' => refCmpN_any l[k].1 nm (hl _ (List.getElem_mem h1)) hn w')
      have EQ := hid (fun w' => eqlN l[k].1 nm w')
      have HD := hid (findL_drop l nm k h1)
      have K := hid KK
      have HIS := hid (show findL l nm = k → isL l nm = eqN l[k].1 nm from fun e => by unfold isL; rw [e, List.getElem?_eq_getElem h1])
      unfold nmV at CM EQ
      clear KK hc
      generalize l[k].1 = m at *
      generalize cmpN m nm = c' at *
      by_cases hlt : c' < 0
      · go_wp2_with fail
        go_region_held3 (fun w' => w'.cell? ⟨b, off + k * 6, none⟩ = some (.int .i64 m.kind) ∧ w'.cell? ⟨b, off + k * 6 + 1, none⟩ = some (.string m.owner) ∧ w'.cell? ⟨b, off + k * 6 + 2, none⟩ = some (.int .i64 m.number) ∧ w'.cell? ⟨b, off + k * 6 + 3, none⟩ = some (.int .i64 m.index) ∧ w'.cell? ⟨b, off + k * 6 + 4, none⟩ = some (.string m.text) ∧
          w'.cell? ⟨w.heap.size, 0, none⟩ = some (.int .i64 nm.kind) ∧ w'.cell? ⟨w.heap.size, 1, none⟩ = some (.string nm.owner) ∧ w'.cell? ⟨w.heap.size, 2, none⟩ = some (.int .i64 nm.number) ∧ w'.cell? ⟨w.heap.size, 3, none⟩ = some (.int .i64 nm.index) ∧ w'.cell? ⟨w.heap.size, 4, none⟩ = some (.string nm.text))
          (first | go_keep | exact K.out _ ((hBw.drew).trans (hb1.mono hBw.drew.size)))
          (first | (go_at_call 52; refine (CM.out _).mono ?_; rintro e w1 ⟨rfl, hb1⟩))
        go_wp2_with fail
        go_roundw
        case rel => exact ⟨k + 1, by go_num, by omega, by rw [HE.out, HD.out, if_pos hlt]; omega, (hBw.drew).trans (hb1.mono hBw.drew.size)⟩
        case measure => simp [intOf]; omega
      · have HZ := hid (show findL l nm = k by rw [HE.out, HD.out, if_neg (by omega)]; omega)
        have hcd : decide (c' < 0) = false := by simp; omega
        go_wp2_with fail
        go_region_held3 (fun w' => w'.cell? ⟨b, off + k * 6, none⟩ = some (.int .i64 m.kind) ∧ w'.cell? ⟨b, off + k * 6 + 1, none⟩ = some (.string m.owner) ∧ w'.cell? ⟨b, off + k * 6 + 2, none⟩ = some (.int .i64 m.number) ∧ w'.cell? ⟨b, off + k * 6 + 3, none⟩ = some (.int .i64 m.index) ∧ w'.cell? ⟨b, off + k * 6 + 4, none⟩ = some (.string m.text) ∧
          w'.cell? ⟨w.heap.size, 0, none⟩ = some (.int .i64 nm.kind) ∧ w'.cell? ⟨w.heap.size, 1, none⟩ = some (.string nm.owner) ∧ w'.cell? ⟨w.heap.size, 2, none⟩ = some (.int .i64 nm.number) ∧ w'.cell? ⟨w.heap.size, 3, none⟩ = some (.int .i64 nm.index) ∧ w'.cell? ⟨w.heap.size, 4, none⟩ = some (.string nm.text))
          (first | go_keep | exact K.out _ ((hBw.drew).trans (hb1.mono hBw.drew.size)))
          (first | (go_at_call 52; refine (CM.out _).mono ?_; rintro e w1 ⟨rfl, hb1⟩))
        have hB1 : Below W.heap.size W w1 := (hBw.drew).trans (hb1.mono hBw.drew.size)
        obtain ⟨r0, r1, r2, r3, r4, r5, r6, r7, r8, r9⟩ := K.out _ hB1
        have eq := EQ.out
        generalize eqN m nm = ee at *
        go_wp2_with fail
        go_quiet (fail)
        go_wp2_with fail
        go_ret2
        exact ⟨ret_tup2 (by rw [HZ.out]; rfl) (by rw [HIS.out HZ.out]; rfl), hB0.trans ((dN hB1 _).mono hB0.size)⟩
    · have hkl : k = l.length := by omega
      have h1d : decide ((k : Int) < (l.length : Int)) = false := by simp; omega
      have HZ := hid (show findL l nm = k by rw [HE.out, List.drop_of_length_le (by omega)]; rfl)
      have HIS := hid (show isL l nm = false by unfold isL; rw [HZ.out, List.getElem?_eq_none (by omega)])
      clear hel hkl
      go_wp2_with fail
      go_quiet (fail)
      go_wp2_with fail
      go_quiet (fail)
      go_wp2_with fail
      go_ret2
      exact ⟨ret_tup2 (by rw [HZ.out]; rfl) (by rw [HIS.out]; rfl), hB0.trans ((dN (dN hBw _) _).mono hB0.size)⟩

/-- The value found. -/
def getL (l : EL) (n : Nm) : Option ByteArray := if isL l n then (l[findL l n]?).map (·.2) else none

set_option maxHeartbeats 1000000 in
theorem refGet_any (A : Option Addr) (n c : Nat) (l : EL) (nm : Nm) (hl : smallE l) (hn : nm.owner.size ≤ 1000000) (w : World) (hs : Sl w w.heap.size 6 A n c (l.flatMap eCells)) :
    Calls Tryz.prog 17 #[.slice A n c, nmV nm] w fun e w' => e = .returned (.tuple #[.string (getS (getL l nm)), .bool (getL l nm).isSome]) ∧ Below w.heap.size w w' := by
  obtain ⟨rfl, hmx, hel⟩ := hs.elem eCells_len (by decide)
  unfold maxLen at hmx
  have hg : getL l nm = if isL l nm then (l[findL l nm]?).map (·.2) else none := rfl
  have HG := hid hg
  have HI := hid (show isL l nm = (match l[findL l nm]? with | some x => eqN x.1 nm | none => false) from rfl)
  unfold nmV
  go_enter Tryz.func17, Tryz.ntmps17
  go_upto_region 1 with fail
  generalize hW : w.alloc (.cells #[.int .i64 nm.kind, .string nm.owner, .int .i64 nm.number, .int .i64 nm.index, .string nm.text] 24) = W
  have b0 : Blk W w.heap.size 24 #[.int .i64 nm.kind, .string nm.owner, .int .i64 nm.number, .int .i64 nm.index, .string nm.text] := by rw [← hW]; exact Blk.new _ _ _
  have hB0 : Below w.heap.size w W := by rw [← hW]; exact (Below.refl _ _).alloc (Nat.le_refl _) _
  clear hW hg
  have c0 : W.cell? ⟨w.heap.size, 0, none⟩ = some (.int .i64 nm.kind) := b0.cell 0
  have c1 : W.cell? ⟨w.heap.size, 1, none⟩ = some (.string nm.owner) := b0.cell 1
  have c2 : W.cell? ⟨w.heap.size, 2, none⟩ = some (.int .i64 nm.number) := b0.cell 2
  have c3 : W.cell? ⟨w.heap.size, 3, none⟩ = some (.int .i64 nm.index) := b0.cell 3
  have c4 : W.cell? ⟨w.heap.size, 4, none⟩ = some (.string nm.text) := b0.cell 4
  have F := hid (find_any A l.length c l nm hl hn W ((hs.below hB0).more hB0.size))
  unfold nmV at F
  have hle := findL_le l nm
  clear hs b0
  generalize findL l nm = k at *
  generalize isL l nm = b at *
  cases b with
  | false =>
    clear hel
    go_wp2_with (go_at_call 45; refine F.out.mono ?_; rintro e w1 ⟨rfl, hb1⟩)
    go_ret2
    exact ⟨ret_tup2 (by rw [HG.out]; rfl) (by rw [HG.out]; rfl), hB0.trans (hb1.mono hB0.size)⟩
  | true =>
    have hk : k < l.length := by
      by_cases h : k < l.length
      · exact h
      · have := HI.out; rw [List.getElem?_eq_none (by omega)] at this; cases this
    rcases hel with rfl | ⟨bb, off, rfl, hb, hc⟩
    · simp at hk
    have hcell := hc k 5 _ hk (by decide) rfl
    have HG2 := hid (show getL l nm = some l[k].2 by rw [HG.out, if_pos rfl, List.getElem?_eq_getElem hk]; rfl)
    have HC := hid hcell
    clear hc hcell HG HI
    generalize l[k].2 = v at *
    go_wp2_with (go_at_call 45; refine F.out.mono ?_; rintro e w1 ⟨rfl, hb1⟩; have hcv := ((bcell (hB0.trans (hb1.mono hB0.size))).1 _ _ hb).trans HC.out)
    go_ret2
    exact ⟨ret_tup2 (by rw [HG2.out]; rfl) (by rw [HG2.out]; rfl), hB0.trans (hb1.mono hB0.size)⟩
end Go.Proofs.YtnbgfalhmnbefaaGreatDoor
