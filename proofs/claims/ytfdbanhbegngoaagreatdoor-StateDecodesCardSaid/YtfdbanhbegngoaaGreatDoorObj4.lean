/-
  LAYER 4, WALKED: object.Compare.
-/
import Derived.Test.YtfdbanhbegngoaaGreatDoorObj3
namespace Go.Proofs.YtfdbanhbegngoaaGreatDoor
open Go.RowKit

/-- cmp.Or. -/
def orI : List Int → Int
  | [] => 0
  | x :: r => if x = 0 then orI r else x
/-- object.Compare. -/
def cmpN (a b : Nm) : Int := orI [Lib.compareInt a.kind b.kind, cmpLin a.owner.data.toList b.owner.data.toList, Lib.compareInt a.number b.number, Lib.compareInt a.index b.index, Lib.compareBytes a.text.data.toList b.text.data.toList]

set_option maxRecDepth 100000 in
set_option maxHeartbeats 1000000 in
theorem or_any (A : Option Addr) (n c : Nat) (xs : List Int) (w : World) (hx : Sl w w.heap.size 1 A n c (xs.map i64v)) :
    Calls Tryz.prog 48 #[.slice A n c] w fun e w' => e = .returned (.int .i64 (orI xs)) ∧ w = w' := by
  obtain ⟨hx1, hx2, hx3, hx4⟩ := hx
  simp only [List.length_map, Nat.mul_one] at hx1
  unfold maxLen at hx3
  subst hx1
  go_enter Tryz.func48, Tryz.ntmps48
  go_wp2
  go_loop [8] (fun i => ∃ k : Nat, i = .int .i64 k ∧ k ≤ xs.length ∧ orI xs = orI (xs.drop k)) (fun i => xs.length - (intOf i).toNat)
  case atStart => exact ⟨0, rfl, Nat.zero_le _, rfl⟩
  case round =>
    obtain ⟨k, rfl, hk, he⟩ := hrel
    have HE := hid he; clear he
    by_cases h1 : k < xs.length
    · rcases hx4 with h0 | ⟨b, off, rfl, hb, hc⟩
      · omega
      have hcx := hc k (i64v xs[k]) (by simp [h1])
      unfold i64v at hcx
      have hd : orI (xs.drop k) = if xs[k] = 0 then orI (xs.drop (k + 1)) else xs[k] := by rw [List.drop_eq_getElem_cons h1, orI]
      have HD := hid hd; clear hd hc
      by_cases h0 : xs[k] = 0
      · have h0b : (xs[k] != 0) = false := by simp [h0]
        have H0 := hid h0; clear h0
        go_wp2
        go_round
        case rel => exact ⟨k + 1, by go_num, by omega, by rw [HE.out, HD.out, if_pos H0.out]⟩
        case measure => simp [intOf]; omega
      · have h0b : (xs[k] != 0) = true := by simp [h0]
        have H0 := hid h0; clear h0
        go_wp2
        go_ret
        exact ⟨ret_int (by rw [HE.out, HD.out, if_neg H0.out]), rfl⟩
    · have hd : orI (xs.drop k) = 0 := by rw [List.drop_of_length_le (by omega)]; rfl
      have HD := hid hd; clear hd
      go_wp2
      go_ret
      exact ⟨ret_int (by rw [HE.out, HD.out]), rfl⟩

/-- A slice literal that was just built. -/
theorem Sl.built (w : World) (cs : Array Value) (t : TypeId) {n : Nat} (hn : cs.size = n) (hm : n ≤ maxLen) {xs : List Value} (hx : cs.toList = xs) {g : Nat} (hg : g = w.heap.size) :
    Sl (w.alloc (.cells cs t)) (w.alloc (.cells cs t)).heap.size 1 (some ⟨g, 0, none⟩) n n xs := by
  subst hg hx
  refine ⟨by simp [hn], Nat.le_refl _, hm, .inr ⟨_, 0, rfl, by simp, fun j u hu => ?_⟩⟩
  rw [Nat.zero_add, (Blk.new w t cs).cell j, ← Array.getElem?_toList]
  exact hu

set_option maxRecDepth 100000 in
set_option maxHeartbeats 3200000 in
theorem cmpN_any (a b : Nm) (ha : a.Ok) (hb : b.Ok) (w : World) : Calls Tryz.prog 20 #[nmV a, nmV b] w fun e w' => e = .returned (.int .i64 (cmpN a b)) ∧ Below w.heap.size w w' := by
  obtain ⟨k, o, n, i, t⟩ := a
  obtain ⟨k', o', n', i', t'⟩ := b
  obtain ⟨hO, _⟩ := ha
  obtain ⟨hO', _⟩ := hb
  dsimp only at hO hO'
  unfold nmV
  go_enter Tryz.func20, Tryz.ntmps20
  go_wp2_with fail
  generalize hW : (w.alloc (.cells #[.int .i64 k, .string o, .int .i64 n, .int .i64 i, .string t] 38)).alloc (.cells #[.int .i64 k', .string o', .int .i64 n', .int .i64 i', .string t'] 38) = W
  have b1 : Blk W w.heap.size 38 #[.int .i64 k, .string o, .int .i64 n, .int .i64 i, .string t] := by rw [← hW]; exact (Blk.new _ _ _).alloc _
  have b2 : Blk W (w.heap.size + 1) 38 #[.int .i64 k', .string o', .int .i64 n', .int .i64 i', .string t'] := by rw [← hW]; exact Blk.new_ _ _ _ (by simp)
  have hB : Below w.heap.size w W := by rw [← hW]; exact (((Below.refl _ _).alloc (Nat.le_refl _) _).alloc (by simp) _)
  have l1 := b1.lt
  have l2 := b2.lt
  have c0 : W.cell? ⟨w.heap.size, 0, none⟩ = some (.int .i64 k) := b1.cell 0
  have c1 : W.cell? ⟨w.heap.size, 1, none⟩ = some (.string o) := b1.cell 1
  have c2 : W.cell? ⟨w.heap.size, 2, none⟩ = some (.int .i64 n) := b1.cell 2
  have c3 : W.cell? ⟨w.heap.size, 3, none⟩ = some (.int .i64 i) := b1.cell 3
  have c4 : W.cell? ⟨w.heap.size, 4, none⟩ = some (.string t) := b1.cell 4
  have d0 : W.cell? ⟨w.heap.size + 1, 0, none⟩ = some (.int .i64 k') := b2.cell 0
  have d1 : W.cell? ⟨w.heap.size + 1, 1, none⟩ = some (.string o') := b2.cell 1
  have d2 : W.cell? ⟨w.heap.size + 1, 2, none⟩ = some (.int .i64 n') := b2.cell 2
  have d3 : W.cell? ⟨w.heap.size + 1, 3, none⟩ = some (.int .i64 i') := b2.cell 3
  have d4 : W.cell? ⟨w.heap.size + 1, 4, none⟩ = some (.string t') := b2.cell 4
  clear hW b1 b2
  have p0 := fun w => Tryz.cmp_Compare_int k k' w
  have p1 := fun w => cmpLin_any o o' hO hO' w
  have p2 := fun w => Tryz.cmp_Compare_int n n' w
  have p3 := fun w => Tryz.cmp_Compare_int i i' w
  have p4 := fun w => Tryz.strings_Compare t t' w
  generalize hx0 : Lib.compareInt k k' = x0 at p0
  generalize hx1 : cmpLin o.data.toList o'.data.toList = x1 at p1
  generalize hx2 : Lib.compareInt n n' = x2 at p2
  generalize hx3 : Lib.compareInt i i' = x3 at p3
  generalize hx4 : Lib.compareBytes t.data.toList t'.data.toList = x4 at p4
  have hr : cmpN ⟨k, o, n, i, t⟩ ⟨k', o', n', i', t'⟩ = orI [x0, x1, x2, x3, x4] := by simp only [cmpN, hx0, hx1, hx2, hx3, hx4]
  have HR := hid hr
  clear hr hx0 hx1 hx2 hx3 hx4
  have p5 : ∀ w : World, Calls Tryz.prog 48 #[.slice (some ⟨w.heap.size, 0, none⟩) 5 5] (w.alloc (.cells #[.int .i64 x0, .int .i64 x1, .int .i64 x2, .int .i64 x3, .int .i64 x4] 3)) fun e w' => e = .returned (.int .i64 (orI [x0, x1, x2, x3, x4])) ∧ w.alloc (.cells #[.int .i64 x0, .int .i64 x1, .int .i64 x2, .int .i64 x3, .int .i64 x4] 3) = w' :=
    fun w => or_any _ _ _ [x0, x1, x2, x3, x4] _ (Sl.built (n := 5) w _ _ rfl (by unfold maxLen; omega) rfl rfl)
  have P5 := hid p5; clear p5
  have P0 := hid p0; have P1 := hid p1; have P2 := hid p2; have P3 := hid p3; have P4 := hid p4
  clear p0 p1 p2 p3 p4
  go_region_held3 (fun w' => w'.cell? ⟨w.heap.size, 0, none⟩ = some (.int .i64 k) ∧ w'.cell? ⟨w.heap.size, 1, none⟩ = some (.string o) ∧ w'.cell? ⟨w.heap.size, 2, none⟩ = some (.int .i64 n) ∧ w'.cell? ⟨w.heap.size, 3, none⟩ = some (.int .i64 i) ∧ w'.cell? ⟨w.heap.size, 4, none⟩ = some (.string t) ∧
      w'.cell? ⟨w.heap.size + 1, 0, none⟩ = some (.int .i64 k') ∧ w'.cell? ⟨w.heap.size + 1, 1, none⟩ = some (.string o') ∧ w'.cell? ⟨w.heap.size + 1, 2, none⟩ = some (.int .i64 n') ∧ w'.cell? ⟨w.heap.size + 1, 3, none⟩ = some (.int .i64 i') ∧ w'.cell? ⟨w.heap.size + 1, 4, none⟩ = some (.string t'))
    (first | go_keep | exact ⟨(hc1 _ _ l1).trans c0, (hc1 _ _ l1).trans c1, (hc1 _ _ l1).trans c2, (hc1 _ _ l1).trans c3, (hc1 _ _ l1).trans c4, (hc1 _ _ l2).trans d0, (hc1 _ _ l2).trans d1, (hc1 _ _ l2).trans d2, (hc1 _ _ l2).trans d3, (hc1 _ _ l2).trans d4⟩)
    (first
      | (go_at_call_of 49 (Value.int .i64 k); refine (P0.out _).mono ?_; rintro e w' ⟨rfl, rfl⟩)
      | (go_at_call_of 49 (Value.int .i64 n); refine (P2.out _).mono ?_; rintro e w' ⟨rfl, rfl⟩)
      | (go_at_call_of 49 (Value.int .i64 i); refine (P3.out _).mono ?_; rintro e w' ⟨rfl, rfl⟩)
      | (go_at_call 50; refine (P1.out _).mono ?_; rintro e w1 ⟨rfl, hb1⟩; have hc1 := (bcell hb1).1)
      | (go_at_call 51; refine (P4.out _).mono ?_; rintro e w' ⟨rfl, rfl⟩)
      | (go_at_call 48; refine (P5.out _).mono ?_; rintro e w' ⟨rfl, rfl⟩))
  go_wp2_with fail
  go_ret
  exact ⟨ret_int HR.out.symm, (hB.drew.trans (hb1.mono hB.size)).alloc (Nat.le_trans hB.size hb1.size) _⟩
end Go.Proofs.YtfdbanhbegngoaaGreatDoor
