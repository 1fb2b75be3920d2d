/-
  THE LAW StateNil, WALKED.
-/
import Derived.Test.YtnbgfalhmnbefaaGreatDoorFill
import Derived.Test.YtnbgfalhmnbefaaGreatDoorNil
namespace Go.Proofs.YtnbgfalhmnbefaaGreatDoor
open Go.RowKit

set_option maxRecDepth 100000 in
set_option maxHeartbeats 3200000 in
theorem lawNil_any (x : Ch) (hx : strOk [x]) (w : World) : Calls Tryz.prog 9 #[chV x] w fun e w' => e = .returned (.bool true) ∧ Below w.heap.size w w' := by
  have hz : ∀ w, (binOp .eql 75 (.agg z32) (.agg #[.int .u8 0, .int .u8 0, .int .u8 0, .int .u8 0, .int .u8 0, .int .u8 0, .int .u8 0, .int .u8 0, .int .u8 0, .int .u8 0, .int .u8 0, .int .u8 0, .int .u8 0, .int .u8 0, .int .u8 0, .int .u8 0, .int .u8 0, .int .u8 0, .int .u8 0, .int .u8 0, .int .u8 0, .int .u8 0, .int .u8 0, .int .u8 0, .int .u8 0, .int .u8 0, .int .u8 0, .int .u8 0, .int .u8 0, .int .u8 0, .int .u8 0, .int .u8 0])).run Tryz.prog w = .ok (.bool true) w := eqZ32
  obtain ⟨⟨kd, ow, nu, ix, tx⟩, vl, ab⟩ := x
  unfold chV
  go_enter Tryz.func9, Tryz.ntmps9
  go_upto_region 1 with fail
  generalize hW : w.alloc (.cells #[.int .i64 kd, .string ow, .int .i64 nu, .int .i64 ix, .string tx, .string vl, .bool ab] 54) = W
  have b0 : Blk W w.heap.size 54 #[.int .i64 kd, .string ow, .int .i64 nu, .int .i64 ix, .string tx, .string vl, .bool ab] := by rw [← hW]; exact Blk.new _ _ _
  have hB0 : Below w.heap.size w W := by rw [← hW]; exact (Below.refl _ _).alloc (Nat.le_refl _) _
  clear hW
  go_wp2_with fail
  refine (known_any _).mono ?_
  rintro e w1 ⟨rfl, hb1⟩
  have hB1 := hB0.trans (hb1.mono hB0.size)
  have b1 := b0.below hb1 b0.lt
  have c0 : w1.cell? ⟨w.heap.size, 0, none⟩ = some (.int .i64 kd) := b1.cell 0
  have c1 : w1.cell? ⟨w.heap.size, 1, none⟩ = some (.string ow) := b1.cell 1
  have c2 : w1.cell? ⟨w.heap.size, 2, none⟩ = some (.int .i64 nu) := b1.cell 2
  have c3 : w1.cell? ⟨w.heap.size, 3, none⟩ = some (.int .i64 ix) := b1.cell 3
  have c4 : w1.cell? ⟨w.heap.size, 4, none⟩ = some (.string tx) := b1.cell 4
  have c5 : w1.cell? ⟨w.heap.size, 5, none⟩ = some (.string vl) := b1.cell 5
  have c6 : w1.cell? ⟨w.heap.size, 6, none⟩ = some (.bool ab) := b1.cell 6
  have l1 := b1.lt
  clear b0 b1 hb1
  go_wp2_with fail
  have TO := to5_any (some ⟨w1.heap.size, 0, none⟩) 1 1 [⟨⟨kd, ow, nu, ix, tx⟩, vl, ab⟩] hx (w1.alloc (.cells #[.int .i64 kd, .string ow, .int .i64 nu, .int .i64 ix, .string tx, .string vl, .bool ab] 54)) (RowC.one (Blk.new w1 _ _) rfl)
  have hto : toC [⟨⟨kd, ow, nu, ix, tx⟩, vl, ab⟩] = [cutC ⟨⟨kd, ow, nu, ix, tx⟩, vl, ab⟩] := rfl
  rw [hto] at TO
  have hsm := cutC_small ⟨⟨kd, ow, nu, ix, tx⟩, vl, ab⟩
  clear hto hx c0 c1 c2 c3 c4 c5 c6
  generalize cutC ⟨⟨kd, ow, nu, ix, tx⟩, vl, ab⟩ = y at *
  obtain ⟨⟨ky, oy, ny, iy, ty⟩, vy, ay⟩ := y
  have hok := hsm.ok
  dsimp only at hok
  refine TO.mono ?_
  clear TO
  rintro e w2 ⟨A1, n1, A2, n2, rfl, hr1, -, hb2⟩
  have hB2 := (hB1.alloc hB1.size _).trans (hb2.mono (by have := hB1.size; simp; omega))
  have HR := hid hr1
  obtain ⟨-, -, hel⟩ := Sl.elem hr1 chCells_len (by decide)
  rcases hel with h0 | ⟨b, off, rfl, hb, hc⟩
  · cases h0
  have K := hid (show ∀ w', Below w2.heap.size w2 w' → w'.cell? ⟨b, off, none⟩ = some (.int .i64 ky) ∧ w'.cell? ⟨b, off + 1, none⟩ = some (.string oy) ∧ w'.cell? ⟨b, off + 2, none⟩ = some (.int .i64 ny) ∧ w'.cell? ⟨b, off + 3, none⟩ = some (.int .i64 iy) ∧ w'.cell? ⟨b, off + 4, none⟩ = some (.string ty) from fun w' hb' => by
    have e := fun j u (hj : j < 7) (hu : (chCells ⟨⟨ky, oy, ny, iy, ty⟩, vy, ay⟩)[j]? = some u) => ((bcell hb').1 _ _ hb).trans (hc 0 j u (by simp) hj hu)
    simp only [Nat.zero_mul, Nat.add_zero] at e
    exact ⟨e 0 _ (by decide) rfl, e 1 _ (by decide) rfl, e 2 _ (by decide) rfl, e 3 _ (by decide) rfl, e 4 _ (by decide) rfl⟩)
  obtain ⟨p0, p1, p2, p3, p4⟩ := K.out w2 (Below.refl _ _)
  have hle : ((([⟨⟨ky, oy, ny, iy, ty⟩, vy, ay⟩] : List Ch).length : Nat) : Int) = 1 := rfl
  clear hr1 hc
  go_wp2_with fail
  have G : Calls Tryz.prog 15 #[.pointer none, nmV ⟨ky, oy, ny, iy, ty⟩] w2 (fun e w' => e = .returned (.tuple #[.string ⟨#[]⟩, .bool false]) ∧ Below w2.heap.size w2 w') := get_any none .nil ⟨ky, oy, ny, iy, ty⟩ hok trivial w2 (.inl ⟨rfl, rfl⟩)
  unfold nmV at G
  refine G.mono ?_
  clear G
  rintro e w3 ⟨rfl, hb3⟩
  have hk3 : Below w2.heap.size w2 w3 := hb3
  obtain ⟨p0, p1, p2, p3, p4⟩ := K.out w3 hk3
  go_wp2_with fail
  have G := withNil_any ⟨ky, oy, ny, iy, ty⟩ ⟨#[120]⟩ w3
  unfold nmV at G
  refine G.mono ?_
  clear G
  rintro e w4 ⟨rfl, hb4⟩
  have hk4 : Below w2.heap.size w2 w4 := hk3.trans (hb4.mono hk3.size)
  obtain ⟨p0, p1, p2, p3, p4⟩ := K.out w4 hk4
  go_wp2_with fail
  have G := withoutNil_any ⟨ky, oy, ny, iy, ty⟩ w4
  unfold nmV at G
  refine G.mono ?_
  clear G
  rintro e w5 ⟨rfl, hb5⟩
  have hk5 : Below w2.heap.size w2 w5 := hk4.trans (hb5.mono hk4.size)
  obtain ⟨p0, p1, p2, p3, p4⟩ := K.out w5 hk5
  go_wp2_with fail
  clear p0 p1 p2 p3 p4
  refine (stApplyNil_any _ _).mono ?_
  rintro e w6 ⟨rfl, rfl⟩
  go_wp2_with fail
  refine (len_any none .nil _ (.inl ⟨rfl, rfl⟩)).mono ?_
  rintro e w6 ⟨rfl, rfl⟩
  have z0 : (((T.nil.size : Nat) : Int) == 0) = true := rfl
  go_wp2_with fail
  refine (total2_any none .nil _ (.inl ⟨rfl, rfl⟩)).mono ?_
  rintro e w6 ⟨rfl, rfl⟩
  have z1 : (((T.nil.bytes : Nat) : Int) == 0) = true := rfl
  go_wp2_with fail
  refine (names_any none .nil _ (.inl ⟨rfl, rfl⟩) (by decide)).mono ?_
  rintro e w6 ⟨v6, rfl, ho6, hb6⟩
  have hk6 : Below w2.heap.size w2 w6 := hk5.trans (hb6.mono hk5.size)
  obtain ⟨A6, c6, rfl, -⟩ := Sl.of_own (show w6.ownsRow w5.heap.size 34 5 v6 0 [] from ho6)
  clear ho6
  go_wp2_with fail
  refine (kinds_any none .nil 1 _ (.inl ⟨rfl, rfl⟩) (by decide)).mono ?_
  rintro e w7 ⟨v7, rfl, ho7, hb7⟩
  have hk7 : Below w2.heap.size w2 w7 := hk6.trans (hb7.mono hk6.size)
  obtain ⟨A7, c7, rfl, -⟩ := Sl.of_own (show w7.ownsRow w6.heap.size 34 5 v7 0 [] from ho7)
  clear ho7
  go_wp2_with fail
  refine (new_any _).mono ?_
  rintro e w8 ⟨q8, rfl, -, hb8⟩
  have hk8 : Below w2.heap.size w2 w8 := hk7.trans (hb8.mono hk7.size)
  go_wp2_with fail
  refine (diffNil1_any q8 _).mono ?_
  rintro e w9 ⟨rfl, hb9⟩
  have hk9 : Below w2.heap.size w2 w9 := hk8.trans (hb9.mono hk8.size)
  go_wp2_with fail
  refine (new_any _).mono ?_
  rintro e w10 ⟨q10, rfl, hs10, hb10⟩
  have hk10 : Below w2.heap.size w2 w10 := hk9.trans (hb10.mono hk9.size)
  obtain ⟨s10, r10, rfl, -, -⟩ := hs10
  go_wp2_with fail
  refine (diffNil2_any s10 _).mono ?_
  rintro e w11 ⟨rfl, hb11⟩
  have hk11 : Below w2.heap.size w2 w11 := hk10.trans (hb11.mono hk10.size)
  go_wp2_with fail
  refine (encodeNil_any _).mono ?_
  rintro e w12 ⟨rfl, hb12⟩
  have hk12 : Below w2.heap.size w2 w12 := hk11.trans (hb12.mono hk11.size)
  go_wp2_with fail
  refine (digestNil_any _).mono ?_
  rintro e w13 ⟨rfl, hb13⟩
  have hk13 : Below w2.heap.size w2 w13 := hk12.trans (hb13.mono hk12.size)
  go_wp2_with fail
  refine (equalNil1_any _).mono ?_
  rintro e w14 ⟨rfl, rfl⟩
  go_wp2_with fail
  refine (new_any _).mono ?_
  rintro e w14 ⟨q14, rfl, hs14, hb14⟩
  have hk14 : Below w2.heap.size w2 w14 := hk13.trans (hb14.mono hk13.size)
  obtain ⟨s14, r14, rfl, -, -⟩ := hs14
  go_wp2_with fail
  refine (equalNil2_any s14 _).mono ?_
  rintro e w15 ⟨rfl, rfl⟩
  go_wp2_with fail
  go_ret
  exact ⟨rfl, hB2.trans (hk14.mono hB2.size)⟩
end Go.Proofs.YtnbgfalhmnbefaaGreatDoor
