/-
  THE LAWS' HELPERS, WALKED: replevinlaw05.one. (Written by the program gen_one.py.)
-/
import Derived.Test.YtnbgfalhmnbefaaGreatDoorRefApply
import Derived.Test.YtnbgfalhmnbefaaGreatDoorApply
namespace Go.Proofs.YtnbgfalhmnbefaaGreatDoor
open Go.RowKit

theorem RowC.one {w : World} {g : Nat} {t : TypeId} {c : Ch} {cs : Array Value} (h : Blk w g t cs) (hc : cs.toList = chCells c) : RowC w (some ⟨g, 0, none⟩) 1 1 [c] := by
  refine ⟨rfl, Nat.le_refl _, by unfold maxLen; omega, .inr ⟨g, 0, rfl, h.lt, fun j u hu => ?_⟩⟩
  rw [Nat.zero_add, h.cell, ← Array.getElem?_toList, hc]
  simpa using hu
theorem applyLE_one (l : EL) (c : Ch) : applyLE l [c] = stepLE l c := by
  unfold applyLE applyLE
  split <;> simp_all
theorem applyL_one (l : EL) (c : Ch) (h : stepLE l c = 0) : applyL l [c] = stepL l c := by
  unfold applyL applyL
  rw [if_neg (by simp [h])]
def OnePost (w : World) (t : T) (l : EL) (o : Ending) (w' : World) : Prop := ∃ q A1 n1 c1, o = .returned (.tuple #[.pointer q, .slice A1 n1 c1, .bool true]) ∧ IsState w' q t ∧ RowE w' A1 n1 c1 l ∧ Below w.heap.size w w'
theorem oneT_0 {t : T} {c : Ch} (h : stepTE t c = 0) : oneT t c = stepT t c := by unfold oneT; rw [if_pos h]
theorem oneT_1 {t : T} {c : Ch} (h : stepTE t c ≠ 0) : oneT t c = t := by unfold oneT; rw [if_neg h]
theorem oneL_0 {l : EL} {c : Ch} (h : stepLE l c = 0) : oneL l c = stepL l c := by unfold oneL; rw [if_pos h]
theorem oneL_1 {l : EL} {c : Ch} (h : stepLE l c ≠ 0) : oneL l c = l := by unfold oneL; rw [if_neg h]


set_option maxRecDepth 100000 in
set_option maxHeartbeats 3200000 in
theorem one_true (g : Nat) (hk : g ≤ 900) (p : Option Addr) (t : T) (A : Option Addr) (n c : Nat) (kd : Int) (ow : ByteArray) (nu ix : Int) (tx vl : ByteArray) (hx : Ch.Small ⟨⟨kd, ow, nu, ix, tx⟩, vl, true⟩) (hg : Good g t.toList) (w : World) (hs : IsState w p t) (hr : RowE w A n c t.toList) :
    Calls Tryz.prog 22 #[.pointer p, .slice A n c, .agg #[.int .i64 kd, .string ow, .int .i64 nu, .int .i64 ix, .string tx, .string vl, .bool true], .agg #[.int .i64 kd, .string ow, .int .i64 nu, .int .i64 ix, .string tx, .string vl, .bool true]] w (OnePost w (oneT t ⟨⟨kd, ow, nu, ix, tx⟩, vl, true⟩) (oneL t.toList ⟨⟨kd, ow, nu, ix, tx⟩, vl, true⟩)) := by
  have hok := hx.ok
  dsimp only at hok
  obtain ⟨z1, z2⟩ := hg.fits (by omega)
  have hvs := hx.2.2
  dsimp only at hvs
  have CO := hid (fun w' (h : IsState w' p t) => stWithout_any p t ⟨kd, ow, nu, ix, tx⟩ hok hg.ok ⟨by omega, by omega⟩ w' h)
  change Hid (∀ w', IsState w' p t → Calls Tryz.prog 33 #[.pointer p, nmV ⟨kd, ow, nu, ix, tx⟩] w' (SPost w' (stepTE t ⟨⟨kd, ow, nu, ix, tx⟩, vl, true⟩) (stepT t ⟨⟨kd, ow, nu, ix, tx⟩, vl, true⟩))) at CO
  have CR := hid (fun w' B (h1 : RowE w' A n c t.toList) (h2 : RowC w' (some ⟨B, 0, none⟩) 1 1 [⟨⟨kd, ow, nu, ix, tx⟩, vl, true⟩]) => refApply_any g A n c t.toList (some ⟨B, 0, none⟩) 1 1 [⟨⟨kd, ow, nu, ix, tx⟩, vl, true⟩] (by intro y hy; simp only [List.mem_cons, List.not_mem_nil, or_false] at hy; subst hy; exact hx) hg (by simp; omega) w' h1 h2)
  have HS := hid hs; have HR := hid hr
  have hee := step_e (t := t) (c := ⟨⟨kd, ow, nu, ix, tx⟩, vl, true⟩) rfl hg.sorted
  rw [applyLE_one, ← hee] at CR
  have H0 := hid (fun h : stepTE t ⟨⟨kd, ow, nu, ix, tx⟩, vl, true⟩ = 0 => And.intro (oneT_0 h) (And.intro (oneL_0 (hee ▸ h)) (applyL_one t.toList ⟨⟨kd, ow, nu, ix, tx⟩, vl, true⟩ (hee ▸ h))))
  have H1 := hid (fun h : stepTE t ⟨⟨kd, ow, nu, ix, tx⟩, vl, true⟩ ≠ 0 => And.intro (oneT_1 h) (oneL_1 (l := t.toList) (hee ▸ h)))
  clear hs hr hok hx hg z1 z2 hee hvs
  generalize stepTE t ⟨⟨kd, ow, nu, ix, tx⟩, vl, true⟩ = E at *
  generalize stepT t ⟨⟨kd, ow, nu, ix, tx⟩, vl, true⟩ = T1 at *
  generalize stepL t.toList ⟨⟨kd, ow, nu, ix, tx⟩, vl, true⟩ = L1 at *
  generalize oneT t ⟨⟨kd, ow, nu, ix, tx⟩, vl, true⟩ = T2 at *
  generalize oneL t.toList ⟨⟨kd, ow, nu, ix, tx⟩, vl, true⟩ = L2 at *
  generalize applyL t.toList [⟨⟨kd, ow, nu, ix, tx⟩, vl, true⟩] = L3 at *
  unfold nmV at CO
  go_enter Tryz.func22, Tryz.ntmps22
  go_upto_region 1 with fail
  generalize hW : (w.alloc (.cells #[.int .i64 kd, .string ow, .int .i64 nu, .int .i64 ix, .string tx, .string vl, .bool true] 52)).alloc (.cells #[.int .i64 kd, .string ow, .int .i64 nu, .int .i64 ix, .string tx, .string vl, .bool true] 54) = W
  have b0 : Blk W w.heap.size 52 #[.int .i64 kd, .string ow, .int .i64 nu, .int .i64 ix, .string tx, .string vl, .bool true] := by rw [← hW]; exact (Blk.new _ _ _).alloc _
  have b1 : Blk W (w.heap.size + 1) 54 #[.int .i64 kd, .string ow, .int .i64 nu, .int .i64 ix, .string tx, .string vl, .bool true] := by rw [← hW]; exact Blk.new_ _ _ _ (by simp)
  have hB0 : Below w.heap.size w W := by rw [← hW]; exact ((Below.refl _ _).alloc (Nat.le_refl _) _).alloc (by simp) _
  have l0 := b0.lt
  have l1 := b1.lt
  clear hW
  have HS1 := hid (HS.out.below hB0)
  have K := hid (show ∀ w', Below W.heap.size W w' → w'.cell? ⟨w.heap.size, 0, none⟩ = some (.int .i64 kd) ∧ w'.cell? ⟨w.heap.size, 1, none⟩ = some (.string ow) ∧ w'.cell? ⟨w.heap.size, 2, none⟩ = some (.int .i64 nu) ∧ w'.cell? ⟨w.heap.size, 3, none⟩ = some (.int .i64 ix) ∧ w'.cell? ⟨w.heap.size, 4, none⟩ = some (.string tx) ∧ w'.cell? ⟨w.heap.size, 5, none⟩ = some (.string vl) ∧ w'.cell? ⟨w.heap.size, 6, none⟩ = some (.bool true) ∧ w'.cell? ⟨w.heap.size + 1, 0, none⟩ = some (.int .i64 kd) ∧ w'.cell? ⟨w.heap.size + 1, 1, none⟩ = some (.string ow) ∧ w'.cell? ⟨w.heap.size + 1, 2, none⟩ = some (.int .i64 nu) ∧ w'.cell? ⟨w.heap.size + 1, 3, none⟩ = some (.int .i64 ix) ∧ w'.cell? ⟨w.heap.size + 1, 4, none⟩ = some (.string tx) ∧ w'.cell? ⟨w.heap.size + 1, 5, none⟩ = some (.string vl) ∧ w'.cell? ⟨w.heap.size + 1, 6, none⟩ = some (.bool true) from fun w' hb' => by
    have c0 := b0.below hb' l0
    have c1 := b1.below hb' l1
    exact ⟨c0.cell 0, c0.cell 1, c0.cell 2, c0.cell 3, c0.cell 4, c0.cell 5, c0.cell 6, c1.cell 0, c1.cell 1, c1.cell 2, c1.cell 3, c1.cell 4, c1.cell 5, c1.cell 6⟩)
  obtain ⟨q0, q1, q2, q3, q4, q5, q6, q7, q8, q9, q10, q11, q12, q13⟩ := K.out W (Below.refl _ _)
  have hsz := hB0.size
  clear b0 b1
  by_cases hE : E = 0
  · have hEb : (E != 0) = false := by simp [hE]
    have hEe : (E != E) = false := by simp
    have HZ := hid hE
    clear hE
    go_wp2_with fail
    refine (CO.out _ HS1.out).mono ?_
    rintro e w1 ⟨q, rfl, -, hq1, hb1⟩
    have hs1 := hq1 HZ.out
    obtain ⟨sb, rb, hqe, -, -⟩ := id hs1
    subst hqe
    have HS2 := hid hs1
    have hB1 := hB0.trans (hb1.mono hB0.size)
    obtain ⟨-, -, -, -, -, -, -, r7, r8, r9, r10, r11, r12, r13⟩ := K.out w1 hb1
    clear hs1 hq1
    go_wp2_with (go_at_call 28; refine (CR.out _ _ ?_ ?_).mono ?_; (exact HR.out.below (hB1.alloc hB1.size _)); (exact RowC.one (Blk.new w1 54 #[.int .i64 kd, .string ow, .int .i64 nu, .int .i64 ix, .string tx, .string vl, .bool true]) rfl); rintro e w2 ⟨A2, n2, c2, rfl, -, hr2, hb2⟩)
    have hB2 := (hB1.alloc hB1.size _).trans (hb2.mono (by have := hB1.size; simp; omega))
    have hb12 : Below w1.heap.size w1 w2 := ((Below.refl _ _).alloc (Nat.le_refl _) _).trans (hb2.mono (by simp))
    go_ret3
    obtain ⟨e1, e2, e3⟩ := H0.out HZ.out
    exact ⟨_, A2, n2, c2, rfl, by rw [e1]; exact HS2.out.below hb12, by rw [e2, ← e3]; exact hr2 HZ.out, hB2⟩
  · have hEb : (E != 0) = true := by simp [hE]
    have hEe : (E != E) = false := by simp
    have HZ := hid hE
    clear hE
    go_wp2_with fail
    refine (CO.out _ HS1.out).mono ?_
    rintro e w1 ⟨q, rfl, hq0, -, hb1⟩
    have hqe := hq0 HZ.out
    subst hqe
    have hB1 := hB0.trans (hb1.mono hB0.size)
    obtain ⟨-, -, -, -, -, -, -, r7, r8, r9, r10, r11, r12, r13⟩ := K.out w1 hb1
    clear hq0
    go_wp2_with (go_at_call 28; refine (CR.out _ _ ?_ ?_).mono ?_; (exact HR.out.below (hB1.alloc hB1.size _)); (exact RowC.one (Blk.new w1 54 #[.int .i64 kd, .string ow, .int .i64 nu, .int .i64 ix, .string tx, .string vl, .bool true]) rfl); rintro e w2 ⟨A2, n2, c2, rfl, hr2, -, hb2⟩)
    have hB2 := (hB1.alloc hB1.size _).trans (hb2.mono (by have := hB1.size; simp; omega))
    go_ret3
    obtain ⟨e1, e2⟩ := H1.out HZ.out
    exact ⟨p, A, n, c, rfl, by rw [e1]; exact HS.out.below hB2, by rw [e2]; exact HR.out.below hB2, hB2⟩

set_option maxRecDepth 100000 in
set_option maxHeartbeats 3200000 in
theorem one_false (g : Nat) (hk : g ≤ 900) (p : Option Addr) (t : T) (A : Option Addr) (n c : Nat) (kd : Int) (ow : ByteArray) (nu ix : Int) (tx vl : ByteArray) (hx : Ch.Small ⟨⟨kd, ow, nu, ix, tx⟩, vl, false⟩) (hg : Good g t.toList) (w : World) (hs : IsState w p t) (hr : RowE w A n c t.toList) :
    Calls Tryz.prog 22 #[.pointer p, .slice A n c, .agg #[.int .i64 kd, .string ow, .int .i64 nu, .int .i64 ix, .string tx, .string vl, .bool false], .agg #[.int .i64 kd, .string ow, .int .i64 nu, .int .i64 ix, .string tx, .string vl, .bool false]] w (OnePost w (oneT t ⟨⟨kd, ow, nu, ix, tx⟩, vl, false⟩) (oneL t.toList ⟨⟨kd, ow, nu, ix, tx⟩, vl, false⟩)) := by
  have hok := hx.ok
  dsimp only at hok
  obtain ⟨z1, z2⟩ := hg.fits (by omega)
  have hvs := hx.2.2
  dsimp only at hvs
  have CO := hid (fun w' (h : IsState w' p t) => stWith_any p t ⟨kd, ow, nu, ix, tx⟩ vl hok hg.ok (by omega) (by omega) w' h)
  change Hid (∀ w', IsState w' p t → Calls Tryz.prog 32 #[.pointer p, nmV ⟨kd, ow, nu, ix, tx⟩, .string vl] w' (SPost w' (stepTE t ⟨⟨kd, ow, nu, ix, tx⟩, vl, false⟩) (stepT t ⟨⟨kd, ow, nu, ix, tx⟩, vl, false⟩))) at CO
  have CR := hid (fun w' B (h1 : RowE w' A n c t.toList) (h2 : RowC w' (some ⟨B, 0, none⟩) 1 1 [⟨⟨kd, ow, nu, ix, tx⟩, vl, false⟩]) => refApply_any g A n c t.toList (some ⟨B, 0, none⟩) 1 1 [⟨⟨kd, ow, nu, ix, tx⟩, vl, false⟩] (by intro y hy; simp only [List.mem_cons, List.not_mem_nil, or_false] at hy; subst hy; exact hx) hg (by simp; omega) w' h1 h2)
  have HS := hid hs; have HR := hid hr
  have hee := step_e (t := t) (c := ⟨⟨kd, ow, nu, ix, tx⟩, vl, false⟩) rfl hg.sorted
  rw [applyLE_one, ← hee] at CR
  have H0 := hid (fun h : stepTE t ⟨⟨kd, ow, nu, ix, tx⟩, vl, false⟩ = 0 => And.intro (oneT_0 h) (And.intro (oneL_0 (hee ▸ h)) (applyL_one t.toList ⟨⟨kd, ow, nu, ix, tx⟩, vl, false⟩ (hee ▸ h))))
  have H1 := hid (fun h : stepTE t ⟨⟨kd, ow, nu, ix, tx⟩, vl, false⟩ ≠ 0 => And.intro (oneT_1 h) (oneL_1 (l := t.toList) (hee ▸ h)))
  clear hs hr hok hx hg z1 z2 hee hvs
  generalize stepTE t ⟨⟨kd, ow, nu, ix, tx⟩, vl, false⟩ = E at *
  generalize stepT t ⟨⟨kd, ow, nu, ix, tx⟩, vl, false⟩ = T1 at *
  generalize stepL t.toList ⟨⟨kd, ow, nu, ix, tx⟩, vl, false⟩ = L1 at *
  generalize oneT t ⟨⟨kd, ow, nu, ix, tx⟩, vl, false⟩ = T2 at *
  generalize oneL t.toList ⟨⟨kd, ow, nu, ix, tx⟩, vl, false⟩ = L2 at *
  generalize applyL t.toList [⟨⟨kd, ow, nu, ix, tx⟩, vl, false⟩] = L3 at *
  unfold nmV at CO
  go_enter Tryz.func22, Tryz.ntmps22
  go_upto_region 1 with fail
  generalize hW : (w.alloc (.cells #[.int .i64 kd, .string ow, .int .i64 nu, .int .i64 ix, .string tx, .string vl, .bool false] 52)).alloc (.cells #[.int .i64 kd, .string ow, .int .i64 nu, .int .i64 ix, .string tx, .string vl, .bool false] 54) = W
  have b0 : Blk W w.heap.size 52 #[.int .i64 kd, .string ow, .int .i64 nu, .int .i64 ix, .string tx, .string vl, .bool false] := by rw [← hW]; exact (Blk.new _ _ _).alloc _
  have b1 : Blk W (w.heap.size + 1) 54 #[.int .i64 kd, .string ow, .int .i64 nu, .int .i64 ix, .string tx, .string vl, .bool false] := by rw [← hW]; exact Blk.new_ _ _ _ (by simp)
  have hB0 : Below w.heap.size w W := by rw [← hW]; exact ((Below.refl _ _).alloc (Nat.le_refl _) _).alloc (by simp) _
  have l0 := b0.lt
  have l1 := b1.lt
  clear hW
  have HS1 := hid (HS.out.below hB0)
  have K := hid (show ∀ w', Below W.heap.size W w' → w'.cell? ⟨w.heap.size, 0, none⟩ = some (.int .i64 kd) ∧ w'.cell? ⟨w.heap.size, 1, none⟩ = some (.string ow) ∧ w'.cell? ⟨w.heap.size, 2, none⟩ = some (.int .i64 nu) ∧ w'.cell? ⟨w.heap.size, 3, none⟩ = some (.int .i64 ix) ∧ w'.cell? ⟨w.heap.size, 4, none⟩ = some (.string tx) ∧ w'.cell? ⟨w.heap.size, 5, none⟩ = some (.string vl) ∧ w'.cell? ⟨w.heap.size, 6, none⟩ = some (.bool false) ∧ w'.cell? ⟨w.heap.size + 1, 0, none⟩ = some (.int .i64 kd) ∧ w'.cell? ⟨w.heap.size + 1, 1, none⟩ = some (.string ow) ∧ w'.cell? ⟨w.heap.size + 1, 2, none⟩ = some (.int .i64 nu) ∧ w'.cell? ⟨w.heap.size + 1, 3, none⟩ = some (.int .i64 ix) ∧ w'.cell? ⟨w.heap.size + 1, 4, none⟩ = some (.string tx) ∧ w'.cell? ⟨w.heap.size + 1, 5, none⟩ = some (.string vl) ∧ w'.cell? ⟨w.heap.size + 1, 6, none⟩ = some (.bool false) from fun w' hb' => by
    have c0 := b0.below hb' l0
    have c1 := b1.below hb' l1
    exact ⟨c0.cell 0, c0.cell 1, c0.cell 2, c0.cell 3, c0.cell 4, c0.cell 5, c0.cell 6, c1.cell 0, c1.cell 1, c1.cell 2, c1.cell 3, c1.cell 4, c1.cell 5, c1.cell 6⟩)
  obtain ⟨q0, q1, q2, q3, q4, q5, q6, q7, q8, q9, q10, q11, q12, q13⟩ := K.out W (Below.refl _ _)
  have hsz := hB0.size
  clear b0 b1
  by_cases hE : E = 0
  · have hEb : (E != 0) = false := by simp [hE]
    have hEe : (E != E) = false := by simp
    have HZ := hid hE
    clear hE
    go_wp2_with fail
    refine (CO.out _ HS1.out).mono ?_
    rintro e w1 ⟨q, rfl, -, hq1, hb1⟩
    have hs1 := hq1 HZ.out
    obtain ⟨sb, rb, hqe, -, -⟩ := id hs1
    subst hqe
    have HS2 := hid hs1
    have hB1 := hB0.trans (hb1.mono hB0.size)
    obtain ⟨-, -, -, -, -, -, -, r7, r8, r9, r10, r11, r12, r13⟩ := K.out w1 hb1
    clear hs1 hq1
    go_wp2_with (go_at_call 28; refine (CR.out _ _ ?_ ?_).mono ?_; (exact HR.out.below (hB1.alloc hB1.size _)); (exact RowC.one (Blk.new w1 54 #[.int .i64 kd, .string ow, .int .i64 nu, .int .i64 ix, .string tx, .string vl, .bool false]) rfl); rintro e w2 ⟨A2, n2, c2, rfl, -, hr2, hb2⟩)
    have hB2 := (hB1.alloc hB1.size _).trans (hb2.mono (by have := hB1.size; simp; omega))
    have hb12 : Below w1.heap.size w1 w2 := ((Below.refl _ _).alloc (Nat.le_refl _) _).trans (hb2.mono (by simp))
    go_ret3
    obtain ⟨e1, e2, e3⟩ := H0.out HZ.out
    exact ⟨_, A2, n2, c2, rfl, by rw [e1]; exact HS2.out.below hb12, by rw [e2, ← e3]; exact hr2 HZ.out, hB2⟩
  · have hEb : (E != 0) = true := by simp [hE]
    have hEe : (E != E) = false := by simp
    have HZ := hid hE
    clear hE
    go_wp2_with fail
    refine (CO.out _ HS1.out).mono ?_
    rintro e w1 ⟨q, rfl, hq0, -, hb1⟩
    have hqe := hq0 HZ.out
    subst hqe
    have hB1 := hB0.trans (hb1.mono hB0.size)
    obtain ⟨-, -, -, -, -, -, -, r7, r8, r9, r10, r11, r12, r13⟩ := K.out w1 hb1
    clear hq0
    go_wp2_with (go_at_call 28; refine (CR.out _ _ ?_ ?_).mono ?_; (exact HR.out.below (hB1.alloc hB1.size _)); (exact RowC.one (Blk.new w1 54 #[.int .i64 kd, .string ow, .int .i64 nu, .int .i64 ix, .string tx, .string vl, .bool false]) rfl); rintro e w2 ⟨A2, n2, c2, rfl, hr2, -, hb2⟩)
    have hB2 := (hB1.alloc hB1.size _).trans (hb2.mono (by have := hB1.size; simp; omega))
    go_ret3
    obtain ⟨e1, e2⟩ := H1.out HZ.out
    exact ⟨p, A, n, c, rfl, by rw [e1]; exact HS.out.below hB2, by rw [e2]; exact HR.out.below hB2, hB2⟩

theorem one_any (g : Nat) (hk : g ≤ 900) (p : Option Addr) (t : T) (A : Option Addr) (n c : Nat) (x : Ch) (hx : x.Small) (hg : Good g t.toList) (w : World) (hs : IsState w p t) (hr : RowE w A n c t.toList) :
    Calls Tryz.prog 22 #[.pointer p, .slice A n c, chV x, chV x] w (OnePost w (oneT t x) (oneL t.toList x)) := by
  obtain ⟨⟨kd, ow, nu, ix, tx⟩, vl, ab⟩ := x
  cases ab with
  | true => exact one_true g hk p t A n c kd ow nu ix tx vl hx hg w hs hr
  | false => exact one_false g hk p t A n c kd ow nu ix tx vl hx hg w hs hr
end Go.Proofs.YtnbgfalhmnbefaaGreatDoor
