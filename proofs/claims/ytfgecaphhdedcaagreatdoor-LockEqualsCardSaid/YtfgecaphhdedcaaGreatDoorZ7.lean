/-
  LAYER 5, WALKED: balance. (Written by the program gen_bal.py.)
-/
import Derived.Test.YtfgecaphhdedcaaGreatDoorZ6
namespace Go.Proofs.YtfgecaphhdedcaaGreatDoor
open Go.RowKit

theorem nm_eta (n : Nm) : (⟨n.kind, n.owner, n.number, n.index, n.text⟩ : Nm) = n := rfl

set_option maxRecDepth 100000 in
set_option maxHeartbeats 3200000 in
theorem balC (pl pr : Option Addr) (l r : T) (n : Nm) (v : ByteArray) (w : World) (hl : IsTree w pl l) (hr : IsTree w pr r) (hf : (T.node l n v r).Fits) (h1 : ¬ r.h + 1 < l.h) (h2 : ¬ l.h + 1 < r.h) :
    Calls Tryz.prog 88 #[.pointer pl, nmV n, .string v, .pointer pr] w fun e w' => ∃ p, e = .returned (.pointer p) ∧ IsTree w' p (.node l n v r) ∧ Below w.heap.size w w' := by
  unfold nmV
  go_enter Tryz.func88, Tryz.ntmps88
  go_upto_region 1 with fail
  generalize hW : w.alloc (.cells #[.int .i64 n.kind, .string n.owner, .int .i64 n.number, .int .i64 n.index, .string n.text] 66) = W
  have b0 : Blk W w.heap.size 66 #[.int .i64 n.kind, .string n.owner, .int .i64 n.number, .int .i64 n.index, .string n.text] := by rw [← hW]; exact Blk.new _ _ _
  have hB0 : Below w.heap.size w W := by rw [← hW]; exact (Below.refl _ _).alloc (Nat.le_refl _) _
  have lW : w.heap.size < W.heap.size := b0.lt
  clear hW
  have t1 := fun w' (hb : Below w.heap.size w w') => tall_any pl l w' (hl.below hb)
  have t2 := fun w' (hb : Below w.heap.size w w') => tall_any pr r w' (hr.below hb)
  have j1 := fun w' (hb : Below w.heap.size w w') => join_any pl pr l r n v w' (hl.below hb) (hr.below hb) hf
  have z1 := T.h_le l
  have z2 := T.h_le r
  obtain ⟨f1, f2⟩ := hf
  simp only [T.size] at f1
  generalize l.h = lh at *
  generalize r.h = rh at *
  have i1 : ¬ (rh : Int) + 1 < (lh : Int) := by omega
  have i2 : ¬ (lh : Int) + 1 < (rh : Int) := by omega
  have i3 : (lh : Int) ≤ 1000000 := by omega
  have i4 : (rh : Int) ≤ 1000000 := by omega
  have T1 := hid t1; have T2 := hid t2; have J1 := hid j1
  have c0 : W.cell? ⟨w.heap.size, 0, none⟩ = some (.int .i64 n.kind) := b0.cell 0
  have c1 : W.cell? ⟨w.heap.size, 1, none⟩ = some (.string n.owner) := b0.cell 1
  have c2 : W.cell? ⟨w.heap.size, 2, none⟩ = some (.int .i64 n.number) := b0.cell 2
  have c3 : W.cell? ⟨w.heap.size, 3, none⟩ = some (.int .i64 n.index) := b0.cell 3
  have c4 : W.cell? ⟨w.heap.size, 4, none⟩ = some (.string n.text) := b0.cell 4
  clear t1 t2 j1 h1 h2 f1 f2 z1 z2 b0 hl hr
  go_wp2_with (first
    | (go_at_call_of 101 (Value.pointer pl); refine (T1.out _ hB0).mono ?_; rintro e w' ⟨rfl, rfl⟩)
    | (go_at_call_of 101 (Value.pointer pr); refine (T2.out _ hB0).mono ?_; rintro e w' ⟨rfl, rfl⟩)
    | (go_at_call 87; refine (J1.out _ hB0).mono ?_; rintro e w1 ⟨p, rfl, ht, hb1⟩))
  go_ret
  exact ⟨p, rfl, ht, hB0.trans (hb1.mono hB0.size)⟩

set_option maxRecDepth 100000 in
set_option maxHeartbeats 3200000 in
theorem balA1 (pl pr : Option Addr) (l ll lr r : T) (n ln : Nm) (v lv : ByteArray) (w : World) (hl : IsTree w pl l) (hr : IsTree w pr r) (e : l = .node ll ln lv lr) (hf : (T.node l n v r).Fits) (h1 : r.h + 1 < l.h) (h2 : lr.h ≤ ll.h) :
    Calls Tryz.prog 88 #[.pointer pl, nmV n, .string v, .pointer pr] w fun e w' => ∃ p, e = .returned (.pointer p) ∧ IsTree w' p (.node ll ln lv (T.node lr n v r)) ∧ Below w.heap.size w w' := by
  unfold nmV
  go_enter Tryz.func88, Tryz.ntmps88
  go_upto_region 1 with fail
  generalize hW : w.alloc (.cells #[.int .i64 n.kind, .string n.owner, .int .i64 n.number, .int .i64 n.index, .string n.text] 66) = W
  have b0 : Blk W w.heap.size 66 #[.int .i64 n.kind, .string n.owner, .int .i64 n.number, .int .i64 n.index, .string n.text] := by rw [← hW]; exact Blk.new _ _ _
  have hB0 : Below w.heap.size w W := by rw [← hW]; exact (Below.refl _ _).alloc (Nat.le_refl _) _
  have lW : w.heap.size < W.heap.size := b0.lt
  clear hW
  have t1 := fun w' (hb : Below w.heap.size w w') => tall_any pl l w' (hl.below hb)
  have t2 := fun w' (hb : Below w.heap.size w w') => tall_any pr r w' (hr.below hb)
  have hX := hl.below hB0
  have hx := hl
  rw [e] at hX hx
  obtain ⟨bx, pll, plr, hp, k0, -, -⟩ := hX
  obtain ⟨bx', pll', plr', hp', k0', hll, hlr⟩ := hx
  obtain rfl : bx' = bx := by rw [hp] at hp'; cases hp'; rfl
  obtain ⟨rfl, rfl⟩ : pll' = pll ∧ plr' = plr := by
    have := (k0'.below hB0 k0'.lt)
    unfold Blk at this k0; rw [this] at k0; simp [nodeCells] at k0; exact ⟨k0.1, k0.2⟩
  subst hp
  clear hp' k0'
  have t3 := fun w' (hb : Below w.heap.size w w') => tall_any pll' ll w' (hll.below hb)
  have t4 := fun w' (hb : Below w.heap.size w w') => tall_any plr' lr w' (hlr.below hb)
  have fin : (T.node lr n v r).Fits := by
    obtain ⟨f1, f2⟩ := hf
    rw [e] at f1 f2
    simp only [T.size, T.bytes] at f1 f2
    exact ⟨by simp only [T.size]; omega, by simp only [T.bytes]; omega⟩
  have fout : (.node ll ln lv (T.node lr n v r) : T).Fits := hf.of_list (by rw [e]; simp [T.toList])
  have jin := fun w' (hb : Below w.heap.size w w') => join_any plr' pr lr r n v w' (hlr.below hb) (hr.below hb) fin
  have jout := fun pj w' (hb : Below w.heap.size w w') (hj : IsTree w' pj (T.node lr n v r)) => join_any pll' pj ll (T.node lr n v r) ln lv w' (hll.below hb) hj fout
  have z1 := T.h_le l
  have z2 := T.h_le r
  have f1 := hf.1
  simp only [T.size] at f1
  have bxl : bx' < W.heap.size := k0.lt
  have KK : ∀ w', Below W.heap.size W w' → w'.cell? ⟨bx', 0, none⟩ = some (.int .i64 ln.kind) ∧ w'.cell? ⟨bx', 1, none⟩ = some (.string ln.owner) ∧ w'.cell? ⟨bx', 2, none⟩ = some (.int .i64 ln.number) ∧ w'.cell? ⟨bx', 3, none⟩ = some (.int .i64 ln.index) ∧ w'.cell? ⟨bx', 4, none⟩ = some (.string ln.text) ∧ w'.cell? ⟨bx', 5, none⟩ = some (.string lv) ∧ w'.cell? ⟨bx', 6, none⟩ = some (.pointer pll') ∧ w'.cell? ⟨bx', 7, none⟩ = some (.pointer plr') ∧ w'.cell? ⟨w.heap.size, 0, none⟩ = some (.int .i64 n.kind) ∧ w'.cell? ⟨w.heap.size, 1, none⟩ = some (.string n.owner) ∧ w'.cell? ⟨w.heap.size, 2, none⟩ = some (.int .i64 n.number) ∧ w'.cell? ⟨w.heap.size, 3, none⟩ = some (.int .i64 n.index) ∧ w'.cell? ⟨w.heap.size, 4, none⟩ = some (.string n.text) := by
    intro w' hb
    have k1 := k0.below hb k0.lt
    have b1 := b0.below hb b0.lt
    exact ⟨k1.cell 0, k1.cell 1, k1.cell 2, k1.cell 3, k1.cell 4, k1.cell 5, k1.cell 6, k1.cell 7, b1.cell 0, b1.cell 1, b1.cell 2, b1.cell 3, b1.cell 4⟩
  have d0 : W.cell? ⟨bx', 0, none⟩ = some (.int .i64 ln.kind) := k0.cell 0
  have d1 : W.cell? ⟨bx', 1, none⟩ = some (.string ln.owner) := k0.cell 1
  have d2 : W.cell? ⟨bx', 2, none⟩ = some (.int .i64 ln.number) := k0.cell 2
  have d3 : W.cell? ⟨bx', 3, none⟩ = some (.int .i64 ln.index) := k0.cell 3
  have d4 : W.cell? ⟨bx', 4, none⟩ = some (.string ln.text) := k0.cell 4
  have d5 : W.cell? ⟨bx', 5, none⟩ = some (.string lv) := k0.cell 5
  have d6 : W.cell? ⟨bx', 6, none⟩ = some (.pointer pll') := k0.cell 6
  have d7 : W.cell? ⟨bx', 7, none⟩ = some (.pointer plr') := k0.cell 7
  have c0 : W.cell? ⟨w.heap.size, 0, none⟩ = some (.int .i64 n.kind) := b0.cell 0
  have c1 : W.cell? ⟨w.heap.size, 1, none⟩ = some (.string n.owner) := b0.cell 1
  have c2 : W.cell? ⟨w.heap.size, 2, none⟩ = some (.int .i64 n.number) := b0.cell 2
  have c3 : W.cell? ⟨w.heap.size, 3, none⟩ = some (.int .i64 n.index) := b0.cell 3
  have c4 : W.cell? ⟨w.heap.size, 4, none⟩ = some (.string n.text) := b0.cell 4
  have h3 : l.h ≤ 1000000 := by omega
  have h4 : r.h ≤ 1000000 := by omega
  clear f1 z1 z2 e hf k0 b0 hl hr hll hlr fin fout
  generalize l.h = lh at *
  generalize r.h = rh at *
  generalize ll.h = xl at *
  generalize lr.h = xr at *
  have T1 := hid t1; have T2 := hid t2; have T3 := hid t3; have T4 := hid t4; have J1 := hid jin; have J2 := hid jout; have K := hid KK
  clear t1 t2 t3 t4 jin jout KK
  have i1 : (rh : Int) + 1 < (lh : Int) := by omega
  have i2 : True := trivial
  have i3 : (lh : Int) ≤ 1000000 := by omega
  have i4 : (rh : Int) ≤ 1000000 := by omega
  have i5 : (xr : Int) ≤ (xl : Int) := by omega
  clear h1 h2 h3 h4
  go_wp2_with (first
    | (go_at_call_of 101 (Value.pointer (some ⟨bx', 0, none⟩)); refine (T1.out _ hB0).mono ?_; rintro e w' ⟨rfl, rfl⟩)
    | (go_at_call_of 101 (Value.pointer pr); refine (T2.out _ hB0).mono ?_; rintro e w' ⟨rfl, rfl⟩))
  go_region_held3 (fun w' => w'.cell? ⟨bx', 0, none⟩ = some (.int .i64 ln.kind) ∧ w'.cell? ⟨bx', 1, none⟩ = some (.string ln.owner) ∧ w'.cell? ⟨bx', 2, none⟩ = some (.int .i64 ln.number) ∧ w'.cell? ⟨bx', 3, none⟩ = some (.int .i64 ln.index) ∧ w'.cell? ⟨bx', 4, none⟩ = some (.string ln.text) ∧ w'.cell? ⟨bx', 5, none⟩ = some (.string lv) ∧ w'.cell? ⟨bx', 6, none⟩ = some (.pointer pll') ∧ w'.cell? ⟨bx', 7, none⟩ = some (.pointer plr') ∧ w'.cell? ⟨w.heap.size, 0, none⟩ = some (.int .i64 n.kind) ∧ w'.cell? ⟨w.heap.size, 1, none⟩ = some (.string n.owner) ∧ w'.cell? ⟨w.heap.size, 2, none⟩ = some (.int .i64 n.number) ∧ w'.cell? ⟨w.heap.size, 3, none⟩ = some (.int .i64 n.index) ∧ w'.cell? ⟨w.heap.size, 4, none⟩ = some (.string n.text))
    (go_keep)
    (first
      | (go_at_call_of 101 (Value.pointer pll'); refine (T3.out _ hB0.drew).mono ?_; rintro e w' ⟨rfl, rfl⟩)
      | (go_at_call_of 101 (Value.pointer plr'); refine (T4.out _ hB0.drew).mono ?_; rintro e w' ⟨rfl, rfl⟩))
  go_wp2_with fail
  go_region_held3 (fun w' => w'.cell? ⟨bx', 0, none⟩ = some (.int .i64 ln.kind) ∧ w'.cell? ⟨bx', 1, none⟩ = some (.string ln.owner) ∧ w'.cell? ⟨bx', 2, none⟩ = some (.int .i64 ln.number) ∧ w'.cell? ⟨bx', 3, none⟩ = some (.int .i64 ln.index) ∧ w'.cell? ⟨bx', 4, none⟩ = some (.string ln.text) ∧ w'.cell? ⟨bx', 5, none⟩ = some (.string lv) ∧ w'.cell? ⟨bx', 6, none⟩ = some (.pointer pll') ∧ w'.cell? ⟨bx', 7, none⟩ = some (.pointer plr') ∧ w'.cell? ⟨w.heap.size, 0, none⟩ = some (.int .i64 n.kind) ∧ w'.cell? ⟨w.heap.size, 1, none⟩ = some (.string n.owner) ∧ w'.cell? ⟨w.heap.size, 2, none⟩ = some (.int .i64 n.number) ∧ w'.cell? ⟨w.heap.size, 3, none⟩ = some (.int .i64 n.index) ∧ w'.cell? ⟨w.heap.size, 4, none⟩ = some (.string n.text))
    (first | go_keep | exact K.out _ ((((Below.refl W.heap.size W).drew).drew).trans hb1) | exact K.out _ ((((Below.refl W.heap.size W).drew).drew).trans (hb1.trans (hb2.mono hb1.size))))
    (first
      | (go_at_call_of 87 (Value.string v); refine (J1.out _ hB0.drew.drew).mono ?_; rintro e w1 ⟨pj, rfl, hj, hb1⟩; have hBj := hB0.drew.drew.trans (hb1.mono hB0.drew.drew.size))
      | (go_at_call_of 87 (Value.string lv); refine (J2.out pj _ hBj hj).mono ?_; rintro e w2 ⟨pk, rfl, hk, hb2⟩))
  go_wp2_with fail
  go_ret
  exact ⟨pk, rfl, hk, hBj.trans (hb2.mono hBj.size)⟩

set_option maxRecDepth 100000 in
set_option maxHeartbeats 3200000 in
theorem balB1 (pl pr : Option Addr) (l ll lr r : T) (n ln : Nm) (v lv : ByteArray) (w : World) (hl : IsTree w pl l) (hr : IsTree w pr r) (e : r = .node ll ln lv lr) (hf : (T.node l n v r).Fits) (h1 : l.h + 1 < r.h) (h2 : ll.h ≤ lr.h) :
    Calls Tryz.prog 88 #[.pointer pl, nmV n, .string v, .pointer pr] w fun e w' => ∃ p, e = .returned (.pointer p) ∧ IsTree w' p (.node (T.node l n v ll) ln lv lr) ∧ Below w.heap.size w w' := by
  unfold nmV
  go_enter Tryz.func88, Tryz.ntmps88
  go_upto_region 1 with fail
  generalize hW : w.alloc (.cells #[.int .i64 n.kind, .string n.owner, .int .i64 n.number, .int .i64 n.index, .string n.text] 66) = W
  have b0 : Blk W w.heap.size 66 #[.int .i64 n.kind, .string n.owner, .int .i64 n.number, .int .i64 n.index, .string n.text] := by rw [← hW]; exact Blk.new _ _ _
  have hB0 : Below w.heap.size w W := by rw [← hW]; exact (Below.refl _ _).alloc (Nat.le_refl _) _
  have lW : w.heap.size < W.heap.size := b0.lt
  clear hW
  have t1 := fun w' (hb : Below w.heap.size w w') => tall_any pl l w' (hl.below hb)
  have t2 := fun w' (hb : Below w.heap.size w w') => tall_any pr r w' (hr.below hb)
  have hX := hr.below hB0
  have hx := hr
  rw [e] at hX hx
  obtain ⟨bx, pll, plr, hp, k0, -, -⟩ := hX
  obtain ⟨bx', pll', plr', hp', k0', hll, hlr⟩ := hx
  obtain rfl : bx' = bx := by rw [hp] at hp'; cases hp'; rfl
  obtain ⟨rfl, rfl⟩ : pll' = pll ∧ plr' = plr := by
    have := (k0'.below hB0 k0'.lt)
    unfold Blk at this k0; rw [this] at k0; simp [nodeCells] at k0; exact ⟨k0.1, k0.2⟩
  subst hp
  clear hp' k0'
  have t3 := fun w' (hb : Below w.heap.size w w') => tall_any pll' ll w' (hll.below hb)
  have t4 := fun w' (hb : Below w.heap.size w w') => tall_any plr' lr w' (hlr.below hb)
  have fin : (T.node l n v ll).Fits := by
    obtain ⟨f1, f2⟩ := hf
    rw [e] at f1 f2
    simp only [T.size, T.bytes] at f1 f2
    exact ⟨by simp only [T.size]; omega, by simp only [T.bytes]; omega⟩
  have fout : (.node (T.node l n v ll) ln lv lr : T).Fits := hf.of_list (by rw [e]; simp [T.toList])
  have jin := fun w' (hb : Below w.heap.size w w') => join_any pl pll' l ll n v w' (hl.below hb) (hll.below hb) fin
  have jout := fun pj w' (hb : Below w.heap.size w w') (hj : IsTree w' pj (T.node l n v ll)) => join_any pj plr' (T.node l n v ll) lr ln lv w' hj (hlr.below hb) fout
  have z1 := T.h_le l
  have z2 := T.h_le r
  have f1 := hf.1
  simp only [T.size] at f1
  have bxl : bx' < W.heap.size := k0.lt
  have KK : ∀ w', Below W.heap.size W w' → w'.cell? ⟨bx', 0, none⟩ = some (.int .i64 ln.kind) ∧ w'.cell? ⟨bx', 1, none⟩ = some (.string ln.owner) ∧ w'.cell? ⟨bx', 2, none⟩ = some (.int .i64 ln.number) ∧ w'.cell? ⟨bx', 3, none⟩ = some (.int .i64 ln.index) ∧ w'.cell? ⟨bx', 4, none⟩ = some (.string ln.text) ∧ w'.cell? ⟨bx', 5, none⟩ = some (.string lv) ∧ w'.cell? ⟨bx', 6, none⟩ = some (.pointer pll') ∧ w'.cell? ⟨bx', 7, none⟩ = some (.pointer plr') ∧ w'.cell? ⟨w.heap.size, 0, none⟩ = some (.int .i64 n.kind) ∧ w'.cell? ⟨w.heap.size, 1, none⟩ = some (.string n.owner) ∧ w'.cell? ⟨w.heap.size, 2, none⟩ = some (.int .i64 n.number) ∧ w'.cell? ⟨w.heap.size, 3, none⟩ = some (.int .i64 n.index) ∧ w'.cell? ⟨w.heap.size, 4, none⟩ = some (.string n.text) := by
    intro w' hb
    have k1 := k0.below hb k0.lt
    have b1 := b0.below hb b0.lt
    exact ⟨k1.cell 0, k1.cell 1, k1.cell 2, k1.cell 3, k1.cell 4, k1.cell 5, k1.cell 6, k1.cell 7, b1.cell 0, b1.cell 1, b1.cell 2, b1.cell 3, b1.cell 4⟩
  have d0 : W.cell? ⟨bx', 0, none⟩ = some (.int .i64 ln.kind) := k0.cell 0
  have d1 : W.cell? ⟨bx', 1, none⟩ = some (.string ln.owner) := k0.cell 1
  have d2 : W.cell? ⟨bx', 2, none⟩ = some (.int .i64 ln.number) := k0.cell 2
  have d3 : W.cell? ⟨bx', 3, none⟩ = some (.int .i64 ln.index) := k0.cell 3
  have d4 : W.cell? ⟨bx', 4, none⟩ = some (.string ln.text) := k0.cell 4
  have d5 : W.cell? ⟨bx', 5, none⟩ = some (.string lv) := k0.cell 5
  have d6 : W.cell? ⟨bx', 6, none⟩ = some (.pointer pll') := k0.cell 6
  have d7 : W.cell? ⟨bx', 7, none⟩ = some (.pointer plr') := k0.cell 7
  have c0 : W.cell? ⟨w.heap.size, 0, none⟩ = some (.int .i64 n.kind) := b0.cell 0
  have c1 : W.cell? ⟨w.heap.size, 1, none⟩ = some (.string n.owner) := b0.cell 1
  have c2 : W.cell? ⟨w.heap.size, 2, none⟩ = some (.int .i64 n.number) := b0.cell 2
  have c3 : W.cell? ⟨w.heap.size, 3, none⟩ = some (.int .i64 n.index) := b0.cell 3
  have c4 : W.cell? ⟨w.heap.size, 4, none⟩ = some (.string n.text) := b0.cell 4
  have h3 : l.h ≤ 1000000 := by omega
  have h4 : r.h ≤ 1000000 := by omega
  clear f1 z1 z2 e hf k0 b0 hl hr hll hlr fin fout
  generalize l.h = lh at *
  generalize r.h = rh at *
  generalize ll.h = xl at *
  generalize lr.h = xr at *
  have T1 := hid t1; have T2 := hid t2; have T3 := hid t3; have T4 := hid t4; have J1 := hid jin; have J2 := hid jout; have K := hid KK
  clear t1 t2 t3 t4 jin jout KK
  have i1 : ¬ (rh : Int) + 1 < (lh : Int) := by omega
  have i2 : (lh : Int) + 1 < (rh : Int) := by omega
  have i3 : (lh : Int) ≤ 1000000 := by omega
  have i4 : (rh : Int) ≤ 1000000 := by omega
  have i5 : (xl : Int) ≤ (xr : Int) := by omega
  clear h1 h2 h3 h4
  go_wp2_with (first
    | (go_at_call_of 101 (Value.pointer pl); refine (T1.out _ hB0).mono ?_; rintro e w' ⟨rfl, rfl⟩)
    | (go_at_call_of 101 (Value.pointer (some ⟨bx', 0, none⟩)); refine (T2.out _ hB0).mono ?_; rintro e w' ⟨rfl, rfl⟩))
  go_region_held3 (fun w' => w'.cell? ⟨bx', 0, none⟩ = some (.int .i64 ln.kind) ∧ w'.cell? ⟨bx', 1, none⟩ = some (.string ln.owner) ∧ w'.cell? ⟨bx', 2, none⟩ = some (.int .i64 ln.number) ∧ w'.cell? ⟨bx', 3, none⟩ = some (.int .i64 ln.index) ∧ w'.cell? ⟨bx', 4, none⟩ = some (.string ln.text) ∧ w'.cell? ⟨bx', 5, none⟩ = some (.string lv) ∧ w'.cell? ⟨bx', 6, none⟩ = some (.pointer pll') ∧ w'.cell? ⟨bx', 7, none⟩ = some (.pointer plr') ∧ w'.cell? ⟨w.heap.size, 0, none⟩ = some (.int .i64 n.kind) ∧ w'.cell? ⟨w.heap.size, 1, none⟩ = some (.string n.owner) ∧ w'.cell? ⟨w.heap.size, 2, none⟩ = some (.int .i64 n.number) ∧ w'.cell? ⟨w.heap.size, 3, none⟩ = some (.int .i64 n.index) ∧ w'.cell? ⟨w.heap.size, 4, none⟩ = some (.string n.text))
    (go_keep)
    (first
      | (go_at_call_of 101 (Value.pointer pll'); refine (T3.out _ hB0.drew).mono ?_; rintro e w' ⟨rfl, rfl⟩)
      | (go_at_call_of 101 (Value.pointer plr'); refine (T4.out _ hB0.drew).mono ?_; rintro e w' ⟨rfl, rfl⟩))
  go_wp2_with fail
  go_region_held3 (fun w' => w'.cell? ⟨bx', 0, none⟩ = some (.int .i64 ln.kind) ∧ w'.cell? ⟨bx', 1, none⟩ = some (.string ln.owner) ∧ w'.cell? ⟨bx', 2, none⟩ = some (.int .i64 ln.number) ∧ w'.cell? ⟨bx', 3, none⟩ = some (.int .i64 ln.index) ∧ w'.cell? ⟨bx', 4, none⟩ = some (.string ln.text) ∧ w'.cell? ⟨bx', 5, none⟩ = some (.string lv) ∧ w'.cell? ⟨bx', 6, none⟩ = some (.pointer pll') ∧ w'.cell? ⟨bx', 7, none⟩ = some (.pointer plr') ∧ w'.cell? ⟨w.heap.size, 0, none⟩ = some (.int .i64 n.kind) ∧ w'.cell? ⟨w.heap.size, 1, none⟩ = some (.string n.owner) ∧ w'.cell? ⟨w.heap.size, 2, none⟩ = some (.int .i64 n.number) ∧ w'.cell? ⟨w.heap.size, 3, none⟩ = some (.int .i64 n.index) ∧ w'.cell? ⟨w.heap.size, 4, none⟩ = some (.string n.text))
    (first | go_keep | exact K.out _ ((((Below.refl W.heap.size W).drew).drew).trans hb1) | exact K.out _ ((((Below.refl W.heap.size W).drew).drew).trans (hb1.trans (hb2.mono hb1.size))))
    (first
      | (go_at_call_of 87 (Value.string v); refine (J1.out _ hB0.drew.drew).mono ?_; rintro e w1 ⟨pj, rfl, hj, hb1⟩; have hBj := hB0.drew.drew.trans (hb1.mono hB0.drew.drew.size))
      | (go_at_call_of 87 (Value.string lv); refine (J2.out pj _ hBj hj).mono ?_; rintro e w2 ⟨pk, rfl, hk, hb2⟩))
  go_wp2_with fail
  go_ret
  exact ⟨pk, rfl, hk, hBj.trans (hb2.mono hBj.size)⟩

set_option maxRecDepth 100000 in
set_option maxHeartbeats 3200000 in
theorem balA2 (pl pr : Option Addr) (l ll lr r a b : T) (n ln mn : Nm) (v lv mv : ByteArray) (w : World) (hl : IsTree w pl l) (hr : IsTree w pr r) (e : l = .node ll ln lv lr) (em : lr = .node a mn mv b) (hf : (T.node l n v r).Fits) (h1 : r.h + 1 < l.h) (h2 : ¬ lr.h ≤ ll.h) :
    Calls Tryz.prog 88 #[.pointer pl, nmV n, .string v, .pointer pr] w fun e w' => ∃ p, e = .returned (.pointer p) ∧ IsTree w' p (.node (T.node ll ln lv a) mn mv (T.node b n v r)) ∧ Below w.heap.size w w' := by
  unfold nmV
  go_enter Tryz.func88, Tryz.ntmps88
  go_upto_region 1 with fail
  generalize hW : w.alloc (.cells #[.int .i64 n.kind, .string n.owner, .int .i64 n.number, .int .i64 n.index, .string n.text] 66) = W
  have b0 : Blk W w.heap.size 66 #[.int .i64 n.kind, .string n.owner, .int .i64 n.number, .int .i64 n.index, .string n.text] := by rw [← hW]; exact Blk.new _ _ _
  have hB0 : Below w.heap.size w W := by rw [← hW]; exact (Below.refl _ _).alloc (Nat.le_refl _) _
  have lW : w.heap.size < W.heap.size := b0.lt
  clear hW
  have t1 := fun w' (hb : Below w.heap.size w w') => tall_any pl l w' (hl.below hb)
  have t2 := fun w' (hb : Below w.heap.size w w') => tall_any pr r w' (hr.below hb)
  have hX := hl.below hB0
  have hx := hl
  rw [e] at hX hx
  obtain ⟨bx, pll, plr, hp, k0, -, -⟩ := hX
  obtain ⟨bx', pll', plr', hp', k0', hll, hlr⟩ := hx
  obtain rfl : bx' = bx := by rw [hp] at hp'; cases hp'; rfl
  obtain ⟨rfl, rfl⟩ : pll' = pll ∧ plr' = plr := by
    have := (k0'.below hB0 k0'.lt)
    unfold Blk at this k0; rw [this] at k0; simp [nodeCells] at k0; exact ⟨k0.1, k0.2⟩
  subst hp
  clear hp' k0'
  have t3 := fun w' (hb : Below w.heap.size w w') => tall_any pll' ll w' (hll.below hb)
  have t4 := fun w' (hb : Below w.heap.size w w') => tall_any plr' lr w' (hlr.below hb)
  have hm := hlr
  have hM := hm.below hB0
  rw [em] at hm hM
  obtain ⟨bm, pa, pb, hq, m0, -, -⟩ := hM
  obtain ⟨bm', pa', pb', hq', m0', ha, hb'⟩ := hm
  obtain rfl : bm' = bm := by rw [hq] at hq'; cases hq'; rfl
  obtain ⟨rfl, rfl⟩ : pa' = pa ∧ pb' = pb := by
    have := (m0'.below hB0 m0'.lt)
    unfold Blk at this m0; rw [this] at m0; simp [nodeCells] at m0; exact ⟨m0.1, m0.2⟩
  clear hq' m0'
  have fin1 : (T.node ll ln lv a).Fits := by
    obtain ⟨f1, f2⟩ := hf
    rw [e, em] at f1 f2
    simp only [T.size, T.bytes] at f1 f2
    exact ⟨by simp only [T.size]; omega, by simp only [T.bytes]; omega⟩
  have fin2 : (T.node b n v r).Fits := by
    obtain ⟨f1, f2⟩ := hf
    rw [e, em] at f1 f2
    simp only [T.size, T.bytes] at f1 f2
    exact ⟨by simp only [T.size]; omega, by simp only [T.bytes]; omega⟩
  have fout : (.node (T.node ll ln lv a) mn mv (T.node b n v r) : T).Fits := hf.of_list (by rw [e, em]; simp [T.toList])
  have j1 := fun w' (hb : Below w.heap.size w w') => join_any pll' pa' ll a ln lv w' (hll.below hb) (ha.below hb) fin1
  have j2 := fun w' (hb : Below w.heap.size w w') => join_any pb' pr b r n v w' (hb'.below hb) (hr.below hb) fin2
  have j3 := fun pj pk w' (hj : IsTree w' pj (T.node ll ln lv a)) (hk : IsTree w' pk (T.node b n v r)) => join_any pj pk (T.node ll ln lv a) (T.node b n v r) mn mv w' hj hk fout
  have z1 := T.h_le l
  have z2 := T.h_le r
  have f1 := hf.1
  simp only [T.size] at f1
  have KK : ∀ w', Below W.heap.size W w' → w'.cell? ⟨bx', 0, none⟩ = some (.int .i64 ln.kind) ∧ w'.cell? ⟨bx', 1, none⟩ = some (.string ln.owner) ∧ w'.cell? ⟨bx', 2, none⟩ = some (.int .i64 ln.number) ∧ w'.cell? ⟨bx', 3, none⟩ = some (.int .i64 ln.index) ∧ w'.cell? ⟨bx', 4, none⟩ = some (.string ln.text) ∧ w'.cell? ⟨bx', 5, none⟩ = some (.string lv) ∧ w'.cell? ⟨bx', 6, none⟩ = some (.pointer pll') ∧ w'.cell? ⟨bx', 7, none⟩ = some (.pointer plr') ∧ w'.cell? ⟨bm', 0, none⟩ = some (.int .i64 mn.kind) ∧ w'.cell? ⟨bm', 1, none⟩ = some (.string mn.owner) ∧ w'.cell? ⟨bm', 2, none⟩ = some (.int .i64 mn.number) ∧ w'.cell? ⟨bm', 3, none⟩ = some (.int .i64 mn.index) ∧ w'.cell? ⟨bm', 4, none⟩ = some (.string mn.text) ∧ w'.cell? ⟨bm', 5, none⟩ = some (.string mv) ∧ w'.cell? ⟨bm', 6, none⟩ = some (.pointer pa') ∧ w'.cell? ⟨bm', 7, none⟩ = some (.pointer pb') ∧ w'.cell? ⟨w.heap.size, 0, none⟩ = some (.int .i64 n.kind) ∧ w'.cell? ⟨w.heap.size, 1, none⟩ = some (.string n.owner) ∧ w'.cell? ⟨w.heap.size, 2, none⟩ = some (.int .i64 n.number) ∧ w'.cell? ⟨w.heap.size, 3, none⟩ = some (.int .i64 n.index) ∧ w'.cell? ⟨w.heap.size, 4, none⟩ = some (.string n.text) := by
    intro w' hb
    have k1 := k0.below hb k0.lt
    have m1 := m0.below hb m0.lt
    have b1 := b0.below hb b0.lt
    exact ⟨k1.cell 0, k1.cell 1, k1.cell 2, k1.cell 3, k1.cell 4, k1.cell 5, k1.cell 6, k1.cell 7, m1.cell 0, m1.cell 1, m1.cell 2, m1.cell 3, m1.cell 4, m1.cell 5, m1.cell 6, m1.cell 7, b1.cell 0, b1.cell 1, b1.cell 2, b1.cell 3, b1.cell 4⟩
  have d0 : W.cell? ⟨bx', 0, none⟩ = some (.int .i64 ln.kind) := k0.cell 0
  have d1 : W.cell? ⟨bx', 1, none⟩ = some (.string ln.owner) := k0.cell 1
  have d2 : W.cell? ⟨bx', 2, none⟩ = some (.int .i64 ln.number) := k0.cell 2
  have d3 : W.cell? ⟨bx', 3, none⟩ = some (.int .i64 ln.index) := k0.cell 3
  have d4 : W.cell? ⟨bx', 4, none⟩ = some (.string ln.text) := k0.cell 4
  have d5 : W.cell? ⟨bx', 5, none⟩ = some (.string lv) := k0.cell 5
  have d6 : W.cell? ⟨bx', 6, none⟩ = some (.pointer pll') := k0.cell 6
  have d7 : W.cell? ⟨bx', 7, none⟩ = some (.pointer plr') := k0.cell 7
  have e0 : W.cell? ⟨bm', 0, none⟩ = some (.int .i64 mn.kind) := m0.cell 0
  have e1 : W.cell? ⟨bm', 1, none⟩ = some (.string mn.owner) := m0.cell 1
  have e2 : W.cell? ⟨bm', 2, none⟩ = some (.int .i64 mn.number) := m0.cell 2
  have e3 : W.cell? ⟨bm', 3, none⟩ = some (.int .i64 mn.index) := m0.cell 3
  have e4 : W.cell? ⟨bm', 4, none⟩ = some (.string mn.text) := m0.cell 4
  have e5 : W.cell? ⟨bm', 5, none⟩ = some (.string mv) := m0.cell 5
  have e6 : W.cell? ⟨bm', 6, none⟩ = some (.pointer pa') := m0.cell 6
  have e7 : W.cell? ⟨bm', 7, none⟩ = some (.pointer pb') := m0.cell 7
  have c0 : W.cell? ⟨w.heap.size, 0, none⟩ = some (.int .i64 n.kind) := b0.cell 0
  have c1 : W.cell? ⟨w.heap.size, 1, none⟩ = some (.string n.owner) := b0.cell 1
  have c2 : W.cell? ⟨w.heap.size, 2, none⟩ = some (.int .i64 n.number) := b0.cell 2
  have c3 : W.cell? ⟨w.heap.size, 3, none⟩ = some (.int .i64 n.index) := b0.cell 3
  have c4 : W.cell? ⟨w.heap.size, 4, none⟩ = some (.string n.text) := b0.cell 4
  have h3 : l.h ≤ 1000000 := by omega
  have h4 : r.h ≤ 1000000 := by omega
  subst hq
  clear f1 z1 z2 e em hf k0 m0 b0 hl hr hll hlr ha hb' fin1 fin2 fout
  generalize l.h = lh at *
  generalize r.h = rh at *
  generalize ll.h = xl at *
  generalize lr.h = xr at *
  have T1 := hid t1; have T2 := hid t2; have T3 := hid t3; have T4 := hid t4; have J1 := hid j1; have J2 := hid j2; have J3 := hid j3; have K := hid KK
  clear t1 t2 t3 t4 j1 j2 j3 KK
  have i1 : (rh : Int) + 1 < (lh : Int) := by omega
  have i2 : True := trivial
  have i3 : (lh : Int) ≤ 1000000 := by omega
  have i4 : (rh : Int) ≤ 1000000 := by omega
  have i5 : ¬ (xr : Int) ≤ (xl : Int) := by omega
  clear h1 h2 h3 h4
  go_wp2_with (first
    | (go_at_call_of 101 (Value.pointer (some ⟨bx', 0, none⟩)); refine (T1.out _ hB0).mono ?_; rintro e w' ⟨rfl, rfl⟩)
    | (go_at_call_of 101 (Value.pointer pr); refine (T2.out _ hB0).mono ?_; rintro e w' ⟨rfl, rfl⟩))
  go_region_held3 (fun w' => w'.cell? ⟨bx', 0, none⟩ = some (.int .i64 ln.kind) ∧ w'.cell? ⟨bx', 1, none⟩ = some (.string ln.owner) ∧ w'.cell? ⟨bx', 2, none⟩ = some (.int .i64 ln.number) ∧ w'.cell? ⟨bx', 3, none⟩ = some (.int .i64 ln.index) ∧ w'.cell? ⟨bx', 4, none⟩ = some (.string ln.text) ∧ w'.cell? ⟨bx', 5, none⟩ = some (.string lv) ∧ w'.cell? ⟨bx', 6, none⟩ = some (.pointer pll') ∧ w'.cell? ⟨bx', 7, none⟩ = some (.pointer (some ⟨bm', 0, none⟩)) ∧ w'.cell? ⟨bm', 0, none⟩ = some (.int .i64 mn.kind) ∧ w'.cell? ⟨bm', 1, none⟩ = some (.string mn.owner) ∧ w'.cell? ⟨bm', 2, none⟩ = some (.int .i64 mn.number) ∧ w'.cell? ⟨bm', 3, none⟩ = some (.int .i64 mn.index) ∧ w'.cell? ⟨bm', 4, none⟩ = some (.string mn.text) ∧ w'.cell? ⟨bm', 5, none⟩ = some (.string mv) ∧ w'.cell? ⟨bm', 6, none⟩ = some (.pointer pa') ∧ w'.cell? ⟨bm', 7, none⟩ = some (.pointer pb') ∧ w'.cell? ⟨w.heap.size, 0, none⟩ = some (.int .i64 n.kind) ∧ w'.cell? ⟨w.heap.size, 1, none⟩ = some (.string n.owner) ∧ w'.cell? ⟨w.heap.size, 2, none⟩ = some (.int .i64 n.number) ∧ w'.cell? ⟨w.heap.size, 3, none⟩ = some (.int .i64 n.index) ∧ w'.cell? ⟨w.heap.size, 4, none⟩ = some (.string n.text))
    (go_keep)
    (first
      | (go_at_call_of 101 (Value.pointer pll'); refine (T3.out _ hB0.drew).mono ?_; rintro e w' ⟨rfl, rfl⟩)
      | (go_at_call_of 101 (Value.pointer (some ⟨bm', 0, none⟩)); refine (T4.out _ hB0.drew).mono ?_; rintro e w' ⟨rfl, rfl⟩))
  go_wp2_with fail
  go_region_held3 (fun w' => w'.cell? ⟨bx', 0, none⟩ = some (.int .i64 ln.kind) ∧ w'.cell? ⟨bx', 1, none⟩ = some (.string ln.owner) ∧ w'.cell? ⟨bx', 2, none⟩ = some (.int .i64 ln.number) ∧ w'.cell? ⟨bx', 3, none⟩ = some (.int .i64 ln.index) ∧ w'.cell? ⟨bx', 4, none⟩ = some (.string ln.text) ∧ w'.cell? ⟨bx', 5, none⟩ = some (.string lv) ∧ w'.cell? ⟨bx', 6, none⟩ = some (.pointer pll') ∧ w'.cell? ⟨bx', 7, none⟩ = some (.pointer (some ⟨bm', 0, none⟩)) ∧ w'.cell? ⟨bm', 0, none⟩ = some (.int .i64 mn.kind) ∧ w'.cell? ⟨bm', 1, none⟩ = some (.string mn.owner) ∧ w'.cell? ⟨bm', 2, none⟩ = some (.int .i64 mn.number) ∧ w'.cell? ⟨bm', 3, none⟩ = some (.int .i64 mn.index) ∧ w'.cell? ⟨bm', 4, none⟩ = some (.string mn.text) ∧ w'.cell? ⟨bm', 5, none⟩ = some (.string mv) ∧ w'.cell? ⟨bm', 6, none⟩ = some (.pointer pa') ∧ w'.cell? ⟨bm', 7, none⟩ = some (.pointer pb') ∧ w'.cell? ⟨w.heap.size, 0, none⟩ = some (.int .i64 n.kind) ∧ w'.cell? ⟨w.heap.size, 1, none⟩ = some (.string n.owner) ∧ w'.cell? ⟨w.heap.size, 2, none⟩ = some (.int .i64 n.number) ∧ w'.cell? ⟨w.heap.size, 3, none⟩ = some (.int .i64 n.index) ∧ w'.cell? ⟨w.heap.size, 4, none⟩ = some (.string n.text))
    (first | go_keep | exact K.out _ ((((Below.refl W.heap.size W).drew).drew).trans hb1) | exact K.out _ ((((Below.refl W.heap.size W).drew).drew).trans (hb1.trans (hb2.mono hb1.size))) | exact K.out _ ((((Below.refl W.heap.size W).drew).drew).trans ((hb1.trans (hb2.mono hb1.size)).trans (hb3.mono (Nat.le_trans hb1.size hb2.size)))))
    (first
      | (go_at_call_of 87 (Value.string lv); refine (J1.out _ hB0.drew.drew).mono ?_; rintro e w1 ⟨pj, rfl, hj, hb1⟩; have hBj := hB0.drew.drew.trans (hb1.mono hB0.drew.drew.size))
      | (go_at_call_of 87 (Value.string v); refine (J2.out _ hBj).mono ?_; rintro e w2 ⟨pk, rfl, hk, hb2⟩)
      | (go_at_call_of 87 (Value.string mv); refine (J3.out pj pk _ (hj.below hb2) hk).mono ?_; rintro e w3 ⟨pz, rfl, hz, hb3⟩))
  go_wp2_with fail
  go_ret
  exact ⟨pz, rfl, hz, (hBj.trans (hb2.mono hBj.size)).trans (hb3.mono (Nat.le_trans hBj.size hb2.size))⟩

set_option maxRecDepth 100000 in
set_option maxHeartbeats 3200000 in
theorem balB2 (pl pr : Option Addr) (l ll lr r a b : T) (n ln mn : Nm) (v lv mv : ByteArray) (w : World) (hl : IsTree w pl l) (hr : IsTree w pr r) (e : r = .node ll ln lv lr) (em : ll = .node a mn mv b) (hf : (T.node l n v r).Fits) (h1 : l.h + 1 < r.h) (h2 : ¬ ll.h ≤ lr.h) :
    Calls Tryz.prog 88 #[.pointer pl, nmV n, .string v, .pointer pr] w fun e w' => ∃ p, e = .returned (.pointer p) ∧ IsTree w' p (.node (T.node l n v a) mn mv (T.node b ln lv lr)) ∧ Below w.heap.size w w' := by
  unfold nmV
  go_enter Tryz.func88, Tryz.ntmps88
  go_upto_region 1 with fail
  generalize hW : w.alloc (.cells #[.int .i64 n.kind, .string n.owner, .int .i64 n.number, .int .i64 n.index, .string n.text] 66) = W
  have b0 : Blk W w.heap.size 66 #[.int .i64 n.kind, .string n.owner, .int .i64 n.number, .int .i64 n.index, .string n.text] := by rw [← hW]; exact Blk.new _ _ _
  have hB0 : Below w.heap.size w W := by rw [← hW]; exact (Below.refl _ _).alloc (Nat.le_refl _) _
  have lW : w.heap.size < W.heap.size := b0.lt
  clear hW
  have t1 := fun w' (hb : Below w.heap.size w w') => tall_any pl l w' (hl.below hb)
  have t2 := fun w' (hb : Below w.heap.size w w') => tall_any pr r w' (hr.below hb)
  have hX := hr.below hB0
  have hx := hr
  rw [e] at hX hx
  obtain ⟨bx, pll, plr, hp, k0, -, -⟩ := hX
  obtain ⟨bx', pll', plr', hp', k0', hll, hlr⟩ := hx
  obtain rfl : bx' = bx := by rw [hp] at hp'; cases hp'; rfl
  obtain ⟨rfl, rfl⟩ : pll' = pll ∧ plr' = plr := by
    have := (k0'.below hB0 k0'.lt)
    unfold Blk at this k0; rw [this] at k0; simp [nodeCells] at k0; exact ⟨k0.1, k0.2⟩
  subst hp
  clear hp' k0'
  have t3 := fun w' (hb : Below w.heap.size w w') => tall_any pll' ll w' (hll.below hb)
  have t4 := fun w' (hb : Below w.heap.size w w') => tall_any plr' lr w' (hlr.below hb)
  have hm := hll
  have hM := hm.below hB0
  rw [em] at hm hM
  obtain ⟨bm, pa, pb, hq, m0, -, -⟩ := hM
  obtain ⟨bm', pa', pb', hq', m0', ha, hb'⟩ := hm
  obtain rfl : bm' = bm := by rw [hq] at hq'; cases hq'; rfl
  obtain ⟨rfl, rfl⟩ : pa' = pa ∧ pb' = pb := by
    have := (m0'.below hB0 m0'.lt)
    unfold Blk at this m0; rw [this] at m0; simp [nodeCells] at m0; exact ⟨m0.1, m0.2⟩
  clear hq' m0'
  have fin1 : (T.node l n v a).Fits := by
    obtain ⟨f1, f2⟩ := hf
    rw [e, em] at f1 f2
    simp only [T.size, T.bytes] at f1 f2
    exact ⟨by simp only [T.size]; omega, by simp only [T.bytes]; omega⟩
  have fin2 : (T.node b ln lv lr).Fits := by
    obtain ⟨f1, f2⟩ := hf
    rw [e, em] at f1 f2
    simp only [T.size, T.bytes] at f1 f2
    exact ⟨by simp only [T.size]; omega, by simp only [T.bytes]; omega⟩
  have fout : (.node (T.node l n v a) mn mv (T.node b ln lv lr) : T).Fits := hf.of_list (by rw [e, em]; simp [T.toList])
  have j1 := fun w' (hb : Below w.heap.size w w') => join_any pl pa' l a n v w' (hl.below hb) (ha.below hb) fin1
  have j2 := fun w' (hb : Below w.heap.size w w') => join_any pb' plr' b lr ln lv w' (hb'.below hb) (hlr.below hb) fin2
  have j3 := fun pj pk w' (hj : IsTree w' pj (T.node l n v a)) (hk : IsTree w' pk (T.node b ln lv lr)) => join_any pj pk (T.node l n v a) (T.node b ln lv lr) mn mv w' hj hk fout
  have z1 := T.h_le l
  have z2 := T.h_le r
  have f1 := hf.1
  simp only [T.size] at f1
  have KK : ∀ w', Below W.heap.size W w' → w'.cell? ⟨bx', 0, none⟩ = some (.int .i64 ln.kind) ∧ w'.cell? ⟨bx', 1, none⟩ = some (.string ln.owner) ∧ w'.cell? ⟨bx', 2, none⟩ = some (.int .i64 ln.number) ∧ w'.cell? ⟨bx', 3, none⟩ = some (.int .i64 ln.index) ∧ w'.cell? ⟨bx', 4, none⟩ = some (.string ln.text) ∧ w'.cell? ⟨bx', 5, none⟩ = some (.string lv) ∧ w'.cell? ⟨bx', 6, none⟩ = some (.pointer pll') ∧ w'.cell? ⟨bx', 7, none⟩ = some (.pointer plr') ∧ w'.cell? ⟨bm', 0, none⟩ = some (.int .i64 mn.kind) ∧ w'.cell? ⟨bm', 1, none⟩ = some (.string mn.owner) ∧ w'.cell? ⟨bm', 2, none⟩ = some (.int .i64 mn.number) ∧ w'.cell? ⟨bm', 3, none⟩ = some (.int .i64 mn.index) ∧ w'.cell? ⟨bm', 4, none⟩ = some (.string mn.text) ∧ w'.cell? ⟨bm', 5, none⟩ = some (.string mv) ∧ w'.cell? ⟨bm', 6, none⟩ = some (.pointer pa') ∧ w'.cell? ⟨bm', 7, none⟩ = some (.pointer pb') ∧ w'.cell? ⟨w.heap.size, 0, none⟩ = some (.int .i64 n.kind) ∧ w'.cell? ⟨w.heap.size, 1, none⟩ = some (.string n.owner) ∧ w'.cell? ⟨w.heap.size, 2, none⟩ = some (.int .i64 n.number) ∧ w'.cell? ⟨w.heap.size, 3, none⟩ = some (.int .i64 n.index) ∧ w'.cell? ⟨w.heap.size, 4, none⟩ = some (.string n.text) := by
    intro w' hb
    have k1 := k0.below hb k0.lt
    have m1 := m0.below hb m0.lt
    have b1 := b0.below hb b0.lt
    exact ⟨k1.cell 0, k1.cell 1, k1.cell 2, k1.cell 3, k1.cell 4, k1.cell 5, k1.cell 6, k1.cell 7, m1.cell 0, m1.cell 1, m1.cell 2, m1.cell 3, m1.cell 4, m1.cell 5, m1.cell 6, m1.cell 7, b1.cell 0, b1.cell 1, b1.cell 2, b1.cell 3, b1.cell 4⟩
  have d0 : W.cell? ⟨bx', 0, none⟩ = some (.int .i64 ln.kind) := k0.cell 0
  have d1 : W.cell? ⟨bx', 1, none⟩ = some (.string ln.owner) := k0.cell 1
  have d2 : W.cell? ⟨bx', 2, none⟩ = some (.int .i64 ln.number) := k0.cell 2
  have d3 : W.cell? ⟨bx', 3, none⟩ = some (.int .i64 ln.index) := k0.cell 3
  have d4 : W.cell? ⟨bx', 4, none⟩ = some (.string ln.text) := k0.cell 4
  have d5 : W.cell? ⟨bx', 5, none⟩ = some (.string lv) := k0.cell 5
  have d6 : W.cell? ⟨bx', 6, none⟩ = some (.pointer pll') := k0.cell 6
  have d7 : W.cell? ⟨bx', 7, none⟩ = some (.pointer plr') := k0.cell 7
  have e0 : W.cell? ⟨bm', 0, none⟩ = some (.int .i64 mn.kind) := m0.cell 0
  have e1 : W.cell? ⟨bm', 1, none⟩ = some (.string mn.owner) := m0.cell 1
  have e2 : W.cell? ⟨bm', 2, none⟩ = some (.int .i64 mn.number) := m0.cell 2
  have e3 : W.cell? ⟨bm', 3, none⟩ = some (.int .i64 mn.index) := m0.cell 3
  have e4 : W.cell? ⟨bm', 4, none⟩ = some (.string mn.text) := m0.cell 4
  have e5 : W.cell? ⟨bm', 5, none⟩ = some (.string mv) := m0.cell 5
  have e6 : W.cell? ⟨bm', 6, none⟩ = some (.pointer pa') := m0.cell 6
  have e7 : W.cell? ⟨bm', 7, none⟩ = some (.pointer pb') := m0.cell 7
  have c0 : W.cell? ⟨w.heap.size, 0, none⟩ = some (.int .i64 n.kind) := b0.cell 0
  have c1 : W.cell? ⟨w.heap.size, 1, none⟩ = some (.string n.owner) := b0.cell 1
  have c2 : W.cell? ⟨w.heap.size, 2, none⟩ = some (.int .i64 n.number) := b0.cell 2
  have c3 : W.cell? ⟨w.heap.size, 3, none⟩ = some (.int .i64 n.index) := b0.cell 3
  have c4 : W.cell? ⟨w.heap.size, 4, none⟩ = some (.string n.text) := b0.cell 4
  have h3 : l.h ≤ 1000000 := by omega
  have h4 : r.h ≤ 1000000 := by omega
  subst hq
  clear f1 z1 z2 e em hf k0 m0 b0 hl hr hll hlr ha hb' fin1 fin2 fout
  generalize l.h = lh at *
  generalize r.h = rh at *
  generalize ll.h = xl at *
  generalize lr.h = xr at *
  have T1 := hid t1; have T2 := hid t2; have T3 := hid t3; have T4 := hid t4; have J1 := hid j1; have J2 := hid j2; have J3 := hid j3; have K := hid KK
  clear t1 t2 t3 t4 j1 j2 j3 KK
  have i1 : ¬ (rh : Int) + 1 < (lh : Int) := by omega
  have i2 : (lh : Int) + 1 < (rh : Int) := by omega
  have i3 : (lh : Int) ≤ 1000000 := by omega
  have i4 : (rh : Int) ≤ 1000000 := by omega
  have i5 : ¬ (xl : Int) ≤ (xr : Int) := by omega
  clear h1 h2 h3 h4
  go_wp2_with (first
    | (go_at_call_of 101 (Value.pointer pl); refine (T1.out _ hB0).mono ?_; rintro e w' ⟨rfl, rfl⟩)
    | (go_at_call_of 101 (Value.pointer (some ⟨bx', 0, none⟩)); refine (T2.out _ hB0).mono ?_; rintro e w' ⟨rfl, rfl⟩))
  go_region_held3 (fun w' => w'.cell? ⟨bx', 0, none⟩ = some (.int .i64 ln.kind) ∧ w'.cell? ⟨bx', 1, none⟩ = some (.string ln.owner) ∧ w'.cell? ⟨bx', 2, none⟩ = some (.int .i64 ln.number) ∧ w'.cell? ⟨bx', 3, none⟩ = some (.int .i64 ln.index) ∧ w'.cell? ⟨bx', 4, none⟩ = some (.string ln.text) ∧ w'.cell? ⟨bx', 5, none⟩ = some (.string lv) ∧ w'.cell? ⟨bx', 6, none⟩ = some (.pointer (some ⟨bm', 0, none⟩)) ∧ w'.cell? ⟨bx', 7, none⟩ = some (.pointer plr') ∧ w'.cell? ⟨bm', 0, none⟩ = some (.int .i64 mn.kind) ∧ w'.cell? ⟨bm', 1, none⟩ = some (.string mn.owner) ∧ w'.cell? ⟨bm', 2, none⟩ = some (.int .i64 mn.number) ∧ w'.cell? ⟨bm', 3, none⟩ = some (.int .i64 mn.index) ∧ w'.cell? ⟨bm', 4, none⟩ = some (.string mn.text) ∧ w'.cell? ⟨bm', 5, none⟩ = some (.string mv) ∧ w'.cell? ⟨bm', 6, none⟩ = some (.pointer pa') ∧ w'.cell? ⟨bm', 7, none⟩ = some (.pointer pb') ∧ w'.cell? ⟨w.heap.size, 0, none⟩ = some (.int .i64 n.kind) ∧ w'.cell? ⟨w.heap.size, 1, none⟩ = some (.string n.owner) ∧ w'.cell? ⟨w.heap.size, 2, none⟩ = some (.int .i64 n.number) ∧ w'.cell? ⟨w.heap.size, 3, none⟩ = some (.int .i64 n.index) ∧ w'.cell? ⟨w.heap.size, 4, none⟩ = some (.string n.text))
    (go_keep)
    (first
      | (go_at_call_of 101 (Value.pointer (some ⟨bm', 0, none⟩)); refine (T3.out _ hB0.drew).mono ?_; rintro e w' ⟨rfl, rfl⟩)
      | (go_at_call_of 101 (Value.pointer plr'); refine (T4.out _ hB0.drew).mono ?_; rintro e w' ⟨rfl, rfl⟩))
  go_wp2_with fail
  go_region_held3 (fun w' => w'.cell? ⟨bx', 0, none⟩ = some (.int .i64 ln.kind) ∧ w'.cell? ⟨bx', 1, none⟩ = some (.string ln.owner) ∧ w'.cell? ⟨bx', 2, none⟩ = some (.int .i64 ln.number) ∧ w'.cell? ⟨bx', 3, none⟩ = some (.int .i64 ln.index) ∧ w'.cell? ⟨bx', 4, none⟩ = some (.string ln.text) ∧ w'.cell? ⟨bx', 5, none⟩ = some (.string lv) ∧ w'.cell? ⟨bx', 6, none⟩ = some (.pointer (some ⟨bm', 0, none⟩)) ∧ w'.cell? ⟨bx', 7, none⟩ = some (.pointer plr') ∧ w'.cell? ⟨bm', 0, none⟩ = some (.int .i64 mn.kind) ∧ w'.cell? ⟨bm', 1, none⟩ = some (.string mn.owner) ∧ w'.cell? ⟨bm', 2, none⟩ = some (.int .i64 mn.number) ∧ w'.cell? ⟨bm', 3, none⟩ = some (.int .i64 mn.index) ∧ w'.cell? ⟨bm', 4, none⟩ = some (.string mn.text) ∧ w'.cell? ⟨bm', 5, none⟩ = some (.string mv) ∧ w'.cell? ⟨bm', 6, none⟩ = some (.pointer pa') ∧ w'.cell? ⟨bm', 7, none⟩ = some (.pointer pb') ∧ w'.cell? ⟨w.heap.size, 0, none⟩ = some (.int .i64 n.kind) ∧ w'.cell? ⟨w.heap.size, 1, none⟩ = some (.string n.owner) ∧ w'.cell? ⟨w.heap.size, 2, none⟩ = some (.int .i64 n.number) ∧ w'.cell? ⟨w.heap.size, 3, none⟩ = some (.int .i64 n.index) ∧ w'.cell? ⟨w.heap.size, 4, none⟩ = some (.string n.text))
    (first | go_keep | exact K.out _ ((((Below.refl W.heap.size W).drew).drew).trans hb1) | exact K.out _ ((((Below.refl W.heap.size W).drew).drew).trans (hb1.trans (hb2.mono hb1.size))) | exact K.out _ ((((Below.refl W.heap.size W).drew).drew).trans ((hb1.trans (hb2.mono hb1.size)).trans (hb3.mono (Nat.le_trans hb1.size hb2.size)))))
    (first
      | (go_at_call_of 87 (Value.string v); refine (J1.out _ hB0.drew.drew).mono ?_; rintro e w1 ⟨pj, rfl, hj, hb1⟩; have hBj := hB0.drew.drew.trans (hb1.mono hB0.drew.drew.size))
      | (go_at_call_of 87 (Value.string lv); refine (J2.out _ hBj).mono ?_; rintro e w2 ⟨pk, rfl, hk, hb2⟩)
      | (go_at_call_of 87 (Value.string mv); refine (J3.out pj pk _ (hj.below hb2) hk).mono ?_; rintro e w3 ⟨pz, rfl, hz, hb3⟩))
  go_wp2_with fail
  go_ret
  exact ⟨pz, rfl, hz, (hBj.trans (hb2.mono hBj.size)).trans (hb3.mono (Nat.le_trans hBj.size hb2.size))⟩

end Go.Proofs.YtfgecaphhdedcaaGreatDoor
