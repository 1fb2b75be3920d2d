/-
  THE LAW StateGets, WALKED. (Written by the program gen_lawgets.py.)
-/
import Derived.Test.YtnbgfalhmnbefaaGreatDoorIs
namespace Go.Proofs.YtnbgfalhmnbefaaGreatDoor
open Go.RowKit

theorem filter_at {α : Type} (p : α → Bool) : ∀ (l : List α) (k : Nat) (h : k < l.length), p l[k] = true → (l.filter p)[((l.take k).filter p).length]? = some l[k]
  | x :: r, 0, _, hp => by
    rw [List.getElem_cons_zero] at hp ⊢
    simp [hp]
  | x :: r, k + 1, h, hp => by
    have hk : k < r.length := by simpa using h
    rw [List.getElem_cons_succ] at hp ⊢
    have ih := filter_at p r k hk hp
    by_cases hx : p x = true
    · simp only [List.take_succ_cons, List.filter_cons, hx, if_true, List.length_cons, List.getElem?_cons_succ]
      exact ih
    · simp only [List.take_succ_cons, List.filter_cons, hx, if_false, Bool.false_eq_true]
      exact ih
theorem filter_step {α : Type} (p : α → Bool) (l : List α) (k : Nat) (h : k < l.length) : ((l.take (k + 1)).filter p).length = ((l.take k).filter p).length + if p l[k] then 1 else 0 := by
  rw [List.take_add_one, List.getElem?_eq_getElem h, List.filter_append, List.length_append]
  by_cases hp : p l[k] = true <;> simp [hp]
theorem filter_all {α : Type} (p : α → Bool) (l : List α) : ((l.take l.length).filter p).length = (l.filter p).length := by rw [List.take_length]

set_option maxRecDepth 100000 in
set_option maxHeartbeats 3200000 in
theorem lawGets_any (A : Option Addr) (n c : Nat) (l : List Ch) (ho : strOk l) (nm : Nm) (hn1 : nm.owner.size ≤ maxLen) (hn2 : nm.text.size ≤ maxLen) (kk : Int) (w : World) (hs : RowC w A n c l) :
    Calls Tryz.prog 3 #[.slice A n c, nmV nm, .int .i64 kk] w fun e w' => e = .returned (.bool true) ∧ Below w.heap.size w w' := by
  obtain ⟨kd, ow, nu, ix, tx⟩ := nm
  dsimp only at hn1 hn2
  unfold maxLen at hn1 hn2
  have FI := hid (fun w' (h : RowC w' A n c l) => fill_any A n c l ho w' h)
  obtain ⟨e1, e2⟩ := fill_eq (toC_small l)
  have hl24 := toC_len l
  have hg : Good 24 (fillT (toC l)).toList := by rw [e1]; exact e2.more hl24
  have hgl : Good 24 (fillL (toC l)) := by rw [← e1]; exact hg
  obtain ⟨z1, z2⟩ := hg.fits (by omega)
  have GE := hid (fun w' q m (h : IsState w' q (fillT (toC l))) (hm : m.Ok) => get_any q (fillT (toC l)) m hm hg.ok w' (.inr h))
  have RG := hid (fun w' A2 n2 c2 m (h : RowE w' A2 n2 c2 (fillL (toC l))) (hm : m.owner.size ≤ 1000000) => refGet_any A2 n2 c2 (fillL (toC l)) m hgl.smallE hm w' h.1)
  have KI := hid (fun w' q (h : IsState w' q (fillT (toC l))) => kinds_any q (fillT (toC l)) kk w' (.inr h) (by omega))
  have EQ := hid (fun m => (get_list (fillT (toC l)) m hg.sorted).trans (by rw [e1]))
  have HFP := hid (show ∀ w' o w2, FillPost w' l o w2 → ∃ q A1 n1 c1, o = .returned (.tuple #[.pointer q, .slice A1 n1 c1]) ∧ IsState w2 q (fillT (toC l)) ∧ RowE w2 A1 n1 c1 (fillL (toC l)) ∧ Below w'.heap.size w' w2 from fun _ _ _ h => h)
  rw [e1] at KI
  have HLN := hid hgl.len
  have HS := hid hs
  clear hs e1 e2 hg hgl z1 z2 hl24
  have EQ' := hid (show ∀ m, (fillT (toC l)).get m = getL (fillL (toC l)) m from EQ.out)
  clear EQ
  have GE' := hid (show ∀ w' q m, IsState w' q (fillT (toC l)) → m.Ok → Calls Tryz.prog 15 #[.pointer q, nmV m] w' fun e w2 => e = .returned (.tuple #[.string (getS (getL (fillL (toC l)) m)), .bool (getL (fillL (toC l)) m).isSome]) ∧ Below w'.heap.size w' w2 from fun w' q m h hm => by
    have := GE.out w' q m h hm
    rw [EQ'.out m] at this
    exact this)
  clear GE EQ'
  generalize fillT (toC l) = T1 at *
  generalize fillL (toC l) = L at *
  unfold nmV
  go_enter Tryz.func3, Tryz.ntmps3
  go_upto_region 1 with fail
  generalize hW : w.alloc (.cells #[.int .i64 kd, .string ow, .int .i64 nu, .int .i64 ix, .string tx] 24) = W
  have b0 : Blk W w.heap.size 24 #[.int .i64 kd, .string ow, .int .i64 nu, .int .i64 ix, .string tx] := by rw [← hW]; exact Blk.new _ _ _
  have hB0 : Below w.heap.size w W := by rw [← hW]; exact (Below.refl _ _).alloc (Nat.le_refl _) _
  clear hW
  go_wp2_with fail
  refine (known_any _).mono ?_
  rintro e w1 ⟨rfl, hb1⟩
  have hB1 := hB0.trans (hb1.mono hB0.size)
  have b1 := b0.below hb1 b0.lt
  have q0 : w1.cell? ⟨w.heap.size, 0, none⟩ = some (.int .i64 kd) := b1.cell 0
  have q1 : w1.cell? ⟨w.heap.size, 1, none⟩ = some (.string ow) := b1.cell 1
  have q2 : w1.cell? ⟨w.heap.size, 2, none⟩ = some (.int .i64 nu) := b1.cell 2
  have q3 : w1.cell? ⟨w.heap.size, 3, none⟩ = some (.int .i64 ix) := b1.cell 3
  have q4 : w1.cell? ⟨w.heap.size, 4, none⟩ = some (.string tx) := b1.cell 4
  have f1 : w1.frozen? ⟨w.heap.size, 1, none⟩ = false := b1.frozen 1
  have f4 : w1.frozen? ⟨w.heap.size, 4, none⟩ = false := b1.frozen 4
  have m2 : (min (ow.size : Int) 100).toNat = min ow.size 100 := by omega
  have m3 : (min (tx.size : Int) 100).toNat = min tx.size 100 := by omega
  have m4 : (0 : Int) ≤ min (ow.size : Int) 100 := by omega
  have m5 : (0 : Int) ≤ min (tx.size : Int) 100 := by omega
  have m6 : min (ow.size : Int) 100 ≤ (ow.size : Int) := by omega
  have m7 : min (tx.size : Int) 100 ≤ (tx.size : Int) := by omega
  have HB := hid b1
  have HB1 := hid hB1
  have HW := hid hB0
  clear b0 b1 hb1 hB1 hB0
  have HO1 := hid (show (ow.extract 0 (min ow.size 100)).size ≤ maxLen ∧ (tx.extract 0 (min tx.size 100)).size ≤ maxLen from ⟨by unfold maxLen; simp; omega, by unfold maxLen; simp; omega⟩)
  have HO1s := hid (show (ow.extract 0 (min ow.size 100)).size ≤ 1000000 by simp; omega)
  go_wp2_with fail
  go_region
  generalize ow.extract 0 (min ow.size 100) = o1 at *
  generalize tx.extract 0 (min tx.size 100) = t1 at *
  generalize hW2 : ((w1.setCell ⟨w.heap.size, 1, none⟩ (.string o1)).setCell ⟨w.heap.size, 4, none⟩ (.string t1)).drew = W2
  have b2 : Blk W2 w.heap.size 24 #[.int .i64 kd, .string o1, .int .i64 nu, .int .i64 ix, .string t1] := by rw [← hW2]; exact ((HB.out.set_ 1 (.string o1)).set_ 4 (.string t1)).drew
  have hB2 : Below w.heap.size w W2 := by rw [← hW2]; exact ((HB1.out.setCell (Nat.le_refl _) _).setCell (Nat.le_refl _) _).drew
  clear hW2 q0 q1 q2 q3 q4 f1 f4 m2 m3 m4 m5 m6 m7 HB HB1 HW hn1 hn2
  have K := hid (show ∀ w', Below W2.heap.size W2 w' → w'.cell? ⟨w.heap.size, 0, none⟩ = some (.int .i64 kd) ∧ w'.cell? ⟨w.heap.size, 1, none⟩ = some (.string o1) ∧ w'.cell? ⟨w.heap.size, 2, none⟩ = some (.int .i64 nu) ∧ w'.cell? ⟨w.heap.size, 3, none⟩ = some (.int .i64 ix) ∧ w'.cell? ⟨w.heap.size, 4, none⟩ = some (.string t1) from fun w' hb' => by
    have cc := b2.below hb' b2.lt
    exact ⟨cc.cell 0, cc.cell 1, cc.cell 2, cc.cell 3, cc.cell 4⟩)
  clear b2
  have HO1' := hid HO1.out
  go_wp2_with fail
  refine (FI.out _ (HS.out.below hB2)).mono ?_
  intro e w3 hp
  obtain ⟨q, A2, n2, c2, rfl, hst, hre, hb3⟩ := HFP.out _ _ _ hp
  have hK3 : Below W2.heap.size W2 w3 := hb3
  obtain ⟨p0, p1, p2, p3, p4⟩ := K.out w3 hK3
  clear hp
  go_wp2_with fail
  refine (to4_any ⟨kd, o1, nu, ix, t1⟩ _).mono ?_
  rintro e w4 ⟨rfl, hb4⟩
  have hK4 : Below W2.heap.size W2 w4 := hK3.trans (hb4.mono hK3.size)
  have hst4 := hst.below hb4
  have hre4 := hre.below hb4
  obtain ⟨p0, p1, p2, p3, p4⟩ := K.out w4 hK4
  unfold nmV
  go_wp2_with fail
  have G := GE'.out w4 q ⟨kd, o1, nu, ix, t1⟩ hst4 ⟨HO1'.out.1, HO1'.out.2⟩
  unfold nmV at G
  refine G.mono ?_
  clear G
  rintro e w5 ⟨rfl, hb5⟩
  have hK5 : Below W2.heap.size W2 w5 := hK4.trans (hb5.mono hK4.size)
  have hst5 := hst4.below hb5
  have hre5 := hre4.below hb5
  obtain ⟨p0, p1, p2, p3, p4⟩ := K.out w5 hK5
  go_wp2_with fail
  have G := RG.out w5 A2 n2 c2 ⟨kd, o1, nu, ix, t1⟩ hre5 HO1s.out
  unfold nmV at G
  refine G.mono ?_
  clear G
  rintro e w6 ⟨rfl, hb6⟩
  have hK6 : Below W2.heap.size W2 w6 := hK5.trans (hb6.mono hK5.size)
  have hst6 := hst5.below hb6
  have hre6 := hre5.below hb6
  generalize getS (getL L ⟨kd, o1, nu, ix, t1⟩) = gs at *
  generalize (getL L ⟨kd, o1, nu, ix, t1⟩).isSome = gi at *
  clear p0 p1 p2 p3 p4
  go_wp2_with fail
  refine (KI.out _ q hst6).mono ?_
  rintro e w7 ⟨v7, rfl, ho7, hb7⟩
  have hK7 : Below W2.heap.size W2 w7 := hK6.trans (hb7.mono hK6.size)
  have hre7 := hre6.below hb7
  obtain ⟨A7, c7, rfl, hsl⟩ := Sl.of_own ho7
  obtain ⟨-, hmx1, hel1⟩ := hsl.elem nmCells5 (by decide)
  obtain ⟨rfl, hmx2, hel2⟩ := hre7.1.elem eCells_len (by decide)
  have hB7 : Below w.heap.size w w7 := hB2.trans (hK7.mono hB2.size)
  have HFA := hid (fun i (h : i < L.length) => filter_at (fun x : Nm × ByteArray => x.1.kind == kk) L i h)
  have HFS := hid (fun i (h : i < L.length) => filter_step (fun x : Nm × ByteArray => x.1.kind == kk) L i h)
  have HFL := hid (filter_all (fun x : Nm × ByteArray => x.1.kind == kk) L)
  have HL24 := HLN.out
  unfold maxLen at hmx1 hmx2
  clear ho7 hsl hst hst4 hst5 hst6 hre hre4 hre5 hre6 hre7 hb3 hb4 hb5 hb6 hb7 hK3 hK4 hK5 hK6 hK7 K
  generalize hFF : L.filter (fun x : Nm × ByteArray => x.1.kind == kk) = FF at *
  clear hFF
  go_wp2_with fail
  go_loopw [14, 15] (fun kv iv wr => ∃ (i j : Nat), iv = .int .i64 i ∧ kv = .int .i64 j ∧ i ≤ L.length ∧ j = ((L.take i).filter (fun x : Nm × ByteArray => x.1.kind == kk)).length ∧ j ≤ i ∧ Below w7.heap.size w7 wr) (fun _ iv _ => L.length - (intOf iv).toNat)
  case atStart => exact ⟨0, 0, rfl, rfl, Nat.zero_le _, rfl, Nat.le_refl _, Below.refl _ _⟩
  case round =>
    obtain ⟨k, j, rfl, rfl, hk, hj, hjk, hB⟩ := hrel
    have HJ := hid hj
    clear hj
    by_cases h1 : k < L.length
    · have h1i : (k : Int) < (L.length : Int) := by omega
      rcases hel2 with rfl | ⟨b2, o2, rfl, hbl2, hc2⟩
      · simp at h1
      have hfa := HFA.out k h1
      have hfs := HFS.out k h1
      rw [← HJ.out] at hfa hfs
      by_cases hkd : L[k].1.kind = kk
      · have hpk : ((fun x : Nm × ByteArray => x.1.kind == kk) L[k]) = true := by simp [hkd]
        have hfa' := hfa hpk
        have hjl : j < FF.length := (List.getElem?_eq_some_iff.1 hfa').1
        have hje : FF[j] = L[k] := (List.getElem?_eq_some_iff.1 hfa').2
        rw [if_pos hpk] at hfs
        have HFS' := hid hfs
        rcases hel1 with rfl | ⟨b1, o1a, rfl, hbl1, hc1⟩
        · simp at hjl
        have hkd' : (L[k].1.kind != kk) = false := by simp [hkd]
        have hge : decide ((FF.length : Int) ≤ (j : Int)) = false := by rw [decide_eq_false_iff_not]; omega
        have hji : (j : Int) < (FF.length : Int) := by omega
        have hge2 : decide (FF.length ≤ j) = false := by rw [decide_eq_false_iff_not]; omega
        have hge5 : (decide ((j : Int) ≥ (FF.length : Int))) = false := by rw [decide_eq_false_iff_not]; omega
        have KK : ∀ w', Below w7.heap.size w7 w' → w'.cell? ⟨b1, o1a + j * 5, none⟩ = some (.int .i64 L[k].1.kind) ∧ w'.cell? ⟨b1, o1a + j * 5 + 1, none⟩ = some (.string L[k].1.owner) ∧ w'.cell? ⟨b1, o1a + j * 5 + 2, none⟩ = some (.int .i64 L[k].1.number) ∧ w'.cell? ⟨b1, o1a + j * 5 + 3, none⟩ = some (.int .i64 L[k].1.index) ∧ w'.cell? ⟨b1, o1a + j * 5 + 4, none⟩ = some (.string L[k].1.text) ∧ w'.cell? ⟨b2, o2 + k * 6, none⟩ = some (.int .i64 L[k].1.kind) ∧ w'.cell? ⟨b2, o2 + k * 6 + 1, none⟩ = some (.string L[k].1.owner) ∧ w'.cell? ⟨b2, o2 + k * 6 + 2, none⟩ = some (.int .i64 L[k].1.number) ∧ w'.cell? ⟨b2, o2 + k * 6 + 3, none⟩ = some (.int .i64 L[k].1.index) ∧ w'.cell? ⟨b2, o2 + k * 6 + 4, none⟩ = some (.string L[k].1.text) := by
          intro w' hb'
          have e := fun j' u (hj : j' < 5) (hu : (nmCells FF[j].1)[j']? = some u) => ((bcell hb').1 _ _ hbl1).trans (hc1 j j' u hjl hj hu)
          rw [hje] at e
          have f := fun j' u (hj : j' < 6) (hu : (eCells L[k])[j']? = some u) => ((bcell hb').1 _ _ hbl2).trans (hc2 k j' u h1 hj hu)
          exact ⟨e 0 _ (by decide) rfl, e 1 _ (by decide) rfl, e 2 _ (by decide) rfl, e 3 _ (by decide) rfl, e 4 _ (by decide) rfl, f 0 _ (by decide) rfl, f 1 _ (by decide) rfl, f 2 _ (by decide) rfl, f 3 _ (by decide) rfl, f 4 _ (by decide) rfl⟩
        have OF := hid (fun w' => of4_any L[k].1 w')
        have NE := hid (fun w' => neqN L[k].1 w')
        obtain ⟨q0, q1, q2, q3, q4, q5, q6, q7, q8, q9⟩ := KK wr hB
        have K := hid KK
        unfold nmV at OF NE
        have ne := NE.out
        clear KK hc1 hc2 hfa hfa' hje hfs hkd hpk
        generalize L[k].1 = m at *
        go_wp2_with fail
        go_region_held3 (fun w' => w'.cell? ⟨b1, o1a + j * 5, none⟩ = some (.int .i64 m.kind) ∧ w'.cell? ⟨b1, o1a + j * 5 + 1, none⟩ = some (.string m.owner) ∧ w'.cell? ⟨b1, o1a + j * 5 + 2, none⟩ = some (.int .i64 m.number) ∧ w'.cell? ⟨b1, o1a + j * 5 + 3, none⟩ = some (.int .i64 m.index) ∧ w'.cell? ⟨b1, o1a + j * 5 + 4, none⟩ = some (.string m.text) ∧ w'.cell? ⟨b2, o2 + k * 6, none⟩ = some (.int .i64 m.kind) ∧ w'.cell? ⟨b2, o2 + k * 6 + 1, none⟩ = some (.string m.owner) ∧ w'.cell? ⟨b2, o2 + k * 6 + 2, none⟩ = some (.int .i64 m.number) ∧ w'.cell? ⟨b2, o2 + k * 6 + 3, none⟩ = some (.int .i64 m.index) ∧ w'.cell? ⟨b2, o2 + k * 6 + 4, none⟩ = some (.string m.text))
          (first | go_keep | exact K.out _ (hB.drew.trans (hb3.mono hB.drew.size)))
          (first | (go_at_call 19; refine (OF.out _).mono ?_; rintro e w3 ⟨rfl, hb3⟩))
        have hB3 : Below w7.heap.size w7 w3 := hB.drew.trans (hb3.mono hB.drew.size)
        clear q0 q1 q2 q3 q4 q5 q6 q7 q8 q9 ne hkd'
        go_wp2_with fail
        go_roundw
        case rel => exact ⟨k + 1, j + 1, by go_num, by go_num, by omega, by rw [HFS'.out], by omega, hB3⟩
        case measure => simp [intOf]; omega
      · have hpk : ((fun x : Nm × ByteArray => x.1.kind == kk) L[k]) = false := by simp [hkd]
        rw [if_neg (by simp [hpk])] at hfs
        have HFS' := hid hfs
        have hkd' : (L[k].1.kind != kk) = true := by simp [hkd]
        have qc : wr.cell? ⟨b2, o2 + k * 6, none⟩ = some (.int .i64 L[k].1.kind) := ((bcell hB).1 _ _ hbl2).trans (hc2 k 0 _ h1 (by decide) rfl)
        clear hc2 hfa hfs hkd hpk
        generalize L[k].1.kind = kq at *
        go_wp2_with fail
        go_roundw
        case rel => exact ⟨k + 1, j, by go_num, rfl, by omega, by rw [HFS'.out, Nat.add_zero], by omega, hB⟩
        case measure => simp [intOf]; omega
    · obtain rfl : k = L.length := by omega
      obtain rfl : j = FF.length := by rw [HJ.out, HFL.out]
      clear hel1 hel2
      go_wp2_with fail
      go_ret
      exact ⟨rfl, hB7.trans (hB.mono hB7.size)⟩
end Go.Proofs.YtnbgfalhmnbefaaGreatDoor
