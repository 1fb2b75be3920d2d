/-
  THE REFERENCE OF LAYER 4, WALKED: Check = object.Name.Check.
-/
import Derived.Test.YtfdbanhbegngoaaGreatDoorRef4k
import Derived.BigQuiet
import Derived.WalkSmall
namespace Go.Proofs.YtfdbanhbegngoaaGreatDoor
open Go.RowKit

set_option maxRecDepth 100000 in
set_option maxHeartbeats 3200000 in
theorem refCheck_any (n : Nm) (ho : n.owner.size ≤ 1000000) (ht : n.text.size ≤ 1000000) (w : World) :
    Calls Tryz.prog 87 #[nmV n] w fun e w' => e = .returned (.int .i64 (checkN n)) ∧ Below w.heap.size w w' := by
  obtain ⟨k, owner, number, index, text⟩ := n
  dsimp only at ho ht
  unfold nmV
  by_cases hk : k < 1 ∨ 20 < k
  · have hr : checkN ⟨k, owner, number, index, text⟩ = 11 := by rw [checkN, if_pos hk]
    have HR := hid hr; clear hr
    rcases hk with hk | hk
    · go_enter Tryz.func87, Tryz.ntmps87
      go_wp2_with fail
      go_ret
      exact ⟨ret_int HR.out.symm, (Below.refl _ _).alloc (Nat.le_refl _) _⟩
    · have hk' : ¬ k < 1 := by omega
      go_enter Tryz.func87, Tryz.ntmps87
      go_wp2_with fail
      go_ret
      exact ⟨ret_int HR.out.symm, (Below.refl _ _).alloc (Nat.le_refl _) _⟩
  · have k1 : ¬ k < 1 := by omega
    have k2 : ¬ 20 < k := by omega
    obtain ⟨q1, q2, q3, q4⟩ := kinds_eq k.toNat (by omega) (by omega)
    have hkk : ((k.toNat : Nat) : Int) = k := by omega
    rw [hkk] at q1 q2 q3 q4
    have hF : checkN ⟨k, owner, number, index, text⟩ = if (!(ownB k) && !owner.toList.isEmpty) || (!(numB k) && (number != 0)) || (decide (mostI k < 0) && (index != 0)) || (!(txtB k) && !text.toList.isEmpty) then 1
        else if ownB k && !(M.valid owner.data.toList) then 12
        else if !(okNum number) || decide (index < 0) || decide (max (mostI k) 0 < index) then 2
        else if txtB k && !(wordB text) then 12
        else 0 := by rw [checkN, if_neg hk, q1, q2, q3, q4]; rfl
    have po := fun w => own_any k w
    have pn := fun w => num_any k w
    have pt := fun w => txt_any k w
    have pm := fun w => most_any k w
    have pv := fun w => refValid_any owner ho w
    have pw := fun w => refWord_any text ht w
    clear q1 q2 q3 q4 hkk hk
    generalize ownB k = ow at *
    generalize numB k = nu at *
    generalize txtB k = te at *
    generalize mostI k = mo at *
    obtain ⟨be, hbe⟩ : ∃ b, owner.toList.isEmpty = b := ⟨_, rfl⟩
    obtain ⟨bn, hbn⟩ : ∃ b, (number != 0) = b := ⟨_, rfl⟩
    obtain ⟨bi, hbi⟩ : ∃ b, (index != 0) = b := ⟨_, rfl⟩
    obtain ⟨bt, hbt⟩ : ∃ b, text.toList.isEmpty = b := ⟨_, rfl⟩
    obtain ⟨bm, hbm⟩ : ∃ b, decide (mo < 0) = b := ⟨_, rfl⟩
    obtain ⟨vv, hvv⟩ : ∃ b, M.valid owner.data.toList = b := ⟨_, rfl⟩
    obtain ⟨nn, hnn⟩ : ∃ b, (!(okNum number) || decide (index < 0) || decide (max mo 0 < index)) = b := ⟨_, rfl⟩
    obtain ⟨ww, hww⟩ : ∃ b, wordB text = b := ⟨_, rfl⟩
    rw [hbe, hbn, hbi, hbt, hbm, hvv, hnn, hww] at hF
    rw [hvv] at pv
    rw [hww] at pw
    have HF := hid hF
    have PO := hid po; have PN := hid pn; have PT := hid pt; have PM := hid pm; have PV := hid pv; have PW := hid pw
    have HNN := hid hnn
    clear hF po pn pt pm pv pw hnn hvv hww
    go_enter Tryz.func87, Tryz.ntmps87
    go_upto_region 4 with fail
    generalize hW : w.alloc (.cells #[.int .i64 k, .string owner, .int .i64 number, .int .i64 index, .string text] 63) = W
    have b0 : Blk W w.heap.size 63 #[.int .i64 k, .string owner, .int .i64 number, .int .i64 index, .string text] := by rw [← hW]; exact Blk.new _ _ _
    have hB : Below w.heap.size w W := by rw [← hW]; exact (Below.refl _ _).alloc (Nat.le_refl _) _
    have lW : w.heap.size < W.heap.size := b0.lt
    clear hW
    have KK : ∀ w', Below W.heap.size W w' → w'.cell? ⟨w.heap.size, 1, none⟩ = some (.string owner) ∧ w'.cell? ⟨w.heap.size, 2, none⟩ = some (.int .i64 number) ∧ w'.cell? ⟨w.heap.size, 3, none⟩ = some (.int .i64 index) ∧ w'.cell? ⟨w.heap.size, 4, none⟩ = some (.string text) := by
      intro w' hb
      have c := b0.below hb lW
      exact ⟨c.cell 1, c.cell 2, c.cell 3, c.cell 4⟩
    have K := hid KK
    obtain ⟨d1, d2, d3, d4⟩ := KK W (Below.refl _ _)
    clear KK b0
    go_cut [13] (fun b wx => b = .bool ((!ow && !be) || (!nu && bn) || (bm && bi) || (!te && !bt)) ∧ W = wx)
    case first =>
      go_wp2_with (first
        | (go_at_call 58; refine (PO.out _).mono ?_; rintro e w' ⟨rfl, rfl⟩)
        | (go_at_call 60; refine (PN.out _).mono ?_; rintro e w' ⟨rfl, rfl⟩)
        | (go_at_call 61; refine (PM.out _).mono ?_; rintro e w' ⟨rfl, rfl⟩)
        | (go_at_call 62; refine (PT.out _).mono ?_; rintro e w' ⟨rfl, rfl⟩))
      all_goals
        go_meet
        refine ⟨?_, rfl⟩
        simp [*]
    case rest =>
      obtain ⟨rfl, rfl⟩ := hcut
      have h3 := HF.out
      clear HF hbe hbn hbi hbt hbm
      generalize ((!ow && !be) || (!nu && bn) || (bm && bi) || (!te && !bt)) = A at *
      have H3 := hid h3
      clear h3
      cases A with
      | true =>
        go_wp2_with fail
        go_ret
        exact ⟨ret_int H3.out.symm, hB⟩
      | false =>
        go_upto_region 6 with fail
        go_cut [52] (fun b wx => b = .bool (ow && !vv) ∧ Below W.heap.size W wx)
        case first =>
          cases ow with
          | true =>
            go_wp2_with (first
              | (go_at_call 58; refine (PO.out _).mono ?_; rintro e w' ⟨rfl, rfl⟩)
              | (go_at_call 106; refine (PV.out _).mono ?_; rintro e w1 ⟨rfl, hb1⟩))
            go_meet
            exact ⟨by simp, hb1⟩
          | false =>
            go_wp2_with (first
              | (go_at_call 58; refine (PO.out _).mono ?_; rintro e w' ⟨rfl, rfl⟩))
            go_meet
            exact ⟨by simp, Below.refl _ _⟩
        case rest =>
          obtain ⟨rfl, hb1⟩ := hcut
          have hB1 : Below w.heap.size w wc := hB.trans (hb1.mono hB.size)
          generalize (ow && !vv) = ov at *
          obtain ⟨e1, e2, e3, e4⟩ := K.out _ hb1
          have hnn := HNN.out
          cases ov with
          | true =>
            go_wp2_with fail
            go_ret
            exact ⟨ret_int H3.out.symm, hB1⟩
          | false =>
            go_upto_region 8 with fail
            go_cut [61] (fun b wx => b = .bool nn ∧ Below W.heap.size W wx)
            case first =>
              by_cases f1 : number < 0
              · have hn1 : nn = true := by rw [← hnn]; simp [okNum]; omega
                subst hn1
                clear hnn
                go_quiet (first | (go_at_call 61; refine Calls.quiet_of_same ((PM.out _).mono fun _ _ h => ⟨h.1, h.2.symm⟩)))
                all_goals
                  go_wp2_with fail
                  go_meet
                  exact ⟨rfl, hb1.trans ⟨rfl, rfl, rfl, Nat.le_refl _, fun _ _ => rfl⟩⟩
              · by_cases f2 : 1073741824 < number
                · have hn1 : nn = true := by rw [← hnn]; simp [okNum]; omega
                  subst hn1
                  clear hnn
                  go_quiet (first | (go_at_call 61; refine Calls.quiet_of_same ((PM.out _).mono fun _ _ h => ⟨h.1, h.2.symm⟩)))
                  all_goals
                    go_wp2_with fail
                    go_meet
                    exact ⟨rfl, hb1.trans ⟨rfl, rfl, rfl, Nat.le_refl _, fun _ _ => rfl⟩⟩
                · by_cases f3 : index < 0
                  · have hn1 : nn = true := by rw [← hnn]; simp [okNum]; omega
                    subst hn1
                    clear hnn
                    go_quiet (first | (go_at_call 61; refine Calls.quiet_of_same ((PM.out _).mono fun _ _ h => ⟨h.1, h.2.symm⟩)))
                    all_goals
                      go_wp2_with fail
                      go_meet
                      exact ⟨rfl, hb1.trans ⟨rfl, rfl, rfl, Nat.le_refl _, fun _ _ => rfl⟩⟩
                  · have hn1 : nn = decide (max mo 0 < index) := by rw [← hnn]; simp [okNum]; omega
                    subst hn1
                    clear hnn
                    go_quiet (first | (go_at_call 61; refine Calls.quiet_of_same ((PM.out _).mono fun _ _ h => ⟨h.1, h.2.symm⟩)))
                    all_goals
                      go_wp2_with fail
                      go_meet
                      exact ⟨by simp [*], hb1.trans ⟨rfl, rfl, rfl, Nat.le_refl _, fun _ _ => rfl⟩⟩
            case rest =>
              obtain ⟨rfl, hb2⟩ := hcut
              obtain ⟨r1, r2, r3, r4⟩ := K.out _ hb2
              have hB2 : Below w.heap.size w wc := hB.trans (hb2.mono hB.size)
              clear hnn
              cases nn with
              | true =>
                go_wp2_with fail
                go_ret
                exact ⟨ret_int H3.out.symm, hB2⟩
              | false =>
                cases te with
                | false =>
                  go_wp2_with (first
                    | (go_at_call 62; refine (PT.out _).mono ?_; rintro e w' ⟨rfl, rfl⟩))
                  go_ret
                  exact ⟨ret_int H3.out.symm, hB2⟩
                | true =>
                  cases ww with
                  | true =>
                    go_wp2_with (first
                      | (go_at_call 62; refine (PT.out _).mono ?_; rintro e w' ⟨rfl, rfl⟩)
                      | (go_at_call 107; refine (PW.out _).mono ?_; rintro e w' ⟨rfl, rfl⟩))
                    go_ret
                    exact ⟨ret_int H3.out.symm, hB2⟩
                  | false =>
                    go_wp2_with (first
                      | (go_at_call 62; refine (PT.out _).mono ?_; rintro e w' ⟨rfl, rfl⟩)
                      | (go_at_call 107; refine (PW.out _).mono ?_; rintro e w' ⟨rfl, rfl⟩))
                    go_ret
                    exact ⟨ret_int H3.out.symm, hB2⟩
end Go.Proofs.YtfdbanhbegngoaaGreatDoor
