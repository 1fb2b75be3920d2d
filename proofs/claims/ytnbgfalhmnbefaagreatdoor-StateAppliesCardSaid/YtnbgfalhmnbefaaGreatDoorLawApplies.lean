/-
  THE LAW StateApplies, WALKED.
-/
import Derived.Test.YtnbgfalhmnbefaaGreatDoorIs
namespace Go.Proofs.YtnbgfalhmnbefaaGreatDoor
open Go.RowKit

set_option maxRecDepth 100000 in
set_option maxHeartbeats 3200000 in
theorem lawApplies_any (A : Option Addr) (n c : Nat) (l : List Ch) (ho : strOk l) (A' : Option Addr) (n' c' : Nat) (l' : List Ch) (ho' : strOk l') (w : World) (hs : RowC w A n c l) (hs' : RowC w A' n' c' l') :
    Calls Tryz.prog 6 #[.slice A n c, .slice A' n' c'] w fun e w' => e = .returned (.bool true) ∧ Below w.heap.size w w' := by
  have FI := hid (fun w' (h : RowC w' A n c l) => fill_any A n c l ho w' h)
  have TO := hid (fun w' (h : RowC w' A' n' c' l') => to5_any A' n' c' l' ho' w' h)
  obtain ⟨e1, e2⟩ := fill_eq (toC_small l)
  have hg : Good 24 (fillT (toC l)).toList := by rw [e1]; exact e2.more (toC_len l)
  obtain ⟨a1, a2, a3⟩ := apply_eq (toC l') 24 (fillT (toC l)) (fillL (toC l)) e1 (e2.more (toC_len l)) (toC_small l')
  have hl24 := toC_len l'
  have hsm := toC_small l'
  have hg2 : Good 48 (applyT (fillT (toC l)) (toC l')).toList := by rw [a2]; exact a3.more (by omega)
  have SA := hid (fun w' q A3 c3 (h : IsState w' q (fillT (toC l))) (h' : RowC w' A3 (toC l').length c3 (toC l')) => stApply_any 24 q (fillT (toC l)) A3 (toC l').length c3 (toC l') hsm hg (by omega) w' h h')
  have RA := hid (fun w' A2 n2 c2 A3 c3 (h : RowE w' A2 n2 c2 (fillL (toC l))) (h' : RowC w' A3 (toC l').length c3 (toC l')) => refApply_any 24 A2 n2 c2 (fillL (toC l)) A3 (toC l').length c3 (toC l') hsm (by rw [← e1]; exact hg) (by omega) w' h h')
  have IS := hid (fun w' q A2 n2 c2 (h : IsState w' q (fillT (toC l))) (h' : RowE w' A2 n2 c2 (fillL (toC l))) => is_any 24 (fillT (toC l)) hg (by omega) q A2 n2 c2 w' h (by rw [e1]; exact h'))
  have IS2 := hid (fun w' q A2 n2 c2 (h : IsState w' q (applyT (fillT (toC l)) (toC l'))) (h' : RowE w' A2 n2 c2 (applyL (fillL (toC l)) (toC l'))) => is_any 48 (applyT (fillT (toC l)) (toC l')) hg2 (by omega) q A2 n2 c2 w' h (by rw [a2]; exact h'))
  rw [a1] at SA
  have HS := hid hs; have HS' := hid hs'
  have HFP := hid (show ∀ w' o w2, FillPost w' l o w2 → ∃ q A1 n1 c1, o = .returned (.tuple #[.pointer q, .slice A1 n1 c1]) ∧ IsState w2 q (fillT (toC l)) ∧ RowE w2 A1 n1 c1 (fillL (toC l)) ∧ Below w'.heap.size w' w2 from fun _ _ _ h => h)
  clear hs hs' e1 e2 hg a1 a2 a3 hg2 hsm
  generalize applyLE (fillL (toC l)) (toC l') = E at *
  generalize applyT (fillT (toC l)) (toC l') = T2 at *
  generalize applyL (fillL (toC l)) (toC l') = L2 at *
  generalize fillT (toC l) = T1 at *
  generalize fillL (toC l) = L1 at *
  generalize toC l' = cs at *
  go_enter Tryz.func6, Tryz.ntmps6
  go_wp2_with fail
  refine (known_any _).mono ?_
  rintro e w1 ⟨rfl, hb1⟩
  go_wp2_with fail
  refine (FI.out _ (HS.out.below hb1)).mono ?_
  intro e w2 hp
  obtain ⟨q, A2, n2, c2, rfl, hst, hre, hb2⟩ := HFP.out _ _ _ hp
  have hB2 := hb1.trans (hb2.mono hb1.size)
  clear hp
  go_wp2_with fail
  refine (TO.out _ (HS'.out.below hB2)).mono ?_
  rintro e w3 ⟨A3, c3, A4, c4, rfl, hr3, hr4, hb3⟩
  have hB3 := hB2.trans (hb3.mono hB2.size)
  have hst3 := hst.below hb3
  have hre3 := hre.below hb3
  go_wp2_with fail
  refine (SA.out _ q A3 c3 hst3 hr3).mono ?_
  rintro e w4 ⟨q4, rfl, x1, x2, hb4⟩
  have hB4 := hB3.trans (hb4.mono hB3.size)
  have hst4 := hst3.below hb4
  have hre4 := hre3.below hb4
  have hr4' := hr4.below hb4
  by_cases hE : E = 0
  · have hEb : (E != 0) = false := by simp [hE]
    have hEe : (E != E) = false := by simp
    have HX := hid (x2 hE)
    obtain ⟨sb, rb, hqe, -, -⟩ := id (x2 hE)
    have HZ := hid hE
    subst hqe
    clear x1 x2 hE
    go_wp2_with fail
    refine (RA.out _ A2 n2 c2 A4 c4 hre4 hr4').mono ?_
    rintro e w5 ⟨A5, n5, c5, rfl, y1, y2, hb5⟩
    have hB5 := hB4.trans (hb5.mono hB4.size)
    have HY := hid (y2 HZ.out)
    clear y1 y2
    go_wp2_with fail
    refine (IS.out _ q A2 n2 c2 (hst4.below hb5) (hre4.below hb5)).mono ?_
    rintro e w6 ⟨rfl, hb6⟩
    have hB6 := hB5.trans (hb6.mono hB5.size)
    go_wp2_with fail
    refine (IS2.out _ (some ⟨sb, 0, none⟩) A5 n5 c5 ((HX.out.below hb5).below hb6) (HY.out.below hb6)).mono ?_
    rintro e w7 ⟨rfl, hb7⟩
    go_wp2_with fail
    go_ret
    exact ⟨rfl, hB6.trans (hb7.mono hB6.size)⟩
  · have hEb : (E != 0) = true := by simp [hE]
    have hEe : (E != E) = false := by simp
    have hqe := x1 hE
    have HZ := hid hE
    subst hqe
    clear x1 x2 hE
    go_wp2_with fail
    refine (RA.out _ A2 n2 c2 A4 c4 hre4 hr4').mono ?_
    rintro e w5 ⟨A5, n5, c5, rfl, y1, y2, hb5⟩
    have hB5 := hB4.trans (hb5.mono hB4.size)
    clear y1 y2
    go_wp2_with fail
    refine (IS.out _ q A2 n2 c2 (hst4.below hb5) (hre4.below hb5)).mono ?_
    rintro e w6 ⟨rfl, hb6⟩
    have hB6 := hB5.trans (hb6.mono hB5.size)
    go_wp2_with fail
    go_ret
    exact ⟨rfl, hB6⟩
end Go.Proofs.YtnbgfalhmnbefaaGreatDoor
