/-
  THE REFERENCE OF LAYER 5, WALKED: Apply.
-/
import Derived.Test.YtnbgfalhmnbefaaGreatDoorRefWith
import Derived.Test.YtnbgfalhmnbefaaGreatDoorTo
namespace Go.Proofs.YtnbgfalhmnbefaaGreatDoor
open Go.RowKit

set_option maxRecDepth 100000 in
set_option maxHeartbeats 3200000 in
theorem refApply_any (g : Nat) (A : Option Addr) (n c : Nat) (l : EL) (A2 : Option Addr) (n2 c2 : Nat) (cs : List Ch) (hsm : ∀ x ∈ cs, x.Small) (hg : Good g l) (hk : g + cs.length ≤ 1000) (w : World) (hs : RowE w A n c l) (hc : RowC w A2 n2 c2 cs) :
    Calls Tryz.prog 28 #[.slice A n c, .slice A2 n2 c2] w (RPost w (applyLE l cs) (applyL l cs)) := by
  obtain ⟨rfl, hmx, hel⟩ := Sl.elem hc chCells_len (by decide)
  unfold maxLen at hmx
  clear hc
  have HS := hid hs; have HG := hid hg; have HM := hid hsm
  clear hs hg hsm
  go_enter Tryz.func28, Tryz.ntmps28
  go_wp2_with fail
  go_loopw [0, 6] (fun v i wr => ∃ (j : Nat) (Aj : Option Addr) (nj cj : Nat) (lj : EL), i = .int .i64 j ∧ v = .slice Aj nj cj ∧ j ≤ cs.length ∧ RowE wr Aj nj cj lj ∧ Good (g + j) lj ∧ applyLE l cs = applyLE lj (cs.drop j) ∧ applyL l cs = applyL lj (cs.drop j) ∧ Below w.heap.size w wr) (fun _ i _ => cs.length - (intOf i).toNat)
  case atStart => exact ⟨0, A, n, c, l, rfl, rfl, Nat.zero_le _, HS.out, HG.out, rfl, rfl, Below.refl _ _⟩
  case round =>
    obtain ⟨j, Aj, nj, cj, lj, rfl, rfl, hj, hr, hgj, he1, he2, hB⟩ := hrel
    have HR := hid hr
    clear hr HS HG
    by_cases h1 : j < cs.length
    · rcases hel with rfl | ⟨b, off, rfl, hb, hcc⟩
      · simp at h1
      have e := fun j' u (hj' : j' < 7) (hu : (chCells cs[j])[j']? = some u) => ((bcell hB).1 _ _ hb).trans (hcc j j' u h1 hj' hu)
      have q0 := e 0 _ (by decide) rfl
      have q1 := e 1 _ (by decide) rfl
      have q2 := e 2 _ (by decide) rfl
      have q3 := e 3 _ (by decide) rfl
      have q4 := e 4 _ (by decide) rfl
      have q5 := e 5 _ (by decide) rfl
      have q6 := e 6 _ (by decide) rfl
      obtain ⟨s1, s2, s3⟩ := HM.out cs[j] (List.getElem_mem h1)
      have hd : cs.drop j = cs[j] :: cs.drop (j + 1) := List.drop_eq_getElem_cons h1
      rw [hd] at he1 he2
      rw [Nat.add_zero] at q0
      clear e hcc hd
      generalize cs[j] = x at *
      obtain ⟨nm, vl, ab⟩ := x
      dsimp only at q0 q1 q2 q3 q4 q5 q6 s1 s2 s3
      cases ab with
      | true =>
        have HE1 := hid (he1.trans (show _ = if withoutE nm ≠ 0 then withoutE nm else applyLE (outL lj nm) (cs.drop (j + 1)) from rfl))
        have HE2 := hid (he2.trans (show _ = if withoutE nm ≠ 0 then [] else applyL (outL lj nm) (cs.drop (j + 1)) from rfl))
        have hlj := hgj.len
        have CO := hid (fun w' (h : RowE w' Aj nj cj lj) => refOut_any Aj nj cj lj nm hgj.smallE (by omega) (by omega) (by omega) w' h)
        have GO := hid (hgj.out nm)
        change Hid (∀ w', RowE w' Aj nj cj lj → Calls Tryz.prog 53 #[.slice Aj nj cj, nmV nm] w' (RPost w' (withoutE nm) (outL lj nm))) at CO
        clear he1 he2 hgj hlj HM
        generalize outL lj nm = L1 at *
        generalize withoutE nm = E at *
        unfold nmV at CO
        by_cases hE : E = 0
        · have hEb : (E != 0) = false := by simp [hE]
          have HZ := hid hE
          clear hE
          go_wp2_with (go_at_call 53; refine (CO.out _ (HR.out.below ((Below.refl _ _).alloc (Nat.le_refl _) _))).mono ?_; rintro e w1 ⟨A1, n1, c1, rfl, r1, r2, hb1⟩)
          have hB1 := (hB.alloc hB.size _).trans (hb1.mono (by have := hB.size; simp; omega))
          go_roundw
          case rel => exact ⟨j + 1, A1, n1, c1, L1, by go_num, rfl, by omega, r2 HZ.out, GO.out, by rw [HE1.out, if_neg (by simp [HZ.out])], by rw [HE2.out, if_neg (by simp [HZ.out])], hB1⟩
          case measure => simp [intOf]; omega
        · have hEb : (E != 0) = true := by simp [hE]
          have HZ := hid hE
          clear hE
          go_wp2_with (go_at_call 53; refine (CO.out _ (HR.out.below ((Below.refl _ _).alloc (Nat.le_refl _) _))).mono ?_; rintro e w1 ⟨A1, n1, c1, rfl, r1, r2, hb1⟩)
          have hB1 := (hB.alloc hB.size _).trans (hb1.mono (by have := hB.size; simp; omega))
          go_ret2
          exact ⟨none, 0, 0, by rw [HE1.out, if_pos HZ.out]; rfl, fun _ => ⟨rfl, rfl, rfl⟩, fun h => absurd ((show E = applyLE l cs by rw [HE1.out, if_pos HZ.out]).trans h) HZ.out, hB1⟩
      | false =>
        have HE1 := hid (he1.trans (show _ = if withRE lj nm vl ≠ 0 then withRE lj nm vl else applyLE (withL lj nm vl) (cs.drop (j + 1)) from rfl))
        have HE2 := hid (he2.trans (show _ = if withRE lj nm vl ≠ 0 then [] else applyL (withL lj nm vl) (cs.drop (j + 1)) from rfl))
        have hlj := hgj.len
        have CO := hid (fun w' (h : RowE w' Aj nj cj lj) => refWith_any Aj nj cj lj nm vl hgj.smallE (by omega) (by omega) (by omega) w' h)
        have GO := hid (hgj.with (v := vl) s1 s2 s3)
        clear he1 he2 hgj hlj HM
        generalize withL lj nm vl = L1 at *
        generalize withRE lj nm vl = E at *
        unfold nmV at CO
        by_cases hE : E = 0
        · have hEb : (E != 0) = false := by simp [hE]
          have HZ := hid hE
          clear hE
          go_wp2_with (go_at_call 54; refine (CO.out _ (HR.out.below ((Below.refl _ _).alloc (Nat.le_refl _) _))).mono ?_; rintro e w1 ⟨A1, n1, c1, rfl, r1, r2, hb1⟩)
          have hB1 := (hB.alloc hB.size _).trans (hb1.mono (by have := hB.size; simp; omega))
          go_roundw
          case rel => exact ⟨j + 1, A1, n1, c1, L1, by go_num, rfl, by omega, r2 HZ.out, GO.out, by rw [HE1.out, if_neg (by simp [HZ.out])], by rw [HE2.out, if_neg (by simp [HZ.out])], hB1⟩
          case measure => simp [intOf]; omega
        · have hEb : (E != 0) = true := by simp [hE]
          have HZ := hid hE
          clear hE
          go_wp2_with (go_at_call 54; refine (CO.out _ (HR.out.below ((Below.refl _ _).alloc (Nat.le_refl _) _))).mono ?_; rintro e w1 ⟨A1, n1, c1, rfl, r1, r2, hb1⟩)
          have hB1 := (hB.alloc hB.size _).trans (hb1.mono (by have := hB.size; simp; omega))
          go_ret2
          exact ⟨none, 0, 0, by rw [HE1.out, if_pos HZ.out]; rfl, fun _ => ⟨rfl, rfl, rfl⟩, fun h => absurd ((show E = applyLE l cs by rw [HE1.out, if_pos HZ.out]).trans h) HZ.out, hB1⟩
    · have hd : cs.drop j = [] := List.drop_of_length_le (by omega)
      rw [hd] at he1 he2
      have HE1 := hid (he1.trans (show _ = 0 from rfl))
      have HE2 := hid (he2.trans (show _ = lj from rfl))
      clear he1 he2 hd hel hgj HM
      go_wp2_with fail
      go_ret2
      exact ⟨Aj, nj, cj, by rw [HE1.out]; rfl, fun h => absurd HE1.out h, fun _ => by rw [HE2.out]; exact HR.out, hB⟩
end Go.Proofs.YtnbgfalhmnbefaaGreatDoor
