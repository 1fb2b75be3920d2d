/-
  LAYER 5, WALKED: Apply of a state.
-/
import Derived.Test.YtnbgfalhmnbefaaGreatDoorTo
namespace Go.Proofs.YtnbgfalhmnbefaaGreatDoor
open Go.RowKit

set_option maxRecDepth 100000 in
set_option maxHeartbeats 1000000 in
theorem stApplyNil_any (v : Value) (w : World) : Calls Tryz.prog 26 #[.pointer none, v] w fun e w' => e = .returned (.tuple #[.pointer none, .int .i64 1]) ∧ w = w' := by
  go_enter Tryz.func26, Tryz.ntmps26
  go_wp2_with fail
  go_ret2
  exact ⟨rfl, rfl⟩

set_option maxRecDepth 100000 in
set_option maxHeartbeats 3200000 in
theorem stApply_any (g : Nat) (p : Option Addr) (t : T) (A2 : Option Addr) (n2 c2 : Nat) (cs : List Ch) (hsm : ∀ x ∈ cs, x.Small) (hg : Good g t.toList) (hk : g + cs.length ≤ 1000) (w : World) (hs : IsState w p t) (hc : RowC w A2 n2 c2 cs) :
    Calls Tryz.prog 26 #[.pointer p, .slice A2 n2 c2] w (SPost w (applyTE t cs) (applyT t cs)) := by
  obtain ⟨rfl, hmx, hel⟩ := Sl.elem hc chCells_len (by decide)
  unfold maxLen at hmx
  clear hc
  have HS := hid hs; have HG := hid hg; have HM := hid hsm
  obtain ⟨s0, r0, rfl, -, -⟩ := hs
  clear hg hsm
  go_enter Tryz.func26, Tryz.ntmps26
  go_wp2_with fail
  go_loopw [0, 13] (fun v i wr => ∃ (j : Nat) (q : Option Addr) (tj : T), i = .int .i64 j ∧ v = .pointer q ∧ j ≤ cs.length ∧ IsState wr q tj ∧ Good (g + j) tj.toList ∧ applyTE t cs = applyTE tj (cs.drop j) ∧ applyT t cs = applyT tj (cs.drop j) ∧ Below w.heap.size w wr) (fun _ i _ => cs.length - (intOf i).toNat)
  case atStart => exact ⟨0, _, t, rfl, rfl, Nat.zero_le _, HS.out, HG.out, rfl, rfl, Below.refl _ _⟩
  case round =>
    obtain ⟨j, q, tj, rfl, rfl, hj, hr, hgj, he1, he2, hB⟩ := hrel
    have HR := hid hr
    clear hr HS HG
    by_cases h1 : j < cs.length
    · rcases hel with rfl | ⟨b, off, rfl, hb, hcc⟩
      · simp at h1
      have e := fun j' u (hj' : j' < 7) (hu : (chCells cs[j])[j']? = some u) => ((bcell hB).1 _ _ hb).trans (hcc j j' u h1 hj' hu)
      have q0 := e 0 _ (by decide) rfl
      have q1 := e 1 _ (by decide) rfl
      have q2 := e 2 _ (by decide) rfl
      have q3 := e 3 _ (by decide) rfl
      have q4 := e 4 _ (by decide) rfl
      have q5 := e 5 _ (by decide) rfl
      have q6 := e 6 _ (by decide) rfl
      have hsx := HM.out cs[j] (List.getElem_mem h1)
      have hd : cs.drop j = cs[j] :: cs.drop (j + 1) := List.drop_eq_getElem_cons h1
      have hgs := hgj.step hsx
      rw [← step_list rfl hgj.sorted] at hgs
      rw [hd] at he1 he2
      rw [Nat.add_zero] at q0
      clear e hcc hd
      generalize cs[j] = x at *
      obtain ⟨nm, vl, ab⟩ := x
      dsimp only at q0 q1 q2 q3 q4 q5 q6
      have hok := hsx.ok
      obtain ⟨s1, s2, s3⟩ := hsx
      dsimp only at s1 s2 s3 hok
      obtain ⟨z1, z2⟩ := hgj.fits (by omega)
      cases ab with
      | true =>
        have HE1 := hid (he1.trans (show _ = if withoutE nm ≠ 0 then withoutE nm else applyTE (withoutT tj nm) (cs.drop (j + 1)) from rfl))
        have HE2 := hid (he2.trans (show _ = if withoutE nm ≠ 0 then .nil else applyT (withoutT tj nm) (cs.drop (j + 1)) from rfl))
        have CO := hid (fun w' (h : IsState w' q tj) => stWithout_any q tj nm hok hgj.ok ⟨by omega, by omega⟩ w' h)
        have GO := hid (show Good (g + j + 1) (withoutT tj nm).toList from hgs)
        clear he1 he2 hgj hgs HM z1 z2 hok
        generalize withoutT tj nm = t1 at *
        generalize withoutE nm = E at *
        unfold nmV at CO
        by_cases hE : E = 0
        · have hEb : (E != 0) = false := by simp [hE]
          have HZ := hid hE
          clear hE
          go_wp2_with (go_at_call 33; refine (CO.out _ (HR.out.below ((Below.refl _ _).alloc (Nat.le_refl _) _))).mono ?_; rintro e w1 ⟨q1, rfl, r1, r2, hb1⟩)
          have hB1 := (hB.alloc hB.size _).trans (hb1.mono (by have := hB.size; simp; omega))
          go_roundw
          case rel => exact ⟨j + 1, q1, t1, by go_num, rfl, by omega, r2 HZ.out, GO.out, by rw [HE1.out, if_neg (by simp [HZ.out])], by rw [HE2.out, if_neg (by simp [HZ.out])], hB1⟩
          case measure => simp [intOf]; omega
        · have hEb : (E != 0) = true := by simp [hE]
          have HZ := hid hE
          clear hE
          go_wp2_with (go_at_call 33; refine (CO.out _ (HR.out.below ((Below.refl _ _).alloc (Nat.le_refl _) _))).mono ?_; rintro e w1 ⟨q1, rfl, r1, r2, hb1⟩)
          have hB1 := (hB.alloc hB.size _).trans (hb1.mono (by have := hB.size; simp; omega))
          go_ret2
          exact ⟨none, by rw [HE1.out, if_pos HZ.out]; rfl, fun _ => rfl, fun h => absurd ((show E = applyTE t cs by rw [HE1.out, if_pos HZ.out]).trans h) HZ.out, hB1⟩
      | false =>
        have HE1 := hid (he1.trans (show _ = if withE tj nm vl ≠ 0 then withE tj nm vl else applyTE (tj.with_ nm vl) (cs.drop (j + 1)) from rfl))
        have HE2 := hid (he2.trans (show _ = if withE tj nm vl ≠ 0 then .nil else applyT (tj.with_ nm vl) (cs.drop (j + 1)) from rfl))
        have CO := hid (fun w' (h : IsState w' q tj) => stWith_any q tj nm vl hok hgj.ok (by omega) (by omega) w' h)
        have GO := hid (show Good (g + j + 1) (tj.with_ nm vl).toList from hgs)
        clear he1 he2 hgj hgs HM z1 z2 hok
        generalize tj.with_ nm vl = t1 at *
        generalize withE tj nm vl = E at *
        unfold nmV at CO
        by_cases hE : E = 0
        · have hEb : (E != 0) = false := by simp [hE]
          have HZ := hid hE
          clear hE
          go_wp2_with (go_at_call 32; refine (CO.out _ (HR.out.below ((Below.refl _ _).alloc (Nat.le_refl _) _))).mono ?_; rintro e w1 ⟨q1, rfl, r1, r2, hb1⟩)
          have hB1 := (hB.alloc hB.size _).trans (hb1.mono (by have := hB.size; simp; omega))
          go_roundw
          case rel => exact ⟨j + 1, q1, t1, by go_num, rfl, by omega, r2 HZ.out, GO.out, by rw [HE1.out, if_neg (by simp [HZ.out])], by rw [HE2.out, if_neg (by simp [HZ.out])], hB1⟩
          case measure => simp [intOf]; omega
        · have hEb : (E != 0) = true := by simp [hE]
          have HZ := hid hE
          clear hE
          go_wp2_with (go_at_call 32; refine (CO.out _ (HR.out.below ((Below.refl _ _).alloc (Nat.le_refl _) _))).mono ?_; rintro e w1 ⟨q1, rfl, r1, r2, hb1⟩)
          have hB1 := (hB.alloc hB.size _).trans (hb1.mono (by have := hB.size; simp; omega))
          go_ret2
          exact ⟨none, by rw [HE1.out, if_pos HZ.out]; rfl, fun _ => rfl, fun h => absurd ((show E = applyTE t cs by rw [HE1.out, if_pos HZ.out]).trans h) HZ.out, hB1⟩
    · have hd : cs.drop j = [] := List.drop_of_length_le (by omega)
      rw [hd] at he1 he2
      have HE1 := hid (he1.trans (show _ = 0 from rfl))
      have HE2 := hid (he2.trans (show _ = tj from rfl))
      clear he1 he2 hd hel hgj HM
      go_wp2_with fail
      go_ret2
      exact ⟨q, by rw [HE1.out]; rfl, fun h => absurd HE1.out h, fun _ => by rw [HE2.out]; exact HR.out, hB⟩
end Go.Proofs.YtnbgfalhmnbefaaGreatDoor
