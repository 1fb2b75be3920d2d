/- LockShares: all processes can share a lock up to the limit, nobody gets it alone then, but the last one that remains does: it returns true for all numbers. For every input, with no condition of our own; the row lists the library's tables that strconv.Atoi may read, tied to the program's text by the given tie. -/
import Derived.Test.YtfgecaphhdedcaaGreatDoorZ15
import Derived.Test.YtfgecaphhdedcaaGreatDoorZ16
namespace Go.Proofs.YtfgecaphhdedcaaGreatDoor
open Go.ChangeShapes Go.WideShapes Go.ChangeAt Go.RowKit Go.Deep
set_option maxRecDepth 100000

theorem lockShares_lifted (os : Os) (started : os.Started) (H : Type) (enc : TypeId × Value → H) :
    ReturnsInHanded {} Tryz.checked os 5 .any (fun w args => (Rows.lockSharesSpec.pre enc Tryz.prog Tryz.f5 Rows.lockSharesRow.domain false w args ∧ laidMetH Tryz.prog Rows.lockSharesRow.laid w) ∧ sizedMet enc Tryz.prog Tryz.f5 (OpenSpec.ofChange Rows.lockSharesSpec) false w args)
      (Rows.lockSharesSpec.post enc Tryz.prog Tryz.f5 false true false false) := by
  refine returnsInHanded_of_change_and (C := Tryz.checked) (X := fun w _ => laidMetH Tryz.prog Rows.lockSharesRow.laid w) (fun _ _ _ hh h => h.of_heap hh) own started (by kernel_rfl) Tryz.func5
    (ChangeSpec.witness_shaped (enc := enc) (C := Tryz.checked) (os := os) (X := fun w _ => laidMetH Tryz.prog Rows.lockSharesRow.laid w) false (World.laidAll Tryz.prog os Rows.lockSharesRow.laid) #[.int .u8 0, .int .u8 0] 8 (World.laidAll_os _ _ _)
      (World.shaped_of_ZipB (by kernel_rfl) (by kernel_rfl)) (by kernel_rfl) (by kernel_rfl) (by kernel_rfl)
      (by rw [MakeChecks.laidMetH_plain _ _ _ (by kernel_rfl)]; exact laidMet_laidAll _ (by kernel_rfl) (by kernel_rfl))) ?_
  intro W base args ds gs before hval0 hW _ _ _ _
  have hval : ∀ (j : Nat) t v, Tryz.f5.params[j]? = some t → args[j]? = some v → Value.okWide Tryz.prog W .any base t v := hval0
  have hW' := hW
  obtain ⟨p, q, hA0, hV, rfl, _, _⟩ := hW
  have hA : DataW.TrodAll enc Tryz.prog W 0 (fun _ => true) true Tryz.f5.params.toList args.toList ds p := hA0
  have hP := Tryz.params5
  rw [hP] at hA hval
  obtain ⟨v0, vs0, d0, ds0, p0, q0, hargs, rfl, rfl, h0, r0⟩ := trodAll_cons hA
  obtain ⟨v1, vs1, d1, ds1, p1, q1, rfl, rfl, rfl, h1, r1⟩ := trodAll_cons r0
  obtain ⟨rfl, rfl, rfl⟩ := trodAll_nil r1
  obtain rfl : args = #[v0, v1] := by cases args; simp_all
  obtain ⟨u0, rfl, hu0⟩ := open_u8 (hval 0 5 v0 rfl rfl) h0
  obtain ⟨u1, rfl, hu1⟩ := open_u8 (hval 1 5 v1 rfl rfl) h1
  have fin : Calls Tryz.prog 5 _ W fun e w' => e = .returned (.bool true) ∧ Below W.heap.size W w' := lawLkShares_any u0 u1 hu0 hu1 W
  refine fin.mono fun e W' ⟨he, hb⟩ => ?_
  subst he
  obtain ⟨rfl, rfl⟩ := trodVars_none hV
  refine ⟨_, rfl, law_post (f := Tryz.f5) (s := Rows.lockSharesSpec) ?_ rfl ⟨rfl, rfl, rfl⟩ (by kernel_rfl) hW' hb⟩
  rw [hP]
  intro t ht
  have hm : t ∈ [5, 5] := by simpa using ht
  have hall : ([5, 5].all fun u => Tryz.prog.readableRec u && decide (u < Tryz.prog.types.size)) = true := by kernel_rfl
  have := List.all_eq_true.1 hall t hm
  simp only [Bool.and_eq_true, decide_eq_true_eq] at this
  exact this

theorem lockShares_f0 : mapsRowed Tryz.prog = true := by kernel_rfl
theorem lockShares_f1 : (Rows.lockSharesRow.inPlace == Tryz.prog.inPlace 5) = true := by kernel_rfl
theorem lockShares_f2 : (Rows.lockSharesRow.unfollowed == Tryz.prog.unfollowed 5) = true := by kernel_rfl
theorem lockShares_f3 : (Rows.lockSharesRow.recurses == Tryz.prog.recurses 5) = true := by kernel_rfl
theorem lockShares_f4 : (Rows.lockSharesRow.named == Tryz.prog.varsNamed 5) = true := by kernel_rfl
theorem lockShares_f5 : Rows.lockSharesRow.wf (OpenSpec.ofChange Rows.lockSharesSpec) = true := by kernel_rfl
theorem lockShares_f6 : (Rows.lockSharesRow.plainKeys == Tryz.prog.plainKeys) = true := by kernel_rfl
theorem lockShares_f7 : Tryz.prog.stopsHeard = true := by kernel_rfl
theorem lockShares_f8 : Tryz.prog.mayEnter = true := by kernel_rfl
theorem lockShares_f9 : (Rows.lockSharesRow.lifted == Tryz.prog.liftsFinal) = true := by kernel_rfl
theorem lockShares_joined : joinedFacts Tryz.prog 5 Tryz.f5 Rows.lockSharesSpec Rows.lockSharesRow = true := by
  unfold joinedFacts
  repeat' first
    | with_reducible exact lockShares_f0
    | with_reducible exact lockShares_f1
    | with_reducible exact lockShares_f2
    | with_reducible exact lockShares_f3
    | with_reducible exact lockShares_f4
    | with_reducible exact lockShares_f5
    | with_reducible exact lockShares_f6
    | with_reducible exact lockShares_f7
    | with_reducible exact lockShares_f8
    | with_reducible exact lockShares_f9
    | with_reducible exact laidOutT
    | with_reducible refine Bool.and_eq_true_iff.mpr ⟨?_, ?_⟩
  all_goals kernel_rfl
theorem lockShares_said : Rows.LockSharesSaid :=
  OpenClaim.holds_of_wide 5 Tryz.f5 rfl rfl rfl rfl rfl rfl rfl ⟨rfl, rfl, rfl, rfl, rfl⟩ rfl rfl rfl rfl rfl (by kernel_rfl) Tryz.func5 lockShares_joined
    (of_decide_eq_true (by kernel_rfl)) (by unfold Func.isWrapper; first | (rw [if_pos (by decide +kernel)]; kernel_rfl) | (rw [if_neg (by decide +kernel)]; exact ⟨rfl, rfl⟩))
    (fun os started H enc _ => lockShares_lifted os started H enc)
theorem lockShares_holds : Rows.LockSharesCardSaid :=
  Claim7.holds_tied_plain_at .later [] _ _ _ _ lockShares_said (fun _ h => by cases h) (by kernel_rfl) (fun _ h => by cases h) lockShares_row_tie rfl ⟨rfl, rfl⟩ (by kernel_rfl) rfl
    (fun f fn hf hfn => by
      obtain rfl : f = 5 := Option.some.inj ((show Tryz.prog.funcNamed "replevin/replevinlaw34.LockShares" = some 5 by kernel_rfl).symm.trans hf) |>.symm
      obtain rfl : fn = Tryz.f5 := (Option.some.inj (Tryz.func5.symm.trans hfn)).symm
      exact ⟨by kernel_rfl, fun j t ht => by
        rw [Tryz.params5] at ht
        have hm : t ∈ [5, 5] := by simpa using Array.mem_of_getElem? ht
        have hall : ([5, 5].all fun u => !Tryz.prog.wantsStandIn u) = true := by kernel_rfl
        exact (show Tryz.prog.wantsStandIn t = false by simpa using List.all_eq_true.1 hall t hm)⟩)
    (by kernel_rfl)
#print axioms lockShares_holds
end Go.Proofs.YtfgecaphhdedcaaGreatDoor
