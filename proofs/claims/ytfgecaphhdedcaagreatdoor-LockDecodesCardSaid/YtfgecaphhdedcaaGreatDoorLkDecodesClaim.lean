/- LockDecodes: for any text Decode returns a lock whose value it is, or ErrFormat: it returns true for every text. For every input, with no condition of our own; the row lists the library's tables that strconv.Atoi may read, tied to the program's text by the given tie. -/
import Derived.Test.YtfgecaphhdedcaaGreatDoorZ14
import Derived.Test.YtfgecaphhdedcaaGreatDoorZ13
namespace Go.Proofs.YtfgecaphhdedcaaGreatDoor
open Go.ChangeShapes Go.WideShapes Go.ChangeAt Go.RowKit Go.Deep
set_option maxRecDepth 100000

theorem lockDecodes_lifted (os : Os) (started : os.Started) (H : Type) (enc : TypeId × Value → H) :
    ReturnsInHanded {} Tryz.checked os 3 .any (fun w args => (Rows.lockDecodesSpec.pre enc Tryz.prog Tryz.f3 Rows.lockDecodesRow.domain false w args ∧ laidMetH Tryz.prog Rows.lockDecodesRow.laid w) ∧ sizedMet enc Tryz.prog Tryz.f3 (OpenSpec.ofChange Rows.lockDecodesSpec) false w args)
      (Rows.lockDecodesSpec.post enc Tryz.prog Tryz.f3 false true false false) := by
  refine returnsInHanded_of_change_and (C := Tryz.checked) (X := fun w _ => laidMetH Tryz.prog Rows.lockDecodesRow.laid w) (fun _ _ _ hh h => h.of_heap hh) own started (by kernel_rfl) Tryz.func3
    (ChangeSpec.witness_shaped (enc := enc) (C := Tryz.checked) (os := os) (X := fun w _ => laidMetH Tryz.prog Rows.lockDecodesRow.laid w) false (World.laidAll Tryz.prog os Rows.lockDecodesRow.laid) #[.string ⟨#[]⟩] 8 (World.laidAll_os _ _ _)
      (World.shaped_of_ZipB (by kernel_rfl) (by kernel_rfl)) (by kernel_rfl) (by kernel_rfl) (by kernel_rfl)
      (by rw [MakeChecks.laidMetH_plain _ _ _ (by kernel_rfl)]; exact laidMet_laidAll _ (by kernel_rfl) (by kernel_rfl))) ?_
  intro W base args ds gs before hval0 hW _ _ _ _
  have hval : ∀ (j : Nat) t v, Tryz.f3.params[j]? = some t → args[j]? = some v → Value.okWide Tryz.prog W .any base t v := hval0
  have hW' := hW
  obtain ⟨p, q, hA0, hV, rfl, _, _⟩ := hW
  have hA : DataW.TrodAll enc Tryz.prog W 0 (fun _ => true) true Tryz.f3.params.toList args.toList ds p := hA0
  have hP := Tryz.params3
  rw [hP] at hA hval
  obtain ⟨v0, vs0, d0, ds0, p0, q0, hargs, rfl, rfl, h0, r0⟩ := trodAll_cons hA
  obtain ⟨rfl, rfl, rfl⟩ := trodAll_nil r0
  obtain rfl : args = #[v0] := by cases args; simp_all
  obtain ⟨s0, rfl, _, _, ws0⟩ := Go.ChangeMaps.open_string Tryz.underlying9 (hval 0 9 v0 rfl rfl) h0
  have fin : Calls Tryz.prog 3 _ W fun e w' => e = .returned (.bool true) ∧ Below W.heap.size W w' := lawLkDecodes_any s0 ws0 W
  refine fin.mono fun e W' ⟨he, hb⟩ => ?_
  subst he
  obtain ⟨rfl, rfl⟩ := trodVars_none hV
  refine ⟨_, rfl, law_post (f := Tryz.f3) (s := Rows.lockDecodesSpec) ?_ rfl ⟨rfl, rfl, rfl⟩ (by kernel_rfl) hW' hb⟩
  rw [hP]
  intro t ht
  have hm : t ∈ [9] := by simpa using ht
  have hall : ([9].all fun u => Tryz.prog.readableRec u && decide (u < Tryz.prog.types.size)) = true := by kernel_rfl
  have := List.all_eq_true.1 hall t hm
  simp only [Bool.and_eq_true, decide_eq_true_eq] at this
  exact this

theorem lockDecodes_f0 : mapsRowed Tryz.prog = true := by kernel_rfl
theorem lockDecodes_f1 : (Rows.lockDecodesRow.inPlace == Tryz.prog.inPlace 3) = true := by kernel_rfl
theorem lockDecodes_f2 : (Rows.lockDecodesRow.unfollowed == Tryz.prog.unfollowed 3) = true := by kernel_rfl
theorem lockDecodes_f3 : (Rows.lockDecodesRow.recurses == Tryz.prog.recurses 3) = true := by kernel_rfl
theorem lockDecodes_f4 : (Rows.lockDecodesRow.named == Tryz.prog.varsNamed 3) = true := by kernel_rfl
theorem lockDecodes_f5 : Rows.lockDecodesRow.wf (OpenSpec.ofChange Rows.lockDecodesSpec) = true := by kernel_rfl
theorem lockDecodes_f6 : (Rows.lockDecodesRow.plainKeys == Tryz.prog.plainKeys) = true := by kernel_rfl
theorem lockDecodes_f7 : Tryz.prog.stopsHeard = true := by kernel_rfl
theorem lockDecodes_f8 : Tryz.prog.mayEnter = true := by kernel_rfl
theorem lockDecodes_f9 : (Rows.lockDecodesRow.lifted == Tryz.prog.liftsFinal) = true := by kernel_rfl
theorem lockDecodes_joined : joinedFacts Tryz.prog 3 Tryz.f3 Rows.lockDecodesSpec Rows.lockDecodesRow = true := by
  unfold joinedFacts
  repeat' first
    | with_reducible exact lockDecodes_f0
    | with_reducible exact lockDecodes_f1
    | with_reducible exact lockDecodes_f2
    | with_reducible exact lockDecodes_f3
    | with_reducible exact lockDecodes_f4
    | with_reducible exact lockDecodes_f5
    | with_reducible exact lockDecodes_f6
    | with_reducible exact lockDecodes_f7
    | with_reducible exact lockDecodes_f8
    | with_reducible exact lockDecodes_f9
    | with_reducible exact laidOutT
    | with_reducible refine Bool.and_eq_true_iff.mpr ⟨?_, ?_⟩
  all_goals kernel_rfl
theorem lockDecodes_said : Rows.LockDecodesSaid :=
  OpenClaim.holds_of_wide 3 Tryz.f3 rfl rfl rfl rfl rfl rfl rfl ⟨rfl, rfl, rfl, rfl, rfl⟩ rfl rfl rfl rfl rfl (by kernel_rfl) Tryz.func3 lockDecodes_joined
    (of_decide_eq_true (by kernel_rfl)) (by unfold Func.isWrapper; first | (rw [if_pos (by decide +kernel)]; kernel_rfl) | (rw [if_neg (by decide +kernel)]; exact ⟨rfl, rfl⟩))
    (fun os started H enc _ => lockDecodes_lifted os started H enc)
theorem lockDecodes_holds : Rows.LockDecodesCardSaid :=
  Claim7.holds_tied_plain_at .later [] _ _ _ _ lockDecodes_said (fun _ h => by cases h) (by kernel_rfl) (fun _ h => by cases h) lockDecodes_row_tie rfl ⟨rfl, rfl⟩ (by kernel_rfl) rfl
    (fun f fn hf hfn => by
      obtain rfl : f = 3 := Option.some.inj ((show Tryz.prog.funcNamed "replevin/replevinlaw34.LockDecodes" = some 3 by kernel_rfl).symm.trans hf) |>.symm
      obtain rfl : fn = Tryz.f3 := (Option.some.inj (Tryz.func3.symm.trans hfn)).symm
      exact ⟨by kernel_rfl, fun j t ht => by
        rw [Tryz.params3] at ht
        have hm : t ∈ [9] := by simpa using Array.mem_of_getElem? ht
        have hall : ([9].all fun u => !Tryz.prog.wantsStandIn u) = true := by kernel_rfl
        exact (show Tryz.prog.wantsStandIn t = false by simpa using List.all_eq_true.1 hall t hm)⟩)
    (by kernel_rfl)
#print axioms lockDecodes_holds
end Go.Proofs.YtfgecaphhdedcaaGreatDoor
