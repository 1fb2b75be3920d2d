/- LockExcludes: after every operation the lock is sound, and the holders are those that Holds names: it returns true for every list of operations. For every input, with no condition of our own; the row lists the library's tables that strconv.Atoi may read, tied to the program's text by the given tie. -/
import Derived.Test.YtfgecaphhdedcaaGreatDoorZ17
namespace Go.Proofs.YtfgecaphhdedcaaGreatDoor
open Go.ChangeShapes Go.WideShapes Go.ChangeAt Go.RowKit Go.Deep
set_option maxRecDepth 100000

theorem lockExcludes_lifted (os : Os) (started : os.Started) (H : Type) (enc : TypeId × Value → H) :
    ReturnsInHanded {} Tryz.checked os 4 .any (fun w args => (Rows.lockExcludesSpec.pre enc Tryz.prog Tryz.f4 Rows.lockExcludesRow.domain false w args ∧ laidMetH Tryz.prog Rows.lockExcludesRow.laid w) ∧ sizedMet enc Tryz.prog Tryz.f4 (OpenSpec.ofChange Rows.lockExcludesSpec) false w args)
      (Rows.lockExcludesSpec.post enc Tryz.prog Tryz.f4 false true false false) := by
  refine returnsInHanded_of_change_and (C := Tryz.checked) (X := fun w _ => laidMetH Tryz.prog Rows.lockExcludesRow.laid w) (fun _ _ _ hh h => h.of_heap hh) own started (by kernel_rfl) Tryz.func4
    (ChangeSpec.witness_shaped (enc := enc) (C := Tryz.checked) (os := os) (X := fun w _ => laidMetH Tryz.prog Rows.lockExcludesRow.laid w) false (World.laidAll Tryz.prog os Rows.lockExcludesRow.laid) #[.slice none 0 0] 8 (World.laidAll_os _ _ _)
      (World.shaped_of_ZipB (by kernel_rfl) (by kernel_rfl)) (by kernel_rfl) (by kernel_rfl) (by kernel_rfl)
      (by rw [MakeChecks.laidMetH_plain _ _ _ (by kernel_rfl)]; exact laidMet_laidAll _ (by kernel_rfl) (by kernel_rfl))) ?_
  intro W base args ds gs before hval0 hW _ _ _ _
  have hval : ∀ (j : Nat) t v, Tryz.f4.params[j]? = some t → args[j]? = some v → Value.okWide Tryz.prog W .any base t v := hval0
  have hW' := hW
  obtain ⟨p, q, hA0, hV, rfl, _, _⟩ := hW
  have hA : DataW.TrodAll enc Tryz.prog W 0 (fun _ => true) true Tryz.f4.params.toList args.toList ds p := hA0
  have hP := Tryz.params4
  rw [hP] at hA hval
  obtain ⟨v0, vs0, d0, ds0, p0, q0, hargs, rfl, rfl, h0, r0⟩ := trodAll_cons hA
  obtain ⟨rfl, rfl, rfl⟩ := trodAll_nil r0
  obtain rfl : args = #[v0] := by cases args; simp_all
  obtain ⟨A0, n0, c0, l0, rfl, hs0, ho0⟩ := open_Ops (hval 0 35 v0 rfl rfl) h0
  have fin : Calls Tryz.prog 4 _ W fun e w' => e = .returned (.bool true) ∧ Below W.heap.size W w' := lawLkExcludes_any A0 n0 c0 l0 ho0 W hs0
  refine fin.mono fun e W' ⟨he, hb⟩ => ?_
  subst he
  obtain ⟨rfl, rfl⟩ := trodVars_none hV
  refine ⟨_, rfl, law_post (f := Tryz.f4) (s := Rows.lockExcludesSpec) ?_ rfl ⟨rfl, rfl, rfl⟩ (by kernel_rfl) hW' hb⟩
  rw [hP]
  intro t ht
  have hm : t ∈ [35] := by simpa using ht
  have hall : ([35].all fun u => Tryz.prog.readableRec u && decide (u < Tryz.prog.types.size)) = true := by kernel_rfl
  have := List.all_eq_true.1 hall t hm
  simp only [Bool.and_eq_true, decide_eq_true_eq] at this
  exact this

theorem lockExcludes_f0 : mapsRowed Tryz.prog = true := by kernel_rfl
theorem lockExcludes_f1 : (Rows.lockExcludesRow.inPlace == Tryz.prog.inPlace 4) = true := by kernel_rfl
theorem lockExcludes_f2 : (Rows.lockExcludesRow.unfollowed == Tryz.prog.unfollowed 4) = true := by kernel_rfl
theorem lockExcludes_f3 : (Rows.lockExcludesRow.recurses == Tryz.prog.recurses 4) = true := by kernel_rfl
theorem lockExcludes_f4 : (Rows.lockExcludesRow.named == Tryz.prog.varsNamed 4) = true := by kernel_rfl
theorem lockExcludes_f5 : Rows.lockExcludesRow.wf (OpenSpec.ofChange Rows.lockExcludesSpec) = true := by kernel_rfl
theorem lockExcludes_f6 : (Rows.lockExcludesRow.plainKeys == Tryz.prog.plainKeys) = true := by kernel_rfl
theorem lockExcludes_f7 : Tryz.prog.stopsHeard = true := by kernel_rfl
theorem lockExcludes_f8 : Tryz.prog.mayEnter = true := by kernel_rfl
theorem lockExcludes_f9 : (Rows.lockExcludesRow.lifted == Tryz.prog.liftsFinal) = true := by kernel_rfl
theorem lockExcludes_joined : joinedFacts Tryz.prog 4 Tryz.f4 Rows.lockExcludesSpec Rows.lockExcludesRow = true := by
  unfold joinedFacts
  repeat' first
    | with_reducible exact lockExcludes_f0
    | with_reducible exact lockExcludes_f1
    | with_reducible exact lockExcludes_f2
    | with_reducible exact lockExcludes_f3
    | with_reducible exact lockExcludes_f4
    | with_reducible exact lockExcludes_f5
    | with_reducible exact lockExcludes_f6
    | with_reducible exact lockExcludes_f7
    | with_reducible exact lockExcludes_f8
    | with_reducible exact lockExcludes_f9
    | with_reducible exact laidOutT
    | with_reducible refine Bool.and_eq_true_iff.mpr ⟨?_, ?_⟩
  all_goals kernel_rfl
theorem lockExcludes_said : Rows.LockExcludesSaid :=
  OpenClaim.holds_of_wide 4 Tryz.f4 rfl rfl rfl rfl rfl rfl rfl ⟨rfl, rfl, rfl, rfl, rfl⟩ rfl rfl rfl rfl rfl (by kernel_rfl) Tryz.func4 lockExcludes_joined
    (of_decide_eq_true (by kernel_rfl)) (by unfold Func.isWrapper; first | (rw [if_pos (by decide +kernel)]; kernel_rfl) | (rw [if_neg (by decide +kernel)]; exact ⟨rfl, rfl⟩))
    (fun os started H enc _ => lockExcludes_lifted os started H enc)
theorem lockExcludes_holds : Rows.LockExcludesCardSaid :=
  Claim7.holds_tied_plain_at .later [] _ _ _ _ lockExcludes_said (fun _ h => by cases h) (by kernel_rfl) (fun _ h => by cases h) lockExcludes_row_tie rfl ⟨rfl, rfl⟩ (by kernel_rfl) rfl
    (fun f fn hf hfn => by
      obtain rfl : f = 4 := Option.some.inj ((show Tryz.prog.funcNamed "replevin/replevinlaw34.LockExcludes" = some 4 by kernel_rfl).symm.trans hf) |>.symm
      obtain rfl : fn = Tryz.f4 := (Option.some.inj (Tryz.func4.symm.trans hfn)).symm
      exact ⟨by kernel_rfl, fun j t ht => by
        rw [Tryz.params4] at ht
        have hm : t ∈ [35] := by simpa using Array.mem_of_getElem? ht
        have hall : ([35].all fun u => !Tryz.prog.wantsStandIn u) = true := by kernel_rfl
        exact (show Tryz.prog.wantsStandIn t = false by simpa using List.all_eq_true.1 hall t hm)⟩)
    (by kernel_rfl)
#print axioms lockExcludes_holds
end Go.Proofs.YtfgecaphhdedcaaGreatDoor
