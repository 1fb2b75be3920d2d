/- LockChecks: Check and Encode return the stated error, and Decode is the inverse of Encode: it returns true for every raw lock. For every input, with no condition of our own; the row lists the library's tables that strconv.Atoi may read, tied to the program's text by the given tie. -/
import Derived.Test.YtfgecaphhdedcaaGreatDoorZ15
namespace Go.Proofs.YtfgecaphhdedcaaGreatDoor
open Go.ChangeShapes Go.WideShapes Go.ChangeAt Go.RowKit Go.Deep
set_option maxRecDepth 100000

theorem lockChecks_lifted (os : Os) (started : os.Started) (H : Type) (enc : TypeId × Value → H) :
    ReturnsInHanded {} Tryz.checked os 6 .any (fun w args => (Rows.lockChecksSpec.pre enc Tryz.prog Tryz.f6 Rows.lockChecksRow.domain false w args ∧ laidMetH Tryz.prog Rows.lockChecksRow.laid w) ∧ sizedMet enc Tryz.prog Tryz.f6 (OpenSpec.ofChange Rows.lockChecksSpec) false w args)
      (Rows.lockChecksSpec.post enc Tryz.prog Tryz.f6 false true false false) := by
  refine returnsInHanded_of_change_and (C := Tryz.checked) (X := fun w _ => laidMetH Tryz.prog Rows.lockChecksRow.laid w) (fun _ _ _ hh h => h.of_heap hh) own started (by kernel_rfl) Tryz.func6
    (ChangeSpec.witness_shaped (enc := enc) (C := Tryz.checked) (os := os) (X := fun w _ => laidMetH Tryz.prog Rows.lockChecksRow.laid w) false (World.laidAll Tryz.prog os Rows.lockChecksRow.laid) #[.agg #[.int .i64 0, .bool false, .slice none 0 0, .string ⟨#[]⟩]] 8 (World.laidAll_os _ _ _)
      (World.shaped_of_ZipB (by kernel_rfl) (by kernel_rfl)) (by kernel_rfl) (by kernel_rfl) (by kernel_rfl)
      (by rw [MakeChecks.laidMetH_plain _ _ _ (by kernel_rfl)]; exact laidMet_laidAll _ (by kernel_rfl) (by kernel_rfl))) ?_
  intro W base args ds gs before hval0 hW _ _ _ _
  have hval : ∀ (j : Nat) t v, Tryz.f6.params[j]? = some t → args[j]? = some v → Value.okWide Tryz.prog W .any base t v := hval0
  have hW' := hW
  obtain ⟨p, q, hA0, hV, rfl, _, _⟩ := hW
  have hA : DataW.TrodAll enc Tryz.prog W 0 (fun _ => true) true Tryz.f6.params.toList args.toList ds p := hA0
  have hP := Tryz.params6
  rw [hP] at hA hval
  obtain ⟨v0, vs0, d0, ds0, p0, q0, hargs, rfl, rfl, h0, r0⟩ := trodAll_cons hA
  obtain ⟨rfl, rfl, rfl⟩ := trodAll_nil r0
  obtain rfl : args = #[v0] := by cases args; simp_all
  obtain ⟨E0, S0, A0, n0, c0, l0, tx0, rfl, hs0, ht0⟩ := open_Raw (hval 0 56 v0 rfl rfl) h0
  have fin : Calls Tryz.prog 6 _ W fun e w' => e = .returned (.bool true) ∧ Below W.heap.size W w' := lawLkChecks_any E0 S0 A0 n0 c0 l0 tx0 ht0 W hs0
  refine fin.mono fun e W' ⟨he, hb⟩ => ?_
  subst he
  obtain ⟨rfl, rfl⟩ := trodVars_none hV
  refine ⟨_, rfl, law_post (f := Tryz.f6) (s := Rows.lockChecksSpec) ?_ rfl ⟨rfl, rfl, rfl⟩ (by kernel_rfl) hW' hb⟩
  rw [hP]
  intro t ht
  have hm : t ∈ [56] := by simpa using ht
  have hall : ([56].all fun u => Tryz.prog.readableRec u && decide (u < Tryz.prog.types.size)) = true := by kernel_rfl
  have := List.all_eq_true.1 hall t hm
  simp only [Bool.and_eq_true, decide_eq_true_eq] at this
  exact this

theorem lockChecks_f0 : mapsRowed Tryz.prog = true := by kernel_rfl
theorem lockChecks_f1 : (Rows.lockChecksRow.inPlace == Tryz.prog.inPlace 6) = true := by kernel_rfl
theorem lockChecks_f2 : (Rows.lockChecksRow.unfollowed == Tryz.prog.unfollowed 6) = true := by kernel_rfl
theorem lockChecks_f3 : (Rows.lockChecksRow.recurses == Tryz.prog.recurses 6) = true := by kernel_rfl
theorem lockChecks_f4 : (Rows.lockChecksRow.named == Tryz.prog.varsNamed 6) = true := by kernel_rfl
theorem lockChecks_f5 : Rows.lockChecksRow.wf (OpenSpec.ofChange Rows.lockChecksSpec) = true := by kernel_rfl
theorem lockChecks_f6 : (Rows.lockChecksRow.plainKeys == Tryz.prog.plainKeys) = true := by kernel_rfl
theorem lockChecks_f7 : Tryz.prog.stopsHeard = true := by kernel_rfl
theorem lockChecks_f8 : Tryz.prog.mayEnter = true := by kernel_rfl
theorem lockChecks_f9 : (Rows.lockChecksRow.lifted == Tryz.prog.liftsFinal) = true := by kernel_rfl
theorem lockChecks_joined : joinedFacts Tryz.prog 6 Tryz.f6 Rows.lockChecksSpec Rows.lockChecksRow = true := by
  unfold joinedFacts
  repeat' first
    | with_reducible exact lockChecks_f0
    | with_reducible exact lockChecks_f1
    | with_reducible exact lockChecks_f2
    | with_reducible exact lockChecks_f3
    | with_reducible exact lockChecks_f4
    | with_reducible exact lockChecks_f5
    | with_reducible exact lockChecks_f6
    | with_reducible exact lockChecks_f7
    | with_reducible exact lockChecks_f8
    | with_reducible exact lockChecks_f9
    | with_reducible exact laidOutT
    | with_reducible refine Bool.and_eq_true_iff.mpr ⟨?_, ?_⟩
  all_goals kernel_rfl
theorem lockChecks_said : Rows.LockChecksSaid :=
  OpenClaim.holds_of_wide 6 Tryz.f6 rfl rfl rfl rfl rfl rfl rfl ⟨rfl, rfl, rfl, rfl, rfl⟩ rfl rfl rfl rfl rfl (by kernel_rfl) Tryz.func6 lockChecks_joined
    (of_decide_eq_true (by kernel_rfl)) (by unfold Func.isWrapper; first | (rw [if_pos (by decide +kernel)]; kernel_rfl) | (rw [if_neg (by decide +kernel)]; exact ⟨rfl, rfl⟩))
    (fun os started H enc _ => lockChecks_lifted os started H enc)
theorem lockChecks_holds : Rows.LockChecksCardSaid :=
  Claim7.holds_tied_plain_at .later [] _ _ _ _ lockChecks_said (fun _ h => by cases h) (by kernel_rfl) (fun _ h => by cases h) lockChecks_row_tie rfl ⟨rfl, rfl⟩ (by kernel_rfl) rfl
    (fun f fn hf hfn => by
      obtain rfl : f = 6 := Option.some.inj ((show Tryz.prog.funcNamed "replevin/replevinlaw34.LockChecks" = some 6 by kernel_rfl).symm.trans hf) |>.symm
      obtain rfl : fn = Tryz.f6 := (Option.some.inj (Tryz.func6.symm.trans hfn)).symm
      exact ⟨by kernel_rfl, fun j t ht => by
        rw [Tryz.params6] at ht
        have hm : t ∈ [56] := by simpa using Array.mem_of_getElem? ht
        have hall : ([56].all fun u => !Tryz.prog.wantsStandIn u) = true := by kernel_rfl
        exact (show Tryz.prog.wantsStandIn t = false by simpa using List.all_eq_true.1 hall t hm)⟩)
    (by kernel_rfl)
#print axioms lockChecks_holds
end Go.Proofs.YtfgecaphhdedcaaGreatDoor
