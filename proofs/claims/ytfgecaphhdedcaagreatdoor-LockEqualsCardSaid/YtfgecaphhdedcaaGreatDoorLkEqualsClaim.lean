/- LockEquals: Equal answers whether two locks are alike: it returns true for every two raw locks and every change. For every input, with no condition of our own; the row lists the library's tables that strconv.Atoi may read, tied to the program's text by the given tie. -/
import Derived.Test.YtfgecaphhdedcaaGreatDoorZ15
import Derived.Test.YtfgecaphhdedcaaGreatDoorZ18
namespace Go.Proofs.YtfgecaphhdedcaaGreatDoor
open Go.ChangeShapes Go.WideShapes Go.ChangeAt Go.RowKit Go.Deep
set_option maxRecDepth 100000

theorem lockEquals_lifted (os : Os) (started : os.Started) (H : Type) (enc : TypeId × Value → H) :
    ReturnsInHanded {} Tryz.checked os 7 .any (fun w args => (Rows.lockEqualsSpec.pre enc Tryz.prog Tryz.f7 Rows.lockEqualsRow.domain false w args ∧ laidMetH Tryz.prog Rows.lockEqualsRow.laid w) ∧ sizedMet enc Tryz.prog Tryz.f7 (OpenSpec.ofChange Rows.lockEqualsSpec) false w args)
      (Rows.lockEqualsSpec.post enc Tryz.prog Tryz.f7 false true false false) := by
  refine returnsInHanded_of_change_and (C := Tryz.checked) (X := fun w _ => laidMetH Tryz.prog Rows.lockEqualsRow.laid w) (fun _ _ _ hh h => h.of_heap hh) own started (by kernel_rfl) Tryz.func7
    (ChangeSpec.witness_shaped (enc := enc) (C := Tryz.checked) (os := os) (X := fun w _ => laidMetH Tryz.prog Rows.lockEqualsRow.laid w) false (World.laidAll Tryz.prog os Rows.lockEqualsRow.laid) #[.agg #[.int .i64 0, .bool false, .slice none 0 0, .string ⟨#[]⟩], .agg #[.int .i64 0, .bool false, .slice none 0 0, .string ⟨#[]⟩], .int .u8 0] 8 (World.laidAll_os _ _ _)
      (World.shaped_of_ZipB (by kernel_rfl) (by kernel_rfl)) (by kernel_rfl) (by kernel_rfl) (by kernel_rfl)
      (by rw [MakeChecks.laidMetH_plain _ _ _ (by kernel_rfl)]; exact laidMet_laidAll _ (by kernel_rfl) (by kernel_rfl))) ?_
  intro W base args ds gs before hval0 hW _ _ _ _
  have hval : ∀ (j : Nat) t v, Tryz.f7.params[j]? = some t → args[j]? = some v → Value.okWide Tryz.prog W .any base t v := hval0
  have hW' := hW
  obtain ⟨p, q, hA0, hV, rfl, _, _⟩ := hW
  have hA : DataW.TrodAll enc Tryz.prog W 0 (fun _ => true) true Tryz.f7.params.toList args.toList ds p := hA0
  have hP := Tryz.params7
  rw [hP] at hA hval
  obtain ⟨v0, vs0, d0, ds0, p0, q0, hargs, rfl, rfl, h0, r0⟩ := trodAll_cons hA
  obtain ⟨v1, vs1, d1, ds1, p1, q1, rfl, rfl, rfl, h1, r1⟩ := trodAll_cons r0
  obtain ⟨v2, vs2, d2, ds2, p2, q2, rfl, rfl, rfl, h2, r2⟩ := trodAll_cons r1
  obtain ⟨rfl, rfl, rfl⟩ := trodAll_nil r2
  obtain rfl : args = #[v0, v1, v2] := by cases args; simp_all
  obtain ⟨E0, S0, A0, n0, c0, l0, tx0, rfl, hs0, ht0⟩ := open_Raw (hval 0 56 v0 rfl rfl) h0
  obtain ⟨E1, S1, A1, n1, c1, l1, tx1, rfl, hs1, ht1⟩ := open_Raw (hval 1 56 v1 rfl rfl) h1
  obtain ⟨u2, rfl, hu2⟩ := open_u8 (hval 2 5 v2 rfl rfl) h2
  have fin : Calls Tryz.prog 7 _ W fun e w' => e = .returned (.bool true) ∧ Below W.heap.size W w' := lawLkEquals_any E0 S0 A0 n0 c0 l0 tx0 ht0 E1 S1 A1 n1 c1 l1 tx1 ht1 u2 hu2 W hs0 hs1
  refine fin.mono fun e W' ⟨he, hb⟩ => ?_
  subst he
  obtain ⟨rfl, rfl⟩ := trodVars_none hV
  refine ⟨_, rfl, law_post (f := Tryz.f7) (s := Rows.lockEqualsSpec) ?_ rfl ⟨rfl, rfl, rfl⟩ (by kernel_rfl) hW' hb⟩
  rw [hP]
  intro t ht
  have hm : t ∈ [56, 56, 5] := by simpa using ht
  have hall : ([56, 56, 5].all fun u => Tryz.prog.readableRec u && decide (u < Tryz.prog.types.size)) = true := by kernel_rfl
  have := List.all_eq_true.1 hall t hm
  simp only [Bool.and_eq_true, decide_eq_true_eq] at this
  exact this

theorem lockEquals_f0 : mapsRowed Tryz.prog = true := by kernel_rfl
theorem lockEquals_f1 : (Rows.lockEqualsRow.inPlace == Tryz.prog.inPlace 7) = true := by kernel_rfl
theorem lockEquals_f2 : (Rows.lockEqualsRow.unfollowed == Tryz.prog.unfollowed 7) = true := by kernel_rfl
theorem lockEquals_f3 : (Rows.lockEqualsRow.recurses == Tryz.prog.recurses 7) = true := by kernel_rfl
theorem lockEquals_f4 : (Rows.lockEqualsRow.named == Tryz.prog.varsNamed 7) = true := by kernel_rfl
theorem lockEquals_f5 : Rows.lockEqualsRow.wf (OpenSpec.ofChange Rows.lockEqualsSpec) = true := by kernel_rfl
theorem lockEquals_f6 : (Rows.lockEqualsRow.plainKeys == Tryz.prog.plainKeys) = true := by kernel_rfl
theorem lockEquals_f7 : Tryz.prog.stopsHeard = true := by kernel_rfl
theorem lockEquals_f8 : Tryz.prog.mayEnter = true := by kernel_rfl
theorem lockEquals_f9 : (Rows.lockEqualsRow.lifted == Tryz.prog.liftsFinal) = true := by kernel_rfl
theorem lockEquals_joined : joinedFacts Tryz.prog 7 Tryz.f7 Rows.lockEqualsSpec Rows.lockEqualsRow = true := by
  unfold joinedFacts
  repeat' first
    | with_reducible exact lockEquals_f0
    | with_reducible exact lockEquals_f1
    | with_reducible exact lockEquals_f2
    | with_reducible exact lockEquals_f3
    | with_reducible exact lockEquals_f4
    | with_reducible exact lockEquals_f5
    | with_reducible exact lockEquals_f6
    | with_reducible exact lockEquals_f7
    | with_reducible exact lockEquals_f8
    | with_reducible exact lockEquals_f9
    | with_reducible exact laidOutT
    | with_reducible refine Bool.and_eq_true_iff.mpr ⟨?_, ?_⟩
  all_goals kernel_rfl
theorem lockEquals_said : Rows.LockEqualsSaid :=
  OpenClaim.holds_of_wide 7 Tryz.f7 rfl rfl rfl rfl rfl rfl rfl ⟨rfl, rfl, rfl, rfl, rfl⟩ rfl rfl rfl rfl rfl (by kernel_rfl) Tryz.func7 lockEquals_joined
    (of_decide_eq_true (by kernel_rfl)) (by unfold Func.isWrapper; first | (rw [if_pos (by decide +kernel)]; kernel_rfl) | (rw [if_neg (by decide +kernel)]; exact ⟨rfl, rfl⟩))
    (fun os started H enc _ => lockEquals_lifted os started H enc)
theorem lockEquals_holds : Rows.LockEqualsCardSaid :=
  Claim7.holds_tied_plain_at .later [] _ _ _ _ lockEquals_said (fun _ h => by cases h) (by kernel_rfl) (fun _ h => by cases h) lockEquals_row_tie rfl ⟨rfl, rfl⟩ (by kernel_rfl) rfl
    (fun f fn hf hfn => by
      obtain rfl : f = 7 := Option.some.inj ((show Tryz.prog.funcNamed "replevin/replevinlaw34.LockEquals" = some 7 by kernel_rfl).symm.trans hf) |>.symm
      obtain rfl : fn = Tryz.f7 := (Option.some.inj (Tryz.func7.symm.trans hfn)).symm
      exact ⟨by kernel_rfl, fun j t ht => by
        rw [Tryz.params7] at ht
        have hm : t ∈ [56, 56, 5] := by simpa using Array.mem_of_getElem? ht
        have hall : ([56, 56, 5].all fun u => !Tryz.prog.wantsStandIn u) = true := by kernel_rfl
        exact (show Tryz.prog.wantsStandIn t = false by simpa using List.all_eq_true.1 hall t hm)⟩)
    (by kernel_rfl)
#print axioms lockEquals_holds
end Go.Proofs.YtfgecaphhdedcaaGreatDoor
