/- StateGets: Get and Kind agree with the reference: it returns true for every list of changes, every name and every kind. For every input, with no condition of our own; the row lists the library's tables that strconv.Atoi may read, tied to the program's text by the given tie. -/
import Derived.Test.YtnbgfalhmnbefaaGreatDoorOpen
import Derived.Test.YtnbgfalhmnbefaaGreatDoorLawGets
namespace Go.Proofs.YtnbgfalhmnbefaaGreatDoor
open Go.ChangeShapes Go.WideShapes Go.ChangeAt Go.RowKit Go.Deep
set_option maxRecDepth 100000

theorem stateGets_lifted (os : Os) (started : os.Started) (H : Type) (enc : TypeId × Value → H) :
    ReturnsInHanded {} Tryz.checked os 3 .any (fun w args => (Rows.stateGetsSpec.pre enc Tryz.prog Tryz.f3 Rows.stateGetsRow.domain false w args ∧ laidMetH Tryz.prog Rows.stateGetsRow.laid w) ∧ sizedMet enc Tryz.prog Tryz.f3 (OpenSpec.ofChange Rows.stateGetsSpec) false w args)
      (Rows.stateGetsSpec.post enc Tryz.prog Tryz.f3 false true false false) := by
  refine returnsInHanded_of_change_and (C := Tryz.checked) (X := fun w _ => laidMetH Tryz.prog Rows.stateGetsRow.laid w) (fun _ _ _ hh h => h.of_heap hh) own started (by kernel_rfl) Tryz.func3
    (ChangeSpec.witness_shaped (enc := enc) (C := Tryz.checked) (os := os) (X := fun w _ => laidMetH Tryz.prog Rows.stateGetsRow.laid w) false (World.laidAll Tryz.prog os Rows.stateGetsRow.laid) #[.slice none 0 0, .agg #[.int .i64 0, .string ⟨#[]⟩, .int .i64 0, .int .i64 0, .string ⟨#[]⟩], .int .i64 0] 8 (World.laidAll_os _ _ _)
      (World.shaped_of_ZipB (by kernel_rfl) (by kernel_rfl)) (by kernel_rfl) (by kernel_rfl) (by kernel_rfl)
      (by rw [MakeChecks.laidMetH_plain _ _ _ (by kernel_rfl)]; exact laidMet_laidAll _ (by kernel_rfl) (by kernel_rfl))) ?_
  intro W base args ds gs before hval0 hW _ _ _ _
  have hval : ∀ (j : Nat) t v, Tryz.f3.params[j]? = some t → args[j]? = some v → Value.okWide Tryz.prog W .any base t v := hval0
  have hW' := hW
  obtain ⟨p, q, hA0, hV, rfl, _, _⟩ := hW
  have hA : DataW.TrodAll enc Tryz.prog W 0 (fun _ => true) true Tryz.f3.params.toList args.toList ds p := hA0
  have hP := Tryz.params3
  rw [hP] at hA hval
  obtain ⟨v0, vs0, d0, ds0, p0, q0, hargs, rfl, rfl, h0, r0⟩ := trodAll_cons hA
  obtain ⟨v1, vs1, d1, ds1, p1, q1, rfl, rfl, rfl, h1, r1⟩ := trodAll_cons r0
  obtain ⟨v2, vs2, d2, ds2, p2, q2, rfl, rfl, rfl, h2, r2⟩ := trodAll_cons r1
  obtain ⟨rfl, rfl, rfl⟩ := trodAll_nil r2
  obtain rfl : args = #[v0, v1, v2] := by cases args; simp_all
  obtain ⟨A0, n0, c0, l0, rfl, hs0, ho0⟩ := open_Cs (hval 0 22 v0 rfl rfl) h0
  obtain ⟨m1, rfl, o1, t1⟩ := open_Nv (hval 1 24 v1 rfl rfl) h1
  obtain ⟨k2, rfl, _, _, _⟩ := open_int Tryz.underlying3 (hval 2 3 v2 rfl rfl) h2
  have fin : Calls Tryz.prog 3 _ W fun e w' => e = .returned (.bool true) ∧ Below W.heap.size W w' := lawGets_any A0 n0 c0 l0 ho0 m1 o1 t1 k2 W hs0
  refine fin.mono fun e W' ⟨he, hb⟩ => ?_
  subst he
  obtain ⟨rfl, rfl⟩ := trodVars_none hV
  refine ⟨_, rfl, law_post (f := Tryz.f3) (s := Rows.stateGetsSpec) ?_ rfl ⟨rfl, rfl, rfl⟩ (by kernel_rfl) hW' hb⟩
  rw [hP]
  intro t ht
  have hm : t ∈ [22, 24, 3] := by simpa using ht
  have hall : ([22, 24, 3].all fun u => Tryz.prog.readableRec u && decide (u < Tryz.prog.types.size)) = true := by kernel_rfl
  have := List.all_eq_true.1 hall t hm
  simp only [Bool.and_eq_true, decide_eq_true_eq] at this
  exact this

theorem stateGets_said : Rows.StateGetsSaid :=
  OpenClaim.holds_of_wide_leaving 3 Tryz.f3 rfl rfl rfl rfl rfl rfl rfl ⟨rfl, rfl, rfl, rfl, rfl⟩ rfl rfl rfl rfl rfl (by kernel_rfl) Tryz.func3 (by kernel_rfl)
    (of_decide_eq_true (by kernel_rfl)) (by unfold Func.isWrapper; first | (rw [if_pos (by decide +kernel)]; kernel_rfl) | (rw [if_neg (by decide +kernel)]; exact ⟨rfl, rfl⟩))
    (fun os started H enc _ => leaving_of_handed (stateGets_lifted os started H enc))
theorem stateGets_holds : Rows.StateGetsCardSaid :=
  holds_tied_goes .later _ _ _ _ stateGets_said (by kernel_rfl) stateGets_row_tie rfl ⟨rfl, rfl⟩ (by kernel_rfl) rfl
    (fun f fn hf hfn => by
      obtain rfl : f = 3 := Option.some.inj ((show Tryz.prog.funcNamed "replevin/replevinlaw05.StateGets" = some 3 by kernel_rfl).symm.trans hf) |>.symm
      obtain rfl : fn = Tryz.f3 := (Option.some.inj (Tryz.func3.symm.trans hfn)).symm
      exact ⟨by kernel_rfl, fun j t ht => by
        rw [Tryz.params3] at ht
        have hm : t ∈ [22, 24, 3] := by simpa using Array.mem_of_getElem? ht
        have hall : ([22, 24, 3].all fun u => !Tryz.prog.wantsStandIn u) = true := by kernel_rfl
        exact (show Tryz.prog.wantsStandIn t = false by simpa using List.all_eq_true.1 hall t hm)⟩)
    (by kernel_rfl)
#print axioms stateGets_holds
end Go.Proofs.YtnbgfalhmnbefaaGreatDoor
