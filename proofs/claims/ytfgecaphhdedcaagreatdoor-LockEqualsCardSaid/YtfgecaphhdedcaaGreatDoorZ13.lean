/-
  LAYER 34 (lock), WALKED: Release, Holds. (Written by the program gen_lkz.py.)
  LAYER 34 (lock): Acquire, Release, Holds, Get at a lock that stands well in a view: what they answer, and what stands there behind them.
  THE LAWS' HELPERS OF LAYER 34, WALKED: known.
  THE LAW LockDecodes, WALKED.
-/
import Derived.Test.YtfgecaphhdedcaaGreatDoorZ12
import Derived.Test.YtfgecaphhdedcaaGreatDoorZ5
import Derived.Test.YtfgecaphhdedcaaGreatDoorZ6
import Derived.Deep.DeepMust
namespace Go.Proofs.YtfgecaphhdedcaaGreatDoor
open Go.RowKit

/-- What Release answers, and what it leaves. -/
def relE (m : ByteArray) (n ep : Int) (who : ByteArray) (o : Option ByteArray) : Int :=
  if useE m n ep who o ≠ 0 then useE m n ep who o else match rdL o ep with
    | none => 0
    | some l => if memL l.holders who then wrE m n (relL l who) else 8
def relF (f : NF) (m : ByteArray) (n ep : Int) (who : ByteArray) (o : Option ByteArray) : NF :=
  if useE m n ep who o ≠ 0 then f else match rdL o ep with
    | none => f
    | some l => if memL l.holders who then wrF f m n (relL l who) else f
/-- What Holds answers. -/
def holdsB (m : ByteArray) (n ep : Int) (who : ByteArray) (o : Option ByteArray) : Bool := decide (useE m n ep who o = 0) && (match rdL o ep with | some l => memL l.holders who | none => false)

set_option maxRecDepth 100000 in
set_option maxHeartbeats 3200000 in
theorem lkRelease_bad (lo vb k : Nat) (T : T) (f : NF) (m : ByteArray) (n ep : Int) (hm : m.size ≤ maxLen) (who : ByteArray) (hw : who.size ≤ maxLen) (hk : k < maxLen) (hs : ∀ s, curV T f (lockN m n) = some s → s.size ≤ 1000000) (hu : useE m n ep who (curV T f (lockN m n)) ≠ 0) (w : World) (h : IsView w lo vb k T f) :
    Calls Tryz.prog 18 #[.pointer (some ⟨vb, 0, none⟩), .agg #[.string m, .int .i64 n], .int .i64 ep, .string who] w fun o w' => o = .returned (.int .i64 (useE m n ep who (curV T f (lockN m n)))) ∧ IsView w' lo vb (k + 1) T f ∧ Below lo w w' ∧ KeepV w w' := by
  have US := hid (fun w' h' => lkUse_any lo vb k T f m n ep hm who hw hk hs w' h')
  have hlo := h.lt
  have hB0 : Below w.heap.size w (w.alloc (.cells #[.string m, .int .i64 n] 44)) := (Below.refl _ _).alloc (Nat.le_refl _) _
  have HV := hid (h.below hB0)
  have HB := hid hB0
  have hub : (useE m n ep who (curV T f (lockN m n)) != 0) = true := by simp [hu]
  generalize useE m n ep who (curV T f (lockN m n)) = ue at *
  unfold lkCells at *
  clear h hB0 hu hs
  go_enter Tryz.func18, Tryz.ntmps18
  go_wp2_with (first
    | (go_at_call 42; refine (US.out _ HV.out).mono ?_; rintro o w2 ⟨A, c, L, p, b, rfl, -, -, hv2, hb2, hk2⟩; have HV2 := hid hv2; have HB2 := hid ((HB.out.mono hlo).trans hb2); have HK2 := hid ((KeepV.below HB.out).trans hk2); clear hv2 hb2 hk2))
  go_ret
  have hb3 : ∀ o1, Below w2.heap.size w2 (w2.alloc o1) := fun o1 => (Below.refl _ _).alloc (Nat.le_refl _) _
  exact ⟨rfl, HV2.out.below (hb3 _), HB2.out.trans ((hb3 _).mono HV2.out.lt), HK2.out.trans (KeepV.below (hb3 _))⟩

set_option maxRecDepth 100000 in
set_option maxHeartbeats 3200000 in
theorem lkHolds_any (lo vb k : Nat) (T : T) (f : NF) (m : ByteArray) (n ep : Int) (hm : m.size ≤ maxLen) (who : ByteArray) (hw : who.size ≤ maxLen) (hk : k < maxLen) (hs : ∀ s, curV T f (lockN m n) = some s → s.size ≤ 1000000) (w : World) (h : IsView w lo vb k T f) :
    Calls Tryz.prog 22 #[.pointer (some ⟨vb, 0, none⟩), .agg #[.string m, .int .i64 n], .int .i64 ep, .string who] w fun o w' => o = .returned (.bool (holdsB m n ep who (curV T f (lockN m n)))) ∧ IsView w' lo vb (k + 1) T f ∧ Below lo w w' ∧ KeepV w w' := by
  have US := hid (fun w' h' => lkUse_any lo vb k T f m n ep hm who hw hk hs w' h')
  have hX : holdsB m n ep who (curV T f (lockN m n)) = (decide (useE m n ep who (curV T f (lockN m n)) = 0) && (match rdL (curV T f (lockN m n)) ep with | some l => memL l.holders who | none => false)) := rfl
  have HX := hid hX
  have hlo := h.lt
  have hB0 : Below w.heap.size w (w.alloc (.cells #[.string m, .int .i64 n] 44)) := (Below.refl _ _).alloc (Nat.le_refl _) _
  have HV := hid (h.below hB0)
  have HB := hid hB0
  clear h hB0 hs hX
  generalize holdsB m n ep who (curV T f (lockN m n)) = X at *
  generalize useE m n ep who (curV T f (lockN m n)) = ue at *
  generalize rdL (curV T f (lockN m n)) ep = RL at *
  unfold lkCells at *
  have hb3 : ∀ (w2 : World) o1, Below w2.heap.size w2 (w2.alloc o1) := fun w2 o1 => (Below.refl _ _).alloc (Nat.le_refl _) _
  have HB3 := hid hb3
  clear hb3
  by_cases hu : ue = 0
  · subst hu
    go_enter Tryz.func22, Tryz.ntmps22
    go_wp2_with (first
      | (go_at_call 42; refine (US.out _ HV.out).mono ?_; rintro o w2 ⟨A, c, L, p, b, rfl, hx, -, hv2, hb2, hk2⟩; have HHX := hid (hx rfl); have HV2 := hid hv2; have HB2 := hid ((HB.out.mono hlo).trans hb2); have HK2 := hid ((KeepV.below HB.out).trans hk2); clear hv2 hb2 hk2 hx))
    go_ret
    refine ⟨?_, HV2.out.below (HB3.out _ _), HB2.out.trans ((HB3.out _ _).mono HV2.out.lt), HK2.out.trans (KeepV.below (HB3.out _ _))⟩
    obtain ⟨h1, -, h3⟩ := HHX.out
    rw [HX.out, h1, h3]
    simp
  · have hub : (ue == 0) = false := by simp [hu]
    have HXF : X = false := by rw [HX.out]; simp [hu]
    subst HXF
    clear HX
    have HU := hid hu
    clear hu
    go_enter Tryz.func22, Tryz.ntmps22
    go_wp2_with (first
      | (go_at_call 42; refine (US.out _ HV.out).mono ?_; rintro o w2 ⟨A, c, L, p, b, rfl, -, -, hv2, hb2, hk2⟩; have HV2 := hid hv2; have HB2 := hid ((HB.out.mono hlo).trans hb2); have HK2 := hid ((KeepV.below HB.out).trans hk2); clear hv2 hb2 hk2))
    go_ret
    exact ⟨rfl, HV2.out.below (HB3.out _ _), HB2.out.trans ((HB3.out _ _).mono HV2.out.lt), HK2.out.trans (KeepV.below (HB3.out _ _))⟩

set_option maxRecDepth 100000 in
set_option maxHeartbeats 3200000 in
theorem lkRelease_ok (lo vb k : Nat) (T : T) (f : NF) (m : ByteArray) (n ep : Int) (hm : m.size ≤ maxLen) (who : ByteArray) (hw : who.size ≤ 1000000) (hk : k ≤ 999999) (hs : ∀ s, curV T f (lockN m n) = some s → s.size ≤ 1000000) (L : Lk) (hu : useE m n ep who (curV T f (lockN m n)) = 0) (hL : rdL (curV T f (lockN m n)) ep = some L) (w : World) (h : IsView w lo vb k T f) :
    Calls Tryz.prog 18 #[.pointer (some ⟨vb, 0, none⟩), .agg #[.string m, .int .i64 n], .int .i64 ep, .string who] w fun o w' => o = .returned (.int .i64 (if memL L.holders who then wrE m n (relL L who) else 8)) ∧ IsView w' lo vb (k + 2) T (if memL L.holders who then wrF f m n (relL L who) else f) ∧ Below lo w w' ∧ KeepV w w' := by
  have US0 := fun w' h' => lkUse_any lo vb k T f m n ep hm who (by unfold maxLen; omega) (by unfold maxLen; omega) hs w' h'
  have hz := rdL_size hL hs
  obtain ⟨-, hbw, l', hl', hg⟩ := useE_ok hu
  rw [hL] at hl'
  cases hl'
  have US := hid (show ∀ w', IsView w' lo vb k T f → Calls Tryz.prog 42 #[.pointer (some ⟨vb, 0, none⟩), .agg #[.string m, .int .i64 n], .int .i64 ep, .string who] w' fun o w2 => ∃ A c, o = .returned (.tuple #[.agg #[.int .i64 L.epoch, .bool L.shared, .slice A L.holders.length c], .int .i64 (posL L.holders who), .bool (memL L.holders who), .int .i64 0]) ∧ LkOut w' w2 L A c ∧ IsView w2 lo vb (k + 1) T f ∧ Below lo w' w2 ∧ KeepV w' w2 from fun w' h' => (US0 w' h').mono (by
    rintro o w2 ⟨A, c, L', p, b, rfl, hx, ho, r⟩
    obtain ⟨h1, rfl, rfl⟩ := hx hu
    rw [hL] at h1
    cases h1
    rw [hu]
    exact ⟨A, c, rfl, ho, r⟩))
  have hn := hg.n
  have hlo := h.lt
  have hB0 : Below w.heap.size w (w.alloc (.cells #[.string m, .int .i64 n] 44)) := (Below.refl _ _).alloc (Nat.le_refl _) _
  have HV := hid (h.below hB0)
  have HB := hid hB0
  have HQ := hid (Blk.new w 44 #[.string m, .int .i64 n])
  have hasc := hg.asc
  obtain ⟨E, S, HS⟩ := L
  dsimp only at *
  have hmp : memL HS who = true → posL HS who < HS.length := fun h => (List.getElem?_eq_some_iff.1 (memL_pos hasc (memL_mem.1 h))).1
  have hdl : memL HS who = true → (delAt HS (posL HS who)).length = HS.length - 1 := fun h => by have := delL_len hasc (memL_mem.1 h); show (delL HS who).length = _; omega
  have DE0 := hid (fun A c hpl w' ho => lkDelete_any w.heap.size A c HS (posL HS who) hpl (by omega) w' ho)
  have hzi : ∀ x ∈ delAt HS (posL HS who), x.size ≤ 1000000 := fun x hx => by
    rcases List.mem_append.1 hx with h | h
    · exact hz x (List.mem_of_mem_take h)
    · exact hz x (List.mem_of_mem_drop h)
  have WI1 := fun sh A c w' h' hr' => lkWrite_any lo vb (k + 1) T f m n hm (by omega) ⟨E, sh, delAt HS (posL HS who)⟩ A c hzi w' h' hr'
  unfold lkCells at WI1
  dsimp only at WI1
  have WVI := hid (fun w' lb (hv : IsView w' lo vb (k + 1) T f) cs (hk' : Blk w' lb 24 cs) (hlb : lo ≤ lb) A4 c4 sh => (hv.grown1 hk' (by decide) (by decide) hlb (setCell_grown w' lb 2 (.slice A4 (HS.length - 1) c4))).grown1 (hk'.set_ 2 _) (by decide) (by decide) hlb (setCell_grown _ lb 1 (.bool sh)))
  clear h hB0 hs US0 hL hu hzi hasc hg hbw hz

  cases hmb : memL HS who with
  | false =>
    simp only [Bool.false_eq_true, if_false]
    rw [hmb] at US
    have HB3 := hid (show ∀ (w2 : World) o1, Below w2.heap.size w2 (w2.alloc o1) from fun w2 o1 => (Below.refl _ _).alloc (Nat.le_refl _) _)
    clear hmb WI1 hmp hdl
    go_enter Tryz.func18, Tryz.ntmps18
    go_wp2_with (first
      | (go_at_call 42; refine (US.out _ HV.out).mono ?_; rintro o w2 ⟨A, c, rfl, ho2, hv2, hb2, hk2⟩; go_must (have HV2 := hid hv2; have HB2 := hid ((HB.out.mono hlo).trans hb2); have HK2 := hid ((KeepV.below HB.out).trans hk2); have HO2 := hid (ho2.lower (base' := w.heap.size) HB.out.size); have hq2 := hk2.blk HQ.out (by decide); have HZ2 := hid (Nat.le_trans HB.out.size hb2.size); have hn1 : ¬ (w.heap.size = w2.heap.size) := (by have := hq2.lt; omega); have hn2 : ¬ (w2.heap.size = w.heap.size) := (by have := hq2.lt; omega); have HQ2 := hid hq2; clear ho2 hv2 hb2 hk2 hq2)))
    go_ret
    exact ⟨rfl, (HV2.out.below (HB3.out _ _)).mono (Nat.le_succ _), HB2.out.trans ((HB3.out _ _).mono HV2.out.lt), HK2.out.trans (KeepV.below (HB3.out _ _))⟩
  | true =>
    simp only [if_true]
    rw [hmb] at US
    have hpl := hmp hmb
    have hil := hdl hmb
    have hrl : relL ⟨E, S, HS⟩ who = ⟨E, S && decide (0 < HS.length - 1), delAt HS (posL HS who)⟩ := by
      unfold relL
      dsimp only
      rw [show (delL HS who).length = HS.length - 1 from hil]
      rfl
    rw [hrl]
    simp only [hil] at WI1
    have DE := hid (fun A c w' ho => DE0.out A c hpl w' ho)
    clear hmb hmp hdl hrl hil DE0
    generalize posL HS who = p at *
    cases S with
    | false =>
      simp only [Bool.false_and]
      have WI := hid (WI1 false)
      clear WI1
      go_enter Tryz.func18, Tryz.ntmps18
      go_wp2_with (first
        | (go_at_call 42; refine (US.out _ HV.out).mono ?_; rintro o w2 ⟨A, c, rfl, ho2, hv2, hb2, hk2⟩; go_must (have HV2 := hid hv2; have HB2 := hid ((HB.out.mono hlo).trans hb2); have HK2 := hid ((KeepV.below HB.out).trans hk2); have HO2 := hid (ho2.lower (base' := w.heap.size) HB.out.size); have hq2 := hk2.blk HQ.out (by decide); have HZ2 := hid (Nat.le_trans HB.out.size hb2.size); have hn1 : ¬ (w.heap.size = w2.heap.size) := (by have := hq2.lt; omega); have hn2 : ¬ (w2.heap.size = w.heap.size) := (by have := hq2.lt; omega); have HQ2 := hid hq2; clear ho2 hv2 hb2 hk2 hq2))
        | (go_at_call 43; go_must (have hl2 : Below w2.heap.size w2 (w2.alloc (.cells #[.int .i64 E, .bool false, .slice A HS.length c] 24)) := ((Below.refl _ _).alloc (Nat.le_refl _) _); have HO3 := hid (ownsRow_below HO2.out hl2); have HL3 := hid (Blk.new w2 24 #[.int .i64 E, .bool false, .slice A HS.length c]); have HV3 := hid (HV2.out.below hl2); have HB3 := hid (HB2.out.trans (hl2.mono (Nat.le_trans hlo HZ2.out))); have HK3 := hid (HK2.out.trans (KeepV.below hl2)); have HQ3 := hid (HQ2.out.below hl2 HQ2.out.lt); have HZ3 := hid (Nat.le_trans HZ2.out hl2.size); clear hl2); go_must (refine (DE.out A c _ HO3.out).mono ?_); rintro o w4 ⟨rfl, ho4, hg4⟩; go_must (have hbl := fun j (e : (Value.slice A HS.length c).ownBlock = some j) => (HO3.out.lt j e); have HV4 := hid (HV3.out.own HO3.out (by decide) (by decide) hlo hg4); have HB4 := hid (Below.grown HB3.out hg4 (Nat.le_trans hlo HZ3.out) (fun j e => Nat.le_trans hlo (hbl j e).1)); have HK4 := hid (HK3.out.new hg4 (fun j e => (hbl j e).1)); have HL4 := hid (HL3.out.grown hg4 (HL3.out.not_row HO3.out (by decide))); have HQ4 := hid (HQ3.out.grown hg4 (HQ3.out.not_row HO3.out (by decide))); have HO4 := hid ho4; have y0 : w4.cell? ⟨w2.heap.size, 0, none⟩ = some (.int .i64 E) := HL4.out.cell 0; have y1 : w4.cell? ⟨w2.heap.size, 1, none⟩ = some (.bool false) := HL4.out.cell 1; have y2 : w4.cell? ⟨w2.heap.size, 2, none⟩ = some (.slice A HS.length c) := HL4.out.cell 2; have g1 := HL4.out.frozen 1; have g2 := HL4.out.frozen 2; have y4 : w4.cell? ⟨w.heap.size, 0, none⟩ = some (.string m) := HQ4.out.cell 0; have y5 : w4.cell? ⟨w.heap.size, 1, none⟩ = some (.int .i64 n) := HQ4.out.cell 1; have hlz : lo ≤ w2.heap.size := (Nat.le_trans hlo HZ2.out); have HVI := hid (WVI.out _ _ HV4.out _ HL4.out hlz A c false); have HRI := hid (rowN_own (own_setCell (i := 1) (u := .bool false) (own_setCell (i := 2) (u := .slice A (HS.length - 1) c) HO4.out HL4.out (by decide)) (HL4.out.set_ 2 _) (by decide))); have HLZ := hid hlz; clear hlz hbl ho4 hg4))
        | (go_at_call 44; go_must (refine (WI.out A c _ HVI.out HRI.out).mono ?_); rintro o w5 ⟨rfl, hv5, hb5, hk5⟩; have HV5 := hid hv5; have HB5 := hid hb5; have HK5 := hid hk5; clear hv5 hb5 hk5))
      go_ret
      exact ⟨rfl, HV5.out, ((HB4.out.setCell HLZ.out _).setCell HLZ.out _).trans HB5.out, ((HK4.out.new (setCell_grown w4 _ _ _) (fun j e => by cases e; exact HZ2.out)).new (setCell_grown _ _ _ _) (fun j e => by cases e; exact HZ2.out)).trans HK5.out⟩
    | true =>
      simp only [Bool.true_and]
      by_cases hp0 : 0 < HS.length - 1
      · have hd : decide (0 < HS.length - 1) = true := by simpa using hp0
        rw [hd]
        have hpi : (0 : Int) < ((HS.length - 1 : Nat) : Int) := by omega
        clear hp0
        have WI := hid (WI1 true)
        clear WI1
        go_enter Tryz.func18, Tryz.ntmps18
        go_wp2_with (first
          | (go_at_call 42; refine (US.out _ HV.out).mono ?_; rintro o w2 ⟨A, c, rfl, ho2, hv2, hb2, hk2⟩; go_must (have HV2 := hid hv2; have HB2 := hid ((HB.out.mono hlo).trans hb2); have HK2 := hid ((KeepV.below HB.out).trans hk2); have HO2 := hid (ho2.lower (base' := w.heap.size) HB.out.size); have hq2 := hk2.blk HQ.out (by decide); have HZ2 := hid (Nat.le_trans HB.out.size hb2.size); have hn1 : ¬ (w.heap.size = w2.heap.size) := (by have := hq2.lt; omega); have hn2 : ¬ (w2.heap.size = w.heap.size) := (by have := hq2.lt; omega); have HQ2 := hid hq2; clear ho2 hv2 hb2 hk2 hq2))
          | (go_at_call 43; go_must (have hl2 : Below w2.heap.size w2 (w2.alloc (.cells #[.int .i64 E, .bool true, .slice A HS.length c] 24)) := ((Below.refl _ _).alloc (Nat.le_refl _) _); have HO3 := hid (ownsRow_below HO2.out hl2); have HL3 := hid (Blk.new w2 24 #[.int .i64 E, .bool true, .slice A HS.length c]); have HV3 := hid (HV2.out.below hl2); have HB3 := hid (HB2.out.trans (hl2.mono (Nat.le_trans hlo HZ2.out))); have HK3 := hid (HK2.out.trans (KeepV.below hl2)); have HQ3 := hid (HQ2.out.below hl2 HQ2.out.lt); have HZ3 := hid (Nat.le_trans HZ2.out hl2.size); clear hl2); go_must (refine (DE.out A c _ HO3.out).mono ?_); rintro o w4 ⟨rfl, ho4, hg4⟩; go_must (have hbl := fun j (e : (Value.slice A HS.length c).ownBlock = some j) => (HO3.out.lt j e); have HV4 := hid (HV3.out.own HO3.out (by decide) (by decide) hlo hg4); have HB4 := hid (Below.grown HB3.out hg4 (Nat.le_trans hlo HZ3.out) (fun j e => Nat.le_trans hlo (hbl j e).1)); have HK4 := hid (HK3.out.new hg4 (fun j e => (hbl j e).1)); have HL4 := hid (HL3.out.grown hg4 (HL3.out.not_row HO3.out (by decide))); have HQ4 := hid (HQ3.out.grown hg4 (HQ3.out.not_row HO3.out (by decide))); have HO4 := hid ho4; have y0 : w4.cell? ⟨w2.heap.size, 0, none⟩ = some (.int .i64 E) := HL4.out.cell 0; have y1 : w4.cell? ⟨w2.heap.size, 1, none⟩ = some (.bool true) := HL4.out.cell 1; have y2 : w4.cell? ⟨w2.heap.size, 2, none⟩ = some (.slice A HS.length c) := HL4.out.cell 2; have g1 := HL4.out.frozen 1; have g2 := HL4.out.frozen 2; have y4 : w4.cell? ⟨w.heap.size, 0, none⟩ = some (.string m) := HQ4.out.cell 0; have y5 : w4.cell? ⟨w.heap.size, 1, none⟩ = some (.int .i64 n) := HQ4.out.cell 1; have hlz : lo ≤ w2.heap.size := (Nat.le_trans hlo HZ2.out); have HVI := hid (WVI.out _ _ HV4.out _ HL4.out hlz A c true); have HRI := hid (rowN_own (own_setCell (i := 1) (u := .bool true) (own_setCell (i := 2) (u := .slice A (HS.length - 1) c) HO4.out HL4.out (by decide)) (HL4.out.set_ 2 _) (by decide))); have HLZ := hid hlz; clear hlz hbl ho4 hg4))
          | (go_at_call 44; go_must (refine (WI.out A c _ HVI.out HRI.out).mono ?_); rintro o w5 ⟨rfl, hv5, hb5, hk5⟩; have HV5 := hid hv5; have HB5 := hid hb5; have HK5 := hid hk5; clear hv5 hb5 hk5))
        go_ret
        exact ⟨rfl, HV5.out, ((HB4.out.setCell HLZ.out _).setCell HLZ.out _).trans HB5.out, ((HK4.out.new (setCell_grown w4 _ _ _) (fun j e => by cases e; exact HZ2.out)).new (setCell_grown _ _ _ _) (fun j e => by cases e; exact HZ2.out)).trans HK5.out⟩
      · have hd : decide (0 < HS.length - 1) = false := by rw [decide_eq_false_iff_not]; exact hp0
        rw [hd]
        have hpi : ¬ (0 : Int) < ((HS.length - 1 : Nat) : Int) := by omega
        clear hp0
        have WI := hid (WI1 false)
        clear WI1
        go_enter Tryz.func18, Tryz.ntmps18
        go_wp2_with (first
          | (go_at_call 42; refine (US.out _ HV.out).mono ?_; rintro o w2 ⟨A, c, rfl, ho2, hv2, hb2, hk2⟩; go_must (have HV2 := hid hv2; have HB2 := hid ((HB.out.mono hlo).trans hb2); have HK2 := hid ((KeepV.below HB.out).trans hk2); have HO2 := hid (ho2.lower (base' := w.heap.size) HB.out.size); have hq2 := hk2.blk HQ.out (by decide); have HZ2 := hid (Nat.le_trans HB.out.size hb2.size); have hn1 : ¬ (w.heap.size = w2.heap.size) := (by have := hq2.lt; omega); have hn2 : ¬ (w2.heap.size = w.heap.size) := (by have := hq2.lt; omega); have HQ2 := hid hq2; clear ho2 hv2 hb2 hk2 hq2))
          | (go_at_call 43; go_must (have hl2 : Below w2.heap.size w2 (w2.alloc (.cells #[.int .i64 E, .bool true, .slice A HS.length c] 24)) := ((Below.refl _ _).alloc (Nat.le_refl _) _); have HO3 := hid (ownsRow_below HO2.out hl2); have HL3 := hid (Blk.new w2 24 #[.int .i64 E, .bool true, .slice A HS.length c]); have HV3 := hid (HV2.out.below hl2); have HB3 := hid (HB2.out.trans (hl2.mono (Nat.le_trans hlo HZ2.out))); have HK3 := hid (HK2.out.trans (KeepV.below hl2)); have HQ3 := hid (HQ2.out.below hl2 HQ2.out.lt); have HZ3 := hid (Nat.le_trans HZ2.out hl2.size); clear hl2); go_must (refine (DE.out A c _ HO3.out).mono ?_); rintro o w4 ⟨rfl, ho4, hg4⟩; go_must (have hbl := fun j (e : (Value.slice A HS.length c).ownBlock = some j) => (HO3.out.lt j e); have HV4 := hid (HV3.out.own HO3.out (by decide) (by decide) hlo hg4); have HB4 := hid (Below.grown HB3.out hg4 (Nat.le_trans hlo HZ3.out) (fun j e => Nat.le_trans hlo (hbl j e).1)); have HK4 := hid (HK3.out.new hg4 (fun j e => (hbl j e).1)); have HL4 := hid (HL3.out.grown hg4 (HL3.out.not_row HO3.out (by decide))); have HQ4 := hid (HQ3.out.grown hg4 (HQ3.out.not_row HO3.out (by decide))); have HO4 := hid ho4; have y0 : w4.cell? ⟨w2.heap.size, 0, none⟩ = some (.int .i64 E) := HL4.out.cell 0; have y1 : w4.cell? ⟨w2.heap.size, 1, none⟩ = some (.bool true) := HL4.out.cell 1; have y2 : w4.cell? ⟨w2.heap.size, 2, none⟩ = some (.slice A HS.length c) := HL4.out.cell 2; have g1 := HL4.out.frozen 1; have g2 := HL4.out.frozen 2; have y4 : w4.cell? ⟨w.heap.size, 0, none⟩ = some (.string m) := HQ4.out.cell 0; have y5 : w4.cell? ⟨w.heap.size, 1, none⟩ = some (.int .i64 n) := HQ4.out.cell 1; have hlz : lo ≤ w2.heap.size := (Nat.le_trans hlo HZ2.out); have HVI := hid (WVI.out _ _ HV4.out _ HL4.out hlz A c false); have HRI := hid (rowN_own (own_setCell (i := 1) (u := .bool false) (own_setCell (i := 2) (u := .slice A (HS.length - 1) c) HO4.out HL4.out (by decide)) (HL4.out.set_ 2 _) (by decide))); have HLZ := hid hlz; clear hlz hbl ho4 hg4))
          | (go_at_call 44; go_must (refine (WI.out A c _ HVI.out HRI.out).mono ?_); rintro o w5 ⟨rfl, hv5, hb5, hk5⟩; have HV5 := hid hv5; have HB5 := hid hb5; have HK5 := hid hk5; clear hv5 hb5 hk5))
        go_ret
        exact ⟨rfl, HV5.out, ((HB4.out.setCell HLZ.out _).setCell HLZ.out _).trans HB5.out, ((HK4.out.new (setCell_grown w4 _ _ _) (fun j e => by cases e; exact HZ2.out)).new (setCell_grown _ _ _ _) (fun j e => by cases e; exact HZ2.out)).trans HK5.out⟩
end Go.Proofs.YtfgecaphhdedcaaGreatDoor
namespace Go.Proofs.YtfgecaphhdedcaaGreatDoor
open Go.RowKit

/-- Where the lock of a birth stands in a view: what is read is l, its holders' names are short. -/
structure LAt (T : T) (f : NF) (m : ByteArray) (n ep : Int) (l : Lk) : Prop where
  r : rdL (curV T f (lockN m n)) ep = some l
  s : ∀ s, curV T f (lockN m n) = some s → s.size ≤ 1000000
  b : beginE m n ep = 0
  z : ∀ h ∈ l.holders, h.size ≤ 1000
/-- What a call at the lock of a birth leaves: the lock l', nothing else turned. -/
structure LNext (T : T) (f f' : NF) (m : ByteArray) (n ep : Int) (l l' : Lk) : Prop where
  at_ : LAt T f' m n ep l'
  set_ : f' = f ∧ l' = l ∨ f' = setF f (lockN m n) (some (strB (encLk l'))) ∧ LkGood l'
section
variable {T : T} {f : NF} {m who : ByteArray} {n ep : Int} {l l' : Lk}
theorem begin_zero (h : beginE m n ep = 0) : bchk m n = 0 ∧ epochE ep = 0 := by
  unfold beginE at h
  split at h
  · next h1 => exact absurd h h1
  · next h1 => exact ⟨Decidable.not_not.1 h1, h⟩
theorem LAt.good (h : LAt T f m n ep l) : LkGood l ∧ l.epoch = ep := rdL_good h.r (begin_zero h.b).2
theorem LAt.use (h : LAt T f m n ep l) (hw : hbad who = false) : useE m n ep who (curV T f (lockN m n)) = 0 := by
  unfold useE
  rw [h.b, hw, h.r]
  simp
theorem curV_set {N : Nm} (hc : checkN N = 0) (o : Option ByteArray) : curV T (setF f N o) N = o := by
  unfold curV setF
  simp [hc]
theorem curV_other {N N' : Nm} (hne : N' ≠ N) (o : Option ByteArray) : curV T (setF f N o) N' = curV T f N' := by
  unfold curV setF
  simp [hne]
theorem wr_ok (hb : beginE m n ep = 0) (hg : LkGood l') (hz : ∀ h ∈ l'.holders, h.size ≤ 1000) : wrE m n l' = 0 ∧ wrF f m n l' = setF f (lockN m n) (some (strB (encLk l'))) := by
  have hc := lockN_check (begin_zero hb).1
  have hs := enc_short hg hz
  have hE : wrE m n l' = 0 := by
    unfold wrE
    rw [checkL_good.2 hg]
    unfold setE
    rw [hc]
    simp only [ne_eq, not_true_eq_false, if_false]
    rw [if_neg (by rw [strB_size]; omega)]
  exact ⟨hE, by unfold wrF; rw [if_pos hE]⟩
theorem LAt.wr (h : LAt T f m n ep l) (hg : LkGood l') (he : l'.epoch = ep) (hz : ∀ h ∈ l'.holders, h.size ≤ 1000) : LAt T (wrF f m n l') m n ep l' := by
  have hc := lockN_check (begin_zero h.b).1
  rw [(wr_ok h.b hg hz).2]
  refine ⟨?_, fun s hs => ?_, h.b, hz⟩
  · rw [curV_set hc, rdL_enc hg (fun x hx => by have := hz x hx; omega), if_pos he]
  · rw [curV_set hc] at hs
    cases hs
    have := enc_short hg hz
    rw [strB_size]
    omega
/-- The lock behind a request; behind a release. -/
def acqN (l : Lk) (who : ByteArray) (sh : Bool) : Lk := if acqE l (memL l.holders who) sh ≠ 0 then l else acqL l who sh
def relN (l : Lk) (who : ByteArray) : Lk := if memL l.holders who then relL l who else l
def relR (l : Lk) (who : ByteArray) : Int := if memL l.holders who then 0 else 8
theorem acqL_short (hw : who.size ≤ 1000) (hz : ∀ h ∈ l.holders, h.size ≤ 1000) (sh : Bool) : ∀ h ∈ (acqL l who sh).holders, h.size ≤ 1000 := by
  unfold acqL
  dsimp only
  split
  · exact hz
  · intro x hx
    rcases (insL_mem _ _ _).1 hx with rfl | hx
    · exact hw
    · exact hz x hx
theorem relL_short (hz : ∀ h ∈ l.holders, h.size ≤ 1000) : ∀ h ∈ (relL l who).holders, h.size ≤ 1000 := by
  intro x hx
  rcases List.mem_append.1 hx with h | h
  · exact hz x (List.mem_of_mem_take h)
  · exact hz x (List.mem_of_mem_drop h)
set_option maxHeartbeats 1000000 in
theorem acq_at (lo vb k : Nat) (hm : m.size ≤ maxLen) (h : LAt T f m n ep l) (hw : hbad who = false) (hz : who.size ≤ 1000) (sh : Bool) (hk : k ≤ 999999) (w : World) (hv : IsView w lo vb k T f) :
    Calls Tryz.prog 19 #[.pointer (some ⟨vb, 0, none⟩), .agg #[.string m, .int .i64 n], .int .i64 ep, .string who, .bool sh] w fun o w' => ∃ f', o = .returned (.int .i64 (acqE l (memL l.holders who) sh)) ∧ LNext T f f' m n ep l (acqN l who sh) ∧ IsView w' lo vb (k + 2) T f' ∧ Below lo w w' ∧ KeepV w w' := by
  refine (lkAcquire_ok lo vb k T f m n ep hm who (by omega) sh hk h.s l (h.use hw) h.r w hv).mono ?_
  rintro o w' ⟨rfl, hv', r⟩
  have hg := h.good
  unfold acqN
  by_cases he : acqE l (memL l.holders who) sh = 0
  · simp only [he, ne_eq, not_true_eq_false, if_false] at hv' ⊢
    by_cases hs : (memL l.holders who && (l.shared == sh)) = true
    · rw [if_pos hs] at hv' ⊢
      have e : acqL l who sh = l := by
        rw [Bool.and_eq_true] at hs
        unfold acqL
        rw [hs.1]
        have h2 : l.shared = sh := by simpa using hs.2
        subst h2
        rfl
      rw [e]
      exact ⟨f, rfl, ⟨h, .inl ⟨rfl, rfl⟩⟩, hv', r⟩
    · rw [if_neg hs] at hv' ⊢
      have g := acqL_good hg.1 hw he
      have z := acqL_short hz h.z sh
      obtain ⟨w1, w2⟩ := wr_ok (f := f) h.b g z
      exact ⟨_, by rw [w1], ⟨h.wr g (show l.epoch = ep from hg.2) z, .inr ⟨w2, g⟩⟩, hv', r⟩
  · rw [if_pos he] at hv' ⊢
    rw [if_pos he]
    exact ⟨f, rfl, ⟨h, .inl ⟨rfl, rfl⟩⟩, hv', r⟩

set_option maxHeartbeats 1000000 in
theorem rel_at (lo vb k : Nat) (hm : m.size ≤ maxLen) (h : LAt T f m n ep l) (hw : hbad who = false) (hz : who.size ≤ 1000) (hk : k ≤ 999999) (w : World) (hv : IsView w lo vb k T f) :
    Calls Tryz.prog 18 #[.pointer (some ⟨vb, 0, none⟩), .agg #[.string m, .int .i64 n], .int .i64 ep, .string who] w fun o w' => ∃ f', o = .returned (.int .i64 (relR l who)) ∧ LNext T f f' m n ep l (relN l who) ∧ IsView w' lo vb (k + 2) T f' ∧ Below lo w w' ∧ KeepV w w' := by
  refine (lkRelease_ok lo vb k T f m n ep hm who (by omega) hk h.s l (h.use hw) h.r w hv).mono ?_
  rintro o w' ⟨rfl, hv', r⟩
  have hg := h.good
  unfold relN relR
  cases hmb : memL l.holders who with
  | true =>
    rw [hmb] at hv'
    simp only [if_true] at hv' ⊢
    have g := relL_good hg.1 (memL_mem.1 hmb)
    have z := relL_short (who := who) h.z
    obtain ⟨w1, w2⟩ := wr_ok (f := f) h.b g z
    exact ⟨_, by rw [w1], ⟨h.wr g (show l.epoch = ep from hg.2) z, .inr ⟨w2, g⟩⟩, hv', r⟩
  | false =>
    rw [hmb] at hv'
    simp only [Bool.false_eq_true, if_false] at hv' ⊢
    exact ⟨f, by trivial, ⟨h, .inl ⟨rfl, rfl⟩⟩, hv', r⟩

theorem holds_at (lo vb k : Nat) (hm : m.size ≤ maxLen) (h : LAt T f m n ep l) (hw : hbad who = false) (hz : who.size ≤ 1000) (hk : k ≤ 999999) (w : World) (hv : IsView w lo vb k T f) :
    Calls Tryz.prog 22 #[.pointer (some ⟨vb, 0, none⟩), .agg #[.string m, .int .i64 n], .int .i64 ep, .string who] w fun o w' => o = .returned (.bool (memL l.holders who)) ∧ IsView w' lo vb (k + 1) T f ∧ Below lo w w' ∧ KeepV w w' := by
  refine (lkHolds_any lo vb k T f m n ep hm who (by unfold maxLen; omega) (by unfold maxLen; omega) h.s w hv).mono ?_
  rintro o w' ⟨rfl, r⟩
  refine ⟨?_, r⟩
  unfold holdsB
  rw [h.use hw, h.r]
  simp

theorem get_at (lo vb k : Nat) (hm : m.size ≤ maxLen) (h : LAt T f m n ep l) (hk : k ≤ 999999) (w : World) (hv : IsView w lo vb k T f) :
    Calls Tryz.prog 20 #[.pointer (some ⟨vb, 0, none⟩), .agg #[.string m, .int .i64 n], .int .i64 ep] w fun o w' => ∃ A c, o = .returned (.tuple #[.agg (lkCells l A c), .int .i64 0]) ∧ LkOut w w' l A c ∧ IsView w' lo vb (k + 1) T f ∧ Below lo w w' ∧ KeepV w w' := by
  refine (lkGet_any lo vb k T f m n ep hm (by unfold maxLen; omega) h.s w hv).mono ?_
  rintro o w' ⟨A, c, rfl, r⟩
  have e1 : gotL m n ep (curV T f (lockN m n)) = l := by unfold gotL; rw [h.b, h.r]; simp
  have e2 : gotE m n ep (curV T f (lockN m n)) = 0 := by unfold gotE; rw [h.b, h.r]; simp
  rw [e1] at r ⊢
  rw [e2]
  exact ⟨A, c, rfl, r⟩
end
end Go.Proofs.YtfgecaphhdedcaaGreatDoor
namespace Go.Proofs.YtfgecaphhdedcaaGreatDoor
open Go.RowKit

def b1 : ByteArray := ⟨#[49]⟩
def b2 : ByteArray := ⟨#[50]⟩
theorem b1_ok : hbad b1 = false := by decide +kernel
theorem b2_ok : hbad b2 = false := by decide +kernel
theorem b1_begin : beginE b1 0 0 = 0 := by decide +kernel
def noF : NF := fun _ => none
theorem noF_cur (N : Nm) : curV .nil noF N = none := by
  unfold curV noF
  split
  · rfl
  · rfl
/-- At an empty state every lock is free. -/
theorem LAt.start {m : ByteArray} {n ep : Int} (h : beginE m n ep = 0) : LAt .nil noF m n ep (emptyLk ep) :=
  ⟨by rw [noF_cur]; rfl, fun s hs => (by rw [noF_cur] at hs; cases hs), h, fun x hx => by simp [emptyLk] at hx⟩
theorem acq_free {ep : Int} {who : ByteArray} (sh : Bool) : acqE (emptyLk ep) (memL (emptyLk ep).holders who) sh = 0 ∧ acqN (emptyLk ep) who sh = ⟨ep, sh, [who]⟩ := by
  have e : acqE (emptyLk ep) (memL (emptyLk ep).holders who) sh = 0 := by unfold acqE othersL emptyLk; simp
  refine ⟨e, ?_⟩
  unfold acqN
  rw [e]
  unfold acqL emptyLk
  simp [memL, insL, posL]
theorem mem_one (who x : ByteArray) : memL [who] x = decide (cl who x = 0) := by unfold memL; simp

set_option maxRecDepth 100000 in
set_option maxHeartbeats 3200000 in
theorem known34_any (w : World) : Calls Tryz.prog 11 #[] w fun o w' => o = .returned (.bool true) ∧ Below w.heap.size w w' := by
  have hm1 : b1.size ≤ maxLen := by decide +kernel
  have hs1 : b1.size ≤ 1000 := by decide +kernel
  have hs2 : b2.size ≤ 1000 := by decide +kernel
  have m12 : memL [b1] b2 = false := by decide +kernel
  have m11 : memL [b1] b1 = true := by decide +kernel
  have m22 : memL [b2] b2 = true := by decide +kernel
  have a2 : acqE ⟨0, false, [b1]⟩ (memL [b1] b2) false = 19 := by decide +kernel
  have a2n : acqN ⟨0, false, [b1]⟩ b2 false = ⟨0, false, [b1]⟩ := by
    unfold acqN
    rw [show acqE ⟨0, false, [b1]⟩ (memL (Lk.holders ⟨0, false, [b1]⟩) b2) false = 19 from a2]
    rfl
  have r1 : relR ⟨0, false, [b1]⟩ b1 = 0 := by unfold relR; rw [show memL (Lk.holders ⟨0, false, [b1]⟩) b1 = true from m11]; rfl
  have r1n : relN ⟨0, false, [b1]⟩ b1 = emptyLk 0 := by
    unfold relN
    rw [show memL (Lk.holders ⟨0, false, [b1]⟩) b1 = true from m11]
    unfold relL delL emptyLk
    simp [posL, cl_refl]
  go_enter Tryz.func11, Tryz.ntmps11
  go_wp2_with (first
    | (go_at_call 15; refine (new_any _).mono ?_; rintro o w1 ⟨p0, rfl, hst, hb1⟩; have HST := hid hst; have HB1 := hid hb1; clear hst hb1)
    | (go_at_call 14; refine (vnew_any _ _ _ HST.out trivial).mono ?_; rintro o w2 ⟨vb, rfl, hv2, hb2⟩; have HV2 := hid hv2; have HB2 := hid (HB1.out.trans (hb2.mono HB1.out.size)); clear hv2 hb2))
  -- the calls
  have hq0 : Blk (w2.alloc (.cells #[.string b1, .int .i64 0] 44)) w2.heap.size 44 #[.string b1, .int .i64 0] := Blk.new _ _ _
  have hb0 : Below w2.heap.size w2 (w2.alloc (.cells #[.string b1, .int .i64 0] 44)) := (Below.refl _ _).alloc (Nat.le_refl _) _
  have hlo := HV2.out.lt
  have hlw : w.heap.size ≤ w1.heap.size := HB1.out.size
  have hva : IsView (w2.alloc (.cells #[.string b1, .int .i64 0] 44)) w1.heap.size vb 0 .nil noF := HV2.out.below hb0
  have HVA := hid hva
  have HQA := hid hq0
  have HBA := hid (HB2.out.trans (hb0.mono (Nat.le_trans hlw hlo)))
  have HLA := hid (LAt.start b1_begin)
  clear hva hq0 hb0
  go_wp2_with fail
  refine (acq_at w1.heap.size vb 0 hm1 HLA.out b1_ok hs1 false (by omega) _ HVA.out).mono ?_
  rintro o wB ⟨fB, he, hn, hv, hb, hk⟩
  rw [(acq_free _).1] at he
  rw [(acq_free _).2] at hn
  have HLB := hid hn.at_
  clear hn
  subst he
  have HVB := hid hv
  have HBB := hid (HBA.out.trans (hb.mono hlw))
  have hqB := hk.blk HQA.out (by decide)
  have HQB := hid hqB
  have q0B : wB.cell? ⟨w2.heap.size, 0, none⟩ = some (.string b1) := hqB.cell 0
  have q1B : wB.cell? ⟨w2.heap.size, 1, none⟩ = some (.int .i64 0) := hqB.cell 1
  clear hv hb hk hqB HVA HLA HQA HBA
  go_wp2_with fail
  refine (acq_at w1.heap.size vb 2 hm1 HLB.out b2_ok hs2 false (by omega) _ HVB.out).mono ?_
  rintro o wC ⟨fC, he, hn, hv, hb, hk⟩
  rw [a2] at he
  rw [a2n] at hn
  have HLC := hid hn.at_
  clear hn
  subst he
  have HVC := hid hv
  have HBC := hid (HBB.out.trans (hb.mono hlw))
  have hqC := hk.blk HQB.out (by decide)
  have HQC := hid hqC
  have q0C : wC.cell? ⟨w2.heap.size, 0, none⟩ = some (.string b1) := hqC.cell 0
  have q1C : wC.cell? ⟨w2.heap.size, 1, none⟩ = some (.int .i64 0) := hqC.cell 1
  clear hv hb hk hqC HVB HLB HQB HBB
  go_wp2_with fail
  refine (holds_at w1.heap.size vb 4 hm1 HLC.out b1_ok hs1 (by omega) _ HVC.out).mono ?_
  rintro o wD ⟨he, hv, hb, hk⟩
  rw [m11] at he
  have HLD := HLC
  subst he
  have HVD := hid hv
  have HBD := hid (HBC.out.trans (hb.mono hlw))
  have hqD := hk.blk HQC.out (by decide)
  have HQD := hid hqD
  have q0D : wD.cell? ⟨w2.heap.size, 0, none⟩ = some (.string b1) := hqD.cell 0
  have q1D : wD.cell? ⟨w2.heap.size, 1, none⟩ = some (.int .i64 0) := hqD.cell 1
  clear hv hb hk hqD HVC HLC HQC HBC
  go_wp2_with fail
  refine (holds_at w1.heap.size vb 5 hm1 HLD.out b2_ok hs2 (by omega) _ HVD.out).mono ?_
  rintro o wE ⟨he, hv, hb, hk⟩
  rw [m12] at he
  have HLE := HLD
  subst he
  have HVE := hid hv
  have HBE := hid (HBD.out.trans (hb.mono hlw))
  have hqE := hk.blk HQD.out (by decide)
  have HQE := hid hqE
  have q0E : wE.cell? ⟨w2.heap.size, 0, none⟩ = some (.string b1) := hqE.cell 0
  have q1E : wE.cell? ⟨w2.heap.size, 1, none⟩ = some (.int .i64 0) := hqE.cell 1
  clear hv hb hk hqE HVD HLD HQD HBD
  go_wp2_with fail
  refine (rel_at w1.heap.size vb 6 hm1 HLE.out b1_ok hs1 (by omega) _ HVE.out).mono ?_
  rintro o wF ⟨fF, he, hn, hv, hb, hk⟩
  rw [r1] at he
  rw [r1n] at hn
  have HLF := hid hn.at_
  clear hn
  subst he
  have HVF := hid hv
  have HBF := hid (HBE.out.trans (hb.mono hlw))
  have hqF := hk.blk HQE.out (by decide)
  have HQF := hid hqF
  have q0F : wF.cell? ⟨w2.heap.size, 0, none⟩ = some (.string b1) := hqF.cell 0
  have q1F : wF.cell? ⟨w2.heap.size, 1, none⟩ = some (.int .i64 0) := hqF.cell 1
  clear hv hb hk hqF HVE HLE HQE HBE
  go_wp2_with fail
  refine (acq_at w1.heap.size vb 8 hm1 HLF.out b2_ok hs2 true (by omega) _ HVF.out).mono ?_
  rintro o wG ⟨fG, he, hn, hv, hb, hk⟩
  rw [(acq_free _).1] at he
  rw [(acq_free _).2] at hn
  have HLG := hid hn.at_
  clear hn
  subst he
  have HVG := hid hv
  have HBG := hid (HBF.out.trans (hb.mono hlw))
  have hqG := hk.blk HQF.out (by decide)
  have HQG := hid hqG
  have q0G : wG.cell? ⟨w2.heap.size, 0, none⟩ = some (.string b1) := hqG.cell 0
  have q1G : wG.cell? ⟨w2.heap.size, 1, none⟩ = some (.int .i64 0) := hqG.cell 1
  clear hv hb hk hqG HVF HLF HQF HBF
  go_wp2_with fail
  refine (holds_at w1.heap.size vb 10 hm1 HLG.out b2_ok hs2 (by omega) _ HVG.out).mono ?_
  rintro o wH ⟨he, hv, hb, hk⟩
  rw [m22] at he
  have HLH := HLG
  subst he
  have HVH := hid hv
  have HBH := hid (HBG.out.trans (hb.mono hlw))
  have hqH := hk.blk HQG.out (by decide)
  have HQH := hid hqH
  have q0H : wH.cell? ⟨w2.heap.size, 0, none⟩ = some (.string b1) := hqH.cell 0
  have q1H : wH.cell? ⟨w2.heap.size, 1, none⟩ = some (.int .i64 0) := hqH.cell 1
  clear hv hb hk hqH HVG HLG HQG HBG
  go_wp2_with fail
  go_ret
  exact ⟨rfl, HBH.out⟩
end Go.Proofs.YtfgecaphhdedcaaGreatDoor
namespace Go.Proofs.YtfgecaphhdedcaaGreatDoor
open Go.RowKit

theorem cut_size (s : ByteArray) (n : Nat) : (s.extract 0 (min s.size n)).size ≤ n := by
  rw [ByteArray.size_extract]
  omega
theorem str_eqb (x : ByteArray) : (x.toList == x.toList) = true := by simp

set_option maxRecDepth 100000 in
set_option maxHeartbeats 3200000 in
theorem lawLkDecodes_any (s : ByteArray) (hs : s.size ≤ maxLen) (w : World) :
    Calls Tryz.prog 3 #[.string s] w fun e w' => e = .returned (.bool true) ∧ Below w.heap.size w w' := by
  unfold maxLen at hs
  have hd := cut_size s 300
  have hmi : min (s.size : Int) 300 = ((min s.size 300 : Nat) : Int) := by omega
  have hml : min s.size 300 ≤ s.size := Nat.min_le_left _ _
  go_enter Tryz.func3, Tryz.ntmps3
  go_upto_region 2 with fail
  generalize s.extract 0 (min s.size 300) = d at *
  have hdl : d.data.toList.length ≤ 300 := by rw [← ba_size]; exact hd
  have DE0 := fun w' => lkDecode_any d.data.toList (by omega) w'
  have PA0 := fun w' => parse34_any d.data.toList (by omega) w'
  simp only [strB_of] at DE0 PA0
  clear hs hmi hml
  by_cases hok : ldOk 16777216 d.data.toList
  · obtain ⟨k1, k2⟩ := ld_most (most' := 65536) (by omega) hok
    simp only [if_pos hok] at DE0
    simp only [if_pos k1, k2] at PA0
    have henc := ld_inv hok
    have hck := hok.2
    generalize ldLk 16777216 d.data.toList = LL at *
    have hg := checkL_good.1 hck
    have hz : ∀ x ∈ LL.holders, x.size ≤ 1000000 := by
      intro x hx
      have h1 : (LL.holders.flatMap (fun h => txtL h.data.toList)).length ≤ 300 := by
        have := congrArg List.length henc
        unfold encLk at this
        simp only [List.length_append, List.length_cons] at this
        omega
      have h2 : (txtL x.data.toList).length ≤ (LL.holders.flatMap (fun h => txtL h.data.toList)).length := by
        obtain ⟨p, q, hpq⟩ := List.append_of_mem hx
        rw [hpq]
        simp only [List.flatMap_append, List.flatMap_cons, List.length_append]
        omega
      have h3 : x.size ≤ (txtL x.data.toList).length := by rw [ba_size]; unfold txtL; simp
      omega
    have EN0 := fun A c w' h' => lkEncode_any LL A c hz w' h'
    have SM0 := fun A A' c c' w' h h' => same34_any LL LL A A' c c' (by have := hg.n; omega) w' h h'
    rw [sameL_iff.2 rfl] at SM0
    simp only [hck, if_true, henc, strB_of] at EN0
    obtain ⟨E, S, HS⟩ := LL
    unfold lkCells at DE0 PA0 EN0 SM0
    dsimp only at DE0 PA0 EN0 SM0
    have DE := hid DE0
    have PA := hid PA0
    have EN := hid EN0
    have SM := hid SM0
    have hdd := str_eqb d
    clear DE0 PA0 EN0 SM0 hg hz hck henc k1 k2 hok hd hdl
    go_wp2_with (first
    | (go_at_call 9; refine (DE.out _).mono ?_; rintro o w1 ⟨A1, c1, rfl, ho1, hb1⟩; go_must (have HB1 := hid hb1; have hal := (Below.refl w1.heap.size w1).alloc (Nat.le_refl _) (.cells #[.int .i64 E, .bool S, .slice A1 HS.length c1] 24); have HR1 := hid ((rowN_own ho1).below hal); have HL1 := hid (Blk.new w1 24 #[.int .i64 E, .bool S, .slice A1 HS.length c1]); have HA1 := hid (hb1.trans (hal.mono hb1.size)); clear ho1 hb1 hal))
    | (go_at_call 10; refine (PA.out _).mono ?_; rintro o w2 ⟨A2, c2, rfl, ho2, hb2⟩; go_must (have hal := (Below.refl w2.heap.size w2).alloc (Nat.le_refl _) (.cells #[.int .i64 E, .bool S, .slice A2 HS.length c2] 24); have hb3 := hb2.trans (hal.mono hb2.size); have HR2 := hid ((rowN_own ho2).below hal); have HL2 := hid (Blk.new w2 24 #[.int .i64 E, .bool S, .slice A2 HS.length c2]); have HA2 := hid (HA1.out.trans (hb3.mono HA1.out.size)); have HR12 := hid (HR1.out.below hb3); have HL12 := hid (HL1.out.below hb3 HL1.out.lt); clear ho2 hb2 hal hb3))
    | (go_at_call 11; refine (known34_any _).mono ?_; rintro o w3 ⟨rfl, hb3⟩; go_must (have HR13 := hid (HR12.out.below hb3); have HL13 := hid (HL12.out.below hb3 HL12.out.lt); have HR23 := hid (HR2.out.below hb3); have HL23 := hid (HL2.out.below hb3 HL2.out.lt); have HA3 := hid (HA2.out.trans (hb3.mono HA2.out.size)); have x0 := HL13.out.cell 0; have x1 := HL13.out.cell 1; have x2 := HL13.out.cell 2; have y0 := HL23.out.cell 0; have y1 := HL23.out.cell 1; have y2 := HL23.out.cell 2; simp only [List.getElem?_toArray, List.getElem?_cons_succ, List.getElem?_cons_zero] at x0 x1 x2 y0 y1 y2; clear hb3))
    | (go_at_call 13; refine (EN.out _ _ _ HR13.out).mono ?_; rintro o w4 ⟨rfl, hb4⟩; go_must (have HR14 := hid (HR13.out.below hb4); have HL14 := hid (HL13.out.below hb4 HL13.out.lt); have HR24 := hid (HR23.out.below hb4); have HL24 := hid (HL23.out.below hb4 HL23.out.lt); have HA4 := hid (HA3.out.trans (hb4.mono HA3.out.size)); have u0 := HL14.out.cell 0; have u1 := HL14.out.cell 1; have u2 := HL14.out.cell 2; have v0 := HL24.out.cell 0; have v1 := HL24.out.cell 1; have v2 := HL24.out.cell 2; simp only [List.getElem?_toArray, List.getElem?_cons_succ, List.getElem?_cons_zero] at u0 u1 u2 v0 v1 v2; clear hb4))
    | (go_at_call 12; refine (SM.out _ _ _ _ _ HR14.out HR24.out).mono ?_; rintro o w5 ⟨rfl, hb5⟩; have HA5 := hid (HA4.out.trans (hb5.mono HA4.out.size)); clear hb5))
    go_ret
    exact ⟨rfl, HA5.out⟩
  · have k1 : ¬ ldOk 65536 d.data.toList := fun h => hok (ld_most (most' := 16777216) (by omega) h).1
    simp only [if_neg hok] at DE0
    simp only [if_neg k1] at PA0
    have SM0 := fun A A' c c' w' h h' => same34_any ⟨0, false, []⟩ ⟨0, false, []⟩ A A' c c' (by simp) w' h h'
    rw [sameL_iff.2 rfl] at SM0
    unfold lkCells at DE0 PA0 SM0
    dsimp only [List.length_nil] at DE0 PA0 SM0
    have DE := hid DE0
    have PA := hid PA0
    have SM := hid SM0
    clear DE0 PA0 SM0 k1 hok hd hdl
    go_wp2_with (first
    | (go_at_call 9; refine (DE.out _).mono ?_; rintro o w1 ⟨A1, c1, rfl, ho1, hb1⟩; go_must (have HB1 := hid hb1; have hal := (Below.refl w1.heap.size w1).alloc (Nat.le_refl _) (.cells #[.int .i64 0, .bool false, .slice A1 0 c1] 24); have HR1 := hid ((rowN_own ho1).below hal); have HL1 := hid (Blk.new w1 24 #[.int .i64 0, .bool false, .slice A1 0 c1]); have HA1 := hid (hb1.trans (hal.mono hb1.size)); clear ho1 hb1 hal))
    | (go_at_call 10; refine (PA.out _).mono ?_; rintro o w2 ⟨A2, c2, rfl, ho2, hb2⟩; go_must (have hal := (Below.refl w2.heap.size w2).alloc (Nat.le_refl _) (.cells #[.int .i64 0, .bool false, .slice A2 0 c2] 24); have hb3 := hb2.trans (hal.mono hb2.size); have HR2 := hid ((rowN_own ho2).below hal); have HL2 := hid (Blk.new w2 24 #[.int .i64 0, .bool false, .slice A2 0 c2]); have HA2 := hid (HA1.out.trans (hb3.mono HA1.out.size)); have HR12 := hid (HR1.out.below hb3); have HL12 := hid (HL1.out.below hb3 HL1.out.lt); clear ho2 hb2 hal hb3))
    | (go_at_call 11; refine (known34_any _).mono ?_; rintro o w3 ⟨rfl, hb3⟩; go_must (have HR13 := hid (HR12.out.below hb3); have HL13 := hid (HL12.out.below hb3 HL12.out.lt); have HR23 := hid (HR2.out.below hb3); have HL23 := hid (HL2.out.below hb3 HL2.out.lt); have HA3 := hid (HA2.out.trans (hb3.mono HA2.out.size)); have x0 := HL13.out.cell 0; have x1 := HL13.out.cell 1; have x2 := HL13.out.cell 2; have y0 := HL23.out.cell 0; have y1 := HL23.out.cell 1; have y2 := HL23.out.cell 2; simp only [List.getElem?_toArray, List.getElem?_cons_succ, List.getElem?_cons_zero] at x0 x1 x2 y0 y1 y2; clear hb3))
    | (go_at_call 12; refine (SM.out _ _ _ _ _ HR13.out (RowN.nil _)).mono ?_; rintro o w5 ⟨rfl, hb5⟩; have HA5 := hid (HA3.out.trans (hb5.mono HA3.out.size)); clear hb5))
    go_ret
    exact ⟨rfl, HA5.out⟩
end Go.Proofs.YtfgecaphhdedcaaGreatDoor
