/-
  LAYER 34 (lock), WALKED: Acquire.
-/
import Derived.Test.YtfgecaphhdedcaaGreatDoorZ11
namespace Go.Proofs.YtfgecaphhdedcaaGreatDoor
open Go.RowKit

/-- What Acquire answers, and what it leaves. -/
def accE (m : ByteArray) (n ep : Int) (who : ByteArray) (sh : Bool) (o : Option ByteArray) : Int :=
  if useE m n ep who o ≠ 0 then useE m n ep who o else match rdL o ep with
    | none => 0
    | some l => if acqE l (memL l.holders who) sh ≠ 0 then acqE l (memL l.holders who) sh else if memL l.holders who && (l.shared == sh) then 0 else wrE m n (acqL l who sh)
def accF (f : NF) (m : ByteArray) (n ep : Int) (who : ByteArray) (sh : Bool) (o : Option ByteArray) : NF :=
  if useE m n ep who o ≠ 0 then f else match rdL o ep with
    | none => f
    | some l => if acqE l (memL l.holders who) sh ≠ 0 then f else if memL l.holders who && (l.shared == sh) then f else wrF f m n (acqL l who sh)
theorem useE_ok {m : ByteArray} {n ep : Int} {who : ByteArray} {o : Option ByteArray} (h : useE m n ep who o = 0) : beginE m n ep = 0 ∧ hbad who = false ∧ ∃ l, rdL o ep = some l ∧ LkGood l := by
  unfold useE at h
  by_cases h1 : beginE m n ep ≠ 0
  · rw [if_pos h1] at h; exact absurd h h1
  rw [if_neg h1] at h
  have hb := Decidable.not_not.1 h1
  have hep : epochE ep = 0 := by
    unfold beginE at hb
    split at hb
    · next h2 => exact absurd hb h2
    · exact hb
  cases hw : hbad who with
  | true => rw [hw] at h; simp at h
  | false =>
    rw [hw] at h
    cases hr : rdL o ep with
    | none => rw [hr] at h; simp at h
    | some l => exact ⟨hb, rfl, l, rfl, (rdL_good hr hep).1⟩

set_option maxRecDepth 100000 in
set_option maxHeartbeats 3200000 in
theorem lkAcquire_bad (lo vb k : Nat) (T : T) (f : NF) (m : ByteArray) (n ep : Int) (hm : m.size ≤ maxLen) (who : ByteArray) (hw : who.size ≤ maxLen) (sh : Bool) (hk : k < maxLen) (hs : ∀ s, curV T f (lockN m n) = some s → s.size ≤ 1000000) (hu : useE m n ep who (curV T f (lockN m n)) ≠ 0) (w : World) (h : IsView w lo vb k T f) :
    Calls Tryz.prog 19 #[.pointer (some ⟨vb, 0, none⟩), .agg #[.string m, .int .i64 n], .int .i64 ep, .string who, .bool sh] w fun o w' => o = .returned (.int .i64 (useE m n ep who (curV T f (lockN m n)))) ∧ IsView w' lo vb (k + 1) T f ∧ Below lo w w' ∧ KeepV w w' := by
  have US := hid (fun w' h' => lkUse_any lo vb k T f m n ep hm who hw hk hs w' h')
  have hlo := h.lt
  have hB0 : Below w.heap.size w (w.alloc (.cells #[.string m, .int .i64 n] 44)) := (Below.refl _ _).alloc (Nat.le_refl _) _
  have HV := hid (h.below hB0)
  have HB := hid hB0
  have hub : (useE m n ep who (curV T f (lockN m n)) != 0) = true := by simp [hu]
  have HU := hid hu
  generalize useE m n ep who (curV T f (lockN m n)) = ue at *
  unfold lkCells at *
  clear h hB0 hu hs
  go_enter Tryz.func19, Tryz.ntmps19
  go_wp2_with (first
    | (go_at_call 42; refine (US.out _ HV.out).mono ?_; rintro o w2 ⟨A, c, L, p, b, rfl, -, -, hv2, hb2, hk2⟩; have HV2 := hid hv2; have HB2 := hid ((HB.out.mono hlo).trans hb2); have HK2 := hid ((KeepV.below HB.out).trans hk2); clear hv2 hb2 hk2))
  go_ret
  have hb3 : ∀ o1 o2, Below w2.heap.size w2 ((w2.alloc o1).alloc o2) := fun o1 o2 => ((Below.refl _ _).alloc (Nat.le_refl _) _).alloc (by simp) _
  exact ⟨rfl, HV2.out.below (hb3 _ _), HB2.out.trans ((hb3 _ _).mono HV2.out.lt), HK2.out.trans (KeepV.below (hb3 _ _))⟩

theorem setCell_grown (w : World) (g i : Nat) (v : Value) : w.grownBy (w.setCell ⟨g, i, none⟩ v) (some g) := ⟨rfl, rfl, rfl, by simp, fun k _ hk => Below.heap_setCell w _ _ k (fun e => hk (by rw [e]))⟩
/-- A row of one's own stays while a block of another kind is written. -/
theorem own_setCell {w : World} {base size n lb i : Nat} {t t' : TypeId} {v u : Value} {xs : List Value} {cs : Array Value} (h : w.ownsRow base t size v n xs) (hk : Blk w lb t' cs) (ht : t' ≠ t) : (w.setCell ⟨lb, i, none⟩ u).ownsRow base t size v n xs := by
  obtain ⟨h1, h2⟩ := h
  refine ⟨h1, h2.imp_right ?_⟩
  rintro ⟨g, cap, cur, hv, hg, hh, r⟩
  exact ⟨g, cap, cur, hv, hg, (Below.heap_setCell w _ _ g (fun e => Blk.ne_ (g := lb) (g' := g) hk hh ht (by rw [e]))).trans hh, r⟩
theorem rowN_own {w : World} {base c n : Nat} {A : Option Addr} {l : List ByteArray} (h : w.ownsRow base 42 1 (.slice A n c) n (l.map (.string ·))) : RowN w A n c l := by
  obtain ⟨A', c', hv, hr⟩ := RowN.of_own h
  cases hv
  exact hr

set_option maxRecDepth 100000 in
set_option maxHeartbeats 3200000 in
theorem lkAcquire_ok (lo vb k : Nat) (T : T) (f : NF) (m : ByteArray) (n ep : Int) (hm : m.size ≤ maxLen) (who : ByteArray) (hw : who.size ≤ 1000000) (sh : Bool) (hk : k ≤ 999999) (hs : ∀ s, curV T f (lockN m n) = some s → s.size ≤ 1000000) (L : Lk) (hu : useE m n ep who (curV T f (lockN m n)) = 0) (hL : rdL (curV T f (lockN m n)) ep = some L) (w : World) (h : IsView w lo vb k T f) :
    Calls Tryz.prog 19 #[.pointer (some ⟨vb, 0, none⟩), .agg #[.string m, .int .i64 n], .int .i64 ep, .string who, .bool sh] w fun o w' => o = .returned (.int .i64 (if acqE L (memL L.holders who) sh ≠ 0 then acqE L (memL L.holders who) sh else if memL L.holders who && (L.shared == sh) then 0 else wrE m n (acqL L who sh))) ∧ IsView w' lo vb (k + 2) T (if acqE L (memL L.holders who) sh ≠ 0 then f else if memL L.holders who && (L.shared == sh) then f else wrF f m n (acqL L who sh)) ∧ Below lo w w' ∧ KeepV w w' := by
  have US0 := fun w' h' => lkUse_any lo vb k T f m n ep hm who (by unfold maxLen; omega) (by unfold maxLen; omega) hs w' h'
  have hz := rdL_size hL hs
  obtain ⟨-, hbw, l', hl', hg⟩ := useE_ok hu
  rw [hL] at hl'
  cases hl'
  have US := hid (show ∀ w', IsView w' lo vb k T f → Calls Tryz.prog 42 #[.pointer (some ⟨vb, 0, none⟩), .agg #[.string m, .int .i64 n], .int .i64 ep, .string who] w' fun o w2 => ∃ A c, o = .returned (.tuple #[.agg #[.int .i64 L.epoch, .bool L.shared, .slice A L.holders.length c], .int .i64 (posL L.holders who), .bool (memL L.holders who), .int .i64 0]) ∧ LkOut w' w2 L A c ∧ IsView w2 lo vb (k + 1) T f ∧ Below lo w' w2 ∧ KeepV w' w2 from fun w' h' => (US0 w' h').mono (by
    rintro o w2 ⟨A, c, L', p, b, rfl, hx, ho, r⟩
    obtain ⟨h1, rfl, rfl⟩ := hx hu
    rw [hL] at h1
    cases h1
    rw [hu]
    exact ⟨A, c, rfl, ho, r⟩))
  have hmf : ∀ (fn : Fn) (first cap : Array Value) (w : World), (Instr.makeFunc fn first cap).run Tryz.prog w = .ok (.func fn first cap) w := fun _ _ _ _ => rfl
  have hmem : memL L.holders who = true → 0 < L.holders.length := fun h => List.length_pos_of_mem (memL_mem.1 h)
  have hn := hg.n
  have AL := hid (fun lb hb A c w' h1 h2 => alone_any lb hb L A c (memL L.holders who) hmem (by omega) w' h1 h2)
  have TG := hid (fun lb hb A c w' h1 h2 => tog_any lb hb L A c (memL L.holders who) hmem (by omega) w' h1 h2)
  have hlo := h.lt
  have hB0 : Below w.heap.size w (w.alloc (.cells #[.string m, .int .i64 n] 44)) := (Below.refl _ _).alloc (Nat.le_refl _) _
  have HV := hid (h.below hB0)
  have HB := hid hB0
  have HQ := hid (Blk.new w 44 #[.string m, .int .i64 n])
  obtain ⟨E, S, HS⟩ := L
  dsimp only at *
  have hps := posL_le HS who
  have IN0 := hid (fun A c w' vb' ho hb hv hne => lkInsert_any w.heap.size A c HS (posL HS who) hps who vb' (by omega) w' ho hb hv hne)
  have WM0 := hid (fun A c w' h' hr' => lkWrite_any lo vb (k + 1) T f m n hm (by omega) ⟨E, sh, HS⟩ A c hz w' h' hr')
  have hzi : ∀ x ∈ insAt HS (posL HS who) who, x.size ≤ 1000000 := fun x hx => by
    rcases (insL_mem HS who x).1 hx with rfl | hx
    · exact hw
    · exact hz x hx
  have WI1 := fun A c w' h' hr' => lkWrite_any lo vb (k + 1) T f m n hm (by omega) ⟨E, sh, insAt HS (posL HS who) who⟩ A c hzi w' h' hr'
  have hil : (insAt HS (posL HS who) who).length = HS.length + 1 := insL_len HS who
  unfold lkCells at AL TG WM0 WI1
  dsimp only at AL TG WM0 WI1
  simp only [hil] at WI1
  have WI0 := hid WI1
  clear WI1 hil
  have WVM := hid (fun w' lb (hv : IsView w' lo vb (k + 1) T f) cs (hk' : Blk w' lb 24 cs) (hlb : lo ≤ lb) => hv.grown1 hk' (by decide) (by decide) hlb (setCell_grown w' lb 1 (.bool sh)))
  have WVI := hid (fun w' lb (hv : IsView w' lo vb (k + 1) T f) cs (hk' : Blk w' lb 24 cs) (hlb : lo ≤ lb) A4 c4 => (hv.grown1 hk' (by decide) (by decide) hlb (setCell_grown w' lb 2 (.slice A4 (HS.length + 1) c4))).grown1 (hk'.set_ 2 _) (by decide) (by decide) hlb (setCell_grown _ lb 1 (.bool sh)))
  clear h hB0 hs US0 hL hu hzi
  cases S <;> cases sh
  · rw [show acqE ⟨E, false, HS⟩ (memL HS who) false = aloneE ⟨E, false, HS⟩ (memL HS who) from rfl, show ((false : Bool) == false) = true from rfl]
    generalize aloneE ⟨E, false, HS⟩ (memL HS who) = ae at *
    have IN := IN0
    have WM := WM0
    have WI := WI0
    generalize hmb : memL HS who = mb at *
    by_cases hae : ae = 0
    · subst hae
      simp only [ne_eq, not_true_eq_false, if_false]
      cases mb with
      | true =>
        rw [show acqL ⟨E, false, HS⟩ who false = ⟨E, false, HS⟩ from by unfold acqL; dsimp only; rw [hmb]; rfl]
        clear hmb WI IN
        simp only [Bool.and_true, if_true]
        go_enter Tryz.func19, Tryz.ntmps19
        go_wp2_with (first
          | (go_at_call 42; refine (US.out _ HV.out).mono ?_; rintro o w2 ⟨A, c, rfl, ho2, hv2, hb2, hk2⟩; have HV2 := hid hv2; have HB2 := hid ((HB.out.mono hlo).trans hb2); have HK2 := hid ((KeepV.below HB.out).trans hk2); have HO2 := hid (ho2.lower (base' := w.heap.size) HB.out.size); have HQ2 := hid (hk2.blk HQ.out (by decide)); have HZ2 := hid (Nat.le_trans HB.out.size hb2.size); clear ho2 hv2 hb2 hk2)
          | (go_at_call 45; refine (AL.out w2.heap.size (w2.heap.size + 1) A c _ (((Blk.new w2 24 #[.int .i64 E, .bool false, .slice A HS.length c]).alloc _).alloc _) ((Blk.new_ _ _ _ (by simp)).alloc _)).mono ?_; rintro o w3 ⟨rfl, hb3⟩; go_must (have hn1 : ¬ (w.heap.size = w2.heap.size) := (by have := HQ2.out.lt; omega); have hn2 : ¬ (w2.heap.size = w.heap.size) := (by have := HQ2.out.lt; omega); have hlz : lo ≤ w2.heap.size := (Nat.le_trans hlo HZ2.out); have HLZ := hid hlz; clear hlz; have hbx := Below.trans (((((Below.refl w2.heap.size w2).alloc (Nat.le_refl _) _).alloc (by simp) _).alloc (by simp <;> omega) _)) (hb3.mono (by simp <;> omega)); have b3 : Blk w3 w2.heap.size 24 #[.int .i64 E, .bool false, .slice A HS.length c] := ((((Blk.new w2 24 #[.int .i64 E, .bool false, .slice A HS.length c]).alloc _).alloc _)).below hb3 (by simp <;> omega); have c3 : Blk w3 (w2.heap.size + 1) 4 #[.bool true] := ((Blk.new_ _ _ _ (by simp)).alloc _).below hb3 (by simp <;> omega); have HV3 := hid (HV2.out.below hbx); have HB3 := hid (HB2.out.trans (hbx.mono (Nat.le_trans hlo HZ2.out))); have HK3 := hid (HK2.out.trans (KeepV.below hbx)); have HO3 := hid (ownsRow_below HO2.out hbx); have HQ3 := hid (HQ2.out.below hbx HQ2.out.lt); have HL3 := hid b3; have HZ3 := hid (Nat.le_trans HZ2.out hbx.size); have x0 : w3.cell? ⟨w2.heap.size, 0, none⟩ = some (.int .i64 E) := b3.cell 0; have x1 : w3.cell? ⟨w2.heap.size, 1, none⟩ = some (.bool false) := b3.cell 1; have x2 : w3.cell? ⟨w2.heap.size, 2, none⟩ = some (.slice A HS.length c) := b3.cell 2; have f1 := b3.frozen 1; have f2 := b3.frozen 2; have x3 : w3.cell? ⟨w2.heap.size + 1, 0, none⟩ = some (.bool true) := c3.cell 0; have x4 : w3.cell? ⟨w.heap.size, 0, none⟩ = some (.string m) := HQ3.out.cell 0; have x5 : w3.cell? ⟨w.heap.size, 1, none⟩ = some (.int .i64 n) := HQ3.out.cell 1; clear hbx b3 c3 hb3)))
        go_ret
        exact ⟨rfl, HV3.out.mono (Nat.le_succ _), HB3.out, HK3.out⟩
      | false =>
        rw [show acqL ⟨E, false, HS⟩ who false = ⟨E, false, insAt HS (posL HS who) who⟩ from by unfold acqL; dsimp only; rw [hmb]; rfl]
        clear hmb WM
        simp only [Bool.false_and, Bool.false_eq_true, if_false]
        go_enter Tryz.func19, Tryz.ntmps19
        go_wp2_with (first
          | (go_at_call 42; refine (US.out _ HV.out).mono ?_; rintro o w2 ⟨A, c, rfl, ho2, hv2, hb2, hk2⟩; have HV2 := hid hv2; have HB2 := hid ((HB.out.mono hlo).trans hb2); have HK2 := hid ((KeepV.below HB.out).trans hk2); have HO2 := hid (ho2.lower (base' := w.heap.size) HB.out.size); have HQ2 := hid (hk2.blk HQ.out (by decide)); have HZ2 := hid (Nat.le_trans HB.out.size hb2.size); clear ho2 hv2 hb2 hk2)
          | (go_at_call 45; refine (AL.out w2.heap.size (w2.heap.size + 1) A c _ (((Blk.new w2 24 #[.int .i64 E, .bool false, .slice A HS.length c]).alloc _).alloc _) ((Blk.new_ _ _ _ (by simp)).alloc _)).mono ?_; rintro o w3 ⟨rfl, hb3⟩; go_must (have hn1 : ¬ (w.heap.size = w2.heap.size) := (by have := HQ2.out.lt; omega); have hn2 : ¬ (w2.heap.size = w.heap.size) := (by have := HQ2.out.lt; omega); have hlz : lo ≤ w2.heap.size := (Nat.le_trans hlo HZ2.out); have HLZ := hid hlz; clear hlz; have hbx := Below.trans (((((Below.refl w2.heap.size w2).alloc (Nat.le_refl _) _).alloc (by simp) _).alloc (by simp <;> omega) _)) (hb3.mono (by simp <;> omega)); have b3 : Blk w3 w2.heap.size 24 #[.int .i64 E, .bool false, .slice A HS.length c] := ((((Blk.new w2 24 #[.int .i64 E, .bool false, .slice A HS.length c]).alloc _).alloc _)).below hb3 (by simp <;> omega); have c3 : Blk w3 (w2.heap.size + 1) 4 #[.bool false] := ((Blk.new_ _ _ _ (by simp)).alloc _).below hb3 (by simp <;> omega); have HV3 := hid (HV2.out.below hbx); have HB3 := hid (HB2.out.trans (hbx.mono (Nat.le_trans hlo HZ2.out))); have HK3 := hid (HK2.out.trans (KeepV.below hbx)); have HO3 := hid (ownsRow_below HO2.out hbx); have HQ3 := hid (HQ2.out.below hbx HQ2.out.lt); have HL3 := hid b3; have HZ3 := hid (Nat.le_trans HZ2.out hbx.size); have x0 : w3.cell? ⟨w2.heap.size, 0, none⟩ = some (.int .i64 E) := b3.cell 0; have x1 : w3.cell? ⟨w2.heap.size, 1, none⟩ = some (.bool false) := b3.cell 1; have x2 : w3.cell? ⟨w2.heap.size, 2, none⟩ = some (.slice A HS.length c) := b3.cell 2; have f1 := b3.frozen 1; have f2 := b3.frozen 2; have x3 : w3.cell? ⟨w2.heap.size + 1, 0, none⟩ = some (.bool false) := c3.cell 0; have x4 : w3.cell? ⟨w.heap.size, 0, none⟩ = some (.string m) := HQ3.out.cell 0; have x5 : w3.cell? ⟨w.heap.size, 1, none⟩ = some (.int .i64 n) := HQ3.out.cell 1; clear hbx b3 c3 hb3))
          | (go_at_call 48; go_must (have hi1 := ownsRow_below HO3.out ((Below.refl w3.heap.size w3).alloc (Nat.le_refl _) (.cells #[.string who] 42)); have hi2 : w.heap.size ≤ (w3.alloc (.cells #[.string who] 42)).heap.size := (by have := HZ3.out; simp <;> omega); have hi3 : ∀ ad, A = some ad → ad.block ≠ w3.heap.size := (fun ad e => by obtain ⟨A9, c9, e9, -, ht9⟩ := own_shape HO3.out; cases e9; obtain ⟨cs9, hc9⟩ := ht9 ad e; have := (Array.getElem?_eq_some_iff.1 hc9).1; omega)); go_must (refine (IN.out A c _ w3.heap.size hi1 hi2 (Blk.new w3 _ _) hi3).mono ?_); rintro o w4 ⟨v4, rfl, ho4, hg4⟩; have HI1 := hid hi1; clear hi1 hi2 hi3; go_must (have hbl := fun j (e : (Value.slice A HS.length c).ownBlock = some j) => (HO3.out.lt j e); have w3s : w3.heap.size ≤ (w3.alloc (.cells #[.string who] 42)).heap.size := (by simp); have hv4 := (HV3.out.below ((Below.refl w3.heap.size w3).alloc (Nat.le_refl _) (.cells #[.string who] 42))).own HI1.out (by decide) (by decide) hlo hg4; have HV4 := hid hv4; have HB4 := hid (Below.grown (HB3.out.alloc (Nat.le_trans hlo HZ3.out) (.cells #[.string who] 42)) hg4 (Nat.le_trans (Nat.le_trans hlo HZ3.out) w3s) (fun j e => Nat.le_trans hlo (hbl j e).1)); have HK4 := hid ((HK3.out.trans (KeepV.below ((Below.refl w3.heap.size w3).alloc (Nat.le_refl _) (.cells #[.string who] 42)))).new hg4 (fun j e => (hbl j e).1)); have HL4 := hid ((HL3.out.alloc (.cells #[.string who] 42)).grown hg4 ((HL3.out.alloc (.cells #[.string who] 42)).not_row HI1.out (by decide))); have HQ4 := hid ((HQ3.out.alloc (.cells #[.string who] 42)).grown hg4 ((HQ3.out.alloc (.cells #[.string who] 42)).not_row HI1.out (by decide))); obtain ⟨A4, c4, rfl, -, -⟩ := own_shape ho4; have HO4 := hid ho4; have y0 : w4.cell? ⟨w2.heap.size, 0, none⟩ = some (.int .i64 E) := HL4.out.cell 0; have y1 := HL4.out.cell 1; have y2 : w4.cell? ⟨w2.heap.size, 2, none⟩ = some (.slice A HS.length c) := HL4.out.cell 2; have g1 := HL4.out.frozen 1; have g2 := HL4.out.frozen 2; have y4 : w4.cell? ⟨w.heap.size, 0, none⟩ = some (.string m) := HQ4.out.cell 0; have y5 : w4.cell? ⟨w.heap.size, 1, none⟩ = some (.int .i64 n) := HQ4.out.cell 1; simp only [List.getElem?_toArray, List.getElem?_cons_succ, List.getElem?_cons_zero] at y1; have hvi := WVI.out _ _ HV4.out _ HL4.out HLZ.out A4 c4; have hri := rowN_own (own_setCell (i := 1) (u := .bool false) (own_setCell (i := 2) (u := .slice A4 (HS.length + 1) c4) HO4.out HL4.out (by decide)) (HL4.out.set_ 2 _) (by decide)); have HVI := hid hvi; have HRI := hid hri; clear hv4 ho4 hg4 hbl w3s hvi hri))
          | (go_at_call 44; go_must (refine (WI.out A4 c4 _ HVI.out HRI.out).mono ?_; rintro o w5 ⟨rfl, hv5, hb5, hk5⟩; have HV5 := hid hv5; have HB5 := hid hb5; have HK5 := hid hk5; clear hv5 hb5 hk5)))
        go_ret
        exact ⟨rfl, HV5.out, ((HB4.out.setCell (by show lo ≤ w2.heap.size; have := HZ2.out; omega) _).setCell (by show lo ≤ w2.heap.size; have := HZ2.out; omega) _).trans HB5.out, ((HK4.out.new (setCell_grown w4 _ _ _) (fun j e => by cases e; exact HZ2.out)).new (setCell_grown _ _ _ _) (fun j e => by cases e; exact HZ2.out)).trans HK5.out⟩
    · have haeb : (ae != 0) = true := by simp [hae]
      rw [if_pos hae, if_pos hae]
      clear hae hmb WM WI IN
      go_enter Tryz.func19, Tryz.ntmps19
      go_wp2_with (first
        | (go_at_call 42; refine (US.out _ HV.out).mono ?_; rintro o w2 ⟨A, c, rfl, ho2, hv2, hb2, hk2⟩; have HV2 := hid hv2; have HB2 := hid ((HB.out.mono hlo).trans hb2); have HK2 := hid ((KeepV.below HB.out).trans hk2); have HO2 := hid (ho2.lower (base' := w.heap.size) HB.out.size); have HQ2 := hid (hk2.blk HQ.out (by decide)); have HZ2 := hid (Nat.le_trans HB.out.size hb2.size); clear ho2 hv2 hb2 hk2)
        | (go_at_call 45; refine (AL.out w2.heap.size (w2.heap.size + 1) A c _ (((Blk.new w2 24 #[.int .i64 E, .bool false, .slice A HS.length c]).alloc _).alloc _) ((Blk.new_ _ _ _ (by simp)).alloc _)).mono ?_; rintro o w3 ⟨rfl, hb3⟩; go_must (have hn1 : ¬ (w.heap.size = w2.heap.size) := (by have := HQ2.out.lt; omega); have hn2 : ¬ (w2.heap.size = w.heap.size) := (by have := HQ2.out.lt; omega); have hlz : lo ≤ w2.heap.size := (Nat.le_trans hlo HZ2.out); have HLZ := hid hlz; clear hlz; have hbx := Below.trans (((((Below.refl w2.heap.size w2).alloc (Nat.le_refl _) _).alloc (by simp) _).alloc (by simp <;> omega) _)) (hb3.mono (by simp <;> omega)); have b3 : Blk w3 w2.heap.size 24 #[.int .i64 E, .bool false, .slice A HS.length c] := ((((Blk.new w2 24 #[.int .i64 E, .bool false, .slice A HS.length c]).alloc _).alloc _)).below hb3 (by simp <;> omega); have c3 : Blk w3 (w2.heap.size + 1) 4 #[.bool mb] := ((Blk.new_ _ _ _ (by simp)).alloc _).below hb3 (by simp <;> omega); have HV3 := hid (HV2.out.below hbx); have HB3 := hid (HB2.out.trans (hbx.mono (Nat.le_trans hlo HZ2.out))); have HK3 := hid (HK2.out.trans (KeepV.below hbx)); have HO3 := hid (ownsRow_below HO2.out hbx); have HQ3 := hid (HQ2.out.below hbx HQ2.out.lt); have HL3 := hid b3; have HZ3 := hid (Nat.le_trans HZ2.out hbx.size); have x0 : w3.cell? ⟨w2.heap.size, 0, none⟩ = some (.int .i64 E) := b3.cell 0; have x1 : w3.cell? ⟨w2.heap.size, 1, none⟩ = some (.bool false) := b3.cell 1; have x2 : w3.cell? ⟨w2.heap.size, 2, none⟩ = some (.slice A HS.length c) := b3.cell 2; have f1 := b3.frozen 1; have f2 := b3.frozen 2; have x3 : w3.cell? ⟨w2.heap.size + 1, 0, none⟩ = some (.bool mb) := c3.cell 0; have x4 : w3.cell? ⟨w.heap.size, 0, none⟩ = some (.string m) := HQ3.out.cell 0; have x5 : w3.cell? ⟨w.heap.size, 1, none⟩ = some (.int .i64 n) := HQ3.out.cell 1; clear hbx b3 c3 hb3)))
      go_ret
      exact ⟨rfl, HV3.out.mono (Nat.le_succ _), HB3.out, HK3.out⟩
  · rw [show acqE ⟨E, false, HS⟩ (memL HS who) true = aloneE ⟨E, false, HS⟩ (memL HS who) from rfl, show ((false : Bool) == true) = false from rfl]
    generalize aloneE ⟨E, false, HS⟩ (memL HS who) = ae at *
    have IN := IN0
    have WM := WM0
    have WI := WI0
    generalize hmb : memL HS who = mb at *
    by_cases hae : ae = 0
    · subst hae
      simp only [ne_eq, not_true_eq_false, if_false]
      cases mb with
      | true =>
        rw [show acqL ⟨E, false, HS⟩ who true = ⟨E, true, HS⟩ from by unfold acqL; dsimp only; rw [hmb]; rfl]
        clear hmb WI IN
        simp only [Bool.and_false, Bool.false_eq_true, if_false]
        go_enter Tryz.func19, Tryz.ntmps19
        go_wp2_with (first
          | (go_at_call 42; refine (US.out _ HV.out).mono ?_; rintro o w2 ⟨A, c, rfl, ho2, hv2, hb2, hk2⟩; have HV2 := hid hv2; have HB2 := hid ((HB.out.mono hlo).trans hb2); have HK2 := hid ((KeepV.below HB.out).trans hk2); have HO2 := hid (ho2.lower (base' := w.heap.size) HB.out.size); have HQ2 := hid (hk2.blk HQ.out (by decide)); have HZ2 := hid (Nat.le_trans HB.out.size hb2.size); clear ho2 hv2 hb2 hk2)
          | (go_at_call 45; refine (AL.out w2.heap.size (w2.heap.size + 1) A c _ (((Blk.new w2 24 #[.int .i64 E, .bool false, .slice A HS.length c]).alloc _).alloc _) ((Blk.new_ _ _ _ (by simp)).alloc _)).mono ?_; rintro o w3 ⟨rfl, hb3⟩; go_must (have hn1 : ¬ (w.heap.size = w2.heap.size) := (by have := HQ2.out.lt; omega); have hn2 : ¬ (w2.heap.size = w.heap.size) := (by have := HQ2.out.lt; omega); have hlz : lo ≤ w2.heap.size := (Nat.le_trans hlo HZ2.out); have HLZ := hid hlz; clear hlz; have hbx := Below.trans (((((Below.refl w2.heap.size w2).alloc (Nat.le_refl _) _).alloc (by simp) _).alloc (by simp <;> omega) _)) (hb3.mono (by simp <;> omega)); have b3 : Blk w3 w2.heap.size 24 #[.int .i64 E, .bool false, .slice A HS.length c] := ((((Blk.new w2 24 #[.int .i64 E, .bool false, .slice A HS.length c]).alloc _).alloc _)).below hb3 (by simp <;> omega); have c3 : Blk w3 (w2.heap.size + 1) 4 #[.bool true] := ((Blk.new_ _ _ _ (by simp)).alloc _).below hb3 (by simp <;> omega); have HV3 := hid (HV2.out.below hbx); have HB3 := hid (HB2.out.trans (hbx.mono (Nat.le_trans hlo HZ2.out))); have HK3 := hid (HK2.out.trans (KeepV.below hbx)); have HO3 := hid (ownsRow_below HO2.out hbx); have HQ3 := hid (HQ2.out.below hbx HQ2.out.lt); have HL3 := hid b3; have HZ3 := hid (Nat.le_trans HZ2.out hbx.size); have x0 : w3.cell? ⟨w2.heap.size, 0, none⟩ = some (.int .i64 E) := b3.cell 0; have x1 : w3.cell? ⟨w2.heap.size, 1, none⟩ = some (.bool false) := b3.cell 1; have x2 : w3.cell? ⟨w2.heap.size, 2, none⟩ = some (.slice A HS.length c) := b3.cell 2; have f1 := b3.frozen 1; have f2 := b3.frozen 2; have x3 : w3.cell? ⟨w2.heap.size + 1, 0, none⟩ = some (.bool true) := c3.cell 0; have x4 : w3.cell? ⟨w.heap.size, 0, none⟩ = some (.string m) := HQ3.out.cell 0; have x5 : w3.cell? ⟨w.heap.size, 1, none⟩ = some (.int .i64 n) := HQ3.out.cell 1; clear hbx b3 c3 hb3))
          | (go_at_call 44; go_must (have hvm := WVM.out _ _ HV3.out _ HL3.out HLZ.out; have hrm := rowN_own (own_setCell (i := 1) (u := .bool true) HO3.out HL3.out (by decide)); have HVM := hid hvm; have HRM := hid hrm; clear hvm hrm; refine (WM.out A c _ HVM.out HRM.out).mono ?_; rintro o w5 ⟨rfl, hv5, hb5, hk5⟩; have HV5 := hid hv5; have HB5 := hid hb5; have HK5 := hid hk5; clear hv5 hb5 hk5)))
        go_ret
        exact ⟨rfl, HV5.out, (HB3.out.setCell (by show lo ≤ w2.heap.size; have := HZ2.out; omega) _).trans HB5.out, (HK3.out.new (setCell_grown w3 _ _ _) (fun j e => by cases e; exact HZ2.out)).trans HK5.out⟩
      | false =>
        rw [show acqL ⟨E, false, HS⟩ who true = ⟨E, true, insAt HS (posL HS who) who⟩ from by unfold acqL; dsimp only; rw [hmb]; rfl]
        clear hmb WM
        simp only [Bool.false_and, Bool.false_eq_true, if_false]
        go_enter Tryz.func19, Tryz.ntmps19
        go_wp2_with (first
          | (go_at_call 42; refine (US.out _ HV.out).mono ?_; rintro o w2 ⟨A, c, rfl, ho2, hv2, hb2, hk2⟩; have HV2 := hid hv2; have HB2 := hid ((HB.out.mono hlo).trans hb2); have HK2 := hid ((KeepV.below HB.out).trans hk2); have HO2 := hid (ho2.lower (base' := w.heap.size) HB.out.size); have HQ2 := hid (hk2.blk HQ.out (by decide)); have HZ2 := hid (Nat.le_trans HB.out.size hb2.size); clear ho2 hv2 hb2 hk2)
          | (go_at_call 45; refine (AL.out w2.heap.size (w2.heap.size + 1) A c _ (((Blk.new w2 24 #[.int .i64 E, .bool false, .slice A HS.length c]).alloc _).alloc _) ((Blk.new_ _ _ _ (by simp)).alloc _)).mono ?_; rintro o w3 ⟨rfl, hb3⟩; go_must (have hn1 : ¬ (w.heap.size = w2.heap.size) := (by have := HQ2.out.lt; omega); have hn2 : ¬ (w2.heap.size = w.heap.size) := (by have := HQ2.out.lt; omega); have hlz : lo ≤ w2.heap.size := (Nat.le_trans hlo HZ2.out); have HLZ := hid hlz; clear hlz; have hbx := Below.trans (((((Below.refl w2.heap.size w2).alloc (Nat.le_refl _) _).alloc (by simp) _).alloc (by simp <;> omega) _)) (hb3.mono (by simp <;> omega)); have b3 : Blk w3 w2.heap.size 24 #[.int .i64 E, .bool false, .slice A HS.length c] := ((((Blk.new w2 24 #[.int .i64 E, .bool false, .slice A HS.length c]).alloc _).alloc _)).below hb3 (by simp <;> omega); have c3 : Blk w3 (w2.heap.size + 1) 4 #[.bool false] := ((Blk.new_ _ _ _ (by simp)).alloc _).below hb3 (by simp <;> omega); have HV3 := hid (HV2.out.below hbx); have HB3 := hid (HB2.out.trans (hbx.mono (Nat.le_trans hlo HZ2.out))); have HK3 := hid (HK2.out.trans (KeepV.below hbx)); have HO3 := hid (ownsRow_below HO2.out hbx); have HQ3 := hid (HQ2.out.below hbx HQ2.out.lt); have HL3 := hid b3; have HZ3 := hid (Nat.le_trans HZ2.out hbx.size); have x0 : w3.cell? ⟨w2.heap.size, 0, none⟩ = some (.int .i64 E) := b3.cell 0; have x1 : w3.cell? ⟨w2.heap.size, 1, none⟩ = some (.bool false) := b3.cell 1; have x2 : w3.cell? ⟨w2.heap.size, 2, none⟩ = some (.slice A HS.length c) := b3.cell 2; have f1 := b3.frozen 1; have f2 := b3.frozen 2; have x3 : w3.cell? ⟨w2.heap.size + 1, 0, none⟩ = some (.bool false) := c3.cell 0; have x4 : w3.cell? ⟨w.heap.size, 0, none⟩ = some (.string m) := HQ3.out.cell 0; have x5 : w3.cell? ⟨w.heap.size, 1, none⟩ = some (.int .i64 n) := HQ3.out.cell 1; clear hbx b3 c3 hb3))
          | (go_at_call 48; go_must (have hi1 := ownsRow_below HO3.out ((Below.refl w3.heap.size w3).alloc (Nat.le_refl _) (.cells #[.string who] 42)); have hi2 : w.heap.size ≤ (w3.alloc (.cells #[.string who] 42)).heap.size := (by have := HZ3.out; simp <;> omega); have hi3 : ∀ ad, A = some ad → ad.block ≠ w3.heap.size := (fun ad e => by obtain ⟨A9, c9, e9, -, ht9⟩ := own_shape HO3.out; cases e9; obtain ⟨cs9, hc9⟩ := ht9 ad e; have := (Array.getElem?_eq_some_iff.1 hc9).1; omega)); go_must (refine (IN.out A c _ w3.heap.size hi1 hi2 (Blk.new w3 _ _) hi3).mono ?_); rintro o w4 ⟨v4, rfl, ho4, hg4⟩; have HI1 := hid hi1; clear hi1 hi2 hi3; go_must (have hbl := fun j (e : (Value.slice A HS.length c).ownBlock = some j) => (HO3.out.lt j e); have w3s : w3.heap.size ≤ (w3.alloc (.cells #[.string who] 42)).heap.size := (by simp); have hv4 := (HV3.out.below ((Below.refl w3.heap.size w3).alloc (Nat.le_refl _) (.cells #[.string who] 42))).own HI1.out (by decide) (by decide) hlo hg4; have HV4 := hid hv4; have HB4 := hid (Below.grown (HB3.out.alloc (Nat.le_trans hlo HZ3.out) (.cells #[.string who] 42)) hg4 (Nat.le_trans (Nat.le_trans hlo HZ3.out) w3s) (fun j e => Nat.le_trans hlo (hbl j e).1)); have HK4 := hid ((HK3.out.trans (KeepV.below ((Below.refl w3.heap.size w3).alloc (Nat.le_refl _) (.cells #[.string who] 42)))).new hg4 (fun j e => (hbl j e).1)); have HL4 := hid ((HL3.out.alloc (.cells #[.string who] 42)).grown hg4 ((HL3.out.alloc (.cells #[.string who] 42)).not_row HI1.out (by decide))); have HQ4 := hid ((HQ3.out.alloc (.cells #[.string who] 42)).grown hg4 ((HQ3.out.alloc (.cells #[.string who] 42)).not_row HI1.out (by decide))); obtain ⟨A4, c4, rfl, -, -⟩ := own_shape ho4; have HO4 := hid ho4; have y0 : w4.cell? ⟨w2.heap.size, 0, none⟩ = some (.int .i64 E) := HL4.out.cell 0; have y1 := HL4.out.cell 1; have y2 : w4.cell? ⟨w2.heap.size, 2, none⟩ = some (.slice A HS.length c) := HL4.out.cell 2; have g1 := HL4.out.frozen 1; have g2 := HL4.out.frozen 2; have y4 : w4.cell? ⟨w.heap.size, 0, none⟩ = some (.string m) := HQ4.out.cell 0; have y5 : w4.cell? ⟨w.heap.size, 1, none⟩ = some (.int .i64 n) := HQ4.out.cell 1; simp only [List.getElem?_toArray, List.getElem?_cons_succ, List.getElem?_cons_zero] at y1; have hvi := WVI.out _ _ HV4.out _ HL4.out HLZ.out A4 c4; have hri := rowN_own (own_setCell (i := 1) (u := .bool true) (own_setCell (i := 2) (u := .slice A4 (HS.length + 1) c4) HO4.out HL4.out (by decide)) (HL4.out.set_ 2 _) (by decide)); have HVI := hid hvi; have HRI := hid hri; clear hv4 ho4 hg4 hbl w3s hvi hri))
          | (go_at_call 44; go_must (refine (WI.out A4 c4 _ HVI.out HRI.out).mono ?_; rintro o w5 ⟨rfl, hv5, hb5, hk5⟩; have HV5 := hid hv5; have HB5 := hid hb5; have HK5 := hid hk5; clear hv5 hb5 hk5)))
        go_ret
        exact ⟨rfl, HV5.out, ((HB4.out.setCell (by show lo ≤ w2.heap.size; have := HZ2.out; omega) _).setCell (by show lo ≤ w2.heap.size; have := HZ2.out; omega) _).trans HB5.out, ((HK4.out.new (setCell_grown w4 _ _ _) (fun j e => by cases e; exact HZ2.out)).new (setCell_grown _ _ _ _) (fun j e => by cases e; exact HZ2.out)).trans HK5.out⟩
    · have haeb : (ae != 0) = true := by simp [hae]
      rw [if_pos hae, if_pos hae]
      clear hae hmb WM WI IN
      go_enter Tryz.func19, Tryz.ntmps19
      go_wp2_with (first
        | (go_at_call 42; refine (US.out _ HV.out).mono ?_; rintro o w2 ⟨A, c, rfl, ho2, hv2, hb2, hk2⟩; have HV2 := hid hv2; have HB2 := hid ((HB.out.mono hlo).trans hb2); have HK2 := hid ((KeepV.below HB.out).trans hk2); have HO2 := hid (ho2.lower (base' := w.heap.size) HB.out.size); have HQ2 := hid (hk2.blk HQ.out (by decide)); have HZ2 := hid (Nat.le_trans HB.out.size hb2.size); clear ho2 hv2 hb2 hk2)
        | (go_at_call 45; refine (AL.out w2.heap.size (w2.heap.size + 1) A c _ (((Blk.new w2 24 #[.int .i64 E, .bool false, .slice A HS.length c]).alloc _).alloc _) ((Blk.new_ _ _ _ (by simp)).alloc _)).mono ?_; rintro o w3 ⟨rfl, hb3⟩; go_must (have hn1 : ¬ (w.heap.size = w2.heap.size) := (by have := HQ2.out.lt; omega); have hn2 : ¬ (w2.heap.size = w.heap.size) := (by have := HQ2.out.lt; omega); have hlz : lo ≤ w2.heap.size := (Nat.le_trans hlo HZ2.out); have HLZ := hid hlz; clear hlz; have hbx := Below.trans (((((Below.refl w2.heap.size w2).alloc (Nat.le_refl _) _).alloc (by simp) _).alloc (by simp <;> omega) _)) (hb3.mono (by simp <;> omega)); have b3 : Blk w3 w2.heap.size 24 #[.int .i64 E, .bool false, .slice A HS.length c] := ((((Blk.new w2 24 #[.int .i64 E, .bool false, .slice A HS.length c]).alloc _).alloc _)).below hb3 (by simp <;> omega); have c3 : Blk w3 (w2.heap.size + 1) 4 #[.bool mb] := ((Blk.new_ _ _ _ (by simp)).alloc _).below hb3 (by simp <;> omega); have HV3 := hid (HV2.out.below hbx); have HB3 := hid (HB2.out.trans (hbx.mono (Nat.le_trans hlo HZ2.out))); have HK3 := hid (HK2.out.trans (KeepV.below hbx)); have HO3 := hid (ownsRow_below HO2.out hbx); have HQ3 := hid (HQ2.out.below hbx HQ2.out.lt); have HL3 := hid b3; have HZ3 := hid (Nat.le_trans HZ2.out hbx.size); have x0 : w3.cell? ⟨w2.heap.size, 0, none⟩ = some (.int .i64 E) := b3.cell 0; have x1 : w3.cell? ⟨w2.heap.size, 1, none⟩ = some (.bool false) := b3.cell 1; have x2 : w3.cell? ⟨w2.heap.size, 2, none⟩ = some (.slice A HS.length c) := b3.cell 2; have f1 := b3.frozen 1; have f2 := b3.frozen 2; have x3 : w3.cell? ⟨w2.heap.size + 1, 0, none⟩ = some (.bool mb) := c3.cell 0; have x4 : w3.cell? ⟨w.heap.size, 0, none⟩ = some (.string m) := HQ3.out.cell 0; have x5 : w3.cell? ⟨w.heap.size, 1, none⟩ = some (.int .i64 n) := HQ3.out.cell 1; clear hbx b3 c3 hb3)))
      go_ret
      exact ⟨rfl, HV3.out.mono (Nat.le_succ _), HB3.out, HK3.out⟩
  · rw [show acqE ⟨E, true, HS⟩ (memL HS who) false = aloneE ⟨E, true, HS⟩ (memL HS who) from rfl, show ((true : Bool) == false) = false from rfl]
    generalize aloneE ⟨E, true, HS⟩ (memL HS who) = ae at *
    have IN := IN0
    have WM := WM0
    have WI := WI0
    generalize hmb : memL HS who = mb at *
    by_cases hae : ae = 0
    · subst hae
      simp only [ne_eq, not_true_eq_false, if_false]
      cases mb with
      | true =>
        rw [show acqL ⟨E, true, HS⟩ who false = ⟨E, false, HS⟩ from by unfold acqL; dsimp only; rw [hmb]; rfl]
        clear hmb WI IN
        simp only [Bool.and_false, Bool.false_eq_true, if_false]
        go_enter Tryz.func19, Tryz.ntmps19
        go_wp2_with (first
          | (go_at_call 42; refine (US.out _ HV.out).mono ?_; rintro o w2 ⟨A, c, rfl, ho2, hv2, hb2, hk2⟩; have HV2 := hid hv2; have HB2 := hid ((HB.out.mono hlo).trans hb2); have HK2 := hid ((KeepV.below HB.out).trans hk2); have HO2 := hid (ho2.lower (base' := w.heap.size) HB.out.size); have HQ2 := hid (hk2.blk HQ.out (by decide)); have HZ2 := hid (Nat.le_trans HB.out.size hb2.size); clear ho2 hv2 hb2 hk2)
          | (go_at_call 45; refine (AL.out w2.heap.size (w2.heap.size + 1) A c _ (((Blk.new w2 24 #[.int .i64 E, .bool true, .slice A HS.length c]).alloc _).alloc _) ((Blk.new_ _ _ _ (by simp)).alloc _)).mono ?_; rintro o w3 ⟨rfl, hb3⟩; go_must (have hn1 : ¬ (w.heap.size = w2.heap.size) := (by have := HQ2.out.lt; omega); have hn2 : ¬ (w2.heap.size = w.heap.size) := (by have := HQ2.out.lt; omega); have hlz : lo ≤ w2.heap.size := (Nat.le_trans hlo HZ2.out); have HLZ := hid hlz; clear hlz; have hbx := Below.trans (((((Below.refl w2.heap.size w2).alloc (Nat.le_refl _) _).alloc (by simp) _).alloc (by simp <;> omega) _)) (hb3.mono (by simp <;> omega)); have b3 : Blk w3 w2.heap.size 24 #[.int .i64 E, .bool true, .slice A HS.length c] := ((((Blk.new w2 24 #[.int .i64 E, .bool true, .slice A HS.length c]).alloc _).alloc _)).below hb3 (by simp <;> omega); have c3 : Blk w3 (w2.heap.size + 1) 4 #[.bool true] := ((Blk.new_ _ _ _ (by simp)).alloc _).below hb3 (by simp <;> omega); have HV3 := hid (HV2.out.below hbx); have HB3 := hid (HB2.out.trans (hbx.mono (Nat.le_trans hlo HZ2.out))); have HK3 := hid (HK2.out.trans (KeepV.below hbx)); have HO3 := hid (ownsRow_below HO2.out hbx); have HQ3 := hid (HQ2.out.below hbx HQ2.out.lt); have HL3 := hid b3; have HZ3 := hid (Nat.le_trans HZ2.out hbx.size); have x0 : w3.cell? ⟨w2.heap.size, 0, none⟩ = some (.int .i64 E) := b3.cell 0; have x1 : w3.cell? ⟨w2.heap.size, 1, none⟩ = some (.bool true) := b3.cell 1; have x2 : w3.cell? ⟨w2.heap.size, 2, none⟩ = some (.slice A HS.length c) := b3.cell 2; have f1 := b3.frozen 1; have f2 := b3.frozen 2; have x3 : w3.cell? ⟨w2.heap.size + 1, 0, none⟩ = some (.bool true) := c3.cell 0; have x4 : w3.cell? ⟨w.heap.size, 0, none⟩ = some (.string m) := HQ3.out.cell 0; have x5 : w3.cell? ⟨w.heap.size, 1, none⟩ = some (.int .i64 n) := HQ3.out.cell 1; clear hbx b3 c3 hb3))
          | (go_at_call 44; go_must (have hvm := WVM.out _ _ HV3.out _ HL3.out HLZ.out; have hrm := rowN_own (own_setCell (i := 1) (u := .bool false) HO3.out HL3.out (by decide)); have HVM := hid hvm; have HRM := hid hrm; clear hvm hrm; refine (WM.out A c _ HVM.out HRM.out).mono ?_; rintro o w5 ⟨rfl, hv5, hb5, hk5⟩; have HV5 := hid hv5; have HB5 := hid hb5; have HK5 := hid hk5; clear hv5 hb5 hk5)))
        go_ret
        exact ⟨rfl, HV5.out, (HB3.out.setCell (by show lo ≤ w2.heap.size; have := HZ2.out; omega) _).trans HB5.out, (HK3.out.new (setCell_grown w3 _ _ _) (fun j e => by cases e; exact HZ2.out)).trans HK5.out⟩
      | false =>
        rw [show acqL ⟨E, true, HS⟩ who false = ⟨E, false, insAt HS (posL HS who) who⟩ from by unfold acqL; dsimp only; rw [hmb]; rfl]
        clear hmb WM
        simp only [Bool.false_and, Bool.false_eq_true, if_false]
        go_enter Tryz.func19, Tryz.ntmps19
        go_wp2_with (first
          | (go_at_call 42; refine (US.out _ HV.out).mono ?_; rintro o w2 ⟨A, c, rfl, ho2, hv2, hb2, hk2⟩; have HV2 := hid hv2; have HB2 := hid ((HB.out.mono hlo).trans hb2); have HK2 := hid ((KeepV.below HB.out).trans hk2); have HO2 := hid (ho2.lower (base' := w.heap.size) HB.out.size); have HQ2 := hid (hk2.blk HQ.out (by decide)); have HZ2 := hid (Nat.le_trans HB.out.size hb2.size); clear ho2 hv2 hb2 hk2)
          | (go_at_call 45; refine (AL.out w2.heap.size (w2.heap.size + 1) A c _ (((Blk.new w2 24 #[.int .i64 E, .bool true, .slice A HS.length c]).alloc _).alloc _) ((Blk.new_ _ _ _ (by simp)).alloc _)).mono ?_; rintro o w3 ⟨rfl, hb3⟩; go_must (have hn1 : ¬ (w.heap.size = w2.heap.size) := (by have := HQ2.out.lt; omega); have hn2 : ¬ (w2.heap.size = w.heap.size) := (by have := HQ2.out.lt; omega); have hlz : lo ≤ w2.heap.size := (Nat.le_trans hlo HZ2.out); have HLZ := hid hlz; clear hlz; have hbx := Below.trans (((((Below.refl w2.heap.size w2).alloc (Nat.le_refl _) _).alloc (by simp) _).alloc (by simp <;> omega) _)) (hb3.mono (by simp <;> omega)); have b3 : Blk w3 w2.heap.size 24 #[.int .i64 E, .bool true, .slice A HS.length c] := ((((Blk.new w2 24 #[.int .i64 E, .bool true, .slice A HS.length c]).alloc _).alloc _)).below hb3 (by simp <;> omega); have c3 : Blk w3 (w2.heap.size + 1) 4 #[.bool false] := ((Blk.new_ _ _ _ (by simp)).alloc _).below hb3 (by simp <;> omega); have HV3 := hid (HV2.out.below hbx); have HB3 := hid (HB2.out.trans (hbx.mono (Nat.le_trans hlo HZ2.out))); have HK3 := hid (HK2.out.trans (KeepV.below hbx)); have HO3 := hid (ownsRow_below HO2.out hbx); have HQ3 := hid (HQ2.out.below hbx HQ2.out.lt); have HL3 := hid b3; have HZ3 := hid (Nat.le_trans HZ2.out hbx.size); have x0 : w3.cell? ⟨w2.heap.size, 0, none⟩ = some (.int .i64 E) := b3.cell 0; have x1 : w3.cell? ⟨w2.heap.size, 1, none⟩ = some (.bool true) := b3.cell 1; have x2 : w3.cell? ⟨w2.heap.size, 2, none⟩ = some (.slice A HS.length c) := b3.cell 2; have f1 := b3.frozen 1; have f2 := b3.frozen 2; have x3 : w3.cell? ⟨w2.heap.size + 1, 0, none⟩ = some (.bool false) := c3.cell 0; have x4 : w3.cell? ⟨w.heap.size, 0, none⟩ = some (.string m) := HQ3.out.cell 0; have x5 : w3.cell? ⟨w.heap.size, 1, none⟩ = some (.int .i64 n) := HQ3.out.cell 1; clear hbx b3 c3 hb3))
          | (go_at_call 48; go_must (have hi1 := ownsRow_below HO3.out ((Below.refl w3.heap.size w3).alloc (Nat.le_refl _) (.cells #[.string who] 42)); have hi2 : w.heap.size ≤ (w3.alloc (.cells #[.string who] 42)).heap.size := (by have := HZ3.out; simp <;> omega); have hi3 : ∀ ad, A = some ad → ad.block ≠ w3.heap.size := (fun ad e => by obtain ⟨A9, c9, e9, -, ht9⟩ := own_shape HO3.out; cases e9; obtain ⟨cs9, hc9⟩ := ht9 ad e; have := (Array.getElem?_eq_some_iff.1 hc9).1; omega)); go_must (refine (IN.out A c _ w3.heap.size hi1 hi2 (Blk.new w3 _ _) hi3).mono ?_); rintro o w4 ⟨v4, rfl, ho4, hg4⟩; have HI1 := hid hi1; clear hi1 hi2 hi3; go_must (have hbl := fun j (e : (Value.slice A HS.length c).ownBlock = some j) => (HO3.out.lt j e); have w3s : w3.heap.size ≤ (w3.alloc (.cells #[.string who] 42)).heap.size := (by simp); have hv4 := (HV3.out.below ((Below.refl w3.heap.size w3).alloc (Nat.le_refl _) (.cells #[.string who] 42))).own HI1.out (by decide) (by decide) hlo hg4; have HV4 := hid hv4; have HB4 := hid (Below.grown (HB3.out.alloc (Nat.le_trans hlo HZ3.out) (.cells #[.string who] 42)) hg4 (Nat.le_trans (Nat.le_trans hlo HZ3.out) w3s) (fun j e => Nat.le_trans hlo (hbl j e).1)); have HK4 := hid ((HK3.out.trans (KeepV.below ((Below.refl w3.heap.size w3).alloc (Nat.le_refl _) (.cells #[.string who] 42)))).new hg4 (fun j e => (hbl j e).1)); have HL4 := hid ((HL3.out.alloc (.cells #[.string who] 42)).grown hg4 ((HL3.out.alloc (.cells #[.string who] 42)).not_row HI1.out (by decide))); have HQ4 := hid ((HQ3.out.alloc (.cells #[.string who] 42)).grown hg4 ((HQ3.out.alloc (.cells #[.string who] 42)).not_row HI1.out (by decide))); obtain ⟨A4, c4, rfl, -, -⟩ := own_shape ho4; have HO4 := hid ho4; have y0 : w4.cell? ⟨w2.heap.size, 0, none⟩ = some (.int .i64 E) := HL4.out.cell 0; have y1 := HL4.out.cell 1; have y2 : w4.cell? ⟨w2.heap.size, 2, none⟩ = some (.slice A HS.length c) := HL4.out.cell 2; have g1 := HL4.out.frozen 1; have g2 := HL4.out.frozen 2; have y4 : w4.cell? ⟨w.heap.size, 0, none⟩ = some (.string m) := HQ4.out.cell 0; have y5 : w4.cell? ⟨w.heap.size, 1, none⟩ = some (.int .i64 n) := HQ4.out.cell 1; simp only [List.getElem?_toArray, List.getElem?_cons_succ, List.getElem?_cons_zero] at y1; have hvi := WVI.out _ _ HV4.out _ HL4.out HLZ.out A4 c4; have hri := rowN_own (own_setCell (i := 1) (u := .bool false) (own_setCell (i := 2) (u := .slice A4 (HS.length + 1) c4) HO4.out HL4.out (by decide)) (HL4.out.set_ 2 _) (by decide)); have HVI := hid hvi; have HRI := hid hri; clear hv4 ho4 hg4 hbl w3s hvi hri))
          | (go_at_call 44; go_must (refine (WI.out A4 c4 _ HVI.out HRI.out).mono ?_; rintro o w5 ⟨rfl, hv5, hb5, hk5⟩; have HV5 := hid hv5; have HB5 := hid hb5; have HK5 := hid hk5; clear hv5 hb5 hk5)))
        go_ret
        exact ⟨rfl, HV5.out, ((HB4.out.setCell (by show lo ≤ w2.heap.size; have := HZ2.out; omega) _).setCell (by show lo ≤ w2.heap.size; have := HZ2.out; omega) _).trans HB5.out, ((HK4.out.new (setCell_grown w4 _ _ _) (fun j e => by cases e; exact HZ2.out)).new (setCell_grown _ _ _ _) (fun j e => by cases e; exact HZ2.out)).trans HK5.out⟩
    · have haeb : (ae != 0) = true := by simp [hae]
      rw [if_pos hae, if_pos hae]
      clear hae hmb WM WI IN
      go_enter Tryz.func19, Tryz.ntmps19
      go_wp2_with (first
        | (go_at_call 42; refine (US.out _ HV.out).mono ?_; rintro o w2 ⟨A, c, rfl, ho2, hv2, hb2, hk2⟩; have HV2 := hid hv2; have HB2 := hid ((HB.out.mono hlo).trans hb2); have HK2 := hid ((KeepV.below HB.out).trans hk2); have HO2 := hid (ho2.lower (base' := w.heap.size) HB.out.size); have HQ2 := hid (hk2.blk HQ.out (by decide)); have HZ2 := hid (Nat.le_trans HB.out.size hb2.size); clear ho2 hv2 hb2 hk2)
        | (go_at_call 45; refine (AL.out w2.heap.size (w2.heap.size + 1) A c _ (((Blk.new w2 24 #[.int .i64 E, .bool true, .slice A HS.length c]).alloc _).alloc _) ((Blk.new_ _ _ _ (by simp)).alloc _)).mono ?_; rintro o w3 ⟨rfl, hb3⟩; go_must (have hn1 : ¬ (w.heap.size = w2.heap.size) := (by have := HQ2.out.lt; omega); have hn2 : ¬ (w2.heap.size = w.heap.size) := (by have := HQ2.out.lt; omega); have hlz : lo ≤ w2.heap.size := (Nat.le_trans hlo HZ2.out); have HLZ := hid hlz; clear hlz; have hbx := Below.trans (((((Below.refl w2.heap.size w2).alloc (Nat.le_refl _) _).alloc (by simp) _).alloc (by simp <;> omega) _)) (hb3.mono (by simp <;> omega)); have b3 : Blk w3 w2.heap.size 24 #[.int .i64 E, .bool true, .slice A HS.length c] := ((((Blk.new w2 24 #[.int .i64 E, .bool true, .slice A HS.length c]).alloc _).alloc _)).below hb3 (by simp <;> omega); have c3 : Blk w3 (w2.heap.size + 1) 4 #[.bool mb] := ((Blk.new_ _ _ _ (by simp)).alloc _).below hb3 (by simp <;> omega); have HV3 := hid (HV2.out.below hbx); have HB3 := hid (HB2.out.trans (hbx.mono (Nat.le_trans hlo HZ2.out))); have HK3 := hid (HK2.out.trans (KeepV.below hbx)); have HO3 := hid (ownsRow_below HO2.out hbx); have HQ3 := hid (HQ2.out.below hbx HQ2.out.lt); have HL3 := hid b3; have HZ3 := hid (Nat.le_trans HZ2.out hbx.size); have x0 : w3.cell? ⟨w2.heap.size, 0, none⟩ = some (.int .i64 E) := b3.cell 0; have x1 : w3.cell? ⟨w2.heap.size, 1, none⟩ = some (.bool true) := b3.cell 1; have x2 : w3.cell? ⟨w2.heap.size, 2, none⟩ = some (.slice A HS.length c) := b3.cell 2; have f1 := b3.frozen 1; have f2 := b3.frozen 2; have x3 : w3.cell? ⟨w2.heap.size + 1, 0, none⟩ = some (.bool mb) := c3.cell 0; have x4 : w3.cell? ⟨w.heap.size, 0, none⟩ = some (.string m) := HQ3.out.cell 0; have x5 : w3.cell? ⟨w.heap.size, 1, none⟩ = some (.int .i64 n) := HQ3.out.cell 1; clear hbx b3 c3 hb3)))
      go_ret
      exact ⟨rfl, HV3.out.mono (Nat.le_succ _), HB3.out, HK3.out⟩
  · rw [show acqE ⟨E, true, HS⟩ (memL HS who) true = togE ⟨E, true, HS⟩ (memL HS who) from rfl, show ((true : Bool) == true) = true from rfl]
    generalize togE ⟨E, true, HS⟩ (memL HS who) = ae at *
    have IN := IN0
    have WM := WM0
    have WI := WI0
    generalize hmb : memL HS who = mb at *
    by_cases hae : ae = 0
    · subst hae
      simp only [ne_eq, not_true_eq_false, if_false]
      cases mb with
      | true =>
        rw [show acqL ⟨E, true, HS⟩ who true = ⟨E, true, HS⟩ from by unfold acqL; dsimp only; rw [hmb]; rfl]
        clear hmb WI IN
        simp only [Bool.and_true, if_true]
        go_enter Tryz.func19, Tryz.ntmps19
        go_wp2_with (first
          | (go_at_call 42; refine (US.out _ HV.out).mono ?_; rintro o w2 ⟨A, c, rfl, ho2, hv2, hb2, hk2⟩; have HV2 := hid hv2; have HB2 := hid ((HB.out.mono hlo).trans hb2); have HK2 := hid ((KeepV.below HB.out).trans hk2); have HO2 := hid (ho2.lower (base' := w.heap.size) HB.out.size); have HQ2 := hid (hk2.blk HQ.out (by decide)); have HZ2 := hid (Nat.le_trans HB.out.size hb2.size); clear ho2 hv2 hb2 hk2)
          | (go_at_call 47; refine (TG.out w2.heap.size (w2.heap.size + 1) A c _ (((Blk.new w2 24 #[.int .i64 E, .bool true, .slice A HS.length c]).alloc _).alloc _) ((Blk.new_ _ _ _ (by simp)).alloc _)).mono ?_; rintro o w3 ⟨rfl, hb3⟩; go_must (have hn1 : ¬ (w.heap.size = w2.heap.size) := (by have := HQ2.out.lt; omega); have hn2 : ¬ (w2.heap.size = w.heap.size) := (by have := HQ2.out.lt; omega); have hlz : lo ≤ w2.heap.size := (Nat.le_trans hlo HZ2.out); have HLZ := hid hlz; clear hlz; have hbx := Below.trans (((((Below.refl w2.heap.size w2).alloc (Nat.le_refl _) _).alloc (by simp) _).alloc (by simp <;> omega) _)) (hb3.mono (by simp <;> omega)); have b3 : Blk w3 w2.heap.size 24 #[.int .i64 E, .bool true, .slice A HS.length c] := ((((Blk.new w2 24 #[.int .i64 E, .bool true, .slice A HS.length c]).alloc _).alloc _)).below hb3 (by simp <;> omega); have c3 : Blk w3 (w2.heap.size + 1) 4 #[.bool true] := ((Blk.new_ _ _ _ (by simp)).alloc _).below hb3 (by simp <;> omega); have HV3 := hid (HV2.out.below hbx); have HB3 := hid (HB2.out.trans (hbx.mono (Nat.le_trans hlo HZ2.out))); have HK3 := hid (HK2.out.trans (KeepV.below hbx)); have HO3 := hid (ownsRow_below HO2.out hbx); have HQ3 := hid (HQ2.out.below hbx HQ2.out.lt); have HL3 := hid b3; have HZ3 := hid (Nat.le_trans HZ2.out hbx.size); have x0 : w3.cell? ⟨w2.heap.size, 0, none⟩ = some (.int .i64 E) := b3.cell 0; have x1 : w3.cell? ⟨w2.heap.size, 1, none⟩ = some (.bool true) := b3.cell 1; have x2 : w3.cell? ⟨w2.heap.size, 2, none⟩ = some (.slice A HS.length c) := b3.cell 2; have f1 := b3.frozen 1; have f2 := b3.frozen 2; have x3 : w3.cell? ⟨w2.heap.size + 1, 0, none⟩ = some (.bool true) := c3.cell 0; have x4 : w3.cell? ⟨w.heap.size, 0, none⟩ = some (.string m) := HQ3.out.cell 0; have x5 : w3.cell? ⟨w.heap.size, 1, none⟩ = some (.int .i64 n) := HQ3.out.cell 1; clear hbx b3 c3 hb3)))
        go_ret
        exact ⟨rfl, HV3.out.mono (Nat.le_succ _), HB3.out, HK3.out⟩
      | false =>
        rw [show acqL ⟨E, true, HS⟩ who true = ⟨E, true, insAt HS (posL HS who) who⟩ from by unfold acqL; dsimp only; rw [hmb]; rfl]
        clear hmb WM
        simp only [Bool.false_and, Bool.false_eq_true, if_false]
        go_enter Tryz.func19, Tryz.ntmps19
        go_wp2_with (first
          | (go_at_call 42; refine (US.out _ HV.out).mono ?_; rintro o w2 ⟨A, c, rfl, ho2, hv2, hb2, hk2⟩; have HV2 := hid hv2; have HB2 := hid ((HB.out.mono hlo).trans hb2); have HK2 := hid ((KeepV.below HB.out).trans hk2); have HO2 := hid (ho2.lower (base' := w.heap.size) HB.out.size); have HQ2 := hid (hk2.blk HQ.out (by decide)); have HZ2 := hid (Nat.le_trans HB.out.size hb2.size); clear ho2 hv2 hb2 hk2)
          | (go_at_call 47; refine (TG.out w2.heap.size (w2.heap.size + 1) A c _ (((Blk.new w2 24 #[.int .i64 E, .bool true, .slice A HS.length c]).alloc _).alloc _) ((Blk.new_ _ _ _ (by simp)).alloc _)).mono ?_; rintro o w3 ⟨rfl, hb3⟩; go_must (have hn1 : ¬ (w.heap.size = w2.heap.size) := (by have := HQ2.out.lt; omega); have hn2 : ¬ (w2.heap.size = w.heap.size) := (by have := HQ2.out.lt; omega); have hlz : lo ≤ w2.heap.size := (Nat.le_trans hlo HZ2.out); have HLZ := hid hlz; clear hlz; have hbx := Below.trans (((((Below.refl w2.heap.size w2).alloc (Nat.le_refl _) _).alloc (by simp) _).alloc (by simp <;> omega) _)) (hb3.mono (by simp <;> omega)); have b3 : Blk w3 w2.heap.size 24 #[.int .i64 E, .bool true, .slice A HS.length c] := ((((Blk.new w2 24 #[.int .i64 E, .bool true, .slice A HS.length c]).alloc _).alloc _)).below hb3 (by simp <;> omega); have c3 : Blk w3 (w2.heap.size + 1) 4 #[.bool false] := ((Blk.new_ _ _ _ (by simp)).alloc _).below hb3 (by simp <;> omega); have HV3 := hid (HV2.out.below hbx); have HB3 := hid (HB2.out.trans (hbx.mono (Nat.le_trans hlo HZ2.out))); have HK3 := hid (HK2.out.trans (KeepV.below hbx)); have HO3 := hid (ownsRow_below HO2.out hbx); have HQ3 := hid (HQ2.out.below hbx HQ2.out.lt); have HL3 := hid b3; have HZ3 := hid (Nat.le_trans HZ2.out hbx.size); have x0 : w3.cell? ⟨w2.heap.size, 0, none⟩ = some (.int .i64 E) := b3.cell 0; have x1 : w3.cell? ⟨w2.heap.size, 1, none⟩ = some (.bool true) := b3.cell 1; have x2 : w3.cell? ⟨w2.heap.size, 2, none⟩ = some (.slice A HS.length c) := b3.cell 2; have f1 := b3.frozen 1; have f2 := b3.frozen 2; have x3 : w3.cell? ⟨w2.heap.size + 1, 0, none⟩ = some (.bool false) := c3.cell 0; have x4 : w3.cell? ⟨w.heap.size, 0, none⟩ = some (.string m) := HQ3.out.cell 0; have x5 : w3.cell? ⟨w.heap.size, 1, none⟩ = some (.int .i64 n) := HQ3.out.cell 1; clear hbx b3 c3 hb3))
          | (go_at_call 48; go_must (have hi1 := ownsRow_below HO3.out ((Below.refl w3.heap.size w3).alloc (Nat.le_refl _) (.cells #[.string who] 42)); have hi2 : w.heap.size ≤ (w3.alloc (.cells #[.string who] 42)).heap.size := (by have := HZ3.out; simp <;> omega); have hi3 : ∀ ad, A = some ad → ad.block ≠ w3.heap.size := (fun ad e => by obtain ⟨A9, c9, e9, -, ht9⟩ := own_shape HO3.out; cases e9; obtain ⟨cs9, hc9⟩ := ht9 ad e; have := (Array.getElem?_eq_some_iff.1 hc9).1; omega)); go_must (refine (IN.out A c _ w3.heap.size hi1 hi2 (Blk.new w3 _ _) hi3).mono ?_); rintro o w4 ⟨v4, rfl, ho4, hg4⟩; have HI1 := hid hi1; clear hi1 hi2 hi3; go_must (have hbl := fun j (e : (Value.slice A HS.length c).ownBlock = some j) => (HO3.out.lt j e); have w3s : w3.heap.size ≤ (w3.alloc (.cells #[.string who] 42)).heap.size := (by simp); have hv4 := (HV3.out.below ((Below.refl w3.heap.size w3).alloc (Nat.le_refl _) (.cells #[.string who] 42))).own HI1.out (by decide) (by decide) hlo hg4; have HV4 := hid hv4; have HB4 := hid (Below.grown (HB3.out.alloc (Nat.le_trans hlo HZ3.out) (.cells #[.string who] 42)) hg4 (Nat.le_trans (Nat.le_trans hlo HZ3.out) w3s) (fun j e => Nat.le_trans hlo (hbl j e).1)); have HK4 := hid ((HK3.out.trans (KeepV.below ((Below.refl w3.heap.size w3).alloc (Nat.le_refl _) (.cells #[.string who] 42)))).new hg4 (fun j e => (hbl j e).1)); have HL4 := hid ((HL3.out.alloc (.cells #[.string who] 42)).grown hg4 ((HL3.out.alloc (.cells #[.string who] 42)).not_row HI1.out (by decide))); have HQ4 := hid ((HQ3.out.alloc (.cells #[.string who] 42)).grown hg4 ((HQ3.out.alloc (.cells #[.string who] 42)).not_row HI1.out (by decide))); obtain ⟨A4, c4, rfl, -, -⟩ := own_shape ho4; have HO4 := hid ho4; have y0 : w4.cell? ⟨w2.heap.size, 0, none⟩ = some (.int .i64 E) := HL4.out.cell 0; have y1 := HL4.out.cell 1; have y2 : w4.cell? ⟨w2.heap.size, 2, none⟩ = some (.slice A HS.length c) := HL4.out.cell 2; have g1 := HL4.out.frozen 1; have g2 := HL4.out.frozen 2; have y4 : w4.cell? ⟨w.heap.size, 0, none⟩ = some (.string m) := HQ4.out.cell 0; have y5 : w4.cell? ⟨w.heap.size, 1, none⟩ = some (.int .i64 n) := HQ4.out.cell 1; simp only [List.getElem?_toArray, List.getElem?_cons_succ, List.getElem?_cons_zero] at y1; have hvi := WVI.out _ _ HV4.out _ HL4.out HLZ.out A4 c4; have hri := rowN_own (own_setCell (i := 1) (u := .bool true) (own_setCell (i := 2) (u := .slice A4 (HS.length + 1) c4) HO4.out HL4.out (by decide)) (HL4.out.set_ 2 _) (by decide)); have HVI := hid hvi; have HRI := hid hri; clear hv4 ho4 hg4 hbl w3s hvi hri))
          | (go_at_call 44; go_must (refine (WI.out A4 c4 _ HVI.out HRI.out).mono ?_; rintro o w5 ⟨rfl, hv5, hb5, hk5⟩; have HV5 := hid hv5; have HB5 := hid hb5; have HK5 := hid hk5; clear hv5 hb5 hk5)))
        go_ret
        exact ⟨rfl, HV5.out, ((HB4.out.setCell (by show lo ≤ w2.heap.size; have := HZ2.out; omega) _).setCell (by show lo ≤ w2.heap.size; have := HZ2.out; omega) _).trans HB5.out, ((HK4.out.new (setCell_grown w4 _ _ _) (fun j e => by cases e; exact HZ2.out)).new (setCell_grown _ _ _ _) (fun j e => by cases e; exact HZ2.out)).trans HK5.out⟩
    · have haeb : (ae != 0) = true := by simp [hae]
      rw [if_pos hae, if_pos hae]
      clear hae hmb WM WI IN
      go_enter Tryz.func19, Tryz.ntmps19
      go_wp2_with (first
        | (go_at_call 42; refine (US.out _ HV.out).mono ?_; rintro o w2 ⟨A, c, rfl, ho2, hv2, hb2, hk2⟩; have HV2 := hid hv2; have HB2 := hid ((HB.out.mono hlo).trans hb2); have HK2 := hid ((KeepV.below HB.out).trans hk2); have HO2 := hid (ho2.lower (base' := w.heap.size) HB.out.size); have HQ2 := hid (hk2.blk HQ.out (by decide)); have HZ2 := hid (Nat.le_trans HB.out.size hb2.size); clear ho2 hv2 hb2 hk2)
        | (go_at_call 47; refine (TG.out w2.heap.size (w2.heap.size + 1) A c _ (((Blk.new w2 24 #[.int .i64 E, .bool true, .slice A HS.length c]).alloc _).alloc _) ((Blk.new_ _ _ _ (by simp)).alloc _)).mono ?_; rintro o w3 ⟨rfl, hb3⟩; go_must (have hn1 : ¬ (w.heap.size = w2.heap.size) := (by have := HQ2.out.lt; omega); have hn2 : ¬ (w2.heap.size = w.heap.size) := (by have := HQ2.out.lt; omega); have hlz : lo ≤ w2.heap.size := (Nat.le_trans hlo HZ2.out); have HLZ := hid hlz; clear hlz; have hbx := Below.trans (((((Below.refl w2.heap.size w2).alloc (Nat.le_refl _) _).alloc (by simp) _).alloc (by simp <;> omega) _)) (hb3.mono (by simp <;> omega)); have b3 : Blk w3 w2.heap.size 24 #[.int .i64 E, .bool true, .slice A HS.length c] := ((((Blk.new w2 24 #[.int .i64 E, .bool true, .slice A HS.length c]).alloc _).alloc _)).below hb3 (by simp <;> omega); have c3 : Blk w3 (w2.heap.size + 1) 4 #[.bool mb] := ((Blk.new_ _ _ _ (by simp)).alloc _).below hb3 (by simp <;> omega); have HV3 := hid (HV2.out.below hbx); have HB3 := hid (HB2.out.trans (hbx.mono (Nat.le_trans hlo HZ2.out))); have HK3 := hid (HK2.out.trans (KeepV.below hbx)); have HO3 := hid (ownsRow_below HO2.out hbx); have HQ3 := hid (HQ2.out.below hbx HQ2.out.lt); have HL3 := hid b3; have HZ3 := hid (Nat.le_trans HZ2.out hbx.size); have x0 : w3.cell? ⟨w2.heap.size, 0, none⟩ = some (.int .i64 E) := b3.cell 0; have x1 : w3.cell? ⟨w2.heap.size, 1, none⟩ = some (.bool true) := b3.cell 1; have x2 : w3.cell? ⟨w2.heap.size, 2, none⟩ = some (.slice A HS.length c) := b3.cell 2; have f1 := b3.frozen 1; have f2 := b3.frozen 2; have x3 : w3.cell? ⟨w2.heap.size + 1, 0, none⟩ = some (.bool mb) := c3.cell 0; have x4 : w3.cell? ⟨w.heap.size, 0, none⟩ = some (.string m) := HQ3.out.cell 0; have x5 : w3.cell? ⟨w.heap.size, 1, none⟩ = some (.int .i64 n) := HQ3.out.cell 1; clear hbx b3 c3 hb3)))
      go_ret
      exact ⟨rfl, HV3.out.mono (Nat.le_succ _), HB3.out, HK3.out⟩
end Go.Proofs.YtfgecaphhdedcaaGreatDoor
