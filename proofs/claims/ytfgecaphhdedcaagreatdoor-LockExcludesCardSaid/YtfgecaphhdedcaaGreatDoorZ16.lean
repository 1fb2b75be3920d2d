/-
  PLAIN LAWS OF LAYER 34: forty names; sharing a lock: who holds it after so many requests and releases. No function of the program is walked here.
  THE LAW LockShares, WALKED.
-/
import Derived.Test.YtfgecaphhdedcaaGreatDoorZ13
import Derived.Test.YtfgecaphhdedcaaGreatDoorZ15
import Derived.Deep.DeepMust
namespace Go.Proofs.YtfgecaphhdedcaaGreatDoor
open Go.RowKit

theorem nm40_mod (n : Nat) : nm40 (n % 40) = nm40 n := by
  unfold nm40
  rw [Nat.mod_mod, show n % 40 % 10 = n % 10 by omega]
theorem nm40_all : (List.range 40).all (fun n => !(hbad (nm40 n))) = true := by decide +kernel
theorem nm40_ok (n : Nat) : hbad (nm40 n) = false := by
  rw [← nm40_mod]
  have := List.all_eq_true.1 nm40_all (n % 40) (List.mem_range.2 (Nat.mod_lt _ (by omega)))
  simpa using this
theorem nm40_bytes (n : Nat) (h : n < 40) : (nm40 n).data.toList.map UInt8.toNat = [49 + n / 10, 48 + n % 10] := by
  unfold nm40 strB
  simp only [List.map_cons, List.map_nil, UInt8.toNat_ofNat']
  rw [show (49 + n % 40 / 10) % 2 ^ 8 = 49 + n / 10 by omega, show (48 + n % 10) % 2 ^ 8 = 48 + n % 10 by omega]
theorem nm40_inj {a b : Nat} (ha : a < 40) (hb : b < 40) (h : nm40 a = nm40 b) : a = b := by
  have h1 := nm40_bytes a ha
  rw [h, nm40_bytes b hb] at h1
  simp only [List.cons.injEq, and_true] at h1
  omega
theorem nm40_short (n : Nat) : (nm40 n).size ≤ 1000 := by
  show 2 ≤ 1000
  omega
/-- The i-th process, beginning with the t-th. -/
def nmS (t i : Nat) : ByteArray := nm40 ((i + t) % 36)
theorem nmS_inj {t i j : Nat} (hi : i < 36) (hj : j < 36) (h : nmS t i = nmS t j) : i = j := by
  have := nm40_inj (by omega) (by omega) h
  omega

/-- The processes from a to b hold the lock together. -/
structure Sh (t a b : Nat) (l : Lk) : Prop where
  len : l.holders.length = b - a
  sh : l.shared = decide (a < b)
  mem : ∀ x, x ∈ l.holders ↔ ∃ j, a ≤ j ∧ j < b ∧ x = nmS t j
theorem Sh.start (t : Nat) : Sh t 0 0 (emptyLk 0) := ⟨rfl, rfl, fun x => by simp [emptyLk]⟩
/-- One more asks. -/
theorem Sh.ask {t b : Nat} {l : Lk} (h : Sh t 0 b l) (hb : b < 32) : acqE l (memL l.holders (nmS t b)) true = 0 ∧ Sh t 0 (b + 1) (acqN l (nmS t b) true) := by
  have hno : ¬ nmS t b ∈ l.holders := by
    rw [h.mem]
    rintro ⟨j, -, hj, he⟩
    have := nmS_inj (by omega) (by omega) he
    omega
  have hm := memL_not.2 hno
  have he : acqE l (memL l.holders (nmS t b)) true = 0 := by
    unfold acqE othersL
    rw [hm, h.sh, h.len]
    simp only [Bool.and_true, Bool.false_eq_true, if_false]
    by_cases h0 : 0 < b
    · rw [if_pos (by simpa using h0), if_neg (by omega)]
    · rw [if_neg (by simpa using h0), if_neg (by omega)]
  refine ⟨he, ?_⟩
  unfold acqN
  rw [he, if_neg (by simp)]
  unfold acqL
  rw [hm]
  simp only [Bool.false_eq_true, if_false]
  refine ⟨by simp only [insL_len, h.len]; omega, by simp, fun x => ?_⟩
  simp only [insL_mem, h.mem]
  constructor
  · rintro (rfl | ⟨j, h1, h2, h3⟩)
    · exact ⟨b, by omega, by omega, rfl⟩
    · exact ⟨j, h1, by omega, h3⟩
  · rintro ⟨j, h1, h2, h3⟩
    by_cases hj : j = b
    · subst hj; exact .inl h3
    · exact .inr ⟨j, h1, by omega, h3⟩
/-- One too many asks. -/
theorem Sh.full {t b : Nat} {l : Lk} (h : Sh t 0 32 l) (hb : 32 ≤ b) (hb2 : b < 36) : acqE l (memL l.holders (nmS t b)) true = 9 ∧ acqN l (nmS t b) true = l := by
  have hno : ¬ nmS t b ∈ l.holders := by
    rw [h.mem]
    rintro ⟨j, -, hj, he⟩
    have := nmS_inj (by omega) (by omega) he
    omega
  have he : acqE l (memL l.holders (nmS t b)) true = 9 := by
    unfold acqE othersL
    rw [memL_not.2 hno, h.sh, h.len]
    simp
  exact ⟨he, by unfold acqN; rw [he, if_pos (by decide)]⟩
/-- One of them asks for it alone, and gives it back. -/
theorem Sh.alone {t a b : Nat} {l : Lk} (h : Sh t a b l) (hg : LkGood l) (ha : a < b) (hb : b ≤ 32) :
    acqE l (memL l.holders (nmS t a)) false = (if a + 1 = b then 0 else 19) ∧ LkGood (acqN l (nmS t a) false) ∧ relR (acqN l (nmS t a) false) (nmS t a) = 0 ∧ Sh t (a + 1) b (relN (acqN l (nmS t a) false) (nmS t a)) := by
  have hyes : nmS t a ∈ l.holders := (h.mem _).2 ⟨a, Nat.le_refl _, ha, rfl⟩
  have hm := memL_mem.2 hyes
  have he : acqE l (memL l.holders (nmS t a)) false = (if a + 1 = b then 0 else 19) := by
    unfold acqE othersL
    rw [hm, h.len]
    simp only [Bool.and_false, Bool.false_eq_true, if_false, if_true]
    by_cases h1 : a + 1 = b
    · rw [if_neg (by omega), if_pos h1]
    · rw [if_pos (by omega), if_neg h1]
  have hN : (acqN l (nmS t a) false).holders = l.holders := by
    unfold acqN
    split
    · rfl
    · unfold acqL; rw [hm]; rfl
  have hS : (acqN l (nmS t a) false).shared = decide (a + 1 < b) := by
    unfold acqN
    rw [he]
    by_cases h1 : a + 1 = b
    · rw [if_pos h1, if_neg (by simp)]
      unfold acqL
      simp only
      symm
      rw [decide_eq_false_iff_not]
      omega
    · rw [if_neg h1, if_pos (by decide), h.sh]
      simp only [decide_eq_decide]
      omega
  have hG : LkGood (acqN l (nmS t a) false) := by
    unfold acqN
    split
    · exact hg
    · next h1 => exact acqL_good hg (nm40_ok _) (Decidable.not_not.1 h1)
  have hm2 : memL (acqN l (nmS t a) false).holders (nmS t a) = true := by rw [hN]; exact hm
  have hl := delL_len hG.asc (memL_mem.1 hm2)
  rw [hN, h.len] at hl
  refine ⟨he, hG, by unfold relR; rw [hm2]; rfl, ?_⟩
  unfold relN
  rw [hm2]
  simp only [if_true]
  unfold relL
  rw [hN, hS]
  refine ⟨by simp only; omega, ?_, fun x => ?_⟩
  · simp only
    rw [show (delL l.holders (nmS t a)).length = b - (a + 1) by omega, Bool.eq_iff_iff, Bool.and_eq_true, decide_eq_true_eq, decide_eq_true_eq]
    omega
  · simp only
    rw [delL_mem hg.asc hyes, h.mem]
    constructor
    · rintro ⟨⟨j, h1, h2, h3⟩, h4⟩
      refine ⟨j, ?_, h2, h3⟩
      by_cases hj : j = a
      · subst hj; exact absurd h3 h4
      · omega
    · rintro ⟨j, h1, h2, h3⟩
      refine ⟨⟨j, by omega, h2, h3⟩, fun h4 => ?_⟩
      rw [h3] at h4
      have := nmS_inj (by omega) (by omega) h4
      omega
end Go.Proofs.YtfgecaphhdedcaaGreatDoor
namespace Go.Proofs.YtfgecaphhdedcaaGreatDoor
open Go.RowKit

set_option maxRecDepth 100000 in
set_option maxHeartbeats 3200000 in
theorem lawLkShares_any (n t : Nat) (hn : n < 256) (ht : t < 256) (w : World) :
    Calls Tryz.prog 5 #[.int .u8 n, .int .u8 t] w fun e w' => e = .returned (.bool true) ∧ Below w.heap.size w w' := by
  obtain ⟨K, hK⟩ : ∃ K, n % 36 = K := ⟨_, rfl⟩
  have hK36 : K < 36 := by omega
  have hk : (n : Int) % 36 = (K : Int) := by omega
  have h0 : (0 : Int) ≤ (n : Int) := by omega
  have h1 : (n : Int) < 256 := by omega
  have h2 : (0 : Int) ≤ (t : Int) := by omega
  have h3 : (t : Int) < 256 := by omega
  have hm1 : b1.size ≤ maxLen := by decide +kernel
  have BI := hid (fun w' => show Calls Tryz.prog 16 #[.int .u8 0] w' fun o w2 => o = .returned (.agg #[.string b1, .int .i64 0]) ∧ Below w'.heap.size w' w2 from birth34_any 0 (by omega) w')
  have NM := hid (fun (i : Nat) (hi : i < 36) w' => show Calls Tryz.prog 17 #[.int .u8 (((i : Int) + (t : Int)) % 36)] w' fun o w2 => o = .returned (.string (nmS t i)) ∧ Below w'.heap.size w' w2 from by
    have := name34_any ((i + t) % 36) (by omega) w'
    rwa [show (((i + t) % 36 : Nat) : Int) = ((i : Int) + (t : Int)) % 36 by omega] at this)
  have KN := hid known34_any
  have HK := hid hk
  clear hK hk
  go_enter Tryz.func5, Tryz.ntmps5
  go_wp2_with (first
    | (go_at_call 11; refine (KN.out _).mono ?_; rintro o w0 ⟨rfl, hb0⟩; have HB0 := hid hb0; clear hb0)
    | (go_at_call 15; refine (new_any _).mono ?_; rintro o w1 ⟨p0, rfl, hst, hb1⟩; have HST := hid hst; have HB1 := hid (HB0.out.trans (hb1.mono HB0.out.size)); clear hst hb1)
    | (go_at_call 14; refine (vnew_any _ _ _ HST.out trivial).mono ?_; rintro o w2 ⟨vb, rfl, hv2, hb2⟩; have HV2 := hid hv2; have HB2 := hid hb2; clear hv2 hb2))
  rw [HK.out]
  obtain ⟨lo, hlo⟩ : ∃ lo, lo = w1.heap.size := ⟨_, rfl⟩
  rw [← hlo] at HV2
  have HB2' := hid (show Below lo w1 w2 from by rw [hlo]; exact HB2.out)
  have HWL := hid (show w.heap.size ≤ lo from by rw [hlo]; exact HB1.out.size)
  clear hlo HB2
  go_loopw [7] (fun iv wr => ∃ (i : Nat) (f : NF) (l : Lk), iv = .int .i64 i ∧ i ≤ K ∧ LAt .nil f b1 0 0 l ∧ Sh t 0 (min i 32) l ∧ IsView wr lo vb (2 * i) .nil f ∧ Below lo w1 wr) (fun iv _ => K - (intOf iv).toNat)
  case atStart => exact ⟨0, noF, emptyLk 0, rfl, Nat.zero_le _, LAt.start b1_begin, Sh.start t, HV2.out, HB2'.out⟩
  case round =>
    obtain ⟨i, f, l, rfl, hiK, hat, hsh, hv, hb⟩ := hrel
    have HAT := hid hat
    have HSH := hid hsh
    have HV := hid hv
    have HB := hid hb
    clear hat hsh hv hb
    by_cases hlt : i < K
    · have h1i : (i : Int) < (K : Int) := by omega
      have h0i : (0 : Int) ≤ (i : Int) := by omega
      have NI := hid (NM.out i (by omega))
      by_cases h32 : i < 32
      · have h32i : ¬ (32 : Int) ≤ (i : Int) := by omega
        have hmi : min i 32 = i := by omega
        obtain ⟨a1, a2⟩ := Sh.ask (t := t) (b := i) (l := l) (by have := HSH.out; rwa [hmi] at this) h32
        have A1 := hid a1
        have A2 := hid a2
        clear a1 a2 hmi h32
        go_wp2_with (first
          | (go_at_call 16; refine (BI.out _).mono ?_; rintro o w3 ⟨rfl, hb3⟩; have HV3 := hid (HV.out.below hb3); have HB3 := hid (HB.out.trans (hb3.mono HV.out.lt)); clear hb3)
          | (go_at_call 17; refine (NI.out _).mono ?_; rintro o w4 ⟨rfl, hb4⟩; have HV4 := hid (HV3.out.below hb4); have HB4 := hid (HB3.out.trans (hb4.mono HV3.out.lt)); clear hb4)
          | (go_at_call 19; refine (acq_at lo vb (2 * i) hm1 HAT.out (nm40_ok _) (nm40_short _) true (by omega) _ HV4.out).mono ?_; rintro o w5 ⟨f5, he5, hn5, hv5, hb5, -⟩; rw [show acqE l (memL l.holders (nm40 ((i + t) % 36))) true = 0 from A1.out] at he5; subst he5; have HN5 := hid hn5.at_; have HV5 := hid hv5; have HB5 := hid (HB4.out.trans hb5); clear hn5 hv5 hb5))
        go_roundw
        case rel => exact ⟨i + 1, f5, _, by go_num, by omega, HN5.out, by rw [show min (i + 1) 32 = i + 1 by omega]; exact A2.out, HV5.out, HB5.out⟩
        case measure => simp [intOf]; omega
      · have h32i : (32 : Int) ≤ (i : Int) := by omega
        have hmi : min i 32 = 32 := by omega
        obtain ⟨a1, a2⟩ := Sh.full (t := t) (b := i) (l := l) (by have := HSH.out; rwa [hmi] at this) (by omega) (by omega)
        have A1 := hid a1
        have A2 := hid a2
        clear a1 a2 hmi h32
        go_wp2_with (first
          | (go_at_call 16; refine (BI.out _).mono ?_; rintro o w3 ⟨rfl, hb3⟩; have HV3 := hid (HV.out.below hb3); have HB3 := hid (HB.out.trans (hb3.mono HV.out.lt)); clear hb3)
          | (go_at_call 17; refine (NI.out _).mono ?_; rintro o w4 ⟨rfl, hb4⟩; have HV4 := hid (HV3.out.below hb4); have HB4 := hid (HB3.out.trans (hb4.mono HV3.out.lt)); clear hb4)
          | (go_at_call 19; refine (acq_at lo vb (2 * i) hm1 HAT.out (nm40_ok _) (nm40_short _) true (by omega) _ HV4.out).mono ?_; rintro o w5 ⟨f5, he5, hn5, hv5, hb5, -⟩; rw [show acqE l (memL l.holders (nm40 ((i + t) % 36))) true = 9 from A1.out] at he5; subst he5; have HN5 := hid hn5.at_; have HV5 := hid hv5; have HB5 := hid (HB4.out.trans hb5); clear hn5 hv5 hb5))
        go_roundw
        case rel => exact ⟨i + 1, f5, l, by go_num, by omega, by have := HN5.out; rw [show acqN l (nm40 ((i + t) % 36)) true = l from A2.out] at this; exact this, by have := HSH.out; rw [show min (i + 1) 32 = min i 32 by omega]; exact this, HV5.out, HB5.out⟩
        case measure => simp [intOf]; omega
    · obtain rfl : i = K := by omega
      have h1i : ¬ (i : Int) < (i : Int) := by omega
      have hmm : min (i : Int) 32 = ((min i 32 : Nat) : Int) := by omega
      have hM : min i 32 ≤ 32 := by omega
      have hvm := HV.out.mono (k' := 72) (by omega)
      have HVM := hid hvm
      generalize min i 32 = M at *
      have HMM := hid hmm
      clear hlt hvm hmm
      go_wp2_with fail
      rw [HMM.out]
      go_loopw [9] (fun jv wr' => ∃ (j : Nat) (f : NF) (l : Lk), jv = .int .i64 j ∧ j ≤ M ∧ LAt .nil f b1 0 0 l ∧ Sh t j M l ∧ IsView wr' lo vb (72 + 4 * j) .nil f ∧ Below lo w1 wr') (fun jv _ => M - (intOf jv).toNat)
      case atStart => exact ⟨0, f, l, rfl, Nat.zero_le _, HAT.out, HSH.out, HVM.out, HB.out⟩
      case round =>
        clear HAT HSH HV HVM HB
        obtain ⟨j, f, l, rfl, hjM, hat, hsh, hv, hb⟩ := hrel
        have HAT := hid hat
        have HSH := hid hsh
        have HV := hid hv
        have HB := hid hb
        clear hat hsh hv hb
        by_cases hlt : j < M
        · have h1j : (j : Int) < (M : Int) := by omega
          have h0j : (0 : Int) ≤ (j : Int) := by omega
          have h1M : (1 : Int) ≤ (M : Int) := by omega
          have hMm : (M : Int) ≤ 32 := by omega
          have NI := hid (NM.out j (by omega))
          obtain ⟨a1, a2, a3, a4⟩ := HSH.out.alone HAT.out.good.1 hlt hM
          have A1 := hid a1
          have A3 := hid a3
          have A4 := hid a4
          clear a1 a2 a3 a4
          by_cases hlast : j + 1 = M
          · have hjm : ((j : Int) == (M : Int) - 1) = true := by rw [beq_iff_eq]; omega
            have hjp : (j : Int) = (M : Int) - 1 := by omega
            rw [if_pos hlast] at A1
            have HLA := hid hlast
            have HJP := hid hjp
            clear hlast hjp
            go_wp2_with (first
              | (go_at_call 17; refine (NI.out _).mono ?_; rintro o w3 ⟨rfl, hb3⟩; have HV3 := hid (HV.out.below hb3); have HB3 := hid (HB.out.trans (hb3.mono HV.out.lt)); clear hb3)
              | (go_at_call 19; refine (acq_at lo vb (72 + 4 * j) hm1 HAT.out (nm40_ok _) (nm40_short _) false (by omega) _ HV4.out).mono ?_; rintro o w5 ⟨f5, he5, hn5, hv5, hb5, -⟩; rw [show acqE l (memL l.holders (nm40 ((j + t) % 36))) false = 0 from A1.out] at he5; subst he5; have HN5 := hid hn5.at_; have HV5 := hid hv5; have HB5 := hid (HB4.out.trans hb5); clear hn5 hv5 hb5)
              | (go_at_call 16; refine (BI.out _).mono ?_; rintro o w6 ⟨rfl, hb6⟩; have HV6 := hid (HV5.out.below hb6); have HB6 := hid (HB5.out.trans (hb6.mono HV5.out.lt)); clear hb6)
              | (go_at_call 16; refine (BI.out _).mono ?_; rintro o w4 ⟨rfl, hb4⟩; have HV4 := hid (HV3.out.below hb4); have HB4 := hid (HB3.out.trans (hb4.mono HV3.out.lt)); clear hb4)
              | (go_at_call 18; refine (rel_at lo vb (72 + 4 * j + 2) hm1 HN5.out (nm40_ok _) (nm40_short _) (by omega) _ HV6.out).mono ?_; rintro o w7 ⟨f7, he7, hn7, hv7, hb7, -⟩; rw [show relR (acqN l (nm40 ((j + t) % 36)) false) (nm40 ((j + t) % 36)) = 0 from A3.out] at he7; subst he7; have HN7 := hid hn7.at_; have HV7 := hid hv7; have HB7 := hid (HB6.out.trans hb7); clear hn7 hv7 hb7))
            go_roundw
            case rel => exact ⟨j + 1, f7, _, by go_num, by omega, HN7.out, A4.out, HV7.out, HB7.out⟩
            case measure => simp [intOf]; omega
          · have hjm : ((j : Int) == (M : Int) - 1) = false := by rw [beq_eq_false_iff_ne]; omega
            have hjp : ¬ (j : Int) = (M : Int) - 1 := by omega
            rw [if_neg hlast] at A1
            clear hlast
            go_wp2_with (first
              | (go_at_call 17; refine (NI.out _).mono ?_; rintro o w3 ⟨rfl, hb3⟩; have HV3 := hid (HV.out.below hb3); have HB3 := hid (HB.out.trans (hb3.mono HV.out.lt)); clear hb3)
              | (go_at_call 19; refine (acq_at lo vb (72 + 4 * j) hm1 HAT.out (nm40_ok _) (nm40_short _) false (by omega) _ HV4.out).mono ?_; rintro o w5 ⟨f5, he5, hn5, hv5, hb5, -⟩; rw [show acqE l (memL l.holders (nm40 ((j + t) % 36))) false = 19 from A1.out] at he5; subst he5; have HN5 := hid hn5.at_; have HV5 := hid hv5; have HB5 := hid (HB4.out.trans hb5); clear hn5 hv5 hb5)
              | (go_at_call 16; refine (BI.out _).mono ?_; rintro o w6 ⟨rfl, hb6⟩; have HV6 := hid (HV5.out.below hb6); have HB6 := hid (HB5.out.trans (hb6.mono HV5.out.lt)); clear hb6)
              | (go_at_call 16; refine (BI.out _).mono ?_; rintro o w4 ⟨rfl, hb4⟩; have HV4 := hid (HV3.out.below hb4); have HB4 := hid (HB3.out.trans (hb4.mono HV3.out.lt)); clear hb4)
              | (go_at_call 18; refine (rel_at lo vb (72 + 4 * j + 2) hm1 HN5.out (nm40_ok _) (nm40_short _) (by omega) _ HV6.out).mono ?_; rintro o w7 ⟨f7, he7, hn7, hv7, hb7, -⟩; rw [show relR (acqN l (nm40 ((j + t) % 36)) false) (nm40 ((j + t) % 36)) = 0 from A3.out] at he7; subst he7; have HN7 := hid hn7.at_; have HV7 := hid hv7; have HB7 := hid (HB6.out.trans hb7); clear hn7 hv7 hb7))
            go_roundw
            case rel => exact ⟨j + 1, f7, _, by go_num, by omega, HN7.out, A4.out, HV7.out, HB7.out⟩
            case measure => simp [intOf]; omega
        · obtain rfl : j = M := by omega
          have h1j : ¬ (j : Int) < (j : Int) := by omega
          have hl0 : l.holders.length = 0 := by have := HSH.out.len; omega
          have hs0 : l.shared = false := by have := HSH.out.sh; simpa using this
          obtain ⟨E, S, HS⟩ := l
          have hnil : HS = [] := List.eq_nil_of_length_eq_zero hl0
          subst hnil
          have hs0' : S = false := hs0
          subst hs0'
          have GE := hid (fun w' h' => get_at lo vb (72 + 4 * j) hm1 HAT.out (by omega) w' h')
          unfold lkCells at GE
          dsimp only [List.length_nil] at GE
          clear hl0 hs0 HSH hlt
          go_wp2_with (first
            | (go_at_call 16; refine (BI.out _).mono ?_; rintro o w6 ⟨rfl, hb6⟩; have HV6 := hid (HV.out.below hb6); have HB6 := hid (HB.out.trans (hb6.mono HV.out.lt)); clear hb6)
            | (go_at_call 20; refine (GE.out _ HV6.out).mono ?_; rintro o w7 ⟨A7, c7, rfl, -, hv7, hb7, -⟩; have HB7 := hid (HB6.out.trans hb7); have HVL := hid hv7.lt; clear hv7 hb7))
          go_ret
          exact ⟨rfl, HB1.out.trans ((HB7.out.alloc HVL.out _).mono HWL.out)⟩
end Go.Proofs.YtfgecaphhdedcaaGreatDoor
