/-
  PLAIN LAWS OF LAYER 4's ENCODING: the program's Decode and the reference's accept the same bytes and answer the same name. No function of the program is walked here.
-/
import Derived.Test.YtfdbanhbegngoaaGreatDoorCdc
import Derived.Test.YtfdbanhbegngoaaGreatDoorRef4c
namespace Go.Proofs.YtfdbanhbegngoaaGreatDoor
open Go.RowKit

/-- The encoding of a name. -/
def encN (n : Nm) : Bs :=
  natL n.kind.toNat ++ ((if ownB n.kind then txtL n.owner.data.toList else []) ++ ((if numB n.kind then natL n.number.toNat else []) ++ ((if 0 ≤ mostI n.kind then natL n.index.toNat else []) ++ (if txtB n.kind then txtL n.text.data.toList else []))))

/-- What a checked name is. -/
structure Nm.Good (n : Nm) : Prop where
  k1 : 1 ≤ n.kind
  k2 : n.kind ≤ 20
  ow : ownB n.kind = false → n.owner = ⟨#[]⟩
  nu : numB n.kind = false → n.number = 0
  nr : 0 ≤ n.number ∧ n.number ≤ 1073741824
  ix : mostI n.kind < 0 → n.index = 0
  ir : 0 ≤ n.index ∧ n.index ≤ max (mostI n.kind) 0
  te : txtB n.kind = false → n.text = ⟨#[]⟩
  tw : txtB n.kind = true → n.text.size ≤ 32

theorem ba_empty {s : ByteArray} (h : s.toList.isEmpty = true) : s = ⟨#[]⟩ := by
  rw [ByteArray.toList_eq, List.isEmpty_iff] at h
  rw [← strB_of s, h]; rfl

theorem Nm.good {n : Nm} (h : checkN n = 0) : n.Good := by
  unfold checkN at h
  split at h
  · omega
  · next hk =>
    obtain ⟨e1, e2, e3, e4⟩ := kinds_eq n.kind.toNat (by omega) (by omega)
    rw [e1, e2, e3, e4, show ((n.kind.toNat : Nat) : Int) = n.kind by omega] at h
    unfold checkF at h
    split at h
    · omega
    · next h1 =>
      simp only [Bool.or_eq_true, Bool.and_eq_true, Bool.not_eq_true', decide_eq_true_eq, bne_iff_ne, ne_eq, not_or, not_and, Decidable.not_not] at h1
      split at h
      · omega
      · split at h
        · omega
        · next h3 =>
          simp only [Bool.or_eq_true, Bool.not_eq_true', decide_eq_true_eq, not_or, Bool.not_eq_false] at h3
          split at h
          · omega
          · next h4 =>
            obtain ⟨⟨⟨a1, a2⟩, a3⟩, a4⟩ := h1
            obtain ⟨⟨b1, b2⟩, b3⟩ := h3
            unfold okNum at b1
            simp only [Bool.and_eq_true, decide_eq_true_eq] at b1
            refine ⟨by omega, by omega, fun hh => ?_, fun hh => a2 hh, b1, fun hh => a3 hh, ⟨by omega, by omega⟩, fun hh => ?_, fun hh => ?_⟩
            · exact ba_empty (by simpa using a1 hh)
            · exact ba_empty (by simpa using a4 hh)
            · rw [hh] at h4
              simp only [Bool.true_and, Bool.not_eq_true', Bool.not_eq_false] at h4
              unfold wordB at h4
              simp only [Bool.and_eq_true, decide_eq_true_eq] at h4
              omega

/-- The program's reading of a name, field by field: the value, the offset, the error. -/
def odK (s : Bs) : Nat × Nat × Int := rdNum 20 s 0 0
def odO (s : Bs) : Bs × Nat × Int := if kOwn (odK s).1 then rdTxt s.length s (odK s).2.1 (odK s).2.2 else ([], (odK s).2)
def odN (s : Bs) : Nat × Nat × Int := if kNum (odK s).1 then rdNum 1073741824 s (odO s).2.1 (odO s).2.2 else (0, (odO s).2)
def odI (s : Bs) : Nat × Nat × Int := if 0 ≤ kMost (odK s).1 then rdNum (kMost (odK s).1) s (odN s).2.1 (odN s).2.2 else (0, (odN s).2)
def odT (s : Bs) : Bs × Nat × Int := if kTxt (odK s).1 then rdTxt 32 s (odI s).2.1 (odI s).2.2 else ([], (odI s).2)
def odNm (s : Bs) : Nm := ⟨(odK s).1, strB (odO s).1, (odN s).1, (odI s).1, strB (odT s).1⟩
def odOk (s : Bs) : Prop := rdEnd s (odT s).2.1 (odT s).2.2 = 0 ∧ checkN (odNm s) = 0
instance (s : Bs) : Decidable (odOk s) := by unfold odOk; infer_instance

theorem odK_le (s : Bs) : (odK s).2.1 ≤ s.length := rdNum_le (Nat.zero_le _)
theorem odO_le (s : Bs) : (odO s).2.1 ≤ s.length := by unfold odO; split <;> first | exact rdTxt_le (odK_le s) | exact odK_le s
theorem odN_le (s : Bs) : (odN s).2.1 ≤ s.length := by unfold odN; split <;> first | exact rdNum_le (odO_le s) | exact odO_le s
theorem odI_le (s : Bs) : (odI s).2.1 ≤ s.length := by unfold odI; split <;> first | exact rdNum_le (odN_le s) | exact odN_le s
theorem odT_le (s : Bs) : (odT s).2.1 ≤ s.length := by unfold odT; split <;> first | exact rdTxt_le (odI_le s) | exact odI_le s

/-- What is decoded was encoded. -/
theorem od_inv {s : Bs} (h : odOk s) : encN (odNm s) = s := by
  obtain ⟨h1, h2⟩ := h
  obtain ⟨eT, eL⟩ := rdEnd_zero (odT_le s) h1
  have g := Nm.good h2
  obtain ⟨q1, q2, q3, q4⟩ := kinds_eq (odK s).1 (by have := g.k1; simp only [odNm] at this; omega) (by have := g.k2; simp only [odNm] at this; omega)
  have gT : (odI s).2.2 = 0 ∧ Got s (odI s).2.1 (odT s).2.1 (if txtB (odK s).1 then txtL (odT s).1 else []) := by
    unfold odT at eT ⊢
    rw [q3] at eT ⊢
    split at eT
    · next hh =>
      simp only [if_pos hh]
      obtain ⟨a, b, -⟩ := rdTxt_inv (odI_le s) eT
      exact ⟨a, b⟩
    · next hh =>
      simp only [if_neg hh]
      exact ⟨eT, Got.nil (odI_le s)⟩
  have gI : (odN s).2.2 = 0 ∧ Got s (odN s).2.1 (odI s).2.1 (if 0 ≤ mostI (odK s).1 then natL (odI s).1 else []) := by
    have e := gT.1
    unfold odI at e ⊢
    rw [q4] at e ⊢
    split at e
    · next hh =>
      simp only [if_pos hh]
      obtain ⟨a, b, -⟩ := rdNum_inv (odN_le s) e
      exact ⟨a, b⟩
    · next hh =>
      simp only [if_neg hh]
      exact ⟨e, Got.nil (odN_le s)⟩
  have gN : (odO s).2.2 = 0 ∧ Got s (odO s).2.1 (odN s).2.1 (if numB (odK s).1 then natL (odN s).1 else []) := by
    have e := gI.1
    unfold odN at e ⊢
    rw [q2] at e ⊢
    split at e
    · next hh =>
      simp only [if_pos hh]
      obtain ⟨a, b, -⟩ := rdNum_inv (odO_le s) e
      exact ⟨a, b⟩
    · next hh =>
      simp only [if_neg hh]
      exact ⟨e, Got.nil (odO_le s)⟩
  have gO : (odK s).2.2 = 0 ∧ Got s (odK s).2.1 (odO s).2.1 (if ownB (odK s).1 then txtL (odO s).1 else []) := by
    have e := gN.1
    unfold odO at e ⊢
    rw [q1] at e ⊢
    split at e
    · next hh =>
      simp only [if_pos hh]
      obtain ⟨a, b, -⟩ := rdTxt_inv (odK_le s) e
      exact ⟨a, b⟩
    · next hh =>
      simp only [if_neg hh]
      exact ⟨e, Got.nil (odK_le s)⟩
  obtain ⟨-, gK, -⟩ := rdNum_inv (most := 20) (b := s) (Nat.zero_le _) gO.1
  have G := ((((gK.app gO.2).app gN.2).app gI.2).app gT.2).eq
  rw [List.drop_zero, eL, List.drop_length, List.append_nil] at G
  refine Eq.trans ?_ G.symm
  simp only [encN, odNm, Int.toNat_natCast, strB_toList, List.append_assoc]
  rfl

theorem drop_app {b p r : Bs} {a : Nat} (h : b.drop a = p ++ r) : b.drop (a + p.length) = r := by rw [← List.drop_drop, h, List.drop_left]

/-- What is encoded is decoded. -/
theorem od_enc {n : Nm} (hc : checkN n = 0) (hl : (encN n).length ≤ 1000000) : odOk (encN n) ∧ odNm (encN n) = n := by
  have g := Nm.good hc
  have k1 := g.k1
  have k2 := g.k2
  obtain ⟨q1, q2, q3, q4⟩ := kinds_eq n.kind.toNat (by omega) (by omega)
  rw [show ((n.kind.toNat : Nat) : Int) = n.kind by omega] at q1 q2 q3 q4
  have hE : encN n = natL n.kind.toNat ++ ((if ownB n.kind then txtL n.owner.data.toList else []) ++ ((if numB n.kind then natL n.number.toNat else []) ++ ((if 0 ≤ mostI n.kind then natL n.index.toNat else []) ++ (if txtB n.kind then txtL n.text.data.toList else [])))) := rfl
  generalize hs : encN n = s at *
  obtain ⟨pO, hpO⟩ : ∃ p, p = (if ownB n.kind then txtL n.owner.data.toList else []) := ⟨_, rfl⟩
  obtain ⟨pN, hpN⟩ : ∃ p, p = (if numB n.kind then natL n.number.toNat else []) := ⟨_, rfl⟩
  obtain ⟨pI, hpI⟩ : ∃ p, p = (if 0 ≤ mostI n.kind then natL n.index.toNat else []) := ⟨_, rfl⟩
  obtain ⟨pT, hpT⟩ : ∃ p, p = (if txtB n.kind then txtL n.text.data.toList else []) := ⟨_, rfl⟩
  rw [← hpO, ← hpN, ← hpI, ← hpT] at hE
  have h0 : s.drop 0 = natL n.kind.toNat ++ (pO ++ (pN ++ (pI ++ pT))) := by rw [List.drop_zero]; exact hE
  have eK : odK s = (n.kind.toNat, 0 + (natL n.kind.toNat).length, 0) := rdNum_enc h0 (by omega) (by omega)
  have h1 := drop_app h0
  have eO : odO s = (n.owner.data.toList, 0 + (natL n.kind.toNat).length + pO.length, 0) := by
    unfold odO
    rw [eK]
    simp only [q1]
    cases hb : ownB n.kind with
    | true =>
      rw [show pO = txtL n.owner.data.toList by rw [hpO, hb]; rfl] at h1 ⊢
      have hle : (txtL n.owner.data.toList).length ≤ s.length := by
        have := congrArg List.length h1
        rw [List.length_append, List.length_drop] at this
        omega
      rw [txtL, List.length_append] at hle
      rw [if_pos rfl]
      exact rdTxt_enc h1 (by omega)
    | false =>
      rw [g.ow hb, if_neg (by simp), show pO = [] by rw [hpO, hb]; rfl]
      rfl
  have h2 := drop_app h1
  have eN : odN s = (n.number.toNat, 0 + (natL n.kind.toNat).length + pO.length + pN.length, 0) := by
    unfold odN
    rw [eK, eO]
    simp only [q2]
    have hr := g.nr
    cases hb : numB n.kind with
    | true =>
      rw [show pN = natL n.number.toNat by rw [hpN, hb]; rfl] at h2 ⊢
      rw [if_pos rfl]
      exact rdNum_enc h2 (by omega) (by omega)
    | false =>
      rw [g.nu hb, if_neg (by simp), show pN = [] by rw [hpN, hb]; rfl]
      rfl
  have h3 := drop_app h2
  have eI : odI s = (n.index.toNat, 0 + (natL n.kind.toNat).length + pO.length + pN.length + pI.length, 0) := by
    unfold odI
    rw [eK, eN]
    simp only [q4]
    have hr := g.ir
    have hm : mostI n.kind ≤ 1073741824 := by unfold mostI; split; omega; split <;> omega
    by_cases hb : 0 ≤ mostI n.kind
    · rw [show pI = natL n.index.toNat by rw [hpI, if_pos hb]] at h3 ⊢
      rw [if_pos hb]
      exact rdNum_enc h3 (by omega) (by omega)
    · rw [g.ix (by omega), if_neg hb, show pI = [] by rw [hpI, if_neg hb]]
      rfl
  have h4 := drop_app h3
  have eT : odT s = (n.text.data.toList, 0 + (natL n.kind.toNat).length + pO.length + pN.length + pI.length + pT.length, 0) := by
    unfold odT
    rw [eK, eI]
    simp only [q3]
    cases hb : txtB n.kind with
    | true =>
      have ht := g.tw hb
      rw [ba_size] at ht
      rw [show pT = txtL n.text.data.toList by rw [hpT, hb]; rfl] at h4 ⊢
      rw [if_pos rfl]
      exact rdTxt_enc (r := []) (by rw [List.append_nil]; exact h4) (by omega)
    | false =>
      rw [g.te hb, if_neg (by simp), show pT = [] by rw [hpT, hb]; rfl]
      rfl
  have eNm : odNm s = n := by
    unfold odNm
    rw [eK, eO, eN, eI, eT]
    have hr := g.nr
    have hi := g.ir
    obtain ⟨k, o, u, i, t⟩ := n
    simp only [strB_of, Nm.mk.injEq, true_and, and_true] at *
    omega
  refine ⟨⟨?_, by rw [eNm]; exact hc⟩, eNm⟩
  have hL := congrArg List.length h0
  simp only [List.drop_zero, List.length_append] at hL
  have e1 : (odT s).2.1 = s.length := by rw [eT]; simp only; omega
  have e2 : (odT s).2.2 = 0 := by rw [eT]
  unfold rdEnd
  rw [e1, e2, if_pos rfl, if_neg (by omega)]

/-- The reference's take and piece. -/
def tk (s : Bs) : Int × Bs := if (prs s).2.2 ≠ 0 then (-1, []) else ((prs s).1, s.drop (prs s).2.1)
def pc (s : Bs) : Bs × Bs := if (tk s).1 < 0 ∨ ((tk s).2.length : Int) < (tk s).1 then ([], []) else ((tk s).2.take (tk s).1.toNat, (tk s).2.drop (tk s).1.toNat)
theorem tk_enc (u : Nat) (h : u < 9223372036854775808) (r : Bs) : tk (natL u ++ r) = ((u : Int), r) := by
  unfold tk
  rw [prs_natL u h, if_neg (by simp)]
  simp
theorem pc_enc (x r : Bs) (h : x.length < 9223372036854775808) : pc (txtL x ++ r) = (x, r) := by
  have : tk (txtL x ++ r) = ((x.length : Int), x ++ r) := by unfold txtL; rw [List.append_assoc]; exact tk_enc _ h _
  unfold pc
  rw [this, if_neg (by simp only [List.length_append]; omega)]
  simp
def rfK (s : Bs) : Int × Bs := tk s
def rfO (s : Bs) : Bs × Bs := if ownB (rfK s).1 then pc (rfK s).2 else ([], (rfK s).2)
def rfN (s : Bs) : Int × Bs := if numB (rfK s).1 then tk (rfO s).2 else (0, (rfO s).2)
def rfI (s : Bs) : Int × Bs := if 0 ≤ mostI (rfK s).1 then tk (rfN s).2 else (0, (rfN s).2)
def rfT (s : Bs) : Bs × Bs := if txtB (rfK s).1 then pc (rfI s).2 else ([], (rfI s).2)
def rfNm (s : Bs) : Nm := ⟨(rfK s).1, strB (rfO s).1, (rfN s).1, (rfI s).1, strB (rfT s).1⟩
def rfOk (s : Bs) : Prop := checkN (rfNm s) = 0 ∧ encN (rfNm s) = s ∧ (rfT s).2 = []

theorem rf_enc {n : Nm} (hc : checkN n = 0) (hl : (encN n).length ≤ 1000000) : rfOk (encN n) ∧ rfNm (encN n) = n := by
  have g := Nm.good hc
  have k1 := g.k1
  have k2 := g.k2
  have hO : ownB n.kind = true → n.owner.data.toList.length ≤ 1000000 := fun hb => by
    unfold encN at hl
    rw [hb, if_pos rfl] at hl
    simp only [List.length_append, txtL] at hl
    omega
  have hr := g.nr
  have hi := g.ir
  have hm : mostI n.kind ≤ 1073741824 := by unfold mostI; split; omega; split <;> omega
  have hE : encN n = natL n.kind.toNat ++ ((if ownB n.kind then txtL n.owner.data.toList else []) ++ ((if numB n.kind then natL n.number.toNat else []) ++ ((if 0 ≤ mostI n.kind then natL n.index.toNat else []) ++ (if txtB n.kind then txtL n.text.data.toList else [])))) := rfl
  generalize hs : encN n = s at *
  have eK : rfK s = (n.kind, (if ownB n.kind then txtL n.owner.data.toList else []) ++ ((if numB n.kind then natL n.number.toNat else []) ++ ((if 0 ≤ mostI n.kind then natL n.index.toNat else []) ++ (if txtB n.kind then txtL n.text.data.toList else [])))) := by
    unfold rfK
    rw [hE, tk_enc _ (by omega), show ((n.kind.toNat : Nat) : Int) = n.kind by omega]
  have eO : rfO s = (n.owner.data.toList, (if numB n.kind then natL n.number.toNat else []) ++ ((if 0 ≤ mostI n.kind then natL n.index.toNat else []) ++ (if txtB n.kind then txtL n.text.data.toList else []))) := by
    unfold rfO
    rw [eK]
    cases hb : ownB n.kind with
    | true =>
      simp only [if_pos]
      exact pc_enc _ _ (by have := hO hb; omega)
    | false => rw [g.ow hb]; rfl
  have eN : rfN s = (n.number, (if 0 ≤ mostI n.kind then natL n.index.toNat else []) ++ (if txtB n.kind then txtL n.text.data.toList else [])) := by
    unfold rfN
    rw [eK, eO]
    cases hb : numB n.kind with
    | true =>
      simp only [if_pos]
      rw [tk_enc _ (by omega), show ((n.number.toNat : Nat) : Int) = n.number by omega]
    | false => rw [g.nu hb]; rfl
  have eI : rfI s = (n.index, (if txtB n.kind then txtL n.text.data.toList else [])) := by
    unfold rfI
    rw [eK, eN]
    by_cases hb : 0 ≤ mostI n.kind
    · simp only [if_pos hb]
      rw [tk_enc _ (by omega), show ((n.index.toNat : Nat) : Int) = n.index by omega]
    · rw [g.ix (by omega)]
      simp only [if_neg hb]
      rfl
  have eT : rfT s = (n.text.data.toList, []) := by
    unfold rfT
    rw [eK, eI]
    cases hb : txtB n.kind with
    | true =>
      simp only [if_pos]
      have ht := g.tw hb
      rw [ba_size] at ht
      have := pc_enc n.text.data.toList [] (by omega)
      rw [List.append_nil] at this
      exact this
    | false => rw [g.te hb]; rfl
  have eNm : rfNm s = n := by
    unfold rfNm
    rw [eK, eO, eN, eI, eT]
    simp only [strB_of]
  exact ⟨⟨by rw [eNm]; exact hc, by rw [eNm, hs], by rw [eT]⟩, eNm⟩

/-- Both accept the same bytes, and answer the same name. -/
theorem od_iff_rf (s : Bs) (hl : s.length ≤ 1000000) : (odOk s ↔ rfOk s) ∧ (odOk s → rfNm s = odNm s) := by
  have h1 : odOk s → rfOk s ∧ rfNm s = odNm s := fun h => by
    have e := od_inv h
    have := rf_enc h.2 (by rw [e]; exact hl)
    rw [e] at this
    exact this
  refine ⟨⟨fun h => (h1 h).1, fun h => ?_⟩, fun h => (h1 h).2⟩
  have := (od_enc h.1 (by rw [h.2.1]; exact hl)).1
  rw [h.2.1] at this
  exact this
end Go.Proofs.YtfdbanhbegngoaaGreatDoor
