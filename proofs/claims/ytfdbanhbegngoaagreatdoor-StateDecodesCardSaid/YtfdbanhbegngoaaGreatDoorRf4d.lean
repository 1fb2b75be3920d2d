/-
  THE REFERENCE OF LAYER 4, WALKED: take, piece.
  THE REFERENCE OF LAYER 4, WALKED: Encode.
  THE REFERENCE OF LAYER 4, WALKED: Decode.
-/
import Derived.Test.YtfdbanhbegngoaaGreatDoorRf5
import Derived.Test.YtfdbanhbegngoaaGreatDoorNmR
namespace Go.Proofs.YtfdbanhbegngoaaGreatDoor
open Go.RowKit

theorem strB_drop (s : Bs) (k n : Nat) (hn : n = s.length) : (strB s).extract k n = strB (s.drop k) := by
  rw [← strB_of ((strB s).extract k n), Lib.extract_data, strB_toList, List.take_of_length_le (by rw [List.length_drop]; omega)]
theorem strB_take (s : Bs) (k : Nat) : (strB s).extract 0 k = strB (s.take k) := by
  rw [← strB_of ((strB s).extract 0 k), Lib.extract_data, strB_toList, List.drop_zero, Nat.sub_zero]

set_option maxRecDepth 100000 in
set_option maxHeartbeats 1000000 in
theorem refTake_any (s : Bs) (hs : s.length ≤ 1000000) (w : World) :
    Calls Tryz.prog 57 #[.string (strB s)] w fun o w' => o = .returned (.tuple #[.int .i64 (tk s).1, .string (strB (tk s).2)]) ∧ Below w.heap.size w w' := by
  have hcv2 := fun w s => run_bytes_of_string (P := Tryz.prog) w 9 22 5 s Tryz.underlying9 Tryz.underlying22 Tryz.underlying5
  have PA := hid (fun (w' : World) A n c (hs' : Sl w' w'.heap.size 1 A n c (s.map u8v)) => refParse01_any A n c s w' hs')
  have hle := prs_le s
  have hsz : (strB s).size = s.length := rfl
  have HT := hid (show tk s = if (prs s).2.2 ≠ 0 then (-1, []) else (((prs s).1 : Int), s.drop (prs s).2.1) from rfl)
  have HD := hid (strB_drop s (prs s).2.1 s.length rfl)
  generalize tk s = R at *
  generalize (prs s).1 = v at *
  generalize (prs s).2.1 = k at *
  generalize (prs s).2.2 = d at *
  have hki : (k : Int) ≤ ((strB s).size : Int) := by rw [hsz]; omega
  have hkn : k ≤ (strB s).size := hle
  by_cases h1 : d = 0
  · subst h1
    have HR := hid (show R = ((v : Int), s.drop k) by rw [HT.out, if_neg (by simp)])
    clear HT
    go_enter Tryz.func57, Tryz.ntmps57
    go_wp2_with (go_at_call 23; refine (PA.out _ _ _ _ (sl_str _ _ s _ _ (by simp) (grownCap_ge _ _ _ _) (grownCap_le_maxLen _ _ _ _ (by unfold maxLen; omega)) _ (Below.refl _ _).drew)).mono ?_; rintro o w1 ⟨rfl, rfl⟩)
    go_quiet (fail)
    go_wp2_with fail
    all_goals go_ret2
    all_goals
      refine ⟨?_, dN ((Below.refl _ _).alloc (Nat.le_refl _) _).drew _⟩
      rw [HR.out, ← HD.out]
      rfl
  · have h1b : (d != 0) = true := by simp [h1]
    have HR := hid (show R = (-1, []) by rw [HT.out, if_pos h1])
    clear h1 HT
    go_enter Tryz.func57, Tryz.ntmps57
    go_wp2_with (go_at_call 23; refine (PA.out _ _ _ _ (sl_str _ _ s _ _ (by simp) (grownCap_ge _ _ _ _) (grownCap_le_maxLen _ _ _ _ (by unfold maxLen; omega)) _ (Below.refl _ _).drew)).mono ?_; rintro o w1 ⟨rfl, rfl⟩)
    go_ret2
    refine ⟨?_, ((Below.refl _ _).alloc (Nat.le_refl _) _).drew⟩
    rw [HR.out]
    rfl
theorem tk_le (s : Bs) : (tk s).2.length ≤ s.length := by
  unfold tk
  split
  · exact Nat.zero_le _
  · rw [List.length_drop]; omega

set_option maxRecDepth 100000 in
set_option maxHeartbeats 1000000 in
theorem refPiece_any (s : Bs) (hs : s.length ≤ 1000000) (w : World) :
    Calls Tryz.prog 59 #[.string (strB s)] w fun o w' => o = .returned (.tuple #[.string (strB (pc s).1), .string (strB (pc s).2)]) ∧ Below w.heap.size w w' := by
  have TK := hid (refTake_any s hs w)
  have hle := tk_le s
  have HP := hid (show pc s = if (tk s).1 < 0 ∨ ((tk s).2.length : Int) < (tk s).1 then ([], []) else ((tk s).2.take (tk s).1.toNat, (tk s).2.drop (tk s).1.toNat) from rfl)
  generalize pc s = R at *
  generalize (tk s).1 = v at *
  generalize (tk s).2 = r at *
  have hsz : (strB r).size = r.length := rfl
  by_cases h1 : v < 0
  · have HR := hid (show R = ([], []) by rw [HP.out, if_pos (.inl h1)])
    clear HP
    go_enter Tryz.func59, Tryz.ntmps59
    go_wp2_with (go_at_call 57; refine TK.out.mono ?_; rintro o w1 ⟨rfl, hb⟩)
    go_ret2
    refine ⟨?_, hb⟩
    rw [HR.out]
    rfl
  · obtain ⟨k, rfl⟩ : ∃ k : Nat, v = k := ⟨v.toNat, by omega⟩
    by_cases h2 : (r.length : Int) < (k : Int)
    · have HR := hid (show R = ([], []) by rw [HP.out, if_pos (.inr h2)])
      have h2' : ((strB r).size : Int) < (k : Int) := by rw [hsz]; exact h2
      clear HP
      go_enter Tryz.func59, Tryz.ntmps59
      go_wp2_with (go_at_call 57; refine TK.out.mono ?_; rintro o w1 ⟨rfl, hb⟩)
      go_ret2
      refine ⟨?_, hb⟩
      rw [HR.out]
      rfl
    · have HR := hid (show R = (r.take k, r.drop k) by rw [HP.out, if_neg (by omega)]; simp)
      have h2' : ¬ (((strB r).size : Int) < (k : Int)) := by rw [hsz]; exact h2
      have h3 : k ≤ (strB r).size := by rw [hsz]; omega
      have HD1 := hid (strB_drop r k (strB r).size rfl)
      have HD2 := hid (strB_take r k)
      clear HP
      go_enter Tryz.func59, Tryz.ntmps59
      go_wp2_with (go_at_call 57; refine TK.out.mono ?_; rintro o w1 ⟨rfl, hb⟩)
      go_quiet (fail)
      go_wp2_with fail
      all_goals go_ret2
      all_goals
        refine ⟨?_, dN hb _⟩
        rw [HR.out, ← HD1.out, ← HD2.out]
        rfl
end Go.Proofs.YtfdbanhbegngoaaGreatDoor
namespace Go.Proofs.YtfdbanhbegngoaaGreatDoor
open Go.RowKit

theorem own_news {w : World} {base n : Nat} {v : Value} {l : Bs} (h : w.ownsRow base 5 1 v n (l.map u8v)) :
    ∃ A c, v = .slice A n c ∧ (A = none → n = 0 ∧ c = 0) ∧ ∀ ad, A = some ad → ∀ j u, (l.map u8v)[j]? = some u → w.cell? (ad.add j) = some u := by
  obtain ⟨A, c, rfl, hs, hA⟩ := own_shape h
  refine ⟨A, c, rfl, fun hn => ?_, fun ad ha j u hu => ?_⟩
  · rcases h.2 with ⟨h1, h2⟩ | ⟨g', cap, cur, h2, -⟩
    · injection h1 with _ _ h1c; exact ⟨h2, h1c⟩
    · cases h2; cases hn
  · subst ha
    rcases hs.2.2.2 with h0 | ⟨bb, off, h, -, hc⟩
    · have := hs.1
      rw [h0, Nat.zero_mul] at this
      rw [List.eq_nil_of_length_eq_zero this] at hu
      simp at hu
    · cases h
      rw [Addr.add_lit]
      exact hc j u hu

set_option maxRecDepth 100000 in
set_option maxHeartbeats 3200000 in
theorem refEncode4_any (n : Nm) (ho : n.owner.size ≤ 1000000) (ht : n.text.size ≤ 1000000) (w : World) :
    Calls Tryz.prog 63 #[nmV n] w fun o w' => o = .returned (.tuple #[.string (strB (if checkN n = 0 then encN n else [])), .int .i64 (checkN n)]) ∧ Below w.heap.size w w' := by
  have CK := hid (refCheck_any n ho ht)
  have hw0 := (Below.refl w.heap.size w).alloc (Nat.le_refl _) (.cells #[.int .i64 n.kind, .string n.owner, .int .i64 n.number, .int .i64 n.index, .string n.text] 63)
  have HB0 := hid hw0
  have HBX := hid (Blk.new w 63 #[.int .i64 n.kind, .string n.owner, .int .i64 n.number, .int .i64 n.index, .string n.text])
  clear hw0
  by_cases hc : checkN n = 0
  · rw [if_pos hc, hc]
    rw [hc] at CK
    have g := Nm.good hc
    have k1 := g.k1
    have k2 := g.k2
    have r1 := g.nr
    have r2 := g.ir
    have hm : mostI n.kind ≤ 1073741824 := by unfold mostI; split; omega; split <;> omega
    have hE : encN n = natL n.kind.toNat ++ ((if ownB n.kind then txtL n.owner.data.toList else []) ++ ((if numB n.kind then natL n.number.toNat else []) ++ ((if 0 ≤ mostI n.kind then natL n.index.toNat else []) ++ (if txtB n.kind then txtL n.text.data.toList else [])))) := rfl
    clear g hc
    obtain ⟨kind, owner, number, index, text⟩ := n
    dsimp only at k1 k2 r1 r2 hm hE ho ht HB0 HBX
    obtain ⟨k, rfl⟩ : ∃ k : Nat, kind = k := ⟨kind.toNat, by omega⟩
    obtain ⟨nu, rfl⟩ : ∃ k : Nat, number = k := ⟨number.toNat, by omega⟩
    obtain ⟨ix, rfl⟩ : ∃ k : Nat, index = k := ⟨index.toNat, by omega⟩
    simp only [Int.toNat_natCast] at hE
    have hx : ix ≤ 1073741824 := by omega
    clear r2 hm
    have hwk : IntKind.u64.wrap (k : Int) = (k : Int) := wrap_u64 k (by omega)
    have hwn : IntKind.u64.wrap (nu : Int) = (nu : Int) := wrap_u64 nu (by omega)
    have hwi : IntKind.u64.wrap (ix : Int) = (ix : Int) := wrap_u64 ix (by omega)
    obtain ⟨pO, hpO⟩ : ∃ p, p = (if ownB (k : Int) then txtL owner.data.toList else []) := ⟨_, rfl⟩
    obtain ⟨pN, hpN⟩ : ∃ p, p = (if numB (k : Int) then natL nu else []) := ⟨_, rfl⟩
    obtain ⟨pI, hpI⟩ : ∃ p, p = (if 0 ≤ mostI (k : Int) then natL ix else []) := ⟨_, rfl⟩
    obtain ⟨pT, hpT⟩ : ∃ p, p = (if txtB (k : Int) then txtL text.data.toList else []) := ⟨_, rfl⟩
    rw [← hpO, ← hpN, ← hpI, ← hpT] at hE
    have l0 : (natL k).length ≤ 10 := natL_ten (by omega)
    have l2 : (natL nu).length ≤ 10 := natL_ten (by omega)
    have l3 : (natL ix).length ≤ 10 := natL_ten (by omega)
    have tl : ∀ s : ByteArray, s.size ≤ 1000000 → (txtL s.data.toList).length ≤ 1000010 := fun s hs => by
      have h1 := ba_size s
      have h2 := natL_ten (u := s.data.toList.length) (by omega)
      rw [txtL, List.length_append]
      omega
    have lO : pO.length ≤ 1000010 := by rw [hpO]; split; exact tl _ ho; exact Nat.zero_le _
    have lN : pN.length ≤ 10 := by rw [hpN]; split; exact l2; exact Nat.zero_le _
    have lI : pI.length ≤ 10 := by rw [hpI]; split; exact l3; exact Nat.zero_le _
    have lT : pT.length ≤ 1000010 := by rw [hpT]; split; exact tl _ ht; exact Nat.zero_le _
    have HE := hid hE; have HPO := hid hpO; have HPN := hid hpN; have HPI := hid hpI; have HPT := hid hpT
    clear hE hpO hpN hpI hpT tl
    generalize encN _ = enc at *
    have HT := hid refText_any
    have HNT := hid refNatural_any
    have PO := hid (own_any (k : Int)); have PN := hid (num_any (k : Int)); have PM := hid (most_any (k : Int)); have PT := hid (txt_any (k : Int))
    obtain ⟨i0, hi, hz0, hz1, hz2⟩ := info_parts Tryz.info_u8
    unfold nmV at *
    obtain ⟨W1, hW1⟩ : ∃ x, x = w.alloc (.cells #[.int .i64 k, .string owner, .int .i64 nu, .int .i64 ix, .string text] 63) := ⟨_, rfl⟩
    have hs1 : W1.heap.size = w.heap.size + 1 := by rw [hW1]; simp
    have UU := hid (show ∀ w', Below (w.heap.size + 1) W1 w' → w'.cell? ⟨w.heap.size, 0, none⟩ = some (.int .i64 k) ∧ w'.cell? ⟨w.heap.size, 1, none⟩ = some (.string owner) ∧ w'.cell? ⟨w.heap.size, 2, none⟩ = some (.int .i64 nu) ∧ w'.cell? ⟨w.heap.size, 3, none⟩ = some (.int .i64 ix) ∧ w'.cell? ⟨w.heap.size, 4, none⟩ = some (.string text) from fun w' hb => by
      subst hW1
      have h2 := HBX.out.below hb (by omega)
      exact ⟨h2.cell 0, h2.cell 1, h2.cell 2, h2.cell 3, h2.cell 4⟩)
    have HB1 := hid (show Below w.heap.size w W1 from by rw [hW1]; exact HB0.out)
    have HW1 := hid hW1
    clear HB0 HBX hW1
    go_enter Tryz.func63, Tryz.ntmps63
    go_upto_region 5 with (first
      | (go_at_call 87; refine (CK.out _).mono ?_; rintro o w2 ⟨rfl, hb⟩; rw [← HW1.out] at hb; have HBa := hid (show Below (w.heap.size + 1) W1 w2 from by rw [← hs1]; exact hb); obtain ⟨q0, -, -, -, -⟩ := UU.out _ HBa.out; clear hb)
      | (go_at_call 88; refine (HNT.out k (by omega) _).mono ?_; rintro o w3 ⟨v, rfl, hown, hb⟩; have HBb := hid (HBa.out.trans (hb.mono (by have := HBa.out.size; omega))); have HO := hid (hown.lower (base' := w.heap.size + 1) (by have := HBa.out.size; omega)); clear hown hb))
    have HREL := hid (And.intro HO.out HBb.out)
    clear HO HBb HBa
    obtain ⟨s0, -, -, -, -⟩ := UU.out _ HREL.out.2
    go_upto_if 17 with (go_at_call 58; refine (PO.out _).mono ?_; rintro e w' ⟨rfl, rfl⟩)
    go_cut [5] (fun v wx => wx.ownsRow (w.heap.size + 1) 5 1 v (natL k ++ pO).length ((natL k ++ pO).map u8v) ∧ Below (w.heap.size + 1) W1 wx)
    case first =>
      cases hb : ownB (k : Int) with
      | true =>
        have e := HPO.out
        rw [hb, if_pos rfl] at e
        have HPL := hid (show (txtL owner.data.toList).length = pO.length from by rw [e])
        have E := hid e
        clear e
        obtain ⟨-, s1, -, -, -⟩ := UU.out _ HREL.out.2
        go_wp2_with (first | (go_at_call 89; refine (HT.out owner ho _).mono ?_; rintro o w4 ⟨v2, rfl, ho2, hb2⟩; obtain ⟨A2, c2, rfl, hA2, hC2⟩ := own_news ho2; have HA2 := hid hA2; have HC2 := hid hC2; have HO2 := hid (ownsRow_below HREL.out.1 hb2); have hs4 : w.heap.size + 1 ≤ w4.heap.size := Nat.le_trans (Nat.le_trans (by omega) HREL.out.2.size) hb2.size; have HBx := hid (HREL.out.2.trans (hb2.mono (Nat.le_trans (by omega) HREL.out.2.size))); clear ho2 hb2 hA2 hC2) | (at_builtin; refine wpList_append_gen _ rfl (.tmp 18) (.tmp 21) _ rfl (w.heap.size + 1) 5 i0 (.int .u8 0) 1 1 Tryz.underlying22 hi hz0 hz1 hz2 rfl (by decide) _ (natL k).length ((natL k).map u8v) rfl HO2.out A2 _ c2 ((txtL owner.data.toList).map u8v) rfl (by simp) HA2.out HC2.out (by simp [u8v, Value.oneCell']) (by unfold maxLen; (try simp only [List.length_append]); have := HPL.out; omega) (by (try simp only [List.length_append]); have := HPL.out; omega) hs4 ?_; intro v1 w5 ho5 hg5; have HO5 := hid ho5; have HG5 := hid hg5; clear ho5 hg5))
        go_meet
        rw [E.out]
        refine ⟨?_, Below.grown HBx.out HG5.out hs4 (fun j e => (HO2.out.lt j e).1)⟩
        rw [List.length_append, List.map_append]
        exact HO5.out
      | false =>
        have e := HPO.out
        rw [hb, if_neg (by simp)] at e
        go_wp2_with fail
        go_meet
        subst e
        exact ⟨by rw [List.append_nil]; exact HREL.out.1, HREL.out.2⟩
    case rest =>
      have HREL := hid hcut
      clear hcut
      obtain ⟨s0, -, -, -, -⟩ := UU.out _ HREL.out.2
      go_upto_if 25 with (go_at_call 60; refine (PN.out _).mono ?_; rintro e w' ⟨rfl, rfl⟩)
      go_cut [5] (fun v wx => wx.ownsRow (w.heap.size + 1) 5 1 v (natL k ++ pO ++ pN).length ((natL k ++ pO ++ pN).map u8v) ∧ Below (w.heap.size + 1) W1 wx)
      case first =>
        cases hb : numB (k : Int) with
        | true =>
          have e := HPN.out
          rw [hb, if_pos rfl] at e
          have HPL := hid (show (natL nu).length = pN.length from by rw [e])
          have E := hid e
          clear e
          obtain ⟨-, -, s2, -, -⟩ := UU.out _ HREL.out.2
          go_wp2_with (first | (go_at_call 88; refine (HNT.out nu (by omega) _).mono ?_; rintro o w4 ⟨v2, rfl, ho2, hb2⟩; obtain ⟨A2, c2, rfl, hA2, hC2⟩ := own_news ho2; have HA2 := hid hA2; have HC2 := hid hC2; have HO2 := hid (ownsRow_below HREL.out.1 hb2); have hs4 : w.heap.size + 1 ≤ w4.heap.size := Nat.le_trans (Nat.le_trans (by omega) HREL.out.2.size) hb2.size; have HBx := hid (HREL.out.2.trans (hb2.mono (Nat.le_trans (by omega) HREL.out.2.size))); clear ho2 hb2 hA2 hC2) | (at_builtin; refine wpList_append_gen _ rfl (.tmp 26) (.tmp 30) _ rfl (w.heap.size + 1) 5 i0 (.int .u8 0) 1 1 Tryz.underlying22 hi hz0 hz1 hz2 rfl (by decide) _ (natL k ++ pO).length ((natL k ++ pO).map u8v) rfl HO2.out A2 _ c2 ((natL nu).map u8v) rfl (by simp) HA2.out HC2.out (by simp [u8v, Value.oneCell']) (by unfold maxLen; (try simp only [List.length_append]); have := HPL.out; omega) (by (try simp only [List.length_append]); have := HPL.out; omega) hs4 ?_; intro v1 w5 ho5 hg5; have HO5 := hid ho5; have HG5 := hid hg5; clear ho5 hg5))
          go_meet
          rw [E.out]
          refine ⟨?_, Below.grown HBx.out HG5.out hs4 (fun j e => (HO2.out.lt j e).1)⟩
          rw [List.length_append, List.map_append]
          exact HO5.out
        | false =>
          have e := HPN.out
          rw [hb, if_neg (by simp)] at e
          go_wp2_with fail
          go_meet
          subst e
          exact ⟨by rw [List.append_nil]; exact HREL.out.1, HREL.out.2⟩
      case rest =>
        have HREL := hid hcut
        clear hcut
        obtain ⟨s0, -, -, -, -⟩ := UU.out _ HREL.out.2
        go_upto_if 35 with (go_at_call 61; refine (PM.out _).mono ?_; rintro e w' ⟨rfl, rfl⟩)
        go_cut [5] (fun v wx => wx.ownsRow (w.heap.size + 1) 5 1 v (natL k ++ pO ++ pN ++ pI).length ((natL k ++ pO ++ pN ++ pI).map u8v) ∧ Below (w.heap.size + 1) W1 wx)
        case first =>
          by_cases hb : 0 ≤ mostI (k : Int)
          · have e := HPI.out
            rw [if_pos hb] at e
            have HPL := hid (show (natL ix).length = pI.length from by rw [e])
            have E := hid e
            clear e
            obtain ⟨-, -, -, s3, -⟩ := UU.out _ HREL.out.2
            go_wp2_with (first | (go_at_call 88; refine (HNT.out ix (by omega) _).mono ?_; rintro o w4 ⟨v2, rfl, ho2, hb2⟩; obtain ⟨A2, c2, rfl, hA2, hC2⟩ := own_news ho2; have HA2 := hid hA2; have HC2 := hid hC2; have HO2 := hid (ownsRow_below HREL.out.1 hb2); have hs4 : w.heap.size + 1 ≤ w4.heap.size := Nat.le_trans (Nat.le_trans (by omega) HREL.out.2.size) hb2.size; have HBx := hid (HREL.out.2.trans (hb2.mono (Nat.le_trans (by omega) HREL.out.2.size))); clear ho2 hb2 hA2 hC2) | (at_builtin; refine wpList_append_gen _ rfl (.tmp 36) (.tmp 40) _ rfl (w.heap.size + 1) 5 i0 (.int .u8 0) 1 1 Tryz.underlying22 hi hz0 hz1 hz2 rfl (by decide) _ (natL k ++ pO ++ pN).length ((natL k ++ pO ++ pN).map u8v) rfl HO2.out A2 _ c2 ((natL ix).map u8v) rfl (by simp) HA2.out HC2.out (by simp [u8v, Value.oneCell']) (by unfold maxLen; (try simp only [List.length_append]); have := HPL.out; omega) (by (try simp only [List.length_append]); have := HPL.out; omega) hs4 ?_; intro v1 w5 ho5 hg5; have HO5 := hid ho5; have HG5 := hid hg5; clear ho5 hg5))
            go_meet
            rw [E.out]
            refine ⟨?_, Below.grown HBx.out HG5.out hs4 (fun j e => (HO2.out.lt j e).1)⟩
            rw [List.length_append, List.map_append]
            exact HO5.out
          · have e := HPI.out
            rw [if_neg hb] at e
            go_wp2_with fail
            go_meet
            subst e
            exact ⟨by rw [List.append_nil]; exact HREL.out.1, HREL.out.2⟩
        case rest =>
          have HREL := hid hcut
          clear hcut
          obtain ⟨s0, -, -, -, -⟩ := UU.out _ HREL.out.2
          go_upto_if 44 with (go_at_call 62; refine (PT.out _).mono ?_; rintro e w' ⟨rfl, rfl⟩)
          go_cut [5] (fun v wx => wx.ownsRow (w.heap.size + 1) 5 1 v (natL k ++ pO ++ pN ++ pI ++ pT).length ((natL k ++ pO ++ pN ++ pI ++ pT).map u8v) ∧ Below (w.heap.size + 1) W1 wx)
          case first =>
            cases hb : txtB (k : Int) with
            | true =>
              have e := HPT.out
              rw [hb, if_pos rfl] at e
              have HPL := hid (show (txtL text.data.toList).length = pT.length from by rw [e])
              have E := hid e
              clear e
              obtain ⟨-, -, -, -, s4⟩ := UU.out _ HREL.out.2
              go_wp2_with (first | (go_at_call 89; refine (HT.out text ht _).mono ?_; rintro o w4 ⟨v2, rfl, ho2, hb2⟩; obtain ⟨A2, c2, rfl, hA2, hC2⟩ := own_news ho2; have HA2 := hid hA2; have HC2 := hid hC2; have HO2 := hid (ownsRow_below HREL.out.1 hb2); have hs4 : w.heap.size + 1 ≤ w4.heap.size := Nat.le_trans (Nat.le_trans (by omega) HREL.out.2.size) hb2.size; have HBx := hid (HREL.out.2.trans (hb2.mono (Nat.le_trans (by omega) HREL.out.2.size))); clear ho2 hb2 hA2 hC2) | (at_builtin; refine wpList_append_gen _ rfl (.tmp 45) (.tmp 48) _ rfl (w.heap.size + 1) 5 i0 (.int .u8 0) 1 1 Tryz.underlying22 hi hz0 hz1 hz2 rfl (by decide) _ (natL k ++ pO ++ pN ++ pI).length ((natL k ++ pO ++ pN ++ pI).map u8v) rfl HO2.out A2 _ c2 ((txtL text.data.toList).map u8v) rfl (by simp) HA2.out HC2.out (by simp [u8v, Value.oneCell']) (by unfold maxLen; (try simp only [List.length_append]); have := HPL.out; omega) (by (try simp only [List.length_append]); have := HPL.out; omega) hs4 ?_; intro v1 w5 ho5 hg5; have HO5 := hid ho5; have HG5 := hid hg5; clear ho5 hg5))
              go_meet
              rw [E.out]
              refine ⟨?_, Below.grown HBx.out HG5.out hs4 (fun j e => (HO2.out.lt j e).1)⟩
              rw [List.length_append, List.map_append]
              exact HO5.out
            | false =>
              have e := HPT.out
              rw [hb, if_neg (by simp)] at e
              go_wp2_with fail
              go_meet
              subst e
              exact ⟨by rw [List.append_nil]; exact HREL.out.1, HREL.out.2⟩
          case rest =>
            have HREL := hid hcut
            have e := HE.out
            have hacc : natL k ++ pO ++ pN ++ pI ++ pT = enc := by rw [e]; simp only [List.append_assoc]
            rw [hacc] at HREL
            clear hcut HE e hacc
            obtain ⟨A, c, hu5, hs, -⟩ := own_shape HREL.out.1
            subst hu5
            have hcv := hs.str
            clear hs
            go_wp2_with fail
            all_goals go_ret2
            exact ⟨rfl, HB1.out.trans (HREL.out.2.mono (by omega))⟩
  · rw [if_neg hc]
    have hcb : (checkN n != 0) = true := by simp [hc]
    clear hc
    generalize checkN n = c at *
    obtain ⟨kind, owner, number, index, text⟩ := n
    unfold nmV at *
    go_enter Tryz.func63, Tryz.ntmps63
    go_wp2_with (go_at_call 87; refine (CK.out _).mono ?_; rintro o w2 ⟨rfl, hb⟩)
    go_ret2
    exact ⟨rfl, HB0.out.trans (hb.mono (by simp))⟩
end Go.Proofs.YtfdbanhbegngoaaGreatDoor
namespace Go.Proofs.YtfdbanhbegngoaaGreatDoor
open Go.RowKit

/-- Where the reference's Decode stands: the name so far, the result's cell. -/
structure RfAt (W w : World) (k : Int) (ow : Bs) (nu ix : Int) (tx : Bs) : Prop where
  nm : Blk w (W.heap.size + 1) 63 #[.int .i64 k, .string (strB ow), .int .i64 nu, .int .i64 ix, .string (strB tx)]
  re : Blk w W.heap.size 63 #[.int .i64 0, .string ⟨#[]⟩, .int .i64 0, .int .i64 0, .string ⟨#[]⟩]
  be : Below W.heap.size W w
section
variable {W w w' : World} {k nu ix : Int} {ow tx : Bs}
theorem RfAt.kept (h : RfAt W w k ow nu ix tx) (hb : Below w.heap.size w w') : RfAt W w' k ow nu ix tx := ⟨h.nm.below hb h.nm.lt, h.re.below hb h.re.lt, h.be.trans (hb.mono h.be.size)⟩
theorem RfAt.setK (h : RfAt W w k ow nu ix tx) (x : Int) : RfAt W (w.setCell ⟨W.heap.size + 1, 0, none⟩ (.int .i64 x)) x ow nu ix tx := ⟨h.nm.set_ 0 _, h.re.far (fun e => by have : W.heap.size = W.heap.size + 1 := e; omega) _, h.be.setCell (Nat.le_succ _) _⟩
theorem RfAt.setO (h : RfAt W w k ow nu ix tx) (x : Bs) : RfAt W (w.setCell ⟨W.heap.size + 1, 1, none⟩ (.string (strB x))) k x nu ix tx := ⟨h.nm.set_ 1 _, h.re.far (fun e => by have : W.heap.size = W.heap.size + 1 := e; omega) _, h.be.setCell (Nat.le_succ _) _⟩
theorem RfAt.setN (h : RfAt W w k ow nu ix tx) (x : Int) : RfAt W (w.setCell ⟨W.heap.size + 1, 2, none⟩ (.int .i64 x)) k ow x ix tx := ⟨h.nm.set_ 2 _, h.re.far (fun e => by have : W.heap.size = W.heap.size + 1 := e; omega) _, h.be.setCell (Nat.le_succ _) _⟩
theorem RfAt.setI (h : RfAt W w k ow nu ix tx) (x : Int) : RfAt W (w.setCell ⟨W.heap.size + 1, 3, none⟩ (.int .i64 x)) k ow nu x tx := ⟨h.nm.set_ 3 _, h.re.far (fun e => by have : W.heap.size = W.heap.size + 1 := e; omega) _, h.be.setCell (Nat.le_succ _) _⟩
theorem RfAt.setT (h : RfAt W w k ow nu ix tx) (x : Bs) : RfAt W (w.setCell ⟨W.heap.size + 1, 4, none⟩ (.string (strB x))) k ow nu ix x := ⟨h.nm.set_ 4 _, h.re.far (fun e => by have : W.heap.size = W.heap.size + 1 := e; omega) _, h.be.setCell (Nat.le_succ _) _⟩
end
theorem pc_le (s : Bs) : (pc s).1.length ≤ s.length ∧ (pc s).2.length ≤ s.length := by
  have h := tk_le s
  unfold pc
  split
  · exact ⟨Nat.zero_le _, Nat.zero_le _⟩
  · simp only [List.length_take, List.length_drop]; omega
theorem rfK_le (s : Bs) : (rfK s).2.length ≤ s.length := tk_le s
theorem rfO_le (s : Bs) : (rfO s).1.length ≤ s.length ∧ (rfO s).2.length ≤ s.length := by
  have h := rfK_le s
  have h2 := pc_le (rfK s).2
  unfold rfO
  split
  · omega
  · exact ⟨Nat.zero_le _, h⟩
theorem rfN_le (s : Bs) : (rfN s).2.length ≤ s.length := by
  have h := (rfO_le s).2
  have h2 := tk_le (rfO s).2
  unfold rfN
  split
  · omega
  · exact h
theorem rfI_le (s : Bs) : (rfI s).2.length ≤ s.length := by
  have h := rfN_le s
  have h2 := tk_le (rfN s).2
  unfold rfI
  split
  · omega
  · exact h
theorem rfT_le (s : Bs) : (rfT s).1.length ≤ s.length ∧ (rfT s).2.length ≤ s.length := by
  have h := rfI_le s
  have h2 := pc_le (rfI s).2
  unfold rfT
  split
  · omega
  · exact ⟨Nat.zero_le _, h⟩
instance (s : Bs) : Decidable (rfOk s) := by unfold rfOk; infer_instance
theorem strB_eq (a b : Bs) : ((strB a).toList == (strB b).toList) = decide (a = b) := by
  rw [ByteArray.toList_eq, ByteArray.toList_eq, strB_toList, strB_toList]
  by_cases h : a = b
  · simp [h]
  · simp [h]
theorem strB_emp (a : Bs) : (strB a).toList.isEmpty = decide (a = []) := by
  rw [ByteArray.toList_eq, strB_toList]
  cases a <;> simp

set_option maxRecDepth 100000 in
set_option maxHeartbeats 3200000 in
theorem refDecode4_any (s : Bs) (hs : s.length ≤ 1000000) (w : World) :
    Calls Tryz.prog 25 #[.string (strB s)] w fun o w' => o = .returned (.tuple #[nmV (if rfOk s then rfNm s else zeroN), .int .i64 (if rfOk s then 0 else 3)]) ∧ Below w.heap.size w w' := by
  have l1 := rfK_le s
  have l2 := rfO_le s
  have l3 := rfN_le s
  have l4 := rfI_le s
  have l5 := rfT_le s
  have TK := hid (fun (r : Bs) (h : r.length ≤ 1000000) w' => refTake_any r h w')
  have PC := hid (fun (r : Bs) (h : r.length ≤ 1000000) w' => refPiece_any r h w')
  have EN := hid (fun w' => refEncode4_any (rfNm s) (show (rfO s).1.length ≤ 1000000 by omega) (show (rfT s).1.length ≤ 1000000 by omega) w')
  have PO := hid (own_any (rfK s).1); have PN := hid (num_any (rfK s).1); have PM := hid (most_any (rfK s).1); have PT := hid (txt_any (rfK s).1)
  have TK0 := hid (show ∀ w', Calls Tryz.prog 57 #[.string (strB s)] w' fun o w2 => o = .returned (.tuple #[.int .i64 (rfK s).1, .string (strB (rfK s).2)]) ∧ Below w'.heap.size w' w2 from fun w' => refTake_any s hs w')
  generalize hXN : (if rfOk s then rfNm s else zeroN) = XN
  generalize hXE : (if rfOk s then (0 : Int) else 3) = XE
  have HXN := hid hXN
  have HXE := hid hXE
  have L2 := hid l2; have L5 := hid l5; have L1 := hid l1; have L3 := hid l3; have L4 := hid l4; have HS := hid hs
  clear hXN hXE l1 l2 l3 l4 l5 hs
  have hw0 : RfAt w ((w.alloc (.cells #[.int .i64 0, .string ⟨#[]⟩, .int .i64 0, .int .i64 0, .string ⟨#[]⟩] 63)).alloc (.cells #[.int .i64 0, .string ⟨#[]⟩, .int .i64 0, .int .i64 0, .string ⟨#[]⟩] 63)) 0 [] 0 0 [] := ⟨Blk.new_ _ _ _ (by simp), (Blk.new _ _ _).alloc _, ((Below.refl _ _).alloc (Nat.le_refl _) _).alloc (by simp) _⟩
  have HW0 := hid hw0
  clear hw0
  go_enter Tryz.func25, Tryz.ntmps25
  go_upto_if 17 with (first
    | (go_at_call 57; refine (TK0.out _).mono ?_; rintro o w3 ⟨rfl, hb⟩; have H3 := hid (HW0.out.kept hb); have q1 : w3.cell? ⟨w.heap.size + 1, 0, none⟩ = some (.int .i64 0) := H3.out.nm.cell 0; have q2 := H3.out.nm.frozen 0; have q3 := (H3.out.setK (rfK s).1).nm.cell 0; clear hb)
    | (go_at_call 58; refine (PO.out _).mono ?_; rintro e w' ⟨rfl, rfl⟩))
  have HAT := hid (H3.out.setK (rfK s).1)
  go_cut [5] (fun r wx => r = .string (strB (rfO s).2) ∧ RfAt w wx (rfK s).1 (rfO s).1 0 0 [])
  case first =>
    cases hb : ownB (rfK s).1 with
    | true =>
      have e : rfO s = pc (rfK s).2 := by unfold rfO; rw [if_pos hb]
      have E := hid e
      clear e
      go_wp2_with (go_at_call 59; refine (PC.out (rfK s).2 (by have := L1.out; have := HS.out; omega) _).mono ?_; rintro o w4 ⟨rfl, hb4⟩; have H4 := hid (HAT.out.kept hb4); have q1 : w4.cell? ⟨w.heap.size + 1, 1, none⟩ = some (.string (strB [])) := H4.out.nm.cell 1; have q2 := H4.out.nm.frozen 1; clear hb4)
      go_meet
      rw [E.out]
      exact ⟨rfl, H4.out.setO _⟩
    | false =>
      have e : rfO s = ([], (rfK s).2) := by unfold rfO; rw [if_neg (by simp [hb])]
      have E := hid e
      clear e
      go_wp2_with fail
      go_meet
      rw [E.out]
      exact ⟨rfl, HAT.out⟩
  case rest =>
    obtain ⟨rfl, hcut⟩ := hcut
    have d0 : wc.cell? ⟨w.heap.size + 1, 0, none⟩ = some (.int .i64 (rfK s).1) := hcut.nm.cell 0
    have HAT := hid hcut
    go_upto_if 26 with (go_at_call 60; refine (PN.out _).mono ?_; rintro e w' ⟨rfl, rfl⟩)
    go_cut [5] (fun r wx => r = .string (strB (rfN s).2) ∧ RfAt w wx (rfK s).1 (rfO s).1 (rfN s).1 0 [])
    case first =>
      cases hb : numB (rfK s).1 with
      | true =>
        have e : rfN s = tk (rfO s).2 := by unfold rfN; rw [if_pos hb]
        have E := hid e
        clear e
        go_wp2_with (go_at_call 57; refine (TK.out (rfO s).2 (by have := L2.out; have := HS.out; omega) _).mono ?_; rintro o w4 ⟨rfl, hb4⟩; have H4 := hid (HAT.out.kept hb4); have q1 : w4.cell? ⟨w.heap.size + 1, 2, none⟩ = some (.int .i64 0) := H4.out.nm.cell 2; have q2 := H4.out.nm.frozen 2; clear hb4)
        go_meet
        rw [E.out]
        exact ⟨rfl, H4.out.setN _⟩
      | false =>
        have e : rfN s = (0, (rfO s).2) := by unfold rfN; rw [if_neg (by simp [hb])]
        have E := hid e
        clear e
        go_wp2_with fail
        go_meet
        rw [E.out]
        exact ⟨rfl, HAT.out⟩
    case rest =>
      obtain ⟨rfl, hcut⟩ := hcut
      have d0 : wc.cell? ⟨w.heap.size + 1, 0, none⟩ = some (.int .i64 (rfK s).1) := hcut.nm.cell 0
      have HAT := hid hcut
      go_upto_if 36 with (go_at_call 61; refine (PM.out _).mono ?_; rintro e w' ⟨rfl, rfl⟩)
      go_cut [5] (fun r wx => r = .string (strB (rfI s).2) ∧ RfAt w wx (rfK s).1 (rfO s).1 (rfN s).1 (rfI s).1 [])
      case first =>
        by_cases hb : 0 ≤ mostI (rfK s).1
        · have e : rfI s = tk (rfN s).2 := by unfold rfI; rw [if_pos hb]
          have E := hid e
          clear e
          go_wp2_with (go_at_call 57; refine (TK.out (rfN s).2 (by have := L3.out; have := HS.out; omega) _).mono ?_; rintro o w4 ⟨rfl, hb4⟩; have H4 := hid (HAT.out.kept hb4); have q1 : w4.cell? ⟨w.heap.size + 1, 3, none⟩ = some (.int .i64 0) := H4.out.nm.cell 3; have q2 := H4.out.nm.frozen 3; clear hb4)
          go_meet
          rw [E.out]
          exact ⟨rfl, H4.out.setI _⟩
        · have e : rfI s = (0, (rfN s).2) := by unfold rfI; rw [if_neg hb]
          have E := hid e
          clear e
          go_wp2_with fail
          go_meet
          rw [E.out]
          exact ⟨rfl, HAT.out⟩
      case rest =>
        obtain ⟨rfl, hcut⟩ := hcut
        have d0 : wc.cell? ⟨w.heap.size + 1, 0, none⟩ = some (.int .i64 (rfK s).1) := hcut.nm.cell 0
        have HAT := hid hcut
        go_upto_if 45 with (go_at_call 62; refine (PT.out _).mono ?_; rintro e w' ⟨rfl, rfl⟩)
        go_cut [5] (fun r wx => r = .string (strB (rfT s).2) ∧ RfAt w wx (rfK s).1 (rfO s).1 (rfN s).1 (rfI s).1 (rfT s).1)
        case first =>
          cases hb : txtB (rfK s).1 with
          | true =>
            have e : rfT s = pc (rfI s).2 := by unfold rfT; rw [if_pos hb]
            have E := hid e
            clear e
            go_wp2_with (go_at_call 59; refine (PC.out (rfI s).2 (by have := L4.out; have := HS.out; omega) _).mono ?_; rintro o w4 ⟨rfl, hb4⟩; have H4 := hid (HAT.out.kept hb4); have q1 : w4.cell? ⟨w.heap.size + 1, 4, none⟩ = some (.string (strB [])) := H4.out.nm.cell 4; have q2 := H4.out.nm.frozen 4; clear hb4)
            go_meet
            rw [E.out]
            exact ⟨rfl, H4.out.setT _⟩
          | false =>
            have e : rfT s = ([], (rfI s).2) := by unfold rfT; rw [if_neg (by simp [hb])]
            have E := hid e
            clear e
            go_wp2_with fail
            go_meet
            rw [E.out]
            exact ⟨rfl, HAT.out⟩
        case rest =>
          obtain ⟨rfl, hcut⟩ := hcut
          have HAT := hid hcut
          have d0 : wc.cell? ⟨w.heap.size + 1, 0, none⟩ = some (.int .i64 (rfK s).1) := hcut.nm.cell 0
          have d1 : wc.cell? ⟨w.heap.size + 1, 1, none⟩ = some (.string (strB (rfO s).1)) := hcut.nm.cell 1
          have d2 : wc.cell? ⟨w.heap.size + 1, 2, none⟩ = some (.int .i64 (rfN s).1) := hcut.nm.cell 2
          have d3 : wc.cell? ⟨w.heap.size + 1, 3, none⟩ = some (.int .i64 (rfI s).1) := hcut.nm.cell 3
          have d4 : wc.cell? ⟨w.heap.size + 1, 4, none⟩ = some (.string (strB (rfT s).1)) := hcut.nm.cell 4
          unfold nmV at EN
          by_cases hck : checkN (rfNm s) = 0
          · rw [if_pos hck, hck] at EN
            have hs1 := strB_eq (encN (rfNm s)) s
            have hs2 := strB_emp (rfT s).2
            by_cases hse : encN (rfNm s) = s
            · rw [decide_eq_true hse] at hs1
              by_cases hre : (rfT s).2 = []
              · rw [decide_eq_true hre] at hs2
                have hyes : rfOk s := ⟨hck, hse, hre⟩
                have hx1 := HXN.out
                have hx2 := HXE.out
                rw [if_pos hyes] at hx1 hx2
                subst hx1 hx2
                clear hyes HXN HXE hck hse hre
                go_wp2_with (first | (go_at_call 63; refine (EN.out _).mono ?_; rintro o w5 ⟨rfl, hb5⟩; have H5 := hid (HAT.out.kept hb5); have n0 : w5.cell? ⟨w.heap.size + 1, 0, none⟩ = some (.int .i64 (rfK s).1) := H5.out.nm.cell 0; have n1 : w5.cell? ⟨w.heap.size + 1, 1, none⟩ = some (.string (strB (rfO s).1)) := H5.out.nm.cell 1; have n2 : w5.cell? ⟨w.heap.size + 1, 2, none⟩ = some (.int .i64 (rfN s).1) := H5.out.nm.cell 2; have n3 : w5.cell? ⟨w.heap.size + 1, 3, none⟩ = some (.int .i64 (rfI s).1) := H5.out.nm.cell 3; have n4 : w5.cell? ⟨w.heap.size + 1, 4, none⟩ = some (.string (strB (rfT s).1)) := H5.out.nm.cell 4; clear hb5) | (refine wpList_store_row rfl 63 _ _ rfl w.heap.size #[.int .i64 (rfK s).1, .string (strB (rfO s).1), .int .i64 (rfN s).1, .int .i64 (rfI s).1, .string (strB (rfT s).1)] rfl rfl 63 #[.int .i64 0, .string ⟨#[]⟩, .int .i64 0, .int .i64 0, .string ⟨#[]⟩] H5.out.re rfl rfl (one5 _ _ _ _ _) ?_))
                refine bodyPost_ret (v := .tuple #[.agg #[.int .i64 (rfK s).1, .string (strB (rfO s).1), .int .i64 (rfN s).1, .int .i64 (rfI s).1, .string (strB (rfT s).1)], .int .i64 0]) ?_ ?_ ?_
                · exact results_cell_two rfl _ _ w.heap.size 63 #[.int .i64 (rfK s).1, .string (strB (rfO s).1), .int .i64 (rfN s).1, .int .i64 (rfI s).1, .string (strB (rfT s).1)] (0, 0) _ _ rfl rfl (setRow_heap _ _ _ _ _ _ H5.out.re) Tryz.underlying63 rfl (by kernel_rfl)
                · rfl
                · exact ⟨rfl, below_setRow H5.out.be (Nat.le_refl _) _⟩
              · rw [decide_eq_false hre] at hs2
                have hno : ¬ rfOk s := fun h => hre h.2.2
                have hx1 := HXN.out
                have hx2 := HXE.out
                rw [if_neg hno] at hx1 hx2
                subst hx1 hx2
                clear hno HXN HXE
                clear hck hse hre
                go_wp2_with (first | (go_at_call 63; refine (EN.out _).mono ?_; rintro o w5 ⟨rfl, hb5⟩; have H5 := hid (HAT.out.kept hb5); have n0 : w5.cell? ⟨w.heap.size + 1, 0, none⟩ = some (.int .i64 (rfK s).1) := H5.out.nm.cell 0; have n1 : w5.cell? ⟨w.heap.size + 1, 1, none⟩ = some (.string (strB (rfO s).1)) := H5.out.nm.cell 1; have n2 : w5.cell? ⟨w.heap.size + 1, 2, none⟩ = some (.int .i64 (rfN s).1) := H5.out.nm.cell 2; have n3 : w5.cell? ⟨w.heap.size + 1, 3, none⟩ = some (.int .i64 (rfI s).1) := H5.out.nm.cell 3; have n4 : w5.cell? ⟨w.heap.size + 1, 4, none⟩ = some (.string (strB (rfT s).1)) := H5.out.nm.cell 4; clear hb5) | (refine wpList_store_row rfl 63 _ _ rfl w.heap.size #[.int .i64 0, .string ⟨#[]⟩, .int .i64 0, .int .i64 0, .string ⟨#[]⟩] rfl rfl 63 #[.int .i64 0, .string ⟨#[]⟩, .int .i64 0, .int .i64 0, .string ⟨#[]⟩] H5.out.re rfl rfl (one5 _ _ _ _ _) ?_))
                refine bodyPost_ret (v := .tuple #[.agg #[.int .i64 0, .string ⟨#[]⟩, .int .i64 0, .int .i64 0, .string ⟨#[]⟩], .int .i64 3]) ?_ ?_ ?_
                · exact results_cell_two rfl _ _ w.heap.size 63 #[.int .i64 0, .string ⟨#[]⟩, .int .i64 0, .int .i64 0, .string ⟨#[]⟩] (0, 0) _ _ rfl rfl (setRow_heap _ _ _ _ _ _ H5.out.re) Tryz.underlying63 rfl (by kernel_rfl)
                · rfl
                · exact ⟨rfl, below_setRow H5.out.be (Nat.le_refl _) _⟩
            · rw [decide_eq_false hse] at hs1
              have hno : ¬ rfOk s := fun h => hse h.2.1
              have hx1 := HXN.out
              have hx2 := HXE.out
              rw [if_neg hno] at hx1 hx2
              subst hx1 hx2
              clear hno HXN HXE
              clear hck hse
              go_wp2_with (first | (go_at_call 63; refine (EN.out _).mono ?_; rintro o w5 ⟨rfl, hb5⟩; have H5 := hid (HAT.out.kept hb5); have n0 : w5.cell? ⟨w.heap.size + 1, 0, none⟩ = some (.int .i64 (rfK s).1) := H5.out.nm.cell 0; have n1 : w5.cell? ⟨w.heap.size + 1, 1, none⟩ = some (.string (strB (rfO s).1)) := H5.out.nm.cell 1; have n2 : w5.cell? ⟨w.heap.size + 1, 2, none⟩ = some (.int .i64 (rfN s).1) := H5.out.nm.cell 2; have n3 : w5.cell? ⟨w.heap.size + 1, 3, none⟩ = some (.int .i64 (rfI s).1) := H5.out.nm.cell 3; have n4 : w5.cell? ⟨w.heap.size + 1, 4, none⟩ = some (.string (strB (rfT s).1)) := H5.out.nm.cell 4; clear hb5) | (refine wpList_store_row rfl 63 _ _ rfl w.heap.size #[.int .i64 0, .string ⟨#[]⟩, .int .i64 0, .int .i64 0, .string ⟨#[]⟩] rfl rfl 63 #[.int .i64 0, .string ⟨#[]⟩, .int .i64 0, .int .i64 0, .string ⟨#[]⟩] H5.out.re rfl rfl (one5 _ _ _ _ _) ?_))
              refine bodyPost_ret (v := .tuple #[.agg #[.int .i64 0, .string ⟨#[]⟩, .int .i64 0, .int .i64 0, .string ⟨#[]⟩], .int .i64 3]) ?_ ?_ ?_
              · exact results_cell_two rfl _ _ w.heap.size 63 #[.int .i64 0, .string ⟨#[]⟩, .int .i64 0, .int .i64 0, .string ⟨#[]⟩] (0, 0) _ _ rfl rfl (setRow_heap _ _ _ _ _ _ H5.out.re) Tryz.underlying63 rfl (by kernel_rfl)
              · rfl
              · exact ⟨rfl, below_setRow H5.out.be (Nat.le_refl _) _⟩
          · rw [if_neg hck] at EN
            have hckb : (checkN (rfNm s) != 0) = true := by simp [hck]
            have hno : ¬ rfOk s := fun h => hck h.1
            have hx1 := HXN.out
            have hx2 := HXE.out
            rw [if_neg hno] at hx1 hx2
            subst hx1 hx2
            clear hno HXN HXE
            clear hck
            go_wp2_with (first | (go_at_call 63; refine (EN.out _).mono ?_; rintro o w5 ⟨rfl, hb5⟩; have H5 := hid (HAT.out.kept hb5); have n0 : w5.cell? ⟨w.heap.size + 1, 0, none⟩ = some (.int .i64 (rfK s).1) := H5.out.nm.cell 0; have n1 : w5.cell? ⟨w.heap.size + 1, 1, none⟩ = some (.string (strB (rfO s).1)) := H5.out.nm.cell 1; have n2 : w5.cell? ⟨w.heap.size + 1, 2, none⟩ = some (.int .i64 (rfN s).1) := H5.out.nm.cell 2; have n3 : w5.cell? ⟨w.heap.size + 1, 3, none⟩ = some (.int .i64 (rfI s).1) := H5.out.nm.cell 3; have n4 : w5.cell? ⟨w.heap.size + 1, 4, none⟩ = some (.string (strB (rfT s).1)) := H5.out.nm.cell 4; clear hb5) | (refine wpList_store_row rfl 63 _ _ rfl w.heap.size #[.int .i64 0, .string ⟨#[]⟩, .int .i64 0, .int .i64 0, .string ⟨#[]⟩] rfl rfl 63 #[.int .i64 0, .string ⟨#[]⟩, .int .i64 0, .int .i64 0, .string ⟨#[]⟩] H5.out.re rfl rfl (one5 _ _ _ _ _) ?_))
            refine bodyPost_ret (v := .tuple #[.agg #[.int .i64 0, .string ⟨#[]⟩, .int .i64 0, .int .i64 0, .string ⟨#[]⟩], .int .i64 3]) ?_ ?_ ?_
            · exact results_cell_two rfl _ _ w.heap.size 63 #[.int .i64 0, .string ⟨#[]⟩, .int .i64 0, .int .i64 0, .string ⟨#[]⟩] (0, 0) _ _ rfl rfl (setRow_heap _ _ _ _ _ _ H5.out.re) Tryz.underlying63 rfl (by kernel_rfl)
            · rfl
            · exact ⟨rfl, below_setRow H5.out.be (Nat.le_refl _) _⟩
end Go.Proofs.YtfdbanhbegngoaaGreatDoor
