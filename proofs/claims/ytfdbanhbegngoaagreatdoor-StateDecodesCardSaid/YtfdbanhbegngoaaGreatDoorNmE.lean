/-
  LAYER 4, WALKED: object.Name.Encode, at a name that passes Check.
-/
import Derived.Test.YtfdbanhbegngoaaGreatDoorNmR
namespace Go.Proofs.YtfdbanhbegngoaaGreatDoor
open Go.RowKit

set_option maxRecDepth 100000 in
set_option maxHeartbeats 3200000 in
theorem encode4_any (n : Nm) (hn : n.Ok) (hc : checkN n = 0) (hl : (encN n).length ≤ 1000000) (w : World) :
    Calls Tryz.prog 35 #[nmV n] w fun o w' => o = .returned (.tuple #[.string (strB (encN n)), .int .i64 0]) ∧ Below w.heap.size w w' := by
  have CK := hid (show ∀ w', Calls Tryz.prog 38 #[nmV n] w' fun e w2 => e = .returned (.int .i64 0) ∧ Below w'.heap.size w' w2 from fun w' => by have := checkN_any n hn w'; rw [hc] at this; exact this)
  have g := Nm.good hc
  have k1 := g.k1
  have k2 := g.k2
  have r1 := g.nr
  have r2 := g.ir
  have hm : mostI n.kind ≤ 1073741824 := by unfold mostI; split; omega; split <;> omega
  obtain ⟨e1, e2, e3, e4⟩ := kinds_eq n.kind.toNat (by omega) (by omega)
  have hE : encN n = natL n.kind.toNat ++ ((if ownB n.kind then txtL n.owner.data.toList else []) ++ ((if numB n.kind then natL n.number.toNat else []) ++ ((if 0 ≤ mostI n.kind then natL n.index.toNat else []) ++ (if txtB n.kind then txtL n.text.data.toList else [])))) := rfl
  clear g hc hn
  obtain ⟨kind, owner, number, index, text⟩ := n
  dsimp only at k1 k2 r1 r2 hm e1 e2 e3 e4 hE
  obtain ⟨k, rfl⟩ : ∃ k : Nat, kind = k := ⟨kind.toNat, by omega⟩
  obtain ⟨nu, rfl⟩ : ∃ k : Nat, number = k := ⟨number.toNat, by omega⟩
  obtain ⟨ix, rfl⟩ : ∃ k : Nat, index = k := ⟨index.toNat, by omega⟩
  simp only [Int.toNat_natCast] at hE e1 e2 e3 e4
  rw [← e1, ← e2, ← e3, ← e4] at hE
  rw [← e4] at r2 hm
  clear e1 e2 e3 e4
  have hu := uses_at0 k (by omega)
  obtain ⟨pO, hpO⟩ : ∃ p, p = (if kOwn k then txtL owner.data.toList else []) := ⟨_, rfl⟩
  obtain ⟨pN, hpN⟩ : ∃ p, p = (if kNum k then natL nu else []) := ⟨_, rfl⟩
  obtain ⟨pI, hpI⟩ : ∃ p, p = (if 0 ≤ kMost k then natL ix else []) := ⟨_, rfl⟩
  obtain ⟨pT, hpT⟩ : ∃ p, p = (if kTxt k then txtL text.data.toList else []) := ⟨_, rfl⟩
  rw [← hpO, ← hpN, ← hpI, ← hpT] at hE
  have hLN := congrArg List.length hE
  simp only [List.length_append] at hLN
  rw [hLN] at hl
  have hOs : kOwn k = true → owner.size ≤ 1000000 := fun hb => by
    rw [hb, if_pos rfl] at hpO
    have := congrArg List.length hpO
    rw [txtL, List.length_append, ← ba_size] at this
    omega
  have hTs : kTxt k = true → text.size ≤ 1000000 := fun hb => by
    rw [hb, if_pos rfl] at hpT
    have := congrArg List.length hpT
    rw [txtL, List.length_append, ← ba_size] at this
    omega
  have HE := hid hE; have HPO := hid hpO; have HPN := hid hpN; have HPI := hid hpI; have HPT := hid hpT; have HOS := hid hOs; have HTS := hid hTs
  clear hE hpO hpN hpI hpT hLN hOs hTs
  generalize encN _ = enc at *
  have WN := hid (fun B g b (u : Nat) (hu : u < 9223372036854775808) (hb : b.length ≤ 999999000) w' (hBw : B ≤ w'.heap.size) (h : Wr w' B g b 0) => wnumber_any B g b 0 u hu hb w' hBw h)
  have WT := hid (fun B g b (s : ByteArray) (hs : s.size ≤ 16777216) (hb : b.length ≤ 900000000) w' (hBw : B ≤ w'.heap.size) (h : Wr w' B g b 0) => wtext_any B g b 0 s hs hb w' hBw h)
  simp only [if_pos] at WN WT
  have WB := hid (fun B g b (hb : b.length ≤ 1000000000) w' (h : Wr w' B g b 0) => wbytes_any B g b hb w' h)
  have NW := hid newWriter_any
  unfold nmV at *
  have hw0 := (Below.refl w.heap.size w).alloc (Nat.le_refl _) (.cells #[.int .i64 k, .string owner, .int .i64 nu, .int .i64 ix, .string text] 38)
  have HB0 := hid hw0
  have hbx := Blk.new w 38 #[.int .i64 k, .string owner, .int .i64 nu, .int .i64 ix, .string text]
  have HBX := hid hbx
  clear hw0 hbx
  go_enter Tryz.func35, Tryz.ntmps35
  go_upto_region 4 with (first
    | (go_at_call 38; refine (CK.out _).mono ?_; rintro o w1 ⟨rfl, hb1⟩; have HB1 := hid hb1; have hx1 := Blk.below HBX.out hb1 (by simp); have d0 : w1.cell? ⟨w.heap.size, 0, none⟩ = some (.int .i64 k) := hx1.cell 0; have HX1 := hid hx1; clear hb1 hx1))
  have hx1 := HX1.out
  have hB1 : Below w.heap.size w w1 := HB0.out.trans (HB1.out.mono (by simp))
  clear HB0 HBX HB1
  go_cut [5] (fun p wx => ∃ ub, p = .pointer (some ⟨ub, 0, none⟩) ∧ Blk wx ub 99 #[.string (kWord k), .bool (kOwn k), .bool (kNum k), .bool (kTxt k), .int .i64 (kMost k)] ∧
    Blk wx w.heap.size 38 #[.int .i64 k, .string owner, .int .i64 nu, .int .i64 ix, .string text] ∧ Below w.heap.size w wx)
  case first =>
    have hux := hu
    have d0' : (w1.alloc (.cells usesCells 100)).cell? ⟨w.heap.size, 0, none⟩ = some (.int .i64 k) := (hx1.alloc _).cell 0
    have hlt1 := hx1.lt
    have hne1 : ¬ (w.heap.size = w1.heap.size) := by omega
    have hne2 : ¬ (w1.heap.size = w.heap.size) := by omega
    go_region_with (go_at_call 47; refine (uses_any _).mono ?_; rintro e w' ⟨rfl, rfl⟩)
    all_goals
      go_wp2_with fail
      go_meet
      refine ⟨_, rfl, ?_, ?_, ?_⟩
      · first | exact Blk.drew (Blk.new_ _ _ _ (by simp)) | exact Blk.drew ((Blk.new_ _ _ _ (by simp)).alloc _)
      · exact Blk.drew ((hx1.alloc _).alloc _)
      · exact (((hB1.alloc (by have := hB1.size; omega) _).alloc (by have := hB1.size; simp; omega) _)).drew
  case rest =>
    obtain ⟨ub, rfl, hU, hX, hBc⟩ := hcut
    have HU := hid hU; have HX := hid hX; have HBc := hid hBc
    clear hU hX hBc hx1 hB1 HX1
    have hubl := HU.out.lt
    have hxl := HX.out.lt
    have UU := hid (show ∀ w', Below wc.heap.size wc w' → w'.cell? ⟨ub, 1, none⟩ = some (.bool (kOwn k)) ∧ w'.cell? ⟨ub, 2, none⟩ = some (.bool (kNum k)) ∧ w'.cell? ⟨ub, 3, none⟩ = some (.bool (kTxt k)) ∧ w'.cell? ⟨ub, 4, none⟩ = some (.int .i64 (kMost k)) ∧ w'.cell? ⟨w.heap.size, 0, none⟩ = some (.int .i64 k) ∧ w'.cell? ⟨w.heap.size, 1, none⟩ = some (.string owner) ∧ w'.cell? ⟨w.heap.size, 2, none⟩ = some (.int .i64 nu) ∧ w'.cell? ⟨w.heap.size, 3, none⟩ = some (.int .i64 ix) ∧ w'.cell? ⟨w.heap.size, 4, none⟩ = some (.string text) from fun w' hb => by
      have h1 := HU.out.below hb hubl
      have h2 := HX.out.below hb hxl
      exact ⟨h1.cell 1, h1.cell 2, h1.cell 3, h1.cell 4, h2.cell 0, h2.cell 1, h2.cell 2, h2.cell 3, h2.cell 4⟩)
    obtain ⟨W5, rfl⟩ : ∃ x, x = wc := ⟨_, rfl⟩
    go_upto_if 24 with (first
      | (go_at_call 32; refine (NW.out _).mono ?_; rintro o w2 ⟨rfl, hr, hb2⟩; have HR2 := hid hr; have HB2 := hid hb2; obtain ⟨t1, t2, t3, t4, s0, s1, s2, s3, s4⟩ := UU.out _ hb2; clear hr hb2 t1 t2 t3 t4 s1 s2 s3 s4)
      | (go_at_call 33; refine (WN.out _ _ _ _ (by omega) (by simp) _ HB2.out.size HR2.out).mono ?_; rintro o w3 ⟨rfl, hr, hb3⟩; have HR3 := hid hr; have HB3 := hid (HB2.out.trans hb3); obtain ⟨t1, t2, t3, t4, s0, s1, s2, s3, s4⟩ := UU.out _ (HB2.out.trans hb3); clear hr hb3 t2 t3 t4 s0 s1 s2 s3 s4))
    have HREL := hid (show Wr w3 W5.heap.size W5.heap.size (natL k) 0 ∧ Below W5.heap.size W5 w3 from ⟨HR3.out, HB3.out⟩)
    have HBW := HB3.out.size
    clear HR3 HB3 HR2 HB2
    go_cut [] (fun wx => Wr wx W5.heap.size W5.heap.size (natL k ++ pO) 0 ∧ Below W5.heap.size W5 wx)
    case first =>
      cases hb : kOwn k with
      | true =>
        have hos := HOS.out hb
        have e := HPO.out
        rw [hb, if_pos rfl] at e
        obtain ⟨-, -, -, -, -, s1, -, -, -⟩ := UU.out _ HREL.out.2
        go_wp2_with (go_at_call 36; refine (WT.out _ _ _ _ (by omega) (by omega) _ HBW HREL.out.1).mono ?_; rintro o w4 ⟨rfl, hr, hb4⟩; have HR4 := hid hr; have HB4 := hid (HREL.out.2.trans hb4); clear hr hb4)
        go_meet
        subst e
        exact ⟨HR4.out, HB4.out⟩
      | false =>
        have e := HPO.out
        rw [hb, if_neg (by simp)] at e
        go_wp2_with fail
        go_meet
        subst e
        exact ⟨by rw [List.append_nil]; exact HREL.out.1, HREL.out.2⟩
    case rest =>
      have HREL := hid hcut
      have HBW := hcut.2.size
      obtain ⟨-, t2, -, -, -, -, -, -, -⟩ := UU.out _ hcut.2
      go_upto_if 30 with fail
      go_cut [] (fun wx => Wr wx W5.heap.size W5.heap.size (natL k ++ pO ++ pN) 0 ∧ Below W5.heap.size W5 wx)
      case first =>
        cases hb : kNum k with
        | true =>
          have e := HPN.out
          rw [hb, if_pos rfl] at e
          obtain ⟨-, -, -, -, -, -, s2, -, -⟩ := UU.out _ HREL.out.2
          go_wp2_with (go_at_call 33; refine (WN.out _ _ _ _ (by omega) (by simp only [List.length_append]; omega) _ HBW HREL.out.1).mono ?_; rintro o w4 ⟨rfl, hr, hb4⟩; have HR4 := hid hr; have HB4 := hid (HREL.out.2.trans hb4); clear hr hb4)
          go_meet
          subst e
          exact ⟨HR4.out, HB4.out⟩
        | false =>
          have e := HPN.out
          rw [hb, if_neg (by simp)] at e
          go_wp2_with fail
          go_meet
          subst e
          exact ⟨by rw [List.append_nil]; exact HREL.out.1, HREL.out.2⟩
      case rest =>
        have HREL := hid hcut
        have HBW := hcut.2.size
        obtain ⟨-, -, -, t4, -, -, -, -, -⟩ := UU.out _ hcut.2
        go_upto_if 37 with fail
        go_cut [] (fun wx => Wr wx W5.heap.size W5.heap.size (natL k ++ pO ++ pN ++ pI) 0 ∧ Below W5.heap.size W5 wx)
        case first =>
          by_cases hb : 0 ≤ kMost k
          · have e := HPI.out
            rw [if_pos hb] at e
            obtain ⟨-, -, -, -, -, -, -, s3, -⟩ := UU.out _ HREL.out.2
            go_wp2_with (go_at_call 33; refine (WN.out _ _ _ _ (by omega) (by simp only [List.length_append]; omega) _ HBW HREL.out.1).mono ?_; rintro o w4 ⟨rfl, hr, hb4⟩; have HR4 := hid hr; have HB4 := hid (HREL.out.2.trans hb4); clear hr hb4)
            go_meet
            subst e
            exact ⟨HR4.out, HB4.out⟩
          · have e := HPI.out
            rw [if_neg hb] at e
            go_wp2_with fail
            go_meet
            subst e
            exact ⟨by rw [List.append_nil]; exact HREL.out.1, HREL.out.2⟩
        case rest =>
          have HREL := hid hcut
          have HBW := hcut.2.size
          obtain ⟨-, -, t3, -, -, -, -, -, -⟩ := UU.out _ hcut.2
          go_upto_if 43 with fail
          go_cut [] (fun wx => Wr wx W5.heap.size W5.heap.size (natL k ++ pO ++ pN ++ pI ++ pT) 0 ∧ Below W5.heap.size W5 wx)
          case first =>
            cases hb : kTxt k with
            | true =>
              have hts := HTS.out hb
              have e := HPT.out
              rw [hb, if_pos rfl] at e
              obtain ⟨-, -, -, -, -, -, -, -, s4⟩ := UU.out _ HREL.out.2
              go_wp2_with (go_at_call 36; refine (WT.out _ _ _ _ (by omega) (by simp only [List.length_append]; omega) _ HBW HREL.out.1).mono ?_; rintro o w4 ⟨rfl, hr, hb4⟩; have HR4 := hid hr; have HB4 := hid (HREL.out.2.trans hb4); clear hr hb4)
              go_meet
              subst e
              exact ⟨HR4.out, HB4.out⟩
            | false =>
              have e := HPT.out
              rw [hb, if_neg (by simp)] at e
              go_wp2_with fail
              go_meet
              subst e
              exact ⟨by rw [List.append_nil]; exact HREL.out.1, HREL.out.2⟩
          case rest =>
            have HREL := hid hcut
            have e := HE.out
            have hlen : (natL k ++ pO ++ pN ++ pI ++ pT).length ≤ 1000000000 := by simp only [List.length_append]; omega
            have hacc : natL k ++ pO ++ pN ++ pI ++ pT = enc := by rw [e]; simp only [List.append_assoc]
            rw [hacc] at HREL hlen
            clear hcut HE e hacc
            go_wp2_with (go_at_call 37; refine (WB.out _ _ _ hlen _ HREL.out.1).mono ?_; rintro o w4 ⟨v, rfl, ho, hb4⟩; obtain ⟨A, c, rfl, hs, -⟩ := own_shape ho; have hcv := hs.str; have HB4 := hid (HREL.out.2.trans (hb4.mono HREL.out.2.size)); clear ho hs hb4)
            all_goals go_ret2
            exact ⟨rfl, HBc.out.trans (HB4.out.mono HBc.out.size)⟩
end Go.Proofs.YtfdbanhbegngoaaGreatDoor
