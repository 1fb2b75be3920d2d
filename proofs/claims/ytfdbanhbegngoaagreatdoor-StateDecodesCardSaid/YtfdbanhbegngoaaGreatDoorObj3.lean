/-
  LAYER 4, WALKED: the check of a name.
-/
import Derived.Test.YtfdbanhbegngoaaGreatDoorObj2
namespace Go.Proofs.YtfdbanhbegngoaaGreatDoor
open Go.RowKit

/-- A name. -/
structure Nm where
  kind : Int
  owner : ByteArray
  number : Int
  index : Int
  text : ByteArray
  deriving DecidableEq

def nmCells (n : Nm) : List Value := [.int .i64 n.kind, .string n.owner, .int .i64 n.number, .int .i64 n.index, .string n.text]
def nmV (n : Nm) : Value := .agg #[.int .i64 n.kind, .string n.owner, .int .i64 n.number, .int .i64 n.index, .string n.text]
/-- What every Go value fulfils. -/
structure Nm.Ok (n : Nm) : Prop where
  owner : n.owner.size ≤ maxLen
  text : n.text.size ≤ maxLen

/-- What the check asks, by what the kind uses. -/
def checkF (ow nu te : Bool) (mo : Int) (n : Nm) : Int :=
  if (!ow && !n.owner.toList.isEmpty) || (!nu && (n.number != 0)) || (decide (mo < 0) && (n.index != 0)) || (!te && !n.text.toList.isEmpty) then 1
  else if ow && !(M.valid n.owner.data.toList) then 12
  else if !(okNum n.number) || decide (n.index < 0) || decide (max mo 0 < n.index) then 2
  else if te && !(wordB n.text) then 12
  else 0
def checkN (n : Nm) : Int := if n.kind < 1 ∨ 20 < n.kind then 11 else checkF (kOwn n.kind.toNat) (kNum n.kind.toNat) (kTxt n.kind.toNat) (kMost n.kind.toNat) n

def kWord (k : Nat) : ByteArray := match usesCells[5 * k]? with | some (.string s) => s | _ => ⟨#[]⟩
theorem uses_at (k : Nat) (h1 : 1 ≤ k) (h2 : k ≤ 20) (w : World) : (Instr.index 100 (.agg usesCells) (.int .i64 k)).run Tryz.prog w = .ok (.agg #[.string (kWord k), .bool (kOwn k), .bool (kNum k), .bool (kTxt k), .int .i64 (kMost k)]) w := by
  obtain rfl | rfl | rfl | rfl | rfl | rfl | rfl | rfl | rfl | rfl | rfl | rfl | rfl | rfl | rfl | rfl | rfl | rfl | rfl | rfl : k = 1 ∨ k = 2 ∨ k = 3 ∨ k = 4 ∨ k = 5 ∨ k = 6 ∨ k = 7 ∨ k = 8 ∨ k = 9 ∨ k = 10 ∨ k = 11 ∨ k = 12 ∨ k = 13 ∨ k = 14 ∨ k = 15 ∨ k = 16 ∨ k = 17 ∨ k = 18 ∨ k = 19 ∨ k = 20 := by omega
  all_goals kernel_rfl

set_option maxRecDepth 100000 in
set_option maxHeartbeats 2000000 in
theorem checkN_any (n : Nm) (hn : n.Ok) (w : World) : Calls Tryz.prog 38 #[nmV n] w fun e w' => e = .returned (.int .i64 (checkN n)) ∧ Below w.heap.size w w' := by
  obtain ⟨kind, owner, number, index, text⟩ := n
  obtain ⟨hO, hT⟩ := hn
  dsimp only at hO hT
  unfold nmV
  by_cases hk : kind < 1 ∨ 20 < kind
  · have hr : checkN ⟨kind, owner, number, index, text⟩ = 11 := by rw [checkN, if_pos hk]
    have HR := hid hr; clear hr
    rcases hk with hk | hk
    · go_enter Tryz.func38, Tryz.ntmps38
      go_wp2_with fail
      go_ret
      exact ⟨ret_int HR.out.symm, (Below.refl _ _).alloc (Nat.le_refl _) _⟩
    · have hk' : ¬ kind < 1 := by omega
      go_enter Tryz.func38, Tryz.ntmps38
      go_wp2_with fail
      go_ret
      exact ⟨ret_int HR.out.symm, (Below.refl _ _).alloc (Nat.le_refl _) _⟩
  · obtain ⟨k, rfl⟩ : ∃ k : Nat, kind = k := ⟨kind.toNat, by omega⟩
    have k1 : 1 ≤ k := by omega
    have k2 : k ≤ 20 := by omega
    clear hk
    go_enter Tryz.func38, Tryz.ntmps38
    go_upto_region 3 with fail
    go_cut [0, 3] (fun _ p wx => ∃ g : Nat, p = .pointer (some ⟨g, 0, none⟩) ∧ w.heap.size < g ∧ Blk wx g 99 #[.string (kWord k), .bool (kOwn k), .bool (kNum k), .bool (kTxt k), .int .i64 (kMost k)] ∧
      Blk wx w.heap.size 38 #[.int .i64 k, .string owner, .int .i64 number, .int .i64 index, .string text] ∧ Below w.heap.size w wx)
    case first =>
      have hux := uses_at k k1 k2
      go_region_with (go_at_call 47; refine (uses_any _).mono ?_; rintro e w' ⟨rfl, rfl⟩)
      all_goals
        go_wp2_with fail
        go_meet
        refine ⟨_, rfl, by omega, ?_, ?_, ?_⟩
        · first | exact Blk.drew (Blk.new_ _ _ _ (by simp)) | exact Blk.drew ((Blk.new_ _ _ _ (by simp)).alloc _)
        · exact Blk.drew (((Blk.new_ _ _ _ (by simp)).alloc _).alloc _)
        · exact ((((Below.refl _ _).alloc (Nat.le_refl _) _).alloc (by simp) _).alloc (by simp; omega) _).drew
    case rest =>
      obtain ⟨g, rfl, hg, hu, hb, hB⟩ := hcut
      have hr : checkN ⟨k, owner, number, index, text⟩ = checkF (kOwn k) (kNum k) (kTxt k) (kMost k) ⟨k, owner, number, index, text⟩ := by
        rw [checkN, if_neg (by dsimp only; omega)]; simp
      have HR := hid hr; clear hr
      generalize kOwn k = ow at *
      generalize kNum k = nu at *
      generalize kTxt k = te at *
      generalize kMost k = mo at *
      generalize kWord k = wd at *
      have c1 : wc.cell? ⟨g, 1, none⟩ = some (.bool ow) := hu.cell 1
      have c2 : wc.cell? ⟨g, 2, none⟩ = some (.bool nu) := hu.cell 2
      have c3 : wc.cell? ⟨g, 3, none⟩ = some (.bool te) := hu.cell 3
      have c4 : wc.cell? ⟨g, 4, none⟩ = some (.int .i64 mo) := hu.cell 4
      have d1 : wc.cell? ⟨w.heap.size, 1, none⟩ = some (.string owner) := hb.cell 1
      have d2 : wc.cell? ⟨w.heap.size, 2, none⟩ = some (.int .i64 number) := hb.cell 2
      have d3 : wc.cell? ⟨w.heap.size, 3, none⟩ = some (.int .i64 index) := hb.cell 3
      have d4 : wc.cell? ⟨w.heap.size, 4, none⟩ = some (.string text) := hb.cell 4
      have HU := hid hu; have HBB := hid hb; clear hu hb
      have hF : checkF ow nu te mo ⟨k, owner, number, index, text⟩ = if (!ow && !owner.toList.isEmpty) || (!nu && (number != 0)) || (decide (mo < 0) && (index != 0)) || (!te && !text.toList.isEmpty) then 1
          else if ow && !(M.valid owner.data.toList) then 12
          else if !(okNum number) || decide (index < 0) || decide (max mo 0 < index) then 2
          else if te && !(wordB text) then 12
          else 0 := rfl
      rw [← HR.out] at hF
      have HF := hid hF; clear hF HR
      obtain ⟨be, hbe⟩ : ∃ b, owner.toList.isEmpty = b := ⟨_, rfl⟩
      obtain ⟨bn, hbn⟩ : ∃ b, (number != 0) = b := ⟨_, rfl⟩
      obtain ⟨bi, hbi⟩ : ∃ b, (index != 0) = b := ⟨_, rfl⟩
      obtain ⟨bt, hbt⟩ : ∃ b, text.toList.isEmpty = b := ⟨_, rfl⟩
      obtain ⟨bm, hbm⟩ : ∃ b, decide (mo < 0) = b := ⟨_, rfl⟩
      have HF2 := HF.out
      rw [hbe, hbn, hbi, hbt, hbm] at HF2
      have HF3 := hid HF2; clear HF2 HF
      go_upto_region 4 with fail
      go_cut [16] (fun b wx => b = .bool ((!ow && !be) || (!nu && bn) || (bm && bi) || (!te && !bt)) ∧ wc = wx)
      case first =>
        go_wp2_with fail
        all_goals
          go_meet
          refine ⟨?_, rfl⟩
          simp [*]
      case rest =>
        obtain ⟨rfl, rfl⟩ := hcut
        have h3 := HF3.out
        clear HF3
        generalize ((!ow && !be) || (!nu && bn) || (bm && bi) || (!te && !bt)) = A at *
        obtain ⟨vv, hvv⟩ : ∃ b, M.valid owner.data.toList = b := ⟨_, rfl⟩
        obtain ⟨nn, hnn⟩ : ∃ b, (!(okNum number) || decide (index < 0) || decide (max mo 0 < index)) = b := ⟨_, rfl⟩
        obtain ⟨ww, hww⟩ : ∃ b, wordB text = b := ⟨_, rfl⟩
        rw [hnn, hvv, hww] at h3
        have H3 := hid h3
        have HNN := hid hnn; have HVV := hid hvv; have HWW := hid hww
        clear h3 hnn hvv hww hbe hbn hbi hbt hbm
        have lg := HU.out.lt
        have lb := HBB.out.lt
        cases A with
        | true =>
          go_wp2_with fail
          go_ret
          exact ⟨ret_int H3.out.symm, hB⟩
        | false =>
          cases ow with
          | true =>
            go_wp2_with fail
            refine (valid_any owner hO _).mono ?_
            rintro e w1 ⟨rfl, hb1⟩
            rw [HVV.out]
            have hc1 := (bcell hb1).1
            cases vv with
            | false =>
              go_wp2_with fail
              go_ret
              exact ⟨ret_int H3.out.symm, hB.trans (hb1.mono hB.size)⟩
            | true =>
              go_upto_region 8 with fail
              go_cut [64] (fun b wx => b = .bool nn ∧ w1 = wx)
              case first =>
                go_wp2_with fail
                refine (number_any number _).mono ?_
                rintro e w2 ⟨rfl, rfl⟩
                go_wp2_with fail
                all_goals
                  go_meet
                  refine ⟨?_, rfl⟩
                  rw [← HNN.out]
                  simp [*]
              case rest =>
                obtain ⟨rfl, rfl⟩ := hcut
                cases nn with
                | true =>
                  go_wp2_with fail
                  go_ret
                  exact ⟨ret_int H3.out.symm, hB.trans (hb1.mono hB.size)⟩
                | false =>
                  cases te with
                  | true =>
                    go_wp2_with fail
                    refine (word_any text hT _).mono ?_
                    rintro e w3 ⟨rfl, hb3⟩
                    rw [HWW.out]
                    cases ww with
                    | true =>
                      go_wp2_with fail
                      go_ret
                      exact ⟨ret_int H3.out.symm, (hB.trans (hb1.mono hB.size)).trans (hb3.mono (hB.trans (hb1.mono hB.size)).size)⟩
                    | false =>
                      go_wp2_with fail
                      go_ret
                      exact ⟨ret_int H3.out.symm, (hB.trans (hb1.mono hB.size)).trans (hb3.mono (hB.trans (hb1.mono hB.size)).size)⟩
                  | false =>
                    go_wp2_with fail
                    go_ret
                    exact ⟨ret_int H3.out.symm, hB.trans (hb1.mono hB.size)⟩
          | false =>
            go_upto_region 8 with fail
            go_cut [64] (fun b wx => b = .bool nn ∧ wc = wx)
            case first =>
              go_wp2_with fail
              refine (number_any number _).mono ?_
              rintro e w2 ⟨rfl, rfl⟩
              go_wp2_with fail
              all_goals
                go_meet
                refine ⟨?_, rfl⟩
                rw [← HNN.out]
                simp [*]
            case rest =>
              obtain ⟨rfl, rfl⟩ := hcut
              cases nn with
              | true =>
                go_wp2_with fail
                go_ret
                exact ⟨ret_int H3.out.symm, hB⟩
              | false =>
                cases te with
                | true =>
                  go_wp2_with fail
                  refine (word_any text hT _).mono ?_
                  rintro e w3 ⟨rfl, hb3⟩
                  rw [HWW.out]
                  cases ww with
                  | true =>
                    go_wp2_with fail
                    go_ret
                    exact ⟨ret_int H3.out.symm, (hB).trans (hb3.mono (hB).size)⟩
                  | false =>
                    go_wp2_with fail
                    go_ret
                    exact ⟨ret_int H3.out.symm, (hB).trans (hb3.mono (hB).size)⟩
                | false =>
                  go_wp2_with fail
                  go_ret
                  exact ⟨ret_int H3.out.symm, hB⟩
end Go.Proofs.YtfdbanhbegngoaaGreatDoor
