/-
  THE REFERENCE OF LAYER 1, WALKED: Text; One, where a text is read.
  THE REFERENCE OF LAYER 5, WALKED: text.
-/
import Derived.Test.YtfdbanhbegngoaaGreatDoorGrpR
import Derived.Test.YtfdbanhbegngoaaGreatDoorCdc
import Derived.Test.YtfdbanhbegngoaaGreatDoorRdN
namespace Go.Proofs.YtfdbanhbegngoaaGreatDoor
open Go.RowKit

theorem takeB (s : ByteArray) (k : Nat) (h : k < s.size) : s.data.toList.take (k + 1) = s.data.toList.take k ++ [s[k]] := by
  rw [List.take_add_one, ba_get s k h]; rfl

set_option maxRecDepth 100000 in
set_option maxHeartbeats 1000000 in
theorem refText_any (s : ByteArray) (hs : s.size ≤ 1000000) (w : World) :
    Calls Tryz.prog 89 #[.string s] w fun o w' => ∃ v, o = .returned v ∧ w'.ownsRow w.heap.size 5 1 v (txtL s.data.toList).length ((txtL s.data.toList).map u8v) ∧ Below w.heap.size w w' := by
  obtain ⟨i0, hi, hz0, hz1, hz2⟩ := info_parts Tryz.info_u8
  have hw : IntKind.u64.wrap (s.size : Int) = (s.size : Int) := wrap_u64 s.size (by omega)
  have HN := hid (refNatural_any s.size (by omega) w)
  have hl := natL_ten (u := s.size) (by omega)
  have hls : s.data.toList.length = s.size := (ba_size s).symm
  go_enter Tryz.func89, Tryz.ntmps89
  go_wp2_with (go_at_call 88; refine HN.out.mono ?_; rintro o w1 ⟨v, rfl, hown, hB1⟩)
  have HOW := hid hown
  clear hown
  go_loopw [3, 4] (fun ov iv wr => ∃ (k : Nat) (acc : Bs), iv = .int .i64 k ∧ k ≤ s.size ∧ acc = natL s.size ++ s.data.toList.take k ∧ acc.length ≤ 10 + k ∧ wr.ownsRow w.heap.size 5 1 ov acc.length (acc.map u8v) ∧ Below w.heap.size w wr) (fun _ iv _ => s.size - (intOf iv).toNat)
  case atStart => exact ⟨0, natL s.size, rfl, Nat.zero_le _, by simp, by omega, HOW.out, hB1⟩
  case round =>
    obtain ⟨k, acc, rfl, hk, he, hal, ho, hB⟩ := hrel
    have HE := hid he; have HO := hid ho
    clear he ho
    by_cases h1 : k < s.size
    · have h1i : (k : Int) < (s.size : Int) := by omega
      have htk := takeB s k h1
      have HT := hid htk
      have hsz := hB.size
      clear htk
      go_wp2_with (at_builtin; refine wpList_append_own _ rfl (.tmp 15) (.tmp 19) _ rfl w.heap.size 5 i0 (.int .u8 0) 1 1 Tryz.underlying22 hi hz0 hz1 hz2 rfl (by decide) _ _ _ rfl (HO.out.alloc _) ⟨wr.heap.size, 0, none⟩ 1 1 [.int .u8 (s[k].toNat : Int)] rfl rfl (cell_one_new _ _ _) (by simp [Value.oneCell']) (by unfold maxLen; omega) (by omega) (by simp; omega) ?_; intro v1 w1 hown1 hgrow1 _; have hB1 : Below w.heap.size w w1 := Below.grown (hB.alloc hsz _) hgrow1 (by simp; omega) (fun j e => (HO.out.lt j e).1); have HO1 := hid hown1; clear hown1 hgrow1)
      go_roundw
      case rel =>
        refine ⟨k + 1, acc ++ [s[k]], by go_num, by omega, by rw [HE.out, HT.out, List.append_assoc], by simp; omega, ?_, hB1⟩
        rw [List.length_append, List.map_append]
        exact HO1.out
      case measure => simp [intOf]; omega
    · have h1i : ¬ ((k : Int) < (s.size : Int)) := by omega
      have hT : acc = txtL s.data.toList := by
        rw [HE.out, List.take_of_length_le (by omega)]
        unfold txtL
        rw [hls]
      clear HE
      subst hT
      go_wp2_with fail
      go_ret
      exact ⟨_, rfl, HO.out, hB⟩

/-- The value that One takes and gives. -/
def vV (s : ByteArray) (most : Int) : Value := .agg #[.int .u8 3, .int .i64 0, .bool false, .string s, .int .i64 most]
set_option maxRecDepth 100000 in
set_option maxHeartbeats 1600000 in
theorem refOne_any (A : Option Addr) (n c : Nat) (l : Bs) (most : Int) (w : World) (hs : Sl w w.heap.size 1 A n c (l.map u8v)) :
    Calls Tryz.prog 56 #[.slice A n c, vV ⟨#[]⟩ most] w fun o w' => o = .returned (.tuple #[vV (strB (txtP most l).1) most, .int .i64 (txtP most l).2.1, .int .i64 (txtP most l).2.2]) ∧ Below w.heap.size w w' := by
  unfold vV
  have HG := hid (fun (w' : World) (hb : Below w.heap.size w w') => refParse01_any A n c l w' ((hs.below hb).more hb.size))
  have hle := prs_le l
  have hlt := prs_lt l
  have hn : l.length = n := by have := hs.1; simpa using this
  have hc := hs.2.1
  have hm := hs.2.2.1
  unfold maxLen at hm
  have HT := hid (show txtP most l = if (prs l).2.2 ≠ 0 then ([], 0, (prs l).2.2) else if min most 16777216 < ((prs l).1 : Int) then ([], 0, 5) else if (n : Int) - ((prs l).2.1 : Int) < ((prs l).1 : Int) then ([], 0, 28) else ((l.drop (prs l).2.1).take (prs l).1, (prs l).2.1 + (prs l).1, 0) by rw [← hn]; rfl)
  have HS := hid hs
  generalize txtP most l = R at *
  generalize (prs l).1 = v at *
  generalize (prs l).2.1 = k at *
  generalize (prs l).2.2 = d at *
  rw [hn] at hle
  clear hs
  have hB3 : Below w.heap.size w (((w.alloc (.cells #[.int .u8 3, .int .i64 0, .bool false, .string ⟨#[]⟩, .int .i64 most] 111)).alloc (.cells #[.int .u8 0, .int .i64 0, .bool false, .string ⟨#[]⟩, .int .i64 0] 111)).alloc (.cells #[.int .u8 3, .int .i64 0, .bool false, .string ⟨#[]⟩, .int .i64 most] 111)) := (((Below.refl _ _).alloc (Nat.le_refl _) _).alloc (by simp) _).alloc (by simp; omega) _
  by_cases h1 : d = 0
  · subst h1
    have h1b : ((0 : Int) != 0) = false := rfl
    by_cases h2 : min most 16777216 < (v : Int)
    · have HR := hid (show R = ([], 0, 5) by rw [HT.out, if_neg (by simp), if_pos h2])
      by_cases h2a : most < (v : Int)
      · clear h2
        go_enter Tryz.func56, Tryz.ntmps56
        go_wp2_with (go_at_call 23; refine (HG.out _ hB3).mono ?_; rintro e w' ⟨rfl, rfl⟩)
        refine bodyPost_ret (v := .tuple #[.agg #[.int .u8 3, .int .i64 0, .bool false, .string ⟨#[]⟩, .int .i64 most], .int .i64 0, .int .i64 5]) (by simp [results, Tryz.results56, go_sem]) rfl ⟨?_, (((Below.refl _ _).alloc (Nat.le_refl _) _).alloc (by simp) _).alloc (by simp; omega) _⟩
        rw [HR.out]
        rfl
      · have h2b : (16777216 : Int) < (v : Int) := by omega
        clear h2
        go_enter Tryz.func56, Tryz.ntmps56
        go_wp2_with (go_at_call 23; refine (HG.out _ hB3).mono ?_; rintro e w' ⟨rfl, rfl⟩)
        refine bodyPost_ret (v := .tuple #[.agg #[.int .u8 3, .int .i64 0, .bool false, .string ⟨#[]⟩, .int .i64 most], .int .i64 0, .int .i64 5]) (by simp [results, Tryz.results56, go_sem]) rfl ⟨?_, (((Below.refl _ _).alloc (Nat.le_refl _) _).alloc (by simp) _).alloc (by simp; omega) _⟩
        rw [HR.out]
        rfl
    · have h2a : ¬ (most < (v : Int)) := by omega
      have h2b : ¬ ((16777216 : Int) < (v : Int)) := by omega
      by_cases h3 : (n : Int) - (k : Int) < (v : Int)
      · have HR := hid (show R = ([], 0, 28) by rw [HT.out, if_neg (by simp), if_neg h2, if_pos h3])
        clear h2
        go_enter Tryz.func56, Tryz.ntmps56
        go_wp2_with (go_at_call 23; refine (HG.out _ hB3).mono ?_; rintro e w' ⟨rfl, rfl⟩)
        refine bodyPost_ret (v := .tuple #[.agg #[.int .u8 3, .int .i64 0, .bool false, .string ⟨#[]⟩, .int .i64 most], .int .i64 0, .int .i64 28]) (by simp [results, Tryz.results56, go_sem]) rfl ⟨?_, (((Below.refl _ _).alloc (Nat.le_refl _) _).alloc (by simp) _).alloc (by simp; omega) _⟩
        rw [HR.out]
        rfl
      · have HR := hid (show R = ((l.drop k).take v, k + v, 0) by rw [HT.out, if_neg (by simp), if_neg h2, if_neg h3])
        clear h2
        have h5 : k + v ≤ n := by omega
        have h6 : (k : Int) + (v : Int) ≤ (c : Int) := by omega
        have hcv := ((((HS.out.below hB3).more hB3.size).from_ k hle).take_ v (by omega))
        rw [← List.map_drop, ← List.map_take] at hcv
        have hcv := hcv.str
        generalize (l.drop k).take v = tx at *
        by_cases h4 : c = k
        · rw [if_pos h4] at hcv
          subst h4
          obtain rfl : v = 0 := by omega
          rw [Nat.sub_self] at hcv
          go_enter Tryz.func56, Tryz.ntmps56
          go_wp2_with (go_at_call 23; refine (HG.out _ hB3).mono ?_; rintro e w' ⟨rfl, rfl⟩)
          refine bodyPost_ret (v := .tuple #[.agg #[.int .u8 3, .int .i64 0, .bool false, .string (strB tx), .int .i64 most], .int .i64 (c + 0 : Nat), .int .i64 0]) (by simp [results, Tryz.results56, go_sem]) rfl ⟨?_, (((Below.refl _ _).alloc (Nat.le_refl _) _).alloc (by simp) _).alloc (by simp; omega) _⟩
          rw [HR.out]
        · rw [if_neg h4] at hcv
          go_enter Tryz.func56, Tryz.ntmps56
          go_wp2_with (go_at_call 23; refine (HG.out _ hB3).mono ?_; rintro e w' ⟨rfl, rfl⟩)
          refine bodyPost_ret (v := .tuple #[.agg #[.int .u8 3, .int .i64 0, .bool false, .string (strB tx), .int .i64 most], .int .i64 (k + v : Nat), .int .i64 0]) (by simp [results, Tryz.results56, go_sem]) rfl ⟨?_, (((Below.refl _ _).alloc (Nat.le_refl _) _).alloc (by simp) _).alloc (by simp; omega) _⟩
          rw [HR.out]
  · have h1b : (d != 0) = true := by simp [h1]
    have HR := hid (show R = ([], 0, d) by rw [HT.out, if_pos h1])
    clear h1
    go_enter Tryz.func56, Tryz.ntmps56
    go_wp2_with (go_at_call 23; refine (HG.out _ hB3).mono ?_; rintro e w' ⟨rfl, rfl⟩)
    refine bodyPost_ret (v := .tuple #[.agg #[.int .u8 3, .int .i64 0, .bool false, .string ⟨#[]⟩, .int .i64 most], .int .i64 0, .int .i64 d]) (by simp [results, Tryz.results56, go_sem]) rfl ⟨?_, (((Below.refl _ _).alloc (Nat.le_refl _) _).alloc (by simp) _).alloc (by simp; omega) _⟩
    rw [HR.out]
    rfl
end Go.Proofs.YtfdbanhbegngoaaGreatDoor
namespace Go.Proofs.YtfdbanhbegngoaaGreatDoor
open Go.RowKit

theorem txtP_err {most : Int} {l : Bs} (h : (txtP most l).2.2 ≠ 0) : (txtP most l).1 = [] ∧ (txtP most l).2.1 = 0 := by
  unfold txtP at h ⊢
  split at h
  · next h1 => rw [if_pos h1]; exact ⟨rfl, rfl⟩
  · next h1 =>
    rw [if_neg h1]
    split at h
    · next h2 => rw [if_pos h2]; exact ⟨rfl, rfl⟩
    · next h2 =>
      rw [if_neg h2]
      split at h
      · next h3 => rw [if_pos h3]; exact ⟨rfl, rfl⟩
      · simp at h
theorem rdTxt_eq (most : Int) (b : Bs) (a : Nat) : rdTxt most b a 0 = ((txtP most (b.drop a)).1, a + (txtP most (b.drop a)).2.1, (txtP most (b.drop a)).2.2) := by
  unfold rdTxt
  rw [if_neg (by simp)]
  split
  · next h =>
    obtain ⟨e1, e2⟩ := txtP_err h
    rw [e1, e2, Nat.add_zero]
  · next h => rw [Decidable.not_not.1 h]

set_option maxRecDepth 100000 in
set_option maxHeartbeats 1600000 in
theorem reftext_any (A : Option Addr) (n c : Nat) (l : Bs) (a : Nat) (most : Int) (ha : a ≤ l.length) (w : World) (hs : Sl w w.heap.size 1 A n c (l.map u8v)) :
    Calls Tryz.prog 24 #[.slice A n c, .int .i64 a, .int .i64 most] w fun o w' => o = .returned (.tuple #[.string (strB (rdTxt most l a 0).1), .int .i64 (rdTxt most l a 0).2.1, .int .i64 (rdTxt most l a 0).2.2]) ∧ Below w.heap.size w w' := by
  have hR := rdTxt_eq most l a
  have hle := txtP_le most (l.drop a)
  rw [List.length_drop] at hle
  have hn : l.length = n := by have := hs.1; simpa using this
  have hc := hs.2.1
  have hm := hs.2.2.1
  unfold maxLen at hm
  have HS := hs.from_ a (by omega)
  rw [← List.map_drop] at HS
  have HO := hid (refOne_any _ _ _ (l.drop a) most w HS)
  have HR := hid hR
  have hai : (a : Int) ≤ (n : Int) := by omega
  clear hs HS hR
  generalize rdTxt most l a 0 = R at *
  generalize (txtP most (l.drop a)).1 = x at *
  generalize (txtP most (l.drop a)).2.1 = k at *
  generalize (txtP most (l.drop a)).2.2 = d at *
  unfold vV at HO
  go_enter Tryz.func24, Tryz.ntmps24
  go_wp2_with (go_at_call 56; refine HO.out.mono ?_; rintro o w' ⟨rfl, hb⟩; have HB := hid hb; clear hb)
  all_goals go_ret3
  all_goals
    refine ⟨?_, HB.out.alloc HB.out.size _⟩
    rw [HR.out]
    first | rfl | (simp; done)
end Go.Proofs.YtfdbanhbegngoaaGreatDoor
