/-
  THE LAWS' HELPERS, WALKED: replevinlaw05.fill. (Written by the program gen_fill.py.)
-/
import Derived.Test.YtnbgfalhmnbefaaGreatDoorOne
namespace Go.Proofs.YtnbgfalhmnbefaaGreatDoor
open Go.RowKit

theorem foldT_snoc (l : List Ch) (k : Nat) (h : k < l.length) : fillT (l.take (k + 1)) = oneT (fillT (l.take k)) l[k] := by
  unfold fillT
  rw [List.take_add_one, List.getElem?_eq_getElem h, List.foldl_append]
  rfl
theorem foldL_snoc (l : List Ch) (k : Nat) (h : k < l.length) : fillL (l.take (k + 1)) = oneL (fillL (l.take k)) l[k] := by
  unfold fillL
  rw [List.take_add_one, List.getElem?_eq_getElem h, List.foldl_append]
  rfl
def FillPost (w : World) (l : List Ch) (o : Ending) (w' : World) : Prop := ∃ q A1 n1 c1, o = .returned (.tuple #[.pointer q, .slice A1 n1 c1]) ∧ IsState w' q (fillT (toC l)) ∧ RowE w' A1 n1 c1 (fillL (toC l)) ∧ Below w.heap.size w w'
def strOk (l : List Ch) : Prop := ∀ x ∈ l, x.name.owner.size ≤ maxLen ∧ x.name.text.size ≤ maxLen ∧ x.value.size ≤ maxLen

set_option maxRecDepth 100000 in
set_option maxHeartbeats 3200000 in
theorem fill_any (A : Option Addr) (n c : Nat) (l : List Ch) (hO : strOk l) (w : World) (hs : RowC w A n c l) :
    Calls Tryz.prog 14 #[.slice A n c] w (FillPost w l) := by
  have TO := hid (fun w' (h : RowC w' A n c l) => to5_any A n c l hO w' h)
  have HS := hid hs
  have HSM := hid (toC_small l)
  have HTL := hid (toC_len l)
  have HF := hid (show ∀ o w', FillPost w l o w' = ∃ q A1 n1 c1, o = .returned (.tuple #[.pointer q, .slice A1 n1 c1]) ∧ IsState w' q (fillT (toC l)) ∧ RowE w' A1 n1 c1 (fillL (toC l)) ∧ Below w.heap.size w w' from fun _ _ => rfl)
  clear hs hO
  generalize toC l = cs at *
  generalize FillPost w l = FP at *
  go_enter Tryz.func14, Tryz.ntmps14
  go_wp2_with (first
    | (go_at_call 20; refine (new_any _).mono ?_; rintro e w1 ⟨p0, rfl, hn, hb1⟩)
    | (go_at_call 21; refine (TO.out _ (HS.out.below hb1)).mono ?_; rintro e w2 ⟨A1, c1, A2, c2, rfl, hr1, hr2, hb2⟩))
  have HN := hid (hn.below hb2)
  have hB := hb1.trans (hb2.mono hb1.size)
  have HL2 := HTL.out
  obtain ⟨-, -, hel1⟩ := Sl.elem hr1 chCells_len (by decide)
  obtain ⟨-, -, hel2⟩ := Sl.elem hr2 chCells_len (by decide)
  clear hr1 hr2 hn
  go_loopw [4, 5, 8] (fun sv wv i wr => ∃ (k : Nat) (q A3 : Option Addr) (n3 c3 : Nat), i = .int .i64 k ∧ sv = .pointer q ∧ wv = .slice A3 n3 c3 ∧ k ≤ cs.length ∧ IsState wr q (fillT (cs.take k)) ∧ RowE wr A3 n3 c3 (fillL (cs.take k)) ∧ Below w2.heap.size w2 wr) (fun _ _ i _ => cs.length - (intOf i).toNat)
  case atStart => exact ⟨0, _, none, 0, 0, rfl, rfl, rfl, Nat.zero_le _, HN.out, ⟨Sl.nil _ _ _, fun _ => rfl, fun _ e => nomatch e⟩, Below.refl _ _⟩
  case round =>
    obtain ⟨k, q, A3, n3, c3, rfl, rfl, rfl, hk, hst, hre, hB2⟩ := hrel
    have HST := hid hst; have HRE := hid hre
    clear hst hre
    by_cases h1 : k < cs.length
    · have h1i : (k : Int) < (cs.length : Int) := by omega
      have h1d : decide ((k : Int) < (cs.length : Int)) = true := by simp; omega
      rcases hel1 with rfl | ⟨b1, o1, rfl, hbl1, hc1⟩
      · simp at h1
      rcases hel2 with rfl | ⟨b2, o2, rfl, hbl2, hc2⟩
      · simp at h1
      have hsm := HSM.out cs[k] (List.getElem_mem h1)
      have KK : ∀ w', Below w2.heap.size w2 w' → w'.cell? ⟨b1, o1 + k * 7, none⟩ = some (.int .i64 cs[k].name.kind) ∧ w'.cell? ⟨b1, o1 + k * 7 + 1, none⟩ = some (.string cs[k].name.owner) ∧ w'.cell? ⟨b1, o1 + k * 7 + 2, none⟩ = some (.int .i64 cs[k].name.number) ∧ w'.cell? ⟨b1, o1 + k * 7 + 3, none⟩ = some (.int .i64 cs[k].name.index) ∧ w'.cell? ⟨b1, o1 + k * 7 + 4, none⟩ = some (.string cs[k].name.text) ∧ w'.cell? ⟨b1, o1 + k * 7 + 5, none⟩ = some (.string cs[k].value) ∧ w'.cell? ⟨b1, o1 + k * 7 + 6, none⟩ = some (.bool cs[k].absent) ∧ w'.cell? ⟨b2, o2 + k * 7, none⟩ = some (.int .i64 cs[k].name.kind) ∧ w'.cell? ⟨b2, o2 + k * 7 + 1, none⟩ = some (.string cs[k].name.owner) ∧ w'.cell? ⟨b2, o2 + k * 7 + 2, none⟩ = some (.int .i64 cs[k].name.number) ∧ w'.cell? ⟨b2, o2 + k * 7 + 3, none⟩ = some (.int .i64 cs[k].name.index) ∧ w'.cell? ⟨b2, o2 + k * 7 + 4, none⟩ = some (.string cs[k].name.text) ∧ w'.cell? ⟨b2, o2 + k * 7 + 5, none⟩ = some (.string cs[k].value) ∧ w'.cell? ⟨b2, o2 + k * 7 + 6, none⟩ = some (.bool cs[k].absent) := by
        intro w' hb'
        have e := fun j u (hj : j < 7) (hu : (chCells cs[k])[j]? = some u) => ((bcell hb').1 _ _ hbl1).trans (hc1 k j u h1 hj hu)
        have f := fun j u (hj : j < 7) (hu : (chCells cs[k])[j]? = some u) => ((bcell hb').1 _ _ hbl2).trans (hc2 k j u h1 hj hu)
        exact ⟨e 0 _ (by decide) rfl, e 1 _ (by decide) rfl, e 2 _ (by decide) rfl, e 3 _ (by decide) rfl, e 4 _ (by decide) rfl, e 5 _ (by decide) rfl, e 6 _ (by decide) rfl, f 0 _ (by decide) rfl, f 1 _ (by decide) rfl, f 2 _ (by decide) rfl, f 3 _ (by decide) rfl, f 4 _ (by decide) rfl, f 5 _ (by decide) rfl, f 6 _ (by decide) rfl⟩
      have hft := fill_eq (cs := cs.take k) (fun x hx => HSM.out x (List.mem_of_mem_take hx))
      have hgd : Good k (fillL (cs.take k)) := hft.2.more (by rw [List.length_take]; omega)
      rw [← hft.1] at hgd
      have ONE := hid (fun w' (h : IsState w' q (fillT (cs.take k))) (h' : RowE w' A3 n3 c3 (fillL (cs.take k))) => one_any k (by omega) q (fillT (cs.take k)) A3 n3 c3 cs[k] hsm hgd w' h (by rw [hft.1]; exact h'))
      rw [hft.1] at ONE
      have HT1 := hid (foldT_snoc cs k h1)
      have HT2 := hid (foldL_snoc cs k h1)
      obtain ⟨q0, q1, q2, q3, q4, q5, q6, q7, q8, q9, q10, q11, q12, q13⟩ := KK wr hB2
      have K := hid KK
      clear KK hc1 hc2 hsm hft hgd
      unfold chV at ONE
      generalize cs[k] = x at *
      generalize oneT (fillT (cs.take k)) x = T1 at *
      generalize oneL (fillL (cs.take k)) x = L1 at *
      go_wp2_with fail
      go_region_held3 (fun w' => w'.cell? ⟨b1, o1 + k * 7, none⟩ = some (.int .i64 x.name.kind) ∧ w'.cell? ⟨b1, o1 + k * 7 + 1, none⟩ = some (.string x.name.owner) ∧ w'.cell? ⟨b1, o1 + k * 7 + 2, none⟩ = some (.int .i64 x.name.number) ∧ w'.cell? ⟨b1, o1 + k * 7 + 3, none⟩ = some (.int .i64 x.name.index) ∧ w'.cell? ⟨b1, o1 + k * 7 + 4, none⟩ = some (.string x.name.text) ∧ w'.cell? ⟨b1, o1 + k * 7 + 5, none⟩ = some (.string x.value) ∧ w'.cell? ⟨b1, o1 + k * 7 + 6, none⟩ = some (.bool x.absent) ∧ w'.cell? ⟨b2, o2 + k * 7, none⟩ = some (.int .i64 x.name.kind) ∧ w'.cell? ⟨b2, o2 + k * 7 + 1, none⟩ = some (.string x.name.owner) ∧ w'.cell? ⟨b2, o2 + k * 7 + 2, none⟩ = some (.int .i64 x.name.number) ∧ w'.cell? ⟨b2, o2 + k * 7 + 3, none⟩ = some (.int .i64 x.name.index) ∧ w'.cell? ⟨b2, o2 + k * 7 + 4, none⟩ = some (.string x.name.text) ∧ w'.cell? ⟨b2, o2 + k * 7 + 5, none⟩ = some (.string x.value) ∧ w'.cell? ⟨b2, o2 + k * 7 + 6, none⟩ = some (.bool x.absent))
        (first | go_keep | exact K.out _ (hB2.drew.trans (hb3.mono hB2.drew.size)))
        (first | (go_at_call 22; refine (ONE.out _ ?_ ?_).mono ?_; (exact HST.out.below (Below.refl _ _).drew); (exact HRE.out.below (Below.refl _ _).drew); rintro e w3 ⟨q9, A9, n9, c9, rfl, hs3, hr3, hb3⟩))
      have hB3 : Below w2.heap.size w2 w3 := hB2.drew.trans (hb3.mono hB2.drew.size)
      have HS3 := hid hs3; have HR3 := hid hr3
      clear hs3 hr3 q0 q1 q2 q3 q4 q5 q6 q7 q8 q10 q11 q12 q13
      go_wp2_with fail
      go_roundw
      case rel => exact ⟨k + 1, _, _, _, _, by go_num, rfl, rfl, by omega, by rw [HT1.out]; exact HS3.out, by rw [HT2.out]; exact HR3.out, hB3⟩
      case measure => simp [intOf]; omega
    · have hkl : k = cs.length := by omega
      have HK := hid hkl
      have h1d : decide ((k : Int) < (cs.length : Int)) = false := by simp; omega
      clear hel1 hel2 hkl
      go_wp2_with fail
      try go_ret2
      rw [HF.out]
      have e1 : cs.take k = cs := by rw [HK.out, List.take_length]
      exact ⟨q, A3, n3, c3, rfl, by rw [← e1]; exact HST.out, by rw [← e1]; exact HRE.out, hB.trans (hB2.mono hB.size)⟩
end Go.Proofs.YtnbgfalhmnbefaaGreatDoor
