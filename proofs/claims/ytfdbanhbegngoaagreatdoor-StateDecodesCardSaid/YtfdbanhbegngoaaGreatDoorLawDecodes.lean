/-
  THE LAW StateDecodes, WALKED.
-/
import Derived.Test.YtfdbanhbegngoaaGreatDoorStR
import Derived.Test.YtfdbanhbegngoaaGreatDoorKnown
namespace Go.Proofs.YtfdbanhbegngoaaGreatDoor
open Go.RowKit

theorem Ent.ents {b : Bs} {n a : Nat} {acc : EL} (h : Ent b n a acc) (hb : b.length ≤ 2000) : ∀ x ∈ acc, entOk x := by
  intro x hx
  have hM := h.mild hb
  obtain ⟨m1, m2, m3⟩ := hM.small x hx
  obtain ⟨-, -, h3⟩ := flat_two acc
  have e := h3 x hx
  have hl := h.got.len
  have hle := h.got.le
  rw [List.length_append] at hl
  have e4 : (encN x.1).length ≤ (encE x).length := by
    unfold encE txtL
    simp only [List.length_append]
    omega
  exact ⟨h.chk x hx, ⟨by unfold maxLen; omega, by unfold maxLen; omega⟩, by omega, by omega⟩

set_option maxRecDepth 100000 in
set_option maxHeartbeats 3200000 in
theorem lawDecodes_cut (A : Option Addr) (n c m : Nat) (b : Bs) (hm : min (n : Int) 2000 = (m : Int)) (hA : A = none → n = 0 ∧ c = 0) (w : World) (hs : Sl w w.heap.size 1 A n c (b.map u8v)) (hmn : m ≤ n) (hm2 : m ≤ 2000) :
    Calls Tryz.prog 3 #[.slice A n c] w fun e w' => e = .returned (.bool true) ∧ Below w.heap.size w w' := by
  have hs' := hs.take_ m hmn
  rw [← List.map_take] at hs'
  have hb : (b.take m).length ≤ 2000 := by rw [List.length_take]; omega
  generalize b.take m = d at *
  have hA' : A = none → m = 0 ∧ c = 0 := fun h => by have := hA h; omega
  have hc := hs'.2.1
  have hcm := hs'.2.2.1
  have hnc := hs.2.1
  unfold maxLen at hcm
  have HS := hid hs'
  have SD := hid (fun w' (h : Below w.heap.size w w') => stDecode_any A m c d hb hA' w' ((hs'.below h).more h.size))
  have RD := hid (fun w' (h : Below w.heap.size w w') => ref5Decode_any A m c d hb w' ((hs'.below h).more h.size))
  have KN := hid known_any
  have hci : (m : Int) ≤ (c : Int) := by omega
  have h0m : (0 : Int) ≤ (m : Int) := by omega
  clear hs hs' hA hA'
  by_cases he : (stDec d).2 = 0
  · obtain ⟨hE, henc⟩ := stDec_ok he
    have hM := hE.mild hb
    have hQ := hE.ents hb
    have HHE := hid he
    rw [he] at SD RD
    generalize (stDec d).1 = l at *
    have IS := hid (fun (t : T) (h : t.toList = l) p A1 n1 c1 w' (hp : IsState w' p t) (hr : RowE w' A1 n1 c1 l) => isM_any t (by rw [h]; exact hM) p A1 n1 c1 w' hp (by rw [h]; exact hr))
    have EN := hid (fun (t : T) (h : t.toList = l) p w' (hp : IsState w' p t) => stEncode_any p t w' hp (by have := hM.len; rw [T.size_eq, h]; exact this) (by rw [h]; exact hQ))
    clear hE hM hQ he
    go_enter Tryz.func3, Tryz.ntmps3
    go_upto_region 8 with (first
      | (go_at_call 4; refine (KN.out _).mono ?_; rintro o w1 ⟨rfl, hb1⟩; have HB1 := hid hb1; clear hb1)
      | (go_at_call 5; refine (SD.out _ HB1.out).mono ?_; rintro o w2 ⟨p, rfl, -, hp, hb2⟩; obtain ⟨t, hst, htl⟩ := hp trivial; obtain ⟨sb, rb, hpe, hsk, hsr⟩ := id hst; subst hpe; have HST := hid hst; have HTL := hid htl; have HB2 := hid (HB1.out.trans (hb2.mono HB1.out.size)); clear hp hb2 hst htl hsk hsr)
      | (go_at_call 6; refine (RD.out _ HB2.out).mono ?_; rintro o w3 ⟨A1, n1, c1, rfl, hrw, hb3⟩; have HRW := hid (hrw trivial); have HST3 := hid (HST.out.below hb3); have HB3 := hid (HB2.out.trans (hb3.mono HB2.out.size)); clear hrw hb3))
    have CV := hid (show ∀ w', Below w.heap.size w w' → (convert 22 9 (.slice A m c)).run Tryz.prog w' = .ok (.string (strB d)) w' from fun w' h => ((HS.out.below h).more h.size).str)
    have cvb := CV.out _ HB3.out
    go_region_with
      (first
        | (go_at_call 7; refine (IS.out t HTL.out _ A1 n1 c1 _ (HST3.out.below (Below.refl _ _).drew) (HRW.out.below (Below.refl _ _).drew)).mono ?_; rintro o w5 ⟨rfl, hb5⟩; have hB5 := HB3.out.drew.trans (hb5.mono HB3.out.drew.size); have HB5 := hid hB5; have cv5 : (convert 22 9 (.slice A m c)).run Tryz.prog w5 = .ok (.string (strB d)) w5 := CV.out _ hB5; have HST5 := hid ((HST3.out.below (Below.refl _ _).drew).below hb5); clear hb5 hB5)
        | (go_at_call 8; refine (EN.out t HTL.out _ _ HST5.out).mono ?_; rintro o w6 ⟨v, rfl, ho, hb6⟩; rw [HTL.out, henc] at ho; obtain ⟨A6, c6, rfl, hs6, -⟩ := own_shape ho; have cv6 := hs6.str; have HB6 := hid (HB5.out.trans (hb6.mono HB5.out.size)); have cv7 : (convert 22 9 (.slice A m c)).run Tryz.prog w6 = .ok (.string (strB d)) w6 := CV.out _ HB6.out; clear ho hb6 hs6))
    all_goals
      go_wp2_with fail
      go_ret
      exact ⟨rfl, HB6.out⟩
  · have heb : ((stDec d).2 != (stDec d).2) = false := by simp
    have heb2 : ((stDec d).2 != 0) = true := by simp [he]
    have HHE := hid he
    clear he
    generalize (stDec d).2 = e at *
    go_enter Tryz.func3, Tryz.ntmps3
    go_wp2_with (first
      | (go_at_call 4; refine (KN.out _).mono ?_; rintro o w1 ⟨rfl, hb1⟩; have HB1 := hid hb1; clear hb1)
      | (go_at_call 5; refine (SD.out _ HB1.out).mono ?_; rintro o w2 ⟨p, rfl, hp, -, hb2⟩; have hpe := hp HHE.out; subst hpe; have HB2 := hid (HB1.out.trans (hb2.mono HB1.out.size)); clear hp hb2)
      | (go_at_call 6; refine (RD.out _ HB2.out).mono ?_; rintro o w3 ⟨A1, n1, c1, rfl, -, hb3⟩; have HB3 := hid (HB2.out.trans (hb3.mono HB2.out.size)); clear hb3))
    go_quiet (fail)
    go_wp2_with fail
    go_ret
    exact ⟨rfl, dN HB3.out _⟩
theorem lawDecodes_any (A : Option Addr) (n c : Nat) (b : Bs) (hA : A = none → n = 0 ∧ c = 0) (w : World) (hs : Sl w w.heap.size 1 A n c (b.map u8v)) :
    Calls Tryz.prog 3 #[.slice A n c] w fun e w' => e = .returned (.bool true) ∧ Below w.heap.size w w' :=
  lawDecodes_cut A n c (min n 2000) b (by omega) hA w hs (by omega) (by omega)
end Go.Proofs.YtfdbanhbegngoaaGreatDoor
