/-
  THE LAWS' HELPERS, WALKED: replevinlaw05.Is, at a decoded list.
-/
import Derived.Test.YtfdbanhbegngoaaGreatDoorNames
import Derived.Test.YtfdbanhbegngoaaGreatDoorBytes
import Derived.Test.YtfdbanhbegngoaaGreatDoorRow
import Derived.Test.YtfdbanhbegngoaaGreatDoorStD
namespace Go.Proofs.YtfdbanhbegngoaaGreatDoor
open Go.RowKit

theorem neqN (a : Nm) (w : World) : (binOp .neq 63 (nmV a) (nmV a)).run Tryz.prog w = .ok (.bool false) w := by
  unfold nmV
  simp [go_sem]
theorem getL_mem : ∀ (l : EL) (k : Nat) (h : k < l.length), Sorted l → getL l l[k].1 = some l[k].2
  | x :: r, 0, _, hs => by
    rw [getL_cons, List.getElem_cons_zero, if_neg (by rw [cmpN_refl]; omega), eqN_t rfl, if_pos rfl]
  | x :: r, k + 1, h, hs => by
    unfold Sorted at hs
    rw [List.pairwise_cons] at hs
    have hk : k < r.length := by simpa using h
    rw [getL_cons, List.getElem_cons_succ, if_pos (hs.1 _ (List.getElem_mem hk))]
    exact getL_mem r k hk hs.2
theorem nmCells5 (x : Nm × ByteArray) : (nmCells x.1).length = 5 := rfl

set_option maxRecDepth 100000 in
set_option maxHeartbeats 3200000 in
theorem isM_any (t : T) (hg : Mild t.toList) (p A : Option Addr) (n c : Nat) (w : World) (hs : IsState w p t) (hr : RowE w A n c t.toList) :
    Calls Tryz.prog 7 #[.pointer p, .slice A n c] w fun e w' => e = .returned (.bool true) ∧ Below w.heap.size w w' := by
  obtain ⟨z1, z2⟩ := hg.fits
  have NA := hid (names_any p t w (.inr hs) (by omega))
  have LE := hid (fun w' (h : IsState w' p t) => len_any p t w' (.inr h))
  have TO := hid (fun w' (h : IsState w' p t) => total2_any p t w' (.inr h))
  have RB := hid (fun w' (h : RowE w' A n c t.toList) => refBytes_any A n c t.toList (by rw [← T.bytes_eq]; omega) w' h.1)
  have GE := hid (fun w' (h : IsState w' p t) m (hm : m.Ok) => get_any p t m hm hg.ok w' (.inr h))
  have HM := hid (fun (k : Nat) (h : k < t.toList.length) => (get_list t t.toList[k].1 hg.sorted).trans (getL_mem t.toList k h hg.sorted))
  have HSM := hid hg.small
  have f1 : (((t.size : Nat) : Int) != ((t.toList.length : Nat) : Int)) = false := by rw [T.size_eq]; simp
  have f2 : (((t.bytes : Nat) : Int) != ((T.sumB t.toList : Nat) : Int)) = false := by rw [T.bytes_eq]; simp
  obtain ⟨rfl, hmx, -⟩ := hr.1.elem eCells_len (by decide)
  unfold maxLen at hmx
  have HS := hid hs; have HR := hid hr
  clear hs hr hg z1 z2
  generalize t.toList = L at *
  generalize t.size = ts at *
  generalize t.bytes = tb at *
  generalize T.sumB L = sb at *
  go_enter Tryz.func7, Tryz.ntmps7
  go_wp2_with fail
  refine NA.out.mono ?_
  rintro e w1 ⟨v, rfl, ho, hb1⟩
  obtain ⟨A1, c1, rfl, hsl⟩ := Sl.of_own ho
  have HS1 := hid (HS.out.below hb1)
  have HR1 := hid (HR.out.below hb1)
  obtain ⟨-, -, hel1⟩ := hsl.elem nmCells5 (by decide)
  obtain ⟨-, -, hel2⟩ := HR1.out.1.elem eCells_len (by decide)
  clear ho hsl
  go_wp2_with fail
  refine (LE.out _ HS1.out).mono ?_
  rintro e w' ⟨rfl, rfl⟩
  go_wp2_with fail
  refine (TO.out _ HS1.out).mono ?_
  rintro e w' ⟨rfl, rfl⟩
  go_wp2_with fail
  refine (RB.out _ HR1.out).mono ?_
  rintro e w' ⟨rfl, rfl⟩
  go_wp2_with fail
  go_loopw [6] (fun i wr => ∃ k : Nat, i = .int .i64 k ∧ k ≤ L.length ∧ Below w1.heap.size w1 wr) (fun i _ => L.length - (intOf i).toNat)
  case atStart => exact ⟨0, rfl, Nat.zero_le _, Below.refl _ _⟩
  case round =>
    obtain ⟨k, rfl, hk, hB⟩ := hrel
    by_cases h1 : k < L.length
    · have h1i : (k : Int) < (L.length : Int) := by omega
      rcases hel1 with rfl | ⟨b1, o1, rfl, hbl1, hc1⟩
      · simp at h1
      rcases hel2 with rfl | ⟨b2, o2, rfl, hbl2, hc2⟩
      · simp at h1
      have hsm := HSM.out L[k] (List.getElem_mem h1)
      have hget := HM.out k h1
      have KK : ∀ w', Below w1.heap.size w1 w' → w'.cell? ⟨b1, o1 + k * 5, none⟩ = some (.int .i64 L[k].1.kind) ∧ w'.cell? ⟨b1, o1 + k * 5 + 1, none⟩ = some (.string L[k].1.owner) ∧ w'.cell? ⟨b1, o1 + k * 5 + 2, none⟩ = some (.int .i64 L[k].1.number) ∧ w'.cell? ⟨b1, o1 + k * 5 + 3, none⟩ = some (.int .i64 L[k].1.index) ∧ w'.cell? ⟨b1, o1 + k * 5 + 4, none⟩ = some (.string L[k].1.text) ∧ w'.cell? ⟨b2, o2 + k * 6, none⟩ = some (.int .i64 L[k].1.kind) ∧ w'.cell? ⟨b2, o2 + k * 6 + 1, none⟩ = some (.string L[k].1.owner) ∧ w'.cell? ⟨b2, o2 + k * 6 + 2, none⟩ = some (.int .i64 L[k].1.number) ∧ w'.cell? ⟨b2, o2 + k * 6 + 3, none⟩ = some (.int .i64 L[k].1.index) ∧ w'.cell? ⟨b2, o2 + k * 6 + 4, none⟩ = some (.string L[k].1.text) ∧ w'.cell? ⟨b2, o2 + k * 6 + 5, none⟩ = some (.string L[k].2) := by
        intro w' hb'
        have e := fun j u (hj : j < 5) (hu : (nmCells L[k].1)[j]? = some u) => ((bcell hb').1 _ _ hbl1).trans (hc1 k j u h1 hj hu)
        have f := fun j u (hj : j < 6) (hu : (eCells L[k])[j]? = some u) => ((bcell hb').1 _ _ hbl2).trans (hc2 k j u h1 hj hu)
        exact ⟨e 0 _ (by decide) rfl, e 1 _ (by decide) rfl, e 2 _ (by decide) rfl, e 3 _ (by decide) rfl, e 4 _ (by decide) rfl, f 0 _ (by decide) rfl, f 1 _ (by decide) rfl, f 2 _ (by decide) rfl, f 3 _ (by decide) rfl, f 4 _ (by decide) rfl, f 5 _ (by decide) rfl⟩
      have hok : L[k].1.Ok := ⟨by unfold maxLen; omega, by unfold maxLen; omega⟩
      have G := hid (fun w' (h : IsState w' p t) => GE.out w' h L[k].1 hok)
      rw [hget] at G
      have OF := hid (fun w' => of4_any L[k].1 w')
      have NE := hid (fun w' => neqN L[k].1 w')
      obtain ⟨q0, q1, q2, q3, q4, q5, q6, q7, q8, q9, q10⟩ := KK wr hB
      have K := hid KK
      unfold nmV at G OF NE
      clear KK hc1 hc2 hsm hget hok
      generalize L[k] = xx at *
      obtain ⟨m, x⟩ := xx
      dsimp only at q0 q1 q2 q3 q4 q5 q6 q7 q8 q9 q10 G OF NE K
      go_wp2_with (go_at_call 13; refine (G.out _ (HS1.out.below hB)).mono ?_; rintro e w2 ⟨rfl, hb2⟩)
      have hB2 : Below w1.heap.size w1 w2 := hB.trans (hb2.mono hB.size)
      obtain ⟨r0, r1, r2, r3, r4, r5, r6, r7, r8, r9, r10⟩ := K.out w2 hB2
      have hgs : getS (some x) = x := rfl
      have hiss : (some x).isSome = true := rfl
      have ne := NE.out
      clear q0 q1 q2 q3 q4 q5 q6 q7 q8 q9 q10
      go_wp2_with fail
      go_region_held3 (fun w' => w'.cell? ⟨b1, o1 + k * 5, none⟩ = some (.int .i64 m.kind) ∧ w'.cell? ⟨b1, o1 + k * 5 + 1, none⟩ = some (.string m.owner) ∧ w'.cell? ⟨b1, o1 + k * 5 + 2, none⟩ = some (.int .i64 m.number) ∧ w'.cell? ⟨b1, o1 + k * 5 + 3, none⟩ = some (.int .i64 m.index) ∧ w'.cell? ⟨b1, o1 + k * 5 + 4, none⟩ = some (.string m.text) ∧ w'.cell? ⟨b2, o2 + k * 6, none⟩ = some (.int .i64 m.kind) ∧ w'.cell? ⟨b2, o2 + k * 6 + 1, none⟩ = some (.string m.owner) ∧ w'.cell? ⟨b2, o2 + k * 6 + 2, none⟩ = some (.int .i64 m.number) ∧ w'.cell? ⟨b2, o2 + k * 6 + 3, none⟩ = some (.int .i64 m.index) ∧ w'.cell? ⟨b2, o2 + k * 6 + 4, none⟩ = some (.string m.text) ∧ w'.cell? ⟨b2, o2 + k * 6 + 5, none⟩ = some (.string x))
        (first | go_keep | exact K.out _ (hB2.drew.trans (hb3.mono hB2.drew.size)))
        (first | (go_at_call 31; refine (OF.out _).mono ?_; rintro e w3 ⟨rfl, hb3⟩))
      have hB3 : Below w1.heap.size w1 w3 := hB2.drew.trans (hb3.mono hB2.drew.size)
      clear r0 r1 r2 r3 r4 r5 r6 r7 r8 r9 r10 ne
      go_wp2_with fail
      go_roundw
      case rel => exact ⟨k + 1, by go_num, by omega, hB3⟩
      case measure => simp [intOf]; omega
    · clear hel1 hel2
      go_wp2_with fail
      go_ret
      exact ⟨rfl, hb1.trans (hB.mono hb1.size)⟩
end Go.Proofs.YtfdbanhbegngoaaGreatDoor
