/-
  LAYER 5, WALKED: state.Decode, of at most 2000 bytes.
-/
import Derived.Test.YtfdbanhbegngoaaGreatDoorRf5d
import Derived.Test.YtfdbanhbegngoaaGreatDoorStE
namespace Go.Proofs.YtfdbanhbegngoaaGreatDoor
open Go.RowKit

theorem IsTree.beside {w w' : World} {g : Nat} {t : TypeId} {cs : Array Value} (hk : Blk w g t cs) (hne : 82 ≠ t) (hg : w.grownBy w' (some g)) : ∀ {u : T} {p : Option Addr}, IsTree w p u → IsTree w' p u
  | .nil, _, h => h
  | .node _ _ _ _, _, ⟨b, pl, pr, hp, hb, hl, hr⟩ => ⟨b, pl, pr, hp, hb.beside hk hne hg, IsTree.beside hk hne hg hl, IsTree.beside hk hne hg hr⟩
theorem IsState.rd {w w' : World} {g : Nat} {b : Bs} {a : Nat} {e : Int} {p : Option Addr} {t : T} (h : IsState w p t) (hr : Rd w g b a e) (hg : w.grownBy w' (some g)) : IsState w' p t := by
  obtain ⟨s, r, hp, hk, ht⟩ := h
  obtain ⟨cs, hb⟩ := hr.blk
  exact ⟨s, r, hp, hk.beside hb (by decide) hg, ht.beside hb (by decide) hg⟩
theorem rdNum_zero (most : Int) (b : Bs) : rdNum most b 0 0 = if (numP most b).2.2 ≠ 0 then (0, 0, (numP most b).2.2) else ((numP most b).1, (numP most b).2.1, 0) := by
  unfold rdNum
  rw [if_neg (by simp), List.drop_zero, Nat.zero_add]

/-- Where state.Decode stands. -/
structure SdAt (W w : World) (g lb : Nat) (b : Bs) (a : Nat) (e : Int) (p : Option Addr) (t : T) (ln : Nm) : Prop where
  rd : Rd w g b a e
  st : IsState w p t
  la : Blk w lb 38 #[.int .i64 ln.kind, .string ln.owner, .int .i64 ln.number, .int .i64 ln.index, .string ln.text]
  lg : W.heap.size ≤ g
  ll : W.heap.size ≤ lb
  be : Below W.heap.size W w
section
variable {W w w' : World} {g lb : Nat} {b : Bs} {a a' : Nat} {e e' : Int} {p : Option Addr} {t : T} {ln : Nm}
theorem SdAt.read (h : SdAt W w g lb b a e p t ln) (hr : Rd w' g b a' e') (hg : w.grownBy w' (some g)) : SdAt W w' g lb b a' e' p t ln :=
  ⟨hr, h.st.rd h.rd hg, h.rd.keeps h.la (by decide) hg, h.lg, h.ll, below_rd h.be hg h.lg h.be.size⟩
theorem SdAt.kept (h : SdAt W w g lb b a e p t ln) (hb : Below w.heap.size w w') : SdAt W w' g lb b a e p t ln :=
  ⟨h.rd.keep hb, h.st.below hb, h.la.below hb h.la.lt, h.lg, h.ll, h.be.trans (hb.mono h.be.size)⟩
end

theorem sd_set {w : World} {g lb : Nat} {b : Bs} {a : Nat} {e : Int} {p : Option Addr} {t : T} {cs : Array Value} (rd : Rd w g b a e) (st : IsState w p t) (la : Blk w lb 38 cs) (i : Nat) (v : Value) :
    Rd (w.setCell ⟨lb, i, none⟩ v) g b a e ∧ IsState (w.setCell ⟨lb, i, none⟩ v) p t ∧ Blk (w.setCell ⟨lb, i, none⟩ v) lb 38 (cs.setIfInBounds i v) := by
  obtain ⟨s, r, hp, hk, ht⟩ := st
  exact ⟨rd.far la (by decide) (by decide) i v, ⟨s, r, hp, hk.beside la (by decide) (gb_set w lb i v), ht.beside la (by decide) (gb_set w lb i v)⟩, la.set_ i v⟩
theorem sd_last {w : World} {g lb : Nat} {b : Bs} {a : Nat} {e : Int} {p : Option Addr} {t : T} {x0 x1 x2 x3 x4 : Value} (rd : Rd w g b a e) (st : IsState w p t) (la : Blk w lb 38 #[x0, x1, x2, x3, x4]) (y0 y1 y2 y3 y4 : Value) :
    Rd (((((w.setCell ⟨lb, 0, none⟩ y0).setCell ⟨lb, 1, none⟩ y1).setCell ⟨lb, 2, none⟩ y2).setCell ⟨lb, 3, none⟩ y3).setCell ⟨lb, 4, none⟩ y4) g b a e ∧ IsState (((((w.setCell ⟨lb, 0, none⟩ y0).setCell ⟨lb, 1, none⟩ y1).setCell ⟨lb, 2, none⟩ y2).setCell ⟨lb, 3, none⟩ y3).setCell ⟨lb, 4, none⟩ y4) p t ∧
      Blk (((((w.setCell ⟨lb, 0, none⟩ y0).setCell ⟨lb, 1, none⟩ y1).setCell ⟨lb, 2, none⟩ y2).setCell ⟨lb, 3, none⟩ y3).setCell ⟨lb, 4, none⟩ y4) lb 38 #[y0, y1, y2, y3, y4] := by
  obtain ⟨a1, a2, a3⟩ := sd_set rd st la 0 y0
  obtain ⟨b1, b2, b3⟩ := sd_set a1 a2 a3 1 y1
  obtain ⟨c1, c2, c3⟩ := sd_set b1 b2 b3 2 y2
  obtain ⟨d1, d2, d3⟩ := sd_set c1 c2 c3 3 y3
  exact sd_set d1 d2 d3 4 y4

set_option maxRecDepth 100000 in
set_option maxHeartbeats 3200000 in
theorem stDecode_any (A : Option Addr) (n c : Nat) (b : Bs) (hb : b.length ≤ 2000) (hA : A = none → n = 0 ∧ c = 0) (w : World) (hs : Sl w w.heap.size 1 A n c (b.map u8v)) :
    Calls Tryz.prog 5 #[.slice A n c] w fun o w' => ∃ p, o = .returned (.tuple #[.pointer p, .int .i64 (stDec b).2]) ∧ ((stDec b).2 ≠ 0 → p = none) ∧ ((stDec b).2 = 0 → ∃ t, IsState w' p t ∧ t.toList = (stDec b).1) ∧ Below w.heap.size w w' := by
  have NR := hid (newReader_any A n c b (by omega) hA w hs)
  have NEW := hid new_any
  have RN := hid (fun w' g (h : Rd w' g b 0 0) => rnumber_any g b 0 0 65536 w' h)
  have RC := hid (fun w' g a e (h : Rd w' g b a e) => rclose_any g b a e w' h)
  have hRN := rdNum_zero 65536 b
  have hST : stDec b = if (numP 65536 b).2.2 ≠ 0 then ([], (numP 65536 b).2.2) else stGo b (numP 65536 b).1 (numP 65536 b).2.1 [] := rfl
  have hE0 := Ent.start (b := b)
  have hrel : ∃ (N a0 : Nat) (e0 : Int), rdNum 65536 b 0 0 = (N, a0, e0) ∧ (e0 ≠ 0 → N = 0 ∧ stDec b = ([], e0)) ∧ (e0 = 0 → stDec b = stGo b N a0 [] ∧ Ent b N a0 []) ∧ N ≤ 65536 ∧ a0 ≤ b.length := by
    by_cases h : (numP 65536 b).2.2 = 0
    · rw [if_neg (by simp [h])] at hRN hST
      have := numP_inv h
      exact ⟨_, _, _, hRN, fun x => absurd rfl x, fun _ => ⟨hST, hE0 h⟩, by omega, numP_le _ _⟩
    · rw [if_pos h] at hRN hST
      exact ⟨_, _, _, hRN, fun _ => ⟨rfl, hST⟩, fun x => absurd x h, by omega, Nat.zero_le _⟩
  clear hRN hST hE0 hs hA
  obtain ⟨N, a0, e0, hrn, he1, he2, hN, ha0⟩ := hrel
  rw [hrn] at RN
  have HE1 := hid he1; have HE2 := hid he2
  generalize hR : stDec b = R at *
  clear hrn hR he1 he2
  go_enter Tryz.func5, Tryz.ntmps5
  go_wp2_with (first
    | (go_at_call 15; refine NR.out.mono ?_; rintro o w1 ⟨g, rfl, hr, hg, hb1⟩; have HR := hid hr; have HLG := hid hg; have HB1 := hid hb1; clear hr hg hb1)
    | (go_at_call 9; refine (NEW.out _).mono ?_; rintro o w2 ⟨p, rfl, hst, hb2⟩; have HST2 := hid hst; have HR2 := hid (HR.out.keep hb2); have HB2 := hid (HB1.out.trans (hb2.mono HB1.out.size)); clear hst hb2)
    | (go_at_call 16; have hsd : SdAt w _ g w2.heap.size b 0 0 p .nil zeroN := ⟨HR2.out.keep ((Below.refl _ _).alloc (Nat.le_refl _) _), HST2.out.below ((Below.refl _ _).alloc (Nat.le_refl _) _), Blk.new _ _ _, HLG.out, HB2.out.size, HB2.out.alloc HB2.out.size _⟩; refine (RN.out _ g hsd.rd).mono ?_; rintro o w3 ⟨rfl, hr3, hg3⟩; have HAT := hid (hsd.read hr3 hg3); clear hsd hr3 hg3))
  obtain ⟨lb, hlb⟩ : ∃ x, x = w2.heap.size := ⟨_, rfl⟩
  rw [← hlb] at HAT ⊢
  clear hlb HST2 HR2 HB2 HR HB1
  go_loopw [5, 25] (fun sv iv wr => ∃ (k a : Nat) (acc : EL) (t : T) (p : Option Addr) (ln : Nm), iv = .int .i64 k ∧ sv = .pointer p ∧ k ≤ N ∧ acc.length = k ∧ t.toList = acc ∧ (∀ x, acc.getLast? = some x → x.1 = ln) ∧ (e0 = 0 → R = stGo b (N - k) a acc ∧ Ent b N a acc) ∧ SdAt w wr g lb b a e0 p t ln) (fun _ iv _ => N - (intOf iv).toNat)
  case atStart => exact ⟨0, a0, [], .nil, p, zeroN, rfl, rfl, Nat.zero_le _, rfl, rfl, fun x hx => by simp at hx, fun h => by rw [Nat.sub_zero]; exact HE2.out h, HAT.out⟩
  case round =>
    obtain ⟨k, a, acc, t, p, ln, rfl, rfl, hk, hal, htl, hln, hgo0, hat⟩ := hrel
    have HAT := hid hat
    have HLN := hid hln
    clear hat hln
    by_cases hkN : k < N
    · have h1i : (k : Int) < (N : Int) := by omega
      have he0 : e0 = 0 := by
        by_cases h : e0 = 0
        · exact h
        · have := (HE1.out h).1; omega
      subst he0
      obtain ⟨hgo, hE⟩ := hgo0 rfl
      have hNk : N - k = (N - (k + 1)) + 1 := by omega
      rw [hNk, stGo_succ] at hgo
      have hM := hE.mild hb
      have hle := hE.got.le
      have RT1 := hid (show ∀ w', Rd w' g b a 0 → Calls Tryz.prog 17 #[.pointer (some ⟨g, 0, none⟩), .int .i64 65536] w' fun o w2 => o = .returned (.string (strB (stT b a).1)) ∧ Rd w2 g b (stT b a).2.1 (stT b a).2.2 ∧ w'.grownBy w2 (some g) from fun w' h => rtext_any g b a 0 65536 w' h)
      have RT2 := hid (show ∀ w', Rd w' g b (stT b a).2.1 0 → Calls Tryz.prog 17 #[.pointer (some ⟨g, 0, none⟩), .int .i64 65536] w' fun o w2 => o = .returned (.string (strB (stV b a).1)) ∧ Rd w2 g b (stV b a).2.1 (stV b a).2.2 ∧ w'.grownBy w2 (some g) from fun w' h => rtext_any g b (stT b a).2.1 0 65536 w' h)
      have RF0 := hid (show ∀ (w' : World) a, Rd w' g b a 0 → Calls Tryz.prog 18 #[.pointer (some ⟨g, 0, none⟩)] w' fun o w2 => o = .returned (.tuple #[.int .i64 0, .int .i64 0]) ∧ Below w'.heap.size w' w2 from fun w' a h => rfailed_any g b a 0 w' h)
      have RFE := hid (show ∀ (w' : World) a e, e ≠ 0 → Rd w' g b a e → Calls Tryz.prog 18 #[.pointer (some ⟨g, 0, none⟩)] w' fun o w2 => ∃ x, o = .returned (.tuple #[.int .i64 x, .int .i64 e]) ∧ Below w'.heap.size w' w2 from fun w' a e _ h => (rfailed_any g b a e w' h).mono fun _ _ h => ⟨_, h.1, h.2⟩)
      have hl1 := stT_len b a
      have hl2 := stV_len b a
      have RD0 := decode4_any (stT b a).1 (by omega)
      obtain ⟨hok1, hok2⟩ := odNm_ok (stT b a).1 (by omega)
      have HOK := hid hok1
      have HSTEP := hid hE.step
      have HSO := hid hE.sorted
      have hM2 := hM
      rw [← htl] at hM2
      have HTO := hid hM2.ok
      obtain ⟨hz1, hz2⟩ := hM2.fits
      have HMS := hid (show ∀ x ∈ acc, x.1.Ok from fun x hx => ⟨by have := (hM.small x hx).1; unfold maxLen; omega, by have := (hM.small x hx).2.1; unfold maxLen; omega⟩)
      have HED := hid (show stE b a = (odNm (stT b a).1, strB (stV b a).1) from rfl)
      have hsv : (strB (stV b a).1).size ≤ 2000 := Nat.le_trans hl2 hb
      clear hM hM2 hE hok1 hok2 hle hNk hgo0
      by_cases he1 : (stT b a).2.2 = 0
      · rw [if_neg (by simp [he1])] at hgo
        rw [he1] at RT1
        by_cases hd : odOk (stT b a).1
        · rw [if_neg (by simp [hd])] at hgo
          rw [if_pos hd, if_pos hd] at RD0
          have RD := hid RD0
          have HGO := hid hgo
          have HD := hid hd
          have HE1' := hid he1
          unfold nmV at RD
          clear RD0 hgo hd he1
          generalize odNm (stT b a).1 = nm at *
          go_upto_region 14 with (first | (go_at_call 17; refine (RT1.out _ HAT.out.rd).mono ?_; rintro o w4 ⟨rfl, hr, hgr⟩; have H4 := hid (HAT.out.read hr hgr); clear hr hgr) | (go_at_call 18; refine (RF0.out _ _ H4.out.rd).mono ?_; rintro o w5 ⟨rfl, hb5⟩; have H5 := hid (H4.out.kept hb5); clear hb5) | (go_at_call 19; refine (RD.out _).mono ?_; rintro o w6 ⟨rfl, hb6⟩; have H6 := hid (H5.out.kept hb6); clear hb6))
          obtain ⟨W6, hW6⟩ : ∃ x, w6.alloc (.cells #[.int .i64 nm.kind, .string nm.owner, .int .i64 nm.number, .int .i64 nm.index, .string nm.text] 38) = x := ⟨_, rfl⟩
          have b6 : Blk W6 w6.heap.size 38 #[.int .i64 nm.kind, .string nm.owner, .int .i64 nm.number, .int .i64 nm.index, .string nm.text] := by rw [← hW6]; exact Blk.new _ _ _
          have h6 : SdAt w W6 g lb b (stT b a).2.1 0 p t ln := by rw [← hW6]; exact H6.out.kept ((Below.refl _ _).alloc (Nat.le_refl _) _)
          have hlb6 := H6.out.la.lt
          rw [hW6]
          obtain ⟨nb, hnb⟩ : ∃ x, x = w6.heap.size := ⟨_, rfl⟩
          rw [← hnb] at b6 hlb6 ⊢
          have hnlb : nb ≠ lb := by omega
          have HX6 := hid b6
          have HS6 := hid h6
          clear hW6 b6 h6 hnb
          go_cut [53] from 26 to 74 (fun q wx => q = .bool (lastGe acc nm) ∧ Below W6.heap.size W6 wx)
          case first =>
            by_cases hk0 : 0 < k
            · obtain ⟨j, hjk⟩ : ∃ j, k = j + 1 := ⟨k - 1, by omega⟩
              have hj : j < acc.length := by omega
              have hlg := lastGe_at hj (by omega) nm
              have hjl : acc[j].1 = ln := HLN.out acc[j] (by rw [List.getLast?_eq_getElem?, hal, hjk, Nat.add_sub_cancel, List.getElem?_eq_getElem hj])
              have hjm := HMS.out acc[j] (List.getElem_mem hj)
              rw [hjl] at hlg hjm
              have CM := hid (fun w' => cmpN_any ln nm hjm HOK.out w')
              unfold nmV at CM
              have HLG' := hid hlg
              have q0 : W6.cell? ⟨lb, 0, none⟩ = some (.int .i64 ln.kind) := HS6.out.la.cell 0
              have q1 : W6.cell? ⟨lb, 1, none⟩ = some (.string ln.owner) := HS6.out.la.cell 1
              have q2 : W6.cell? ⟨lb, 2, none⟩ = some (.int .i64 ln.number) := HS6.out.la.cell 2
              have q3 : W6.cell? ⟨lb, 3, none⟩ = some (.int .i64 ln.index) := HS6.out.la.cell 3
              have q4 : W6.cell? ⟨lb, 4, none⟩ = some (.string ln.text) := HS6.out.la.cell 4
              have r0 : W6.cell? ⟨nb, 0, none⟩ = some (.int .i64 nm.kind) := HX6.out.cell 0
              have r1 : W6.cell? ⟨nb, 1, none⟩ = some (.string nm.owner) := HX6.out.cell 1
              have r2 : W6.cell? ⟨nb, 2, none⟩ = some (.int .i64 nm.number) := HX6.out.cell 2
              have r3 : W6.cell? ⟨nb, 3, none⟩ = some (.int .i64 nm.index) := HX6.out.cell 3
              have r4 : W6.cell? ⟨nb, 4, none⟩ = some (.string nm.text) := HX6.out.cell 4
              have h0k : (0 : Int) < (k : Int) := by omega
              clear hlg hjm hjl hjk hk0
              generalize cmpN ln nm = c' at *
              go_wp2_with (go_at_call 20; refine (CM.out _).mono ?_; rintro o w7 ⟨rfl, hb7⟩)
              go_meet
              exact ⟨by rw [HLG'.out], hb7⟩
            · obtain rfl : k = 0 := by omega
              obtain rfl : acc = [] := List.eq_nil_of_length_eq_zero hal
              go_wp2_with fail
              go_meet
              exact ⟨rfl, Below.refl _ _⟩
          case rest =>
            obtain ⟨rfl, hb7⟩ := hcut
            have HC := hid (HS6.out.kept hb7)
            have HXC := hid (HX6.out.below hb7 HX6.out.lt)
            have hgo := HGO.out
            clear hb7 HGO
            cases hlg : lastGe acc nm with
            | true =>
              rw [hlg, if_pos rfl] at hgo
              subst hgo
              go_wp2_with fail
              go_ret2
              exact ⟨none, rfl, rfl, HC.out.be⟩
            | false =>
              rw [hlg, if_neg (by simp)] at hgo
              have HLF := hid hlg
              by_cases he2 : (stV b a).2.2 = 0
              · rw [if_neg (by simp [he2])] at hgo
                rw [he2] at RT2
                have HGO := hid hgo
                have HE2' := hid he2
                clear hgo he2
                go_upto_region 20 with (first | (go_at_call 17; refine (RT2.out _ HC.out.rd).mono ?_; rintro o w8 ⟨rfl, hr, hgr⟩; have H8 := hid (HC.out.read hr hgr); have hx8 := HC.out.rd.keeps HXC.out (by decide) hgr; have HX8 := hid hx8; clear hr hgr hx8) | (go_at_call 18; refine (RF0.out _ _ H8.out.rd).mono ?_; rintro o w9 ⟨rfl, hb9⟩; have H9 := hid (H8.out.kept hb9); have HX9 := hid (HX8.out.below hb9 HX8.out.lt); clear hb9))
                obtain ⟨sb, r, hpe, hsk, hst⟩ := H9.out.st
                subst hpe
                have hsl := hsk.lt
                have hnl := HX9.out.lt
                have hll := H9.out.la.lt
                have J := hid (fun w' (h : IsTree w' r t) => with_any t nm (strB (stV b a).1) HOK.out HTO.out (by omega) (by omega) r w' h)
                unfold nmV at J
                have K := hid (show ∀ w', w9.grownBy w' (some lb) → w'.cell? ⟨sb, 0, none⟩ = some (.pointer r) ∧ w'.cell? ⟨nb, 0, none⟩ = some (.int .i64 nm.kind) ∧ w'.cell? ⟨nb, 1, none⟩ = some (.string nm.owner) ∧ w'.cell? ⟨nb, 2, none⟩ = some (.int .i64 nm.number) ∧ w'.cell? ⟨nb, 3, none⟩ = some (.int .i64 nm.index) ∧ w'.cell? ⟨nb, 4, none⟩ = some (.string nm.text) from fun w' hb => by
                  have k1 := HX9.out.grown hb (fun e => hnlb (by injection e))
                  exact ⟨(hsk.beside H9.out.la (by decide) hb).cell 0, k1.cell 0, k1.cell 1, k1.cell 2, k1.cell 3, k1.cell 4⟩)
                obtain ⟨p0, p1, p2, p3, p4, p5⟩ := K.out w9 (gb_refl _ _)
                have HTD := hid (hst.below (Below.refl _ _).drew)
                have HLB := hid (show ∀ w', Below w9.heap.size w9 w' → Blk w' lb 38 #[.int .i64 ln.kind, .string ln.owner, .int .i64 ln.number, .int .i64 ln.index, .string ln.text] from fun w' hb => H9.out.la.below hb hll)
                clear hsk hst
                go_region_held3 (fun w' => w'.cell? ⟨sb, 0, none⟩ = some (.pointer r) ∧ w'.cell? ⟨nb, 0, none⟩ = some (.int .i64 nm.kind) ∧ w'.cell? ⟨nb, 1, none⟩ = some (.string nm.owner) ∧ w'.cell? ⟨nb, 2, none⟩ = some (.int .i64 nm.number) ∧ w'.cell? ⟨nb, 3, none⟩ = some (.int .i64 nm.index) ∧ w'.cell? ⟨nb, 4, none⟩ = some (.string nm.text))
                  (first | go_keep | exact K.out _ (gb_below (((Below.refl _ _).drew).trans hb10) _) | exact K.out _ (gb_trans (gb_below (((Below.refl _ _).drew).trans hb10) _) (gb_below ((Below.refl _ _).alloc (Nat.le_refl _) _) _)) | exact K.out _ (gb_trans (gb_below (((Below.refl _ _).drew).trans hb10) _) (gb_trans (gb_set _ _ _ _) (gb_trans (gb_set _ _ _ _) (gb_trans (gb_set _ _ _ _) (gb_trans (gb_set _ _ _ _) (gb_trans (gb_set _ _ _ _) (gb_below ((Below.refl _ _).alloc (Nat.le_refl _) _) _))))))) | exact K.out _ (gb_trans (gb_below (((Below.refl _ _).drew).trans hb10) _) (gb_trans (gb_set _ _ _ _) (gb_trans (gb_set _ _ _ _) (gb_trans (gb_set _ _ _ _) (gb_trans (gb_set _ _ _ _) (gb_set _ _ _ _)))))))
                  (first | (go_at_call 21; refine (J.out _ HTD.out).mono ?_; rintro o w10 ⟨q, rfl, hq, hb10⟩; have hla := HLB.out _ (((Below.refl _ _).drew).trans hb10); have z0 : w10.cell? ⟨lb, 0, none⟩ = some (.int .i64 ln.kind) := hla.cell 0; have f0 := hla.frozen 0; have z1 : w10.cell? ⟨lb, 1, none⟩ = some (.string ln.owner) := hla.cell 1; have f1 := hla.frozen 1; have z2 : w10.cell? ⟨lb, 2, none⟩ = some (.int .i64 ln.number) := hla.cell 2; have f2 := hla.frozen 2; have z3 : w10.cell? ⟨lb, 3, none⟩ = some (.int .i64 ln.index) := hla.cell 3; have f3 := hla.frozen 3; have z4 : w10.cell? ⟨lb, 4, none⟩ = some (.string ln.text) := hla.cell 4; have f4 := hla.frozen 4; have hlt := hla.lt))
                have hb9 := ((Below.refl w9.heap.size w9).drew).trans hb10
                obtain ⟨rd5, -, la5⟩ := sd_last (H9.out.rd.keep hb9) (H9.out.st.below hb9) hla (.int .i64 nm.kind) (.string nm.owner) (.int .i64 nm.number) (.int .i64 nm.index) (.string nm.text)
                have gs5 : w10.grownBy (((((w10.setCell ⟨lb, 0, none⟩ (.int .i64 nm.kind)).setCell ⟨lb, 1, none⟩ (.string nm.owner)).setCell ⟨lb, 2, none⟩ (.int .i64 nm.number)).setCell ⟨lb, 3, none⟩ (.int .i64 nm.index)).setCell ⟨lb, 4, none⟩ (.string nm.text)) (some lb) := (gb_trans (gb_set _ _ _ _) (gb_trans (gb_set _ _ _ _) (gb_trans (gb_set _ _ _ _) (gb_trans (gb_set _ _ _ _) (gb_set _ _ _ _)))))
                have tq := hq.beside hla (by decide) gs5
                have hfin : SdAt w ((((((w10.setCell ⟨lb, 0, none⟩ (.int .i64 nm.kind)).setCell ⟨lb, 1, none⟩ (.string nm.owner)).setCell ⟨lb, 2, none⟩ (.int .i64 nm.number)).setCell ⟨lb, 3, none⟩ (.int .i64 nm.index)).setCell ⟨lb, 4, none⟩ (.string nm.text)).alloc (.cells #[.pointer q] 55)) g lb b (stV b a).2.1 0 (some ⟨w10.heap.size, 0, none⟩) (t.with_ nm (strB (stV b a).1)) nm :=
                  ⟨rd5.keep ((Below.refl _ _).alloc (Nat.le_refl _) _), ⟨w10.heap.size, q, rfl, Blk.new_ _ _ _ (by simp), tq.below ((Below.refl _ _).alloc (Nat.le_refl _) _)⟩, la5.alloc _, H9.out.lg, H9.out.ll,
                    (below_rd (H9.out.be.trans (hb9.mono H9.out.be.size)) gs5 H9.out.ll (by have := H9.out.be.size; have := hb9.size; omega)).alloc (by have := H9.out.be.size; have := hb9.size; simp; omega) _⟩
                have HF := hid hfin
                clear hfin gs5 tq rd5 la5 hb9 hq hb10 hla
                go_wp2_with fail
                go_roundw
                case rel =>
                  refine ⟨k + 1, (stV b a).2.1, acc ++ [stE b a], t.with_ nm (strB (stV b a).1), some ⟨w10.heap.size, 0, none⟩, nm, by go_num, rfl, by omega, by simp [hal], ?_, ?_, fun _ => ⟨HGO.out, HSTEP.out HE1'.out HD.out HLF.out HE2'.out⟩, HF.out⟩
                  · rw [HED.out, snoc_list (by rw [htl]; exact HSO.out) (by rw [htl]; exact lastGe_lt HSO.out HLF.out), htl]
                  · intro x hx
                    rw [List.getLast?_append, List.getLast?_singleton] at hx
                    simp only [Option.some_or, Option.some.injEq] at hx
                    rw [← hx, HED.out]
                case measure => simp [intOf]; omega
              · rw [if_pos he2] at hgo
                have he2b : ((stV b a).2.2 != 0) = true := by simp [he2]
                subst hgo
                have HEE := hid he2
                clear he2
                go_wp2_with (first | (go_at_call 17; refine (RT2.out _ HC.out.rd).mono ?_; rintro o w8 ⟨rfl, hr, hgr⟩; have H8 := hid (HC.out.read hr hgr); have hx8 := HC.out.rd.keeps HXC.out (by decide) hgr; have HX8 := hid hx8; clear hr hgr hx8) | (go_at_call 18; refine (RFE.out _ _ _ HEE.out H8.out.rd).mono ?_; rintro o w9 ⟨x9, rfl, hb9⟩; have H9 := hid (H8.out.kept hb9); clear hb9))
                go_ret2
                exact ⟨none, rfl, fun _ => rfl, fun h => absurd h HEE.out, H9.out.be⟩
        · rw [if_pos hd] at hgo
          rw [if_neg hd, if_neg hd] at RD0
          have RD := hid RD0
          subst hgo
          unfold nmV zeroN at RD
          clear RD0 hd
          go_wp2_with (first | (go_at_call 17; refine (RT1.out _ HAT.out.rd).mono ?_; rintro o w4 ⟨rfl, hr, hgr⟩; have H4 := hid (HAT.out.read hr hgr); clear hr hgr) | (go_at_call 18; refine (RF0.out _ _ H4.out.rd).mono ?_; rintro o w5 ⟨rfl, hb5⟩; have H5 := hid (H4.out.kept hb5); clear hb5) | (go_at_call 19; refine (RD.out _).mono ?_; rintro o w6 ⟨rfl, hb6⟩; have H6 := hid (H5.out.kept hb6); clear hb6))
          go_ret2
          exact ⟨none, rfl, rfl, H6.out.be.alloc H6.out.be.size _⟩
      · rw [if_pos he1] at hgo
        have he1b : ((stT b a).2.2 != 0) = true := by simp [he1]
        subst hgo
        have HEE := hid he1
        clear he1 RD0
        go_wp2_with (first | (go_at_call 17; refine (RT1.out _ HAT.out.rd).mono ?_; rintro o w4 ⟨rfl, hr, hgr⟩; have H4 := hid (HAT.out.read hr hgr); clear hr hgr) | (go_at_call 18; refine (RFE.out _ _ _ HEE.out H4.out.rd).mono ?_; rintro o w5 ⟨x5, rfl, hb5⟩; have H5 := hid (H4.out.kept hb5); clear hb5))
        go_ret2
        exact ⟨none, rfl, fun _ => rfl, fun h => absurd h HEE.out, H5.out.be⟩
    · obtain rfl : k = N := by omega
      have h1i : ¬ ((k : Int) < (k : Int)) := by omega
      have RCA := hid (RC.out _ g a e0 HAT.out.rd)
      by_cases he0 : e0 = 0
      · subst he0
        obtain ⟨hgo, hE⟩ := hgo0 rfl
        rw [Nat.sub_self, stGo_zero] at hgo
        have hle := hE.got.le
        by_cases ha : a < b.length
        · rw [if_pos ha] at hgo
          rw [show rdEnd b a 0 = 5 by unfold rdEnd; rw [if_pos rfl, if_pos ha]] at RCA
          subst hgo
          clear hE hgo0
          go_wp2_with (go_at_call 22; refine RCA.out.mono ?_; rintro o w4 ⟨rfl, nq, rfl⟩)
          go_ret2
          exact ⟨none, rfl, rfl, dN HAT.out.be nq⟩
        · rw [if_neg ha] at hgo
          rw [show rdEnd b a 0 = 0 by unfold rdEnd; rw [if_pos rfl, if_neg ha]] at RCA
          subst hgo
          clear hE hgo0
          have HTL := hid htl
          go_wp2_with (go_at_call 22; refine RCA.out.mono ?_; rintro o w4 ⟨rfl, nq, rfl⟩)
          go_ret2
          exact ⟨p, rfl, ⟨t, HAT.out.st.below (dN (Below.refl _ _) nq), HTL.out⟩, dN HAT.out.be nq⟩
      · obtain ⟨-, hgo⟩ := HE1.out he0
        have he0b : (e0 != 0) = true := by simp [he0]
        rw [show rdEnd b a e0 = e0 by unfold rdEnd; rw [if_neg he0]] at RCA
        subst hgo
        have HEE := hid he0
        clear he0 hgo0
        go_wp2_with (go_at_call 22; refine RCA.out.mono ?_; rintro o w4 ⟨rfl, nq, rfl⟩)
        go_ret2
        exact ⟨none, rfl, fun _ => rfl, fun h => absurd h HEE.out, dN HAT.out.be nq⟩
end Go.Proofs.YtfdbanhbegngoaaGreatDoor
