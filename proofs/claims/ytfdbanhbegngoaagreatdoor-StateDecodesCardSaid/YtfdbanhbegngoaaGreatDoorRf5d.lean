/-
  THE REFERENCE OF LAYER 5, WALKED: Decode, of at most 2000 bytes.
-/
import Derived.Test.YtfdbanhbegngoaaGreatDoorRf4d
import Derived.Test.YtfdbanhbegngoaaGreatDoorRf5
import Derived.Test.YtfdbanhbegngoaaGreatDoorStD
import Derived.Test.YtfdbanhbegngoaaGreatDoorIsM
namespace Go.Proofs.YtfdbanhbegngoaaGreatDoor
open Go.RowKit

theorem stGo_zero (b : Bs) (a : Nat) (acc : EL) : stGo b 0 a acc = if a < b.length then ([], 5) else (acc, 0) := rfl
theorem stGo_succ (b : Bs) (m a : Nat) (acc : EL) : stGo b (m + 1) a acc = if (stT b a).2.2 ≠ 0 then ([], (stT b a).2.2) else if ¬ odOk (stT b a).1 then ([], 3) else if lastGe acc (odNm (stT b a).1) then ([], 32) else if (stV b a).2.2 ≠ 0 then ([], (stV b a).2.2) else stGo b m (stV b a).2.1 (acc ++ [stE b a]) := rfl

/-- The reference's Decode of a name, as the program's. -/
theorem refDecode4_od (s : Bs) (hs : s.length ≤ 1000000) (w : World) :
    Calls Tryz.prog 25 #[.string (strB s)] w fun o w' => o = .returned (.tuple #[nmV (if odOk s then odNm s else zeroN), .int .i64 (if odOk s then 0 else 3)]) ∧ Below w.heap.size w w' := by
  have h := refDecode4_any s hs w
  obtain ⟨e1, e2⟩ := od_iff_rf s hs
  by_cases hk : odOk s
  · rw [if_pos (e1.1 hk), if_pos (e1.1 hk), e2 hk] at h
    rw [if_pos hk, if_pos hk]
    exact h
  · have hk2 : ¬ rfOk s := fun x => hk (e1.2 x)
    rw [if_neg hk2, if_neg hk2] at h
    rw [if_neg hk, if_neg hk]
    exact h
theorem stT_len (b : Bs) (a : Nat) : (stT b a).1.length ≤ b.length := rdTxt_len _ _ _ _
theorem stV_len (b : Bs) (a : Nat) : (stV b a).1.length ≤ b.length := rdTxt_len _ _ _ _
theorem lastGe_at {acc : EL} {k : Nat} (hk : k < acc.length) (hl : acc.length = k + 1) (n : Nm) : lastGe acc n = decide (0 ≤ cmpN acc[k].1 n) := by
  have e : acc.getLast? = some acc[k] := by
    rw [List.getLast?_eq_getElem?, hl, Nat.add_sub_cancel, List.getElem?_eq_getElem hk]
  unfold lastGe
  rw [e]
theorem odNm_ok (s : Bs) (h : s.length ≤ 1000000) : (odNm s).Ok ∧ (odNm s).owner.size ≤ 1000000 := by
  have h1 := odO_len s
  have h2 := odT_len s
  refine ⟨⟨?_, ?_⟩, ?_⟩
  · show (odO s).1.length ≤ maxLen
    unfold maxLen; omega
  · show (odT s).1.length ≤ maxLen
    unfold maxLen; omega
  · show (odO s).1.length ≤ 1000000
    omega

set_option maxRecDepth 100000 in
set_option maxHeartbeats 3200000 in
theorem ref5Decode_any (A : Option Addr) (n c : Nat) (b : Bs) (hb : b.length ≤ 2000) (w : World) (hs : Sl w w.heap.size 1 A n c (b.map u8v)) :
    Calls Tryz.prog 6 #[.slice A n c] w fun o w' => ∃ A1 n1 c1, o = .returned (.tuple #[.slice A1 n1 c1, .int .i64 (stDec b).2]) ∧ ((stDec b).2 = 0 → RowE w' A1 n1 c1 (stDec b).1) ∧ Below w.heap.size w w' := by
  obtain ⟨i0, hi, hz0, hz1, hz2⟩ := info_parts Tryz.info_E
  have hn : b.length = n := by have := hs.1; simpa using this
  have SK := hid (fun w' (h : Below w.heap.size w w') => (hs.below h).more h.size)
  have PA := hid (refParse01_any A n c b w hs)
  have hST : stDec b = if (numP 65536 b).2.2 ≠ 0 then ([], (numP 65536 b).2.2) else stGo b (numP 65536 b).1 (numP 65536 b).2.1 [] := rfl
  have hNP : numP 65536 b = if (prs b).2.2 = 0 ∧ 65536 < ((prs b).1 : Int) then (0, 0, 2) else prs b := rfl
  clear hs
  by_cases h1 : (prs b).2.2 = 0
  · by_cases h2 : 65536 < ((prs b).1 : Int)
    · rw [if_pos ⟨h1, h2⟩] at hNP
      rw [hNP, if_pos (by simp)] at hST
      rw [h1] at PA
      rw [hST]
      clear hST hNP h1
      generalize (prs b).1 = v at *
      generalize (prs b).2.1 = k at *
      go_enter Tryz.func6, Tryz.ntmps6
      go_wp2_with (go_at_call 23; refine PA.out.mono ?_; rintro o w' ⟨rfl, rfl⟩)
      go_ret2
      exact ⟨_, _, _, rfl, fun h => by simp at h, Below.refl _ _⟩
    · rw [if_neg (fun h => h2 h.2)] at hNP
      rw [hNP, if_neg (by simp [h1])] at hST
      have hE0 := Ent.start (b := b) (by rw [hNP]; exact h1)
      rw [hNP] at hE0
      rw [h1] at PA
      have hlt := prs_lt b
      generalize (prs b).1 = N at *
      generalize (prs b).2.1 = k0 at *
      have HST := hid hST; have HE0 := hid hE0
      generalize hR : stDec b = R at *
      clear hST hE0 hNP h1 hR
      go_enter Tryz.func6, Tryz.ntmps6
      go_wp2_with (go_at_call 23; refine PA.out.mono ?_; rintro o w' ⟨rfl, rfl⟩)
      go_loopw [5, 7, 8] (fun av ov iv wr => ∃ (k a : Nat) (acc : EL), iv = .int .i64 k ∧ av = .int .i64 a ∧ k ≤ N ∧ acc.length = k ∧ R = stGo b (N - k) a acc ∧ Ent b N a acc ∧ wr.ownsRow w.heap.size 68 6 ov k (acc.flatMap eCells) ∧ Below w.heap.size w wr) (fun _ _ iv _ => N - (intOf iv).toNat)
      case atStart => exact ⟨0, k0, [], rfl, rfl, Nat.zero_le _, rfl, by rw [Nat.sub_zero]; exact HST.out, HE0.out, World.ownsRow_nil _ _ _ _, Below.refl _ _⟩
      case round =>
        obtain ⟨k, a, acc, rfl, rfl, hk, hal, hr, hE, ho, hB⟩ := hrel
        have hle := hE.got.le
        have hM := hE.mild hb
        have hE' := hE
        have HRR := hid hr; have HE := hid hE; have HO := hid ho; have HB := hid hB
        clear hr hE ho hB
        by_cases hkN : k < N
        · have h1i : (k : Int) < (N : Int) := by omega
          have hNk : N - k = (N - (k + 1)) + 1 := by omega
          have hgo := HRR.out
          rw [hNk, stGo_succ] at hgo
          have TX1 := hid (show ∀ w', Below w.heap.size w w' → Calls Tryz.prog 24 #[.slice A n c, .int .i64 a, .int .i64 65536] w' fun o w2 => o = .returned (.tuple #[.string (strB (stT b a).1), .int .i64 (stT b a).2.1, .int .i64 (stT b a).2.2]) ∧ Below w'.heap.size w' w2 from fun w' h => reftext_any A n c b a 65536 hle w' (SK.out w' h))
          have TX2 := hid (show ∀ w', Below w.heap.size w w' → Calls Tryz.prog 24 #[.slice A n c, .int .i64 (stT b a).2.1, .int .i64 65536] w' fun o w2 => o = .returned (.tuple #[.string (strB (stV b a).1), .int .i64 (stV b a).2.1, .int .i64 (stV b a).2.2]) ∧ Below w'.heap.size w' w2 from fun w' h => reftext_any A n c b (stT b a).2.1 65536 (stT_le hle) w' (SK.out w' h))
          have hl1 := stT_len b a
          have hl2 := stV_len b a
          have RD0 := refDecode4_od (stT b a).1 (by omega)
          obtain ⟨hok1, hok2⟩ := odNm_ok (stT b a).1 (by omega)
          have HOK := hid hok2
          have HMS := hid (show ∀ x ∈ acc, x.1.owner.size ≤ 1000000 from fun x hx => by have := (hM.small x hx).1; omega)
          have HSTEP := hid (hE'.step)
          have hEd : stE b a = (odNm (stT b a).1, strB (stV b a).1) := rfl
          have HED := hid hEd
          have HK1 := hid hM.len
          clear hM hok1 hok2 hEd hle hNk
          by_cases he1 : (stT b a).2.2 = 0
          · rw [if_neg (by simp [he1])] at hgo
            rw [he1] at TX1
            by_cases hd : odOk (stT b a).1
            · rw [if_neg (by simp [hd])] at hgo
              rw [if_pos hd, if_pos hd] at RD0
              have RD := hid RD0
              have HGO := hid hgo
              have HD := hid hd
              have HE1 := hid he1
              unfold nmV at RD
              clear RD0 hgo hd he1
              generalize odNm (stT b a).1 = nm at *
              go_upto_region 16 with (first | (go_at_call 24; refine (TX1.out _ HB.out).mono ?_; rintro o w1 ⟨rfl, hb1⟩; have HB1 := hid (HB.out.trans (hb1.mono HB.out.size)); have HBa := hid hb1; clear hb1) | (go_at_call 25; refine (RD.out _).mono ?_; rintro o w2 ⟨rfl, hb2⟩; have HB2 := hid (HB1.out.trans (hb2.mono HB1.out.size)); have HBb := hid (HBa.out.trans (hb2.mono HBa.out.size)); clear hb2))
              obtain ⟨W6, hW6⟩ : ∃ x, w2.alloc (.cells #[.int .i64 nm.kind, .string nm.owner, .int .i64 nm.number, .int .i64 nm.index, .string nm.text] 63) = x := ⟨_, rfl⟩
              have b6 : Blk W6 w2.heap.size 63 #[.int .i64 nm.kind, .string nm.owner, .int .i64 nm.number, .int .i64 nm.index, .string nm.text] := by rw [← hW6]; exact Blk.new _ _ _
              have hB6 : Below w2.heap.size w2 W6 := by rw [← hW6]; exact (Below.refl _ _).alloc (Nat.le_refl _) _
              have HB6 := hid (HB2.out.trans (hB6.mono HB2.out.size))
              have HBc := hid (HBb.out.trans (hB6.mono HBb.out.size))
              have HX6 := hid b6
              rw [hW6]
              clear hW6 b6 hB6
              go_cut [63] from 28 to 80 (fun g wx => g = .bool (lastGe acc nm) ∧ Below W6.heap.size W6 wx)
              case first =>
                by_cases hk0 : 0 < k
                · obtain ⟨j, hjk⟩ : ∃ j, k = j + 1 := ⟨k - 1, by omega⟩
                  have hj : j < acc.length := by omega
                  have hlg := lastGe_at hj (by omega) nm
                  have hjm := HMS.out acc[j] (List.getElem_mem hj)
                  obtain ⟨A0, c0, hov, hs0, -⟩ := own_shape HO.out
                  obtain ⟨-, -, hel⟩ := ((hs0.below HBc.out).more HBc.out.size).elem eCells_len (by decide)
                  rcases hel with hnil | ⟨bb, off, rfl, hbb, hc⟩
                  · rw [hnil] at hj; simp at hj
                  subst hov
                  have KK : ∀ w', Below W6.heap.size W6 w' → w'.cell? ⟨bb, off + j * 6, none⟩ = some (.int .i64 acc[j].1.kind) ∧ w'.cell? ⟨bb, off + j * 6 + 1, none⟩ = some (.string acc[j].1.owner) ∧ w'.cell? ⟨bb, off + j * 6 + 2, none⟩ = some (.int .i64 acc[j].1.number) ∧ w'.cell? ⟨bb, off + j * 6 + 3, none⟩ = some (.int .i64 acc[j].1.index) ∧ w'.cell? ⟨bb, off + j * 6 + 4, none⟩ = some (.string acc[j].1.text) ∧ w'.cell? ⟨w2.heap.size, 0, none⟩ = some (.int .i64 nm.kind) ∧ w'.cell? ⟨w2.heap.size, 1, none⟩ = some (.string nm.owner) ∧ w'.cell? ⟨w2.heap.size, 2, none⟩ = some (.int .i64 nm.number) ∧ w'.cell? ⟨w2.heap.size, 3, none⟩ = some (.int .i64 nm.index) ∧ w'.cell? ⟨w2.heap.size, 4, none⟩ = some (.string nm.text) := by
                    intro w' hb'
                    have cc := HX6.out.below hb' HX6.out.lt
                    exact ⟨((bcell hb').1 _ _ hbb).trans (hc j 0 _ hj (by decide) rfl), ((bcell hb').1 _ _ hbb).trans (hc j 1 _ hj (by decide) rfl), ((bcell hb').1 _ _ hbb).trans (hc j 2 _ hj (by decide) rfl), ((bcell hb').1 _ _ hbb).trans (hc j 3 _ hj (by decide) rfl), ((bcell hb').1 _ _ hbb).trans (hc j 4 _ hj (by decide) rfl), cc.cell 0, cc.cell 1, cc.cell 2, cc.cell 3, cc.cell 4⟩
                  obtain ⟨q0, q1, q2, q3, q4, q5, q6, q7, q8, q9⟩ := KK W6 (Below.refl _ _)
                  have CM := hid (fun w' => refCmpN_any acc[j].1 nm hjm HOK.out w')
                  have K := hid KK
                  have HJM := hid hjm
                  have HLG := hid hlg
                  unfold nmV at CM
                  have hk1 := HK1.out
                  have hsub : (k : Int) - 1 = (j : Int) := by omega
                  have hsub2 : IntKind.i64.wrap ((k : Int) - 1) = (k : Int) - 1 := by simp [IntKind.wrap, IntKind.signed, IntKind.bits]; omega
                  have hsub3 : IntKind.i64.wrap (j : Int) = (j : Int) := by simp [IntKind.wrap, IntKind.signed, IntKind.bits]; omega
                  have h0k : (0 : Int) < (k : Int) := by omega
                  have h0d : decide ((0 : Int) < (k : Int)) = true := decide_eq_true h0k
                  have h0n : decide (0 < k) = true := decide_eq_true (by omega)
                  have hj0 : (0 : Int) ≤ (j : Int) := by omega
                  have hji : (j : Int) < (k : Int) := by omega
                  clear KK hc hjm hlg hs0 hk0 hjk
                  generalize acc[j].1 = m at *
                  generalize cmpN m nm = c' at *
                  go_region_held3 (fun w' => w'.cell? ⟨bb, off + j * 6, none⟩ = some (.int .i64 m.kind) ∧ w'.cell? ⟨bb, off + j * 6 + 1, none⟩ = some (.string m.owner) ∧ w'.cell? ⟨bb, off + j * 6 + 2, none⟩ = some (.int .i64 m.number) ∧ w'.cell? ⟨bb, off + j * 6 + 3, none⟩ = some (.int .i64 m.index) ∧ w'.cell? ⟨bb, off + j * 6 + 4, none⟩ = some (.string m.text) ∧ w'.cell? ⟨w2.heap.size, 0, none⟩ = some (.int .i64 nm.kind) ∧ w'.cell? ⟨w2.heap.size, 1, none⟩ = some (.string nm.owner) ∧ w'.cell? ⟨w2.heap.size, 2, none⟩ = some (.int .i64 nm.number) ∧ w'.cell? ⟨w2.heap.size, 3, none⟩ = some (.int .i64 nm.index) ∧ w'.cell? ⟨w2.heap.size, 4, none⟩ = some (.string nm.text))
                    (first | go_keep | exact K.out _ (((Below.refl _ _).drew).trans (hb1.mono (by simp))))
                    (first | (go_at_call 26; refine (CM.out _).mono ?_; rintro e w1' ⟨rfl, hb1⟩))
                  all_goals
                    go_wp2_with fail
                    go_meet
                    exact ⟨by rw [HLG.out], ((Below.refl _ _).drew).trans (hb1.mono (by simp))⟩
                · obtain rfl : k = 0 := by omega
                  obtain rfl : acc = [] := List.eq_nil_of_length_eq_zero hal
                  go_quiet (fail)
                  go_wp2_with fail
                  go_meet
                  exact ⟨rfl, dN (Below.refl _ _) _⟩
              case rest =>
                obtain ⟨rfl, hb6⟩ := hcut
                have H6 := hid hb6
                have HBw := hid (HB6.out.trans (hb6.mono HB6.out.size))
                have HBc6 := hid (HBc.out.trans (hb6.mono HBc.out.size))
                have hgo := HGO.out
                clear hb6 HGO
                cases hlg : lastGe acc nm with
                | true =>
                  rw [hlg, if_pos rfl] at hgo
                  subst hgo
                  go_wp2_with fail
                  go_ret2
                  exact ⟨⟨none, 0, 0, rfl⟩, HBw.out⟩
                | false =>
                  rw [hlg, if_neg (by simp)] at hgo
                  have HLF := hid hlg
                  by_cases he2 : (stV b a).2.2 = 0
                  · rw [if_neg (by simp [he2])] at hgo
                    rw [he2] at TX2
                    have HGO := hid hgo
                    have HE2 := hid he2
                    clear hgo he2
                    go_wp2_with (first | (go_at_call 24; refine (TX2.out _ HBw.out).mono ?_; rintro o w7 ⟨rfl, hb7⟩; have HB7 := hid (HBw.out.trans (hb7.mono HBw.out.size)); have HBd := hid (HBc6.out.trans (hb7.mono HBc6.out.size)); have hx7 := HX6.out.below (H6.out.trans (hb7.mono H6.out.size)) HX6.out.lt; have r0 : w7.cell? ⟨w2.heap.size, 0, none⟩ = some (.int .i64 nm.kind) := hx7.cell 0; have r1 : w7.cell? ⟨w2.heap.size, 1, none⟩ = some (.string nm.owner) := hx7.cell 1; have r2 : w7.cell? ⟨w2.heap.size, 2, none⟩ = some (.int .i64 nm.number) := hx7.cell 2; have r3 : w7.cell? ⟨w2.heap.size, 3, none⟩ = some (.int .i64 nm.index) := hx7.cell 3; have r4 : w7.cell? ⟨w2.heap.size, 4, none⟩ = some (.string nm.text) := hx7.cell 4; have HO7 := hid (ownsRow_below HO.out HBd.out); have hs7 := HB7.out.size; clear hb7 hx7) | (at_builtin; refine wpList_append_own _ rfl (.tmp 74) (.tmp 78) _ rfl w.heap.size 68 i0 (.agg #[.int .i64 0, .string ⟨#[]⟩, .int .i64 0, .int .i64 0, .string ⟨#[]⟩, .string ⟨#[]⟩]) 6 72 Tryz.underlying28 hi hz0 hz1 hz2 rfl (by decide) _ _ _ rfl (HO7.out.alloc _) ⟨w7.heap.size, 0, none⟩ 1 1 (eCells (nm, strB (stV b a).1)) rfl rfl (cells_new w7 #[.int .i64 nm.kind, .string nm.owner, .int .i64 nm.number, .int .i64 nm.index, .string nm.text, .string (strB (stV b a).1)] _) (by simp [eCells, nmCells, Value.oneCell']) (by unfold maxLen; have := HK1.out; omega) (by have := HK1.out; omega) (by simp; omega) ?_; intro v8 w8 ho8 hg8 _; have HO8 := hid ho8; have HG8 := hid hg8; clear ho8 hg8))
                    go_roundw
                    case rel =>
                      refine ⟨k + 1, (stV b a).2.1, acc ++ [stE b a], by go_num, rfl, by omega, by simp [hal], HGO.out, HSTEP.out HE1.out HD.out HLF.out HE2.out, ?_, Below.grown (HB7.out.alloc hs7 _) HG8.out (by simp; omega) (fun j e => (HO7.out.lt j e).1)⟩
                      rw [List.flatMap_append, HED.out]
                      simpa using HO8.out
                    case measure => simp [intOf]; omega
                  · rw [if_pos he2] at hgo
                    have he2b : ((stV b a).2.2 != 0) = true := by simp [he2]
                    subst hgo
                    have HE2 := hid he2
                    clear he2
                    go_wp2_with (go_at_call 24; refine (TX2.out _ HBw.out).mono ?_; rintro o w7 ⟨rfl, hb7⟩; have HB7 := hid (HBw.out.trans (hb7.mono HBw.out.size)); have HBd := hid (HBc6.out.trans (hb7.mono HBc6.out.size)); have hx7 := HX6.out.below (H6.out.trans (hb7.mono H6.out.size)) HX6.out.lt; have r0 : w7.cell? ⟨w2.heap.size, 0, none⟩ = some (.int .i64 nm.kind) := hx7.cell 0; have r1 : w7.cell? ⟨w2.heap.size, 1, none⟩ = some (.string nm.owner) := hx7.cell 1; have r2 : w7.cell? ⟨w2.heap.size, 2, none⟩ = some (.int .i64 nm.number) := hx7.cell 2; have r3 : w7.cell? ⟨w2.heap.size, 3, none⟩ = some (.int .i64 nm.index) := hx7.cell 3; have r4 : w7.cell? ⟨w2.heap.size, 4, none⟩ = some (.string nm.text) := hx7.cell 4; have HO7 := hid (ownsRow_below HO.out HBd.out); have hs7 := HB7.out.size; clear hb7 hx7)
                    go_ret2
                    exact ⟨none, 0, 0, rfl, fun h => absurd h HE2.out, HB7.out⟩
            · rw [if_pos hd] at hgo
              rw [if_neg hd, if_neg hd] at RD0
              have RD := hid RD0
              subst hgo
              unfold nmV zeroN at RD
              clear RD0 hd
              go_wp2_with (first | (go_at_call 24; refine (TX1.out _ HB.out).mono ?_; rintro o w1 ⟨rfl, hb1⟩; have HB1 := hid (HB.out.trans (hb1.mono HB.out.size)); have HBa := hid hb1; clear hb1) | (go_at_call 25; refine (RD.out _).mono ?_; rintro o w2 ⟨rfl, hb2⟩; have HB2 := hid (HB1.out.trans (hb2.mono HB1.out.size)); have HBb := hid (HBa.out.trans (hb2.mono HBa.out.size)); clear hb2))
              go_ret2
              exact ⟨⟨none, 0, 0, rfl⟩, HB2.out.alloc HB2.out.size _⟩
          · rw [if_pos he1] at hgo
            have he1b : ((stT b a).2.2 != 0) = true := by simp [he1]
            subst hgo
            have HE1 := hid he1
            clear he1 RD0
            go_wp2_with (go_at_call 24; refine (TX1.out _ HB.out).mono ?_; rintro o w1 ⟨rfl, hb1⟩; have HB1 := hid (HB.out.trans (hb1.mono HB.out.size)); have HBa := hid hb1; clear hb1)
            go_ret2
            exact ⟨none, 0, 0, rfl, fun h => absurd h HE1.out, HB1.out⟩
        · obtain rfl : k = N := by omega
          have h1i : ¬ ((k : Int) < (k : Int)) := by omega
          have hgo := HRR.out
          rw [Nat.sub_self, stGo_zero] at hgo
          by_cases ha : a < b.length
          · have hai : (a : Int) < (n : Int) := by omega
            rw [if_pos ha] at hgo
            subst hgo
            go_wp2_with fail
            go_ret2
            exact ⟨⟨none, 0, 0, rfl⟩, HB.out⟩
          · have hai : ¬ ((a : Int) < (n : Int)) := by omega
            rw [if_neg ha] at hgo
            subst hgo
            obtain ⟨A1, c1, hov, hrow⟩ := RowE.of_own HO.out
            subst hov
            have HROW := hid hrow
            clear hrow
            go_wp2_with fail
            go_ret2
            exact ⟨A1, k, c1, rfl, HROW.out, HB.out⟩
  · have h1b : ((prs b).2.2 != 0) = true := by simp [h1]
    rw [if_neg (fun h => h1 h.1)] at hNP
    rw [hNP, if_pos h1] at hST
    rw [hST]
    clear hST hNP
    have H1 := hid h1
    clear h1
    generalize (prs b).1 = v at *
    generalize (prs b).2.1 = k at *
    generalize (prs b).2.2 = d at *
    go_enter Tryz.func6, Tryz.ntmps6
    go_wp2_with (go_at_call 23; refine PA.out.mono ?_; rintro o w' ⟨rfl, rfl⟩)
    go_ret2
    exact ⟨_, _, _, rfl, fun h => absurd h H1.out, Below.refl _ _⟩
end Go.Proofs.YtfdbanhbegngoaaGreatDoor
