/-
  LAYER 4, WALKED: object.Decode.
-/
import Derived.Test.YtfdbanhbegngoaaGreatDoorRdN
import Derived.Test.YtfdbanhbegngoaaGreatDoorNmD
import Derived.Test.YtfdbanhbegngoaaGreatDoorWrT
import Derived.Deep.CutRange
import Derived.Laws.CopyOwn
namespace Go.Proofs.YtfdbanhbegngoaaGreatDoor
open Go.RowKit

def zeroN : Nm := ⟨0, ⟨#[]⟩, 0, 0, ⟨#[]⟩⟩
/-- Where object.Decode stands: the reader, the name so far, what the kind uses, the result's cell. -/
structure OdAt (W w : World) (g nb ub : Nat) (s : Bs) (a : Nat) (e : Int) (k : Nat) (ow : Bs) (nu ix : Nat) (tx : Bs) : Prop where
  rd : Rd w g s a e
  nm : Blk w nb 38 #[.int .i64 k, .string (strB ow), .int .i64 nu, .int .i64 ix, .string (strB tx)]
  us : Blk w ub 99 #[.string (kWord k), .bool (kOwn k), .bool (kNum k), .bool (kTxt k), .int .i64 (kMost k)]
  re : Blk w W.heap.size 38 #[.int .i64 0, .string ⟨#[]⟩, .int .i64 0, .int .i64 0, .string ⟨#[]⟩]
  lg : W.heap.size < g
  ln : W.heap.size < nb
  be : Below W.heap.size W w
section
variable {W w w' : World} {g nb ub : Nat} {s : Bs} {a a' : Nat} {e e' : Int} {k : Nat} {ow : Bs} {nu ix : Nat} {tx : Bs}
theorem OdAt.read (h : OdAt W w g nb ub s a e k ow nu ix tx) (hr : Rd w' g s a' e') (hg : w.grownBy w' (some g)) : OdAt W w' g nb ub s a' e' k ow nu ix tx :=
  ⟨hr, h.rd.keeps h.nm (by decide) hg, h.rd.keeps h.us (by decide) hg, h.rd.keeps h.re (by decide) hg, h.lg, h.ln, below_rd h.be hg (by have := h.lg; omega) h.be.size⟩
theorem OdAt.setO (h : OdAt W w g nb ub s a e k ow nu ix tx) (x : Bs) : OdAt W (w.setCell ⟨nb, 1, none⟩ (.string (strB x))) g nb ub s a e k x nu ix tx :=
  ⟨h.rd.far h.nm (by decide) (by decide) _ _, h.nm.set_ 1 _, h.us.far (Blk.ne_ h.us h.nm (by decide)) _, h.re.far (by have := h.ln; intro e; have : W.heap.size = nb := e; omega) _, h.lg, h.ln, h.be.setCell (by have := h.ln; show W.heap.size ≤ nb; omega) _⟩
theorem OdAt.setN (h : OdAt W w g nb ub s a e k ow nu ix tx) (x : Nat) : OdAt W (w.setCell ⟨nb, 2, none⟩ (.int .i64 x)) g nb ub s a e k ow x ix tx :=
  ⟨h.rd.far h.nm (by decide) (by decide) _ _, h.nm.set_ 2 _, h.us.far (Blk.ne_ h.us h.nm (by decide)) _, h.re.far (by have := h.ln; intro e; have : W.heap.size = nb := e; omega) _, h.lg, h.ln, h.be.setCell (by have := h.ln; show W.heap.size ≤ nb; omega) _⟩
theorem OdAt.setI (h : OdAt W w g nb ub s a e k ow nu ix tx) (x : Nat) : OdAt W (w.setCell ⟨nb, 3, none⟩ (.int .i64 x)) g nb ub s a e k ow nu x tx :=
  ⟨h.rd.far h.nm (by decide) (by decide) _ _, h.nm.set_ 3 _, h.us.far (Blk.ne_ h.us h.nm (by decide)) _, h.re.far (by have := h.ln; intro e; have : W.heap.size = nb := e; omega) _, h.lg, h.ln, h.be.setCell (by have := h.ln; show W.heap.size ≤ nb; omega) _⟩
theorem OdAt.setT (h : OdAt W w g nb ub s a e k ow nu ix tx) (x : Bs) : OdAt W (w.setCell ⟨nb, 4, none⟩ (.string (strB x))) g nb ub s a e k ow nu ix x :=
  ⟨h.rd.far h.nm (by decide) (by decide) _ _, h.nm.set_ 4 _, h.us.far (Blk.ne_ h.us h.nm (by decide)) _, h.re.far (by have := h.ln; intro e; have : W.heap.size = nb := e; omega) _, h.lg, h.ln, h.be.setCell (by have := h.ln; show W.heap.size ≤ nb; omega) _⟩
end
theorem uses_at0 (k : Nat) (h2 : k ≤ 20) (w : World) : (Instr.index 100 (.agg usesCells) (.int .i64 k)).run Tryz.prog w = .ok (.agg #[.string (kWord k), .bool (kOwn k), .bool (kNum k), .bool (kTxt k), .int .i64 (kMost k)]) w := by
  by_cases h1 : 1 ≤ k
  · exact uses_at k h1 h2 w
  · obtain rfl : k = 0 := by omega
    kernel_rfl
theorem rdTxt_len (most : Int) (b : Bs) (a : Nat) (e : Int) : (rdTxt most b a e).1.length ≤ b.length := by
  unfold rdTxt
  split
  · simp
  · split
    · simp
    · unfold txtP
      split
      · simp
      · split
        · simp
        · split
          · simp
          · simp only [List.length_take, List.length_drop]; omega
theorem odO_len (s : Bs) : (odO s).1.length ≤ s.length := by unfold odO; split <;> first | exact rdTxt_len _ _ _ _ | exact Nat.zero_le _
theorem odT_len (s : Bs) : (odT s).1.length ≤ s.length := by unfold odT; split <;> first | exact rdTxt_len _ _ _ _ | exact Nat.zero_le _
theorem rdNum_most {most : Nat} (b : Bs) (a : Nat) (e : Int) : (rdNum most b a e).1 ≤ most := by
  unfold rdNum
  split
  · simp
  · split
    · simp
    · next h =>
      obtain ⟨-, -, h3, -⟩ := numP_inv (most := (most : Int)) (l := b.drop a) (by omega)
      simp only
      omega
theorem odK_most (s : Bs) : (odK s).1 ≤ 20 := rdNum_most (most := 20) s 0 0
theorem OdAt.start {W w2 w' : World} {g ub : Nat} {s : Bs} {a : Nat} {e : Int} {k : Nat} (rd : Rd w2 g s a e) (re : Blk w2 W.heap.size 38 #[.int .i64 0, .string ⟨#[]⟩, .int .i64 0, .int .i64 0, .string ⟨#[]⟩]) (lg : W.heap.size < g) (be : Below W.heap.size W w2) (ln : W.heap.size < w2.heap.size)
    (hb : Below (w2.heap.size + 1) (w2.alloc (.cells #[.int .i64 k, .string ⟨#[]⟩, .int .i64 0, .int .i64 0, .string ⟨#[]⟩] 38)) w') (us : Blk w' ub 99 #[.string (kWord k), .bool (kOwn k), .bool (kNum k), .bool (kTxt k), .int .i64 (kMost k)]) :
    OdAt W w' g w2.heap.size ub s a e k [] 0 0 [] := by
  have h2 : Below w2.heap.size w2 w' := ((Below.refl _ _).alloc (Nat.le_refl _) _).trans (hb.mono (by omega))
  exact ⟨rd.keep h2, (Blk.new _ _ _).below hb (by omega), us, re.below h2 ln, lg, ln, be.trans (h2.mono (by omega))⟩

theorem one5 (a : Int) (b : ByteArray) (c d : Int) (e : ByteArray) : (#[.int .i64 a, .string b, .int .i64 c, .int .i64 d, .string e] : Array Value).all (·.oneCell') = true := by simp [Value.oneCell']
theorem results_cell_two {P : Program} {fn : Func} {p q : Tmp} {ty : TypeId} (h : fn.results = #[.cell p ty, .tmp q]) (tmps : Array Value) (w : World) (g : Nat) (t : TypeId) (cs : Array Value) (fr : Nat × Nat) (d : TypeDesc) (v : Value)
    (hp : tmps.getD p undef = .pointer (some ⟨g, 0, none⟩)) (hq : tmps.getD q undef = v) (hg : w.heap[g]? = some (.cells cs t fr))
    (hu : P.underlying ty = some d) (hd : (match d with | .struct _ | .array _ _ => true | _ => false) = true) (hi : (P.info? ty).map (·.size) = some cs.size) :
    (results fn tmps).run P w = .ok (.tuple #[.agg cs, v]) w := by
  have hp' : tmps[p]?.getD undef = .pointer (some ⟨g, 0, none⟩) := by simpa using hp
  have hq' : tmps[q]?.getD undef = v := by simpa using hq
  simp [results, h, hp', hq', asAddr, run_loadVar_row w g t ty cs fr d hg hu hd hi]
theorem sl_str (w W' : World) (s : Bs) (cap p : Nat) (hp : p = w.heap.size) (h1 : (strB s).size ≤ cap) (h2 : cap ≤ maxLen) (fr : Nat × Nat) (hb : Below (w.heap.size + 1) (w.alloc (.cells (bytesRow (strB s) cap) 5 fr)) W') : Sl W' W'.heap.size 1 (some ⟨p, 0, none⟩) (strB s).size cap (s.map u8v) := by
  subst hp
  exact ((Sl.ofStr w (strB s) cap h1 h2 fr).below hb).more (by have := hb.size; simpa using this)

set_option maxRecDepth 100000 in
set_option maxHeartbeats 3200000 in
theorem decode4_any (s : Bs) (hs : s.length ≤ 1000000) (w : World) :
    Calls Tryz.prog 19 #[.string (strB s)] w fun o w' => o = .returned (.tuple #[nmV (if odOk s then odNm s else zeroN), .int .i64 (if odOk s then 0 else 3)]) ∧ Below w.heap.size w w' := by
  have hcv2 := fun w s => run_bytes_of_string (P := Tryz.prog) w 9 22 5 s Tryz.underlying9 Tryz.underlying22 Tryz.underlying5
  have NR := hid (fun (w' : World) A n c (hA : A = none → n = 0 ∧ c = 0) (hs' : Sl w' w'.heap.size 1 A n c (s.map u8v)) => newReader_any A n c s (by omega) hA w' hs')
  have RK := hid (show ∀ (w' : World) g, Rd w' g s 0 0 → Calls Tryz.prog 16 #[.pointer (some ⟨g, 0, none⟩), .int .i64 20] w' fun o w2 => o = .returned (.int .i64 (odK s).1) ∧ Rd w2 g s (odK s).2.1 (odK s).2.2 ∧ w'.grownBy w2 (some g) from fun w' g h => rnumber_any g s 0 0 20 w' h)
  have RN := hid (fun w' g a e most (h : Rd w' g s a e) => rnumber_any g s a e most w' h)
  have RT := hid (fun w' g a e most (h : Rd w' g s a e) => rtext_any g s a e most w' h)
  have RC := hid (fun w' g a e (h : Rd w' g s a e) => rclose_any g s a e w' h)
  have CK := hid (fun w' (n : Nm) (hn : n.Ok) => checkN_any n hn w')
  have hk20 := odK_most s
  have HUA := hid (fun w' => uses_at0 (odK s).1 hk20 w')
  have hsz : (strB s).size = s.length := rfl
  have HS := hid hs
  generalize hXN : (if odOk s then odNm s else zeroN) = XN
  generalize hXE : (if odOk s then (0 : Int) else 3) = XE
  have HXN := hid hXN
  have HXE := hid hXE
  clear hXN hXE
  go_enter Tryz.func19, Tryz.ntmps19
  go_upto_region 3 with (first
    | (go_at_call 15; refine (NR.out _ _ _ _ (fun h => by cases h) (sl_str _ _ s _ _ (by simp) (grownCap_ge _ _ _ _) (grownCap_le_maxLen _ _ _ _ (by unfold maxLen; omega)) _ (Below.refl _ _).drew)).mono ?_; rintro o w1 ⟨g, rfl, hr, hg, hb1⟩; have HR := hid hr; have HLG := hid hg; have HBE := hid ((((Below.refl w.heap.size w).alloc (Nat.le_refl _) _).alloc (by simp) _).drew.trans (hb1.mono (by simp; omega))); have HRE := hid ((((Blk.new w _ _).alloc _).drew).below hb1 (by simp; omega)); clear hr hg hb1)
    | (go_at_call 16; refine (RK.out _ g HR.out).mono ?_; rintro o w2 ⟨rfl, hr2, hg2⟩; have HRE2 := hid (HR.out.keeps HRE.out (by decide) hg2); have HBE2 := hid (below_rd HBE.out hg2 (by have := HLG.out; simp at this; omega) HBE.out.size); have HR2 := hid hr2; clear hr2 hg2))
  have hlg : w.heap.size < g := by have := HLG.out; simp at this; omega
  have hw2 : w.heap.size < w2.heap.size := HRE2.out.lt
  go_cut [6] (fun p wx => ∃ ub, p = .pointer (some ⟨ub, 0, none⟩) ∧ OdAt w wx g w2.heap.size ub s (odK s).2.1 (odK s).2.2 (odK s).1 [] 0 0 [])
  case first =>
    have hux := HUA.out
    go_region_with (go_at_call 47; refine (uses_any _).mono ?_; rintro e w' ⟨rfl, rfl⟩)
    all_goals
      go_wp2_with fail
      go_meet
      refine ⟨_, rfl, OdAt.start HR2.out HRE2.out hlg HBE2.out hw2 ((((Below.refl _ _).alloc (by simp) _).alloc (by simp) _).drew) ?_⟩
      first | exact Blk.drew (Blk.new_ _ _ _ (by simp)) | exact Blk.drew ((Blk.new_ _ _ _ (by simp)).alloc _)
  case rest =>
    obtain ⟨ub, rfl, hat⟩ := hcut
    have HUB := hid hw2
    clear HUA
    generalize w2.heap.size = nb at *
    have c1 : wc.cell? ⟨ub, 1, none⟩ = some (.bool (kOwn (odK s).1)) := hat.us.cell 1
    have HAT := hid hat
    go_upto_if 18 with fail
    go_cut [] (fun wx => OdAt w wx g nb ub s (odO s).2.1 (odO s).2.2 (odK s).1 (odO s).1 0 0 [])
    case first =>
      cases hb : kOwn (odK s).1 with
      | true =>
        have e : odO s = rdTxt s.length s (odK s).2.1 (odK s).2.2 := by unfold odO; rw [if_pos hb]
        have E := hid e
        clear e
        go_wp2_with (go_at_call 17; refine (RT.out _ g _ _ _ HAT.out.rd).mono ?_; rintro o w3 ⟨rfl, hr, hg⟩; have H3 := hid (HAT.out.read hr hg); have q1 : w3.cell? ⟨nb, 1, none⟩ = some (.string (strB [])) := H3.out.nm.cell 1; have q2 := H3.out.nm.frozen 1; clear hr hg)
        go_meet
        rw [E.out]
        exact H3.out.setO _
      | false =>
        have e : odO s = ([], (odK s).2) := by unfold odO; rw [if_neg (by simp [hb])]
        have E := hid e
        clear e
        go_wp2_with fail
        go_meet
        rw [E.out]
        exact HAT.out
    case rest =>
      have c2 : wc.cell? ⟨ub, 2, none⟩ = some (.bool (kNum (odK s).1)) := hcut.us.cell 2
      have HAT := hid hcut
      go_upto_if 25 with fail
      go_cut [] (fun wx => OdAt w wx g nb ub s (odN s).2.1 (odN s).2.2 (odK s).1 (odO s).1 (odN s).1 0 [])
      case first =>
        cases hb : kNum (odK s).1 with
        | true =>
          have e : odN s = rdNum 1073741824 s (odO s).2.1 (odO s).2.2 := by unfold odN; rw [if_pos hb]
          have E := hid e
          clear e
          go_wp2_with (go_at_call 16; refine (RN.out _ g _ _ _ HAT.out.rd).mono ?_; rintro o w3 ⟨rfl, hr, hg⟩; have H3 := hid (HAT.out.read hr hg); have q1 : w3.cell? ⟨nb, 2, none⟩ = some (.int .i64 (0 : Nat)) := H3.out.nm.cell 2; have q2 := H3.out.nm.frozen 2; clear hr hg)
          go_meet
          rw [E.out]
          exact H3.out.setN _
        | false =>
          have e : odN s = (0, (odO s).2) := by unfold odN; rw [if_neg (by simp [hb])]
          have E := hid e
          clear e
          go_wp2_with fail
          go_meet
          rw [E.out]
          exact HAT.out
      case rest =>
        have c4 : wc.cell? ⟨ub, 4, none⟩ = some (.int .i64 (kMost (odK s).1)) := hcut.us.cell 4
        have HAT := hid hcut
        go_upto_if 31 with fail
        go_cut [] (fun wx => OdAt w wx g nb ub s (odI s).2.1 (odI s).2.2 (odK s).1 (odO s).1 (odN s).1 (odI s).1 [])
        case first =>
          by_cases hb : 0 ≤ kMost (odK s).1
          · have e : odI s = rdNum (kMost (odK s).1) s (odN s).2.1 (odN s).2.2 := by unfold odI; rw [if_pos hb]
            have E := hid e
            clear e
            go_wp2_with (go_at_call 16; refine (RN.out _ g _ _ _ HAT.out.rd).mono ?_; rintro o w3 ⟨rfl, hr, hg⟩; have H3 := hid (HAT.out.read hr hg); have q1 : w3.cell? ⟨nb, 3, none⟩ = some (.int .i64 (0 : Nat)) := H3.out.nm.cell 3; have q2 := H3.out.nm.frozen 3; clear hr hg)
            go_meet
            rw [E.out]
            exact H3.out.setI _
          · have e : odI s = (0, (odN s).2) := by unfold odI; rw [if_neg hb]
            have E := hid e
            clear e
            go_wp2_with fail
            go_meet
            rw [E.out]
            exact HAT.out
        case rest =>
          have c3 : wc.cell? ⟨ub, 3, none⟩ = some (.bool (kTxt (odK s).1)) := hcut.us.cell 3
          have HAT := hid hcut
          go_upto_if 38 with fail
          go_cut [] (fun wx => OdAt w wx g nb ub s (odT s).2.1 (odT s).2.2 (odK s).1 (odO s).1 (odN s).1 (odI s).1 (odT s).1)
          case first =>
            cases hb : kTxt (odK s).1 with
            | true =>
              have e : odT s = rdTxt 32 s (odI s).2.1 (odI s).2.2 := by unfold odT; rw [if_pos hb]
              have E := hid e
              clear e
              go_wp2_with (go_at_call 17; refine (RT.out _ g _ _ _ HAT.out.rd).mono ?_; rintro o w3 ⟨rfl, hr, hg⟩; have H3 := hid (HAT.out.read hr hg); have q1 : w3.cell? ⟨nb, 4, none⟩ = some (.string (strB [])) := H3.out.nm.cell 4; have q2 := H3.out.nm.frozen 4; clear hr hg)
              go_meet
              rw [E.out]
              exact H3.out.setT _
            | false =>
              have e : odT s = ([], (odI s).2) := by unfold odT; rw [if_neg (by simp [hb])]
              have E := hid e
              clear e
              go_wp2_with fail
              go_meet
              rw [E.out]
              exact HAT.out
          case rest =>
            have HAT := hid hcut
            have d0 : wc.cell? ⟨nb, 0, none⟩ = some (.int .i64 (odK s).1) := hcut.nm.cell 0
            have d1 : wc.cell? ⟨nb, 1, none⟩ = some (.string (strB (odO s).1)) := hcut.nm.cell 1
            have d2 : wc.cell? ⟨nb, 2, none⟩ = some (.int .i64 (odN s).1) := hcut.nm.cell 2
            have d3 : wc.cell? ⟨nb, 3, none⟩ = some (.int .i64 (odI s).1) := hcut.nm.cell 3
            have d4 : wc.cell? ⟨nb, 4, none⟩ = some (.string (strB (odT s).1)) := hcut.nm.cell 4
            have hOkN : (odNm s).Ok := ⟨by have := odO_len s; show (odO s).1.length ≤ maxLen; unfold maxLen; have := HS.out; omega, by have := odT_len s; show (odT s).1.length ≤ maxLen; unfold maxLen; have := HS.out; omega⟩
            by_cases hz : rdEnd s (odT s).2.1 (odT s).2.2 = 0
            · have hzb : (rdEnd s (odT s).2.1 (odT s).2.2 != 0) = false := by simp [hz]
              by_cases hck : checkN (odNm s) = 0
              · have hyes : odOk s := ⟨hz, hck⟩
                have hckb : (checkN (odNm s) != 0) = false := by simp [hck]
                have hx1 := HXN.out
                have hx2 := HXE.out
                rw [if_pos hyes] at hx1 hx2
                subst hx1 hx2
                clear hyes hz hck HXN HXE
                go_wp2_with (first | (go_at_call 22; refine (RC.out _ g _ _ HAT.out.rd).mono ?_; rintro o w3 ⟨rfl, nq, rfl⟩) | (go_at_call 38; refine (CK.out _ (odNm s) hOkN).mono ?_; rintro o w4 ⟨rfl, hb4⟩; have HB4 := hid hb4; have HRE4 := hid (Blk.below (w := wc.drewN nq) HAT.out.re hb4 HAT.out.re.lt); have hn4 := Blk.below (w := wc.drewN nq) HAT.out.nm hb4 HAT.out.nm.lt; have n0 : w4.cell? ⟨nb, 0, none⟩ = some (.int .i64 (odK s).1) := hn4.cell 0; have n1 : w4.cell? ⟨nb, 1, none⟩ = some (.string (strB (odO s).1)) := hn4.cell 1; have n2 : w4.cell? ⟨nb, 2, none⟩ = some (.int .i64 (odN s).1) := hn4.cell 2; have n3 : w4.cell? ⟨nb, 3, none⟩ = some (.int .i64 (odI s).1) := hn4.cell 3; have n4 : w4.cell? ⟨nb, 4, none⟩ = some (.string (strB (odT s).1)) := hn4.cell 4; clear hb4 hn4) | (refine wpList_store_row rfl 38 _ _ rfl w.heap.size #[.int .i64 (odK s).1, .string (strB (odO s).1), .int .i64 (odN s).1, .int .i64 (odI s).1, .string (strB (odT s).1)] rfl rfl 38 #[.int .i64 0, .string ⟨#[]⟩, .int .i64 0, .int .i64 0, .string ⟨#[]⟩] HRE4.out rfl rfl (one5 _ _ _ _ _) ?_))
                refine bodyPost_ret (v := .tuple #[.agg #[.int .i64 (odK s).1, .string (strB (odO s).1), .int .i64 (odN s).1, .int .i64 (odI s).1, .string (strB (odT s).1)], .int .i64 0]) ?_ ?_ ?_
                · exact results_cell_two rfl _ _ w.heap.size 38 #[.int .i64 (odK s).1, .string (strB (odO s).1), .int .i64 (odN s).1, .int .i64 (odI s).1, .string (strB (odT s).1)] (0, 0) _ _ rfl rfl (setRow_heap _ _ _ _ _ _ HRE4.out) Tryz.underlying38 rfl (by kernel_rfl)
                · rfl
                · exact ⟨rfl, below_setRow ((dN HAT.out.be nq).trans (HB4.out.mono HAT.out.be.size)) (Nat.le_refl _) _⟩
              · have hno : ¬ odOk s := fun h => hck h.2
                have hckb : (checkN (odNm s) != 0) = true := by simp [hck]
                have hx1 := HXN.out
                have hx2 := HXE.out
                rw [if_neg hno] at hx1 hx2
                subst hx1 hx2
                clear hno hz hck HXN HXE
                go_wp2_with (first | (go_at_call 22; refine (RC.out _ g _ _ HAT.out.rd).mono ?_; rintro o w3 ⟨rfl, nq, rfl⟩) | (go_at_call 38; refine (CK.out _ (odNm s) hOkN).mono ?_; rintro o w4 ⟨rfl, hb4⟩; have HB4 := hid hb4; have HRE4 := hid (Blk.below (w := wc.drewN nq) HAT.out.re hb4 HAT.out.re.lt); have hn4 := Blk.below (w := wc.drewN nq) HAT.out.nm hb4 HAT.out.nm.lt; have n0 : w4.cell? ⟨nb, 0, none⟩ = some (.int .i64 (odK s).1) := hn4.cell 0; have n1 : w4.cell? ⟨nb, 1, none⟩ = some (.string (strB (odO s).1)) := hn4.cell 1; have n2 : w4.cell? ⟨nb, 2, none⟩ = some (.int .i64 (odN s).1) := hn4.cell 2; have n3 : w4.cell? ⟨nb, 3, none⟩ = some (.int .i64 (odI s).1) := hn4.cell 3; have n4 : w4.cell? ⟨nb, 4, none⟩ = some (.string (strB (odT s).1)) := hn4.cell 4; clear hb4 hn4) | (refine wpList_store_row rfl 38 _ _ rfl w.heap.size #[.int .i64 0, .string ⟨#[]⟩, .int .i64 0, .int .i64 0, .string ⟨#[]⟩] rfl rfl 38 #[.int .i64 0, .string ⟨#[]⟩, .int .i64 0, .int .i64 0, .string ⟨#[]⟩] HRE4.out rfl rfl (one5 _ _ _ _ _) ?_))
                refine bodyPost_ret (v := .tuple #[.agg #[.int .i64 0, .string ⟨#[]⟩, .int .i64 0, .int .i64 0, .string ⟨#[]⟩], .int .i64 3]) ?_ ?_ ?_
                · exact results_cell_two rfl _ _ w.heap.size 38 #[.int .i64 0, .string ⟨#[]⟩, .int .i64 0, .int .i64 0, .string ⟨#[]⟩] (0, 0) _ _ rfl rfl (setRow_heap _ _ _ _ _ _ HRE4.out) Tryz.underlying38 rfl (by kernel_rfl)
                · rfl
                · exact ⟨rfl, below_setRow ((dN HAT.out.be nq).trans (HB4.out.mono HAT.out.be.size)) (Nat.le_refl _) _⟩
            · have hzb : (rdEnd s (odT s).2.1 (odT s).2.2 != 0) = true := by simp [hz]
              have hno : ¬ odOk s := fun h => hz h.1
              have hx1 := HXN.out
              have hx2 := HXE.out
              rw [if_neg hno] at hx1 hx2
              subst hx1 hx2
              clear hno hz HXN HXE
              go_wp2_with (first | (go_at_call 22; refine (RC.out _ g _ _ HAT.out.rd).mono ?_; rintro o w3 ⟨rfl, nq, rfl⟩) | (refine wpList_store_row rfl 38 _ _ rfl w.heap.size #[.int .i64 0, .string ⟨#[]⟩, .int .i64 0, .int .i64 0, .string ⟨#[]⟩] rfl rfl 38 #[.int .i64 0, .string ⟨#[]⟩, .int .i64 0, .int .i64 0, .string ⟨#[]⟩] HAT.out.re rfl rfl (one5 _ _ _ _ _) ?_))
              refine bodyPost_ret (v := .tuple #[.agg #[.int .i64 0, .string ⟨#[]⟩, .int .i64 0, .int .i64 0, .string ⟨#[]⟩], .int .i64 3]) ?_ ?_ ?_
              · exact results_cell_two rfl _ _ w.heap.size 38 #[.int .i64 0, .string ⟨#[]⟩, .int .i64 0, .int .i64 0, .string ⟨#[]⟩] (0, 0) _ _ rfl rfl (setRow_heap _ _ _ _ _ _ HAT.out.re) Tryz.underlying38 rfl (by kernel_rfl)
              · rfl
              · exact ⟨rfl, below_setRow (dN HAT.out.be nq) (Nat.le_refl _) _⟩
end Go.Proofs.YtfdbanhbegngoaaGreatDoor
