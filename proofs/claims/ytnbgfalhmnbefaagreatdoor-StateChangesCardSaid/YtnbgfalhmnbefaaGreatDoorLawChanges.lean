/-
  THE LAW StateChanges, WALKED. (Written by the program gen_lawchanges.py.)
-/
import Derived.Test.YtnbgfalhmnbefaaGreatDoorIs
namespace Go.Proofs.YtnbgfalhmnbefaaGreatDoor
open Go.RowKit

theorem Tryz.info_ST : (Tryz.prog.info? 26).map (fun i => (i.zero, i.size, i.bytes)) = some (some (.pointer none), 1, 8) := by kernel_rfl
theorem Tryz.info_EL : (Tryz.prog.info? 27).map (fun i => (i.zero, i.size, i.bytes)) = some (some (.slice none 0 0), 1, 24) := by kernel_rfl

/-- What survives an append to a row whose elements are not of the type. -/
theorem IsTree.grown {w w' : World} {base : Nat} {e : TypeId} {size n : Nat} {v : Value} {xs : List Value} (ho : w.ownsRow base e size v n xs) (he : 89 ≠ e) (hg : w.grownBy w' v.ownBlock) : ∀ {t : T} {p : Option Addr}, IsTree w p t → IsTree w' p t
  | .nil, _, h => h
  | .node _ _ _ _, _, ⟨b, pl, pr, hp, hk, hl, hr⟩ => ⟨b, pl, pr, hp, hk.grown hg (hk.not_row ho he), IsTree.grown ho he hg hl, IsTree.grown ho he hg hr⟩
theorem IsState.grown {w w' : World} {base : Nat} {e : TypeId} {size n : Nat} {v : Value} {xs : List Value} (ho : w.ownsRow base e size v n xs) (he : 89 ≠ e) (he' : 95 ≠ e) (hg : w.grownBy w' v.ownBlock) {t : T} {p : Option Addr} (h : IsState w p t) : IsState w' p t := by
  obtain ⟨s, r, hp, hk, ht⟩ := h
  exact ⟨s, r, hp, hk.grown hg (hk.not_row ho he'), ht.grown ho he hg⟩
theorem RowE.grown {w w' : World} {base : Nat} {e : TypeId} {size n' : Nat} {v : Value} {xs : List Value} (ho : w.ownsRow base e size v n' xs) (he : 40 ≠ e) (hg : w.grownBy w' v.ownBlock) {A : Option Addr} {n c : Nat} {l : EL} (h : RowE w A n c l) : RowE w' A n c l := by
  have hne : ∀ ad, A = some ad → some ad.block ≠ v.ownBlock := fun ad ea => by
    obtain ⟨cs, hc⟩ := h.3 ad ea
    exact Blk.not_row (g := ad.block) (cs := cs) hc ho he
  obtain ⟨⟨h1, h2, h3, h4⟩, hz, hty⟩ := h
  refine ⟨⟨h1, h2, h3, h4.imp_right ?_⟩, hz, fun ad ea => ?_⟩
  · rintro ⟨b, off, rfl, hb, hc⟩
    refine ⟨b, off, rfl, by have := hg.size; omega, fun j u hu => ?_⟩
    exact hg.cell (hc j u hu) (hne ⟨b, off, none⟩ rfl)
  · obtain ⟨cs, hc⟩ := hty ad ea
    exact ⟨cs, (hg.block _ (Array.getElem?_eq_some_iff.1 hc).1 (hne ad ea)).trans hc⟩

abbrev RS := Option Addr × Nat × Nat
def ptV (p : Option Addr) : Value := .pointer p
def rsV (r : RS) : Value := .slice r.1 r.2.1 r.2.2
/-- The states and the lists that were there behind each change. -/
def InvA (w : World) (cs : List Ch) (ps : List (Option Addr)) : Prop := ∀ j p, ps[j]? = some p → IsState w p (fillT (cs.take j))
def InvB (w : World) (cs : List Ch) (rs : List RS) : Prop := ∀ j r, rs[j]? = some r → RowE w r.1 r.2.1 r.2.2 (fillL (cs.take j))
theorem InvA.below {w w' : World} {cs : List Ch} {ps : List (Option Addr)} (h : InvA w cs ps) (hb : Below w.heap.size w w') : InvA w' cs ps := fun j p e => (h j p e).below hb
theorem InvB.below {w w' : World} {cs : List Ch} {rs : List RS} (h : InvB w cs rs) (hb : Below w.heap.size w w') : InvB w' cs rs := fun j r e => (h j r e).below hb
theorem InvA.snoc {w : World} {cs : List Ch} {ps : List (Option Addr)} {p : Option Addr} {k : Nat} (h : InvA w cs ps) (hk : ps.length = k) (hp : IsState w p (fillT (cs.take k))) : InvA w cs (ps ++ [p]) := by
  intro j q e
  by_cases hj : j < ps.length
  · rw [List.getElem?_append_left hj] at e
    exact h j q e
  · rw [List.getElem?_append_right (by omega)] at e
    have hj2 : j = k := by
      have := (List.getElem?_eq_some_iff.1 e).1
      simp at this
      omega
    subst hj2
    rw [hk, Nat.sub_self] at e
    cases e
    exact hp
theorem InvB.snoc {w : World} {cs : List Ch} {rs : List RS} {r : RS} {k : Nat} (h : InvB w cs rs) (hk : rs.length = k) (hp : RowE w r.1 r.2.1 r.2.2 (fillL (cs.take k))) : InvB w cs (rs ++ [r]) := by
  intro j q e
  by_cases hj : j < rs.length
  · rw [List.getElem?_append_left hj] at e
    exact h j q e
  · rw [List.getElem?_append_right (by omega)] at e
    have hj2 : j = k := by
      have := (List.getElem?_eq_some_iff.1 e).1
      simp at this
      omega
    subst hj2
    rw [hk, Nat.sub_self] at e
    cases e
    exact hp

/-- What a round of the law keeps. -/
structure Inv (B : Nat) (w : World) (cs : List Ch) (t : T) (l : EL) (q A3 : Option Addr) (n3 c3 : Nat) (ps : List (Option Addr)) (rs : List RS) (A1 : Option Addr) (c1 : Nat) (A2 : Option Addr) (c2 : Nat) : Prop where
  st : IsState w q t
  re : RowE w A3 n3 c3 l
  ia : InvA w cs ps
  ib : InvB w cs rs
  r1 : w.ownsRow B 52 7 (.slice A1 cs.length c1) cs.length (cs.flatMap chCells)
  r2 : w.ownsRow B 54 7 (.slice A2 cs.length c2) cs.length (cs.flatMap chCells)
theorem Inv.below {B : Nat} {w w' : World} {cs : List Ch} {t : T} {l : EL} {q A3 : Option Addr} {n3 c3 : Nat} {ps : List (Option Addr)} {rs : List RS} {A1 : Option Addr} {c1 : Nat} {A2 : Option Addr} {c2 : Nat} (h : Inv B w cs t l q A3 n3 c3 ps rs A1 c1 A2 c2) (hb : Below w.heap.size w w') : Inv B w' cs t l q A3 n3 c3 ps rs A1 c1 A2 c2 :=
  ⟨h.st.below hb, h.re.below hb, h.ia.below hb, h.ib.below hb, ownsRow_below h.r1 hb, ownsRow_below h.r2 hb⟩
theorem Inv.grown {B : Nat} {w w' : World} {cs : List Ch} {t : T} {l : EL} {q A3 : Option Addr} {n3 c3 : Nat} {ps : List (Option Addr)} {rs : List RS} {A1 : Option Addr} {c1 : Nat} {A2 : Option Addr} {c2 : Nat} (h : Inv B w cs t l q A3 n3 c3 ps rs A1 c1 A2 c2)
    {e : TypeId} {size n : Nat} {v : Value} {xs : List Value} (ho : w.ownsRow B e size v n xs) (h1 : 89 ≠ e) (h2 : 95 ≠ e) (h3 : 40 ≠ e) (h4 : 52 ≠ e) (h5 : 54 ≠ e) (hg : w.grownBy w' v.ownBlock) : Inv B w' cs t l q A3 n3 c3 ps rs A1 c1 A2 c2 :=
  ⟨h.st.grown ho h1 h2 hg, h.re.grown ho h3 hg, fun j p e => (h.ia j p e).grown ho h1 h2 hg, fun j r e => (h.ib j r e).grown ho h3 hg, h.r1.kept hg (rows_ne h.r1 ho h4), h.r2.kept hg (rows_ne h.r2 ho h5)⟩
theorem one_cell_of {A : Option Addr} {n c : Nat} {f : List Value} {w : World} (h : Sl w w.heap.size 1 A n c f) (j : Nat) (u : Value) (hj : j < n) (hu : f[j]? = some u) : ∃ b off, A = some ⟨b, off, none⟩ ∧ b < w.heap.size ∧ w.cell? ⟨b, off + j, none⟩ = some u := by
  rcases h.2.2.2 with h0 | ⟨b, off, rfl, hb, hc⟩
  · omega
  · exact ⟨b, off, rfl, hb, hc j u hu⟩

set_option maxRecDepth 100000 in
set_option maxHeartbeats 3200000 in
theorem lawChanges_any (A : Option Addr) (n c : Nat) (l : List Ch) (ho : strOk l) (w : World) (hs : RowC w A n c l) :
    Calls Tryz.prog 4 #[.slice A n c] w fun e w' => e = .returned (.bool true) ∧ Below w.heap.size w w' := by
  have TO := hid (fun w' (h : RowC w' A n c l) => to5_own A n c l ho w' h)
  have HS := hid hs
  have HSM := hid (toC_small l)
  have HTL := hid (toC_len l)
  clear hs ho
  generalize toC l = cs at *
  obtain ⟨i0, hi, hz0, hz1, hz2⟩ := info_parts Tryz.info_ST
  obtain ⟨j0, hj, hy0, hy1, hy2⟩ := info_parts Tryz.info_EL
  go_enter Tryz.func4, Tryz.ntmps4
  go_wp2_with fail
  refine (known_any _).mono ?_
  rintro e w1 ⟨rfl, hb1⟩
  go_wp2_with fail
  refine (new_any _).mono ?_
  rintro e w2 ⟨p0, rfl, hn, hb2⟩
  have hB2 := hb1.trans (hb2.mono hb1.size)
  go_wp2_with fail
  generalize hW3 : (w2.alloc (.cells #[.pointer p0] 26)).alloc (.cells #[.slice none 0 0] 27) = w3
  have hb3 : Below w2.heap.size w2 w3 := by rw [← hW3]; exact ((Below.refl _ _).alloc (Nat.le_refl _) _).alloc (by simp) _
  have hB3 : Below w.heap.size w w3 := hB2.trans (hb3.mono hB2.size)
  have HA3 := hid (show w3.ownsRow w.heap.size 26 1 (.slice (some ⟨w2.heap.size, 0, none⟩) 1 1) 1 ([p0].map ptV) by
    rw [← hW3]; exact World.ownsRow.alloc (World.ownsRow_lit (base := w.heap.size) w2 #[.pointer p0] 1 hB2.size (by unfold maxLen; omega) rfl) _)
  have HT3 := hid (show w3.ownsRow w.heap.size 27 1 (.slice (some ⟨w2.heap.size + 1, 0, none⟩) 1 1) 1 (([(none, 0, 0)] : List RS).map rsV) by
    rw [← hW3]
    have := World.ownsRow_lit (e := 27) (size := 1) (base := w.heap.size) (w2.alloc (.cells #[.pointer p0] 26)) #[.slice none 0 0] 1 (by have := hB2.size; simp; omega) (by unfold maxLen; omega) rfl
    simpa [rsV] using this)
  have HN3 := hid (hn.below hb3)
  clear hW3 hn
  refine (TO.out _ (HS.out.below hB3)).mono ?_
  rintro e w4 ⟨A1, c1, A2, c2, rfl, hr1, hr2, hb4⟩
  have hB4 := hB3.trans (hb4.mono hB3.size)
  have HA4 := hid (ownsRow_below HA3.out hb4)
  have HT4 := hid (ownsRow_below HT3.out hb4)
  have HN4 := hid (HN3.out.below hb4)
  have HR1 := hid (hr1.lower (base' := w.heap.size) hB3.size)
  have HR2 := hid (hr2.lower (base' := w.heap.size) hB3.size)
  have HL2 := HTL.out
  clear hr1 hr2
  go_wp2_with fail
  have ISC := hid (fun w' j q A n c (h : IsState w' q (fillT (cs.take j))) (h' : RowE w' A n c (fillL (cs.take j))) => by
    have hft := fill_eq (cs := cs.take j) (fun x hx => HSM.out x (List.mem_of_mem_take hx))
    exact is_any 24 (fillT (cs.take j)) (by rw [hft.1]; exact hft.2.more (by rw [List.length_take]; omega)) (by omega) q A n c w' h (by rw [hft.1]; exact h'))
  have HI4 := hid (show Inv w.heap.size w4 cs (fillT (cs.take 0)) (fillL (cs.take 0)) p0 none 0 0 [p0] [(none, 0, 0)] A1 c1 A2 c2 from
    ⟨HN4.out, ⟨Sl.nil _ _ _, fun _ => rfl, fun _ e => nomatch e⟩, InvA.snoc (ps := []) (fun j p e => by simp at e) rfl HN4.out, InvB.snoc (rs := []) (fun j r e => by simp at e) rfl ⟨Sl.nil _ _ _, fun _ => rfl, fun _ e => nomatch e⟩, HR1.out, HR2.out⟩)
  clear HA3 HT3 HN3 HN4 HR1 HR2
  go_loopw [3, 4, 5, 6, 9] (fun sv av wv tv iv wr => ∃ (k : Nat) (q A3 : Option Addr) (n3 c3 : Nat) (ps : List (Option Addr)) (rs : List RS), iv = .int .i64 k ∧ sv = .pointer q ∧ wv = .slice A3 n3 c3 ∧ k ≤ cs.length ∧
      Inv w.heap.size wr cs (fillT (cs.take k)) (fillL (cs.take k)) q A3 n3 c3 ps rs A1 c1 A2 c2 ∧ wr.ownsRow w.heap.size 26 1 av (k + 1) (ps.map ptV) ∧ wr.ownsRow w.heap.size 27 1 tv (k + 1) (rs.map rsV) ∧ ps.length = k + 1 ∧ rs.length = k + 1 ∧ Below w.heap.size w wr) (fun _ _ _ _ iv _ => cs.length - (intOf iv).toNat)
  case atStart => exact ⟨0, p0, none, 0, 0, [p0], [(none, 0, 0)], rfl, rfl, rfl, Nat.zero_le _, HI4.out, HA4.out, HT4.out, rfl, rfl, hB4⟩
  case round =>
    obtain ⟨k, q, A3, n3, c3, ps, rs, rfl, rfl, rfl, hk, hinv, ha, ht, hps, hrs, hB⟩ := hrel
    have HI := hid hinv; have HA := hid ha; have HT := hid ht; have HPS := hid hps; have HRS := hid hrs
    clear HI4 HA4 HT4 hps hrs
    by_cases h1 : k < cs.length
    · have h1i : (k : Int) < (cs.length : Int) := by omega
      have h1d : decide ((k : Int) < (cs.length : Int)) = true := by simp; omega
      obtain ⟨-, -, hel1⟩ := Sl.elem (RowC.of_own hinv.r1) chCells_len (by decide)
      obtain ⟨-, -, hel2⟩ := Sl.elem (RowC.of_own hinv.r2) chCells_len (by decide)
      rcases hel1 with rfl | ⟨b1, o1, rfl, hbl1, hc1⟩
      · simp at h1
      rcases hel2 with rfl | ⟨b2, o2, rfl, hbl2, hc2⟩
      · simp at h1
      have hsm := HSM.out cs[k] (List.getElem_mem h1)
      have KK : ∀ w', Below wr.heap.size wr w' → w'.cell? ⟨b1, o1 + k * 7, none⟩ = some (.int .i64 cs[k].name.kind) ∧ w'.cell? ⟨b1, o1 + k * 7 + 1, none⟩ = some (.string cs[k].name.owner) ∧ w'.cell? ⟨b1, o1 + k * 7 + 2, none⟩ = some (.int .i64 cs[k].name.number) ∧ w'.cell? ⟨b1, o1 + k * 7 + 3, none⟩ = some (.int .i64 cs[k].name.index) ∧ w'.cell? ⟨b1, o1 + k * 7 + 4, none⟩ = some (.string cs[k].name.text) ∧ w'.cell? ⟨b1, o1 + k * 7 + 5, none⟩ = some (.string cs[k].value) ∧ w'.cell? ⟨b1, o1 + k * 7 + 6, none⟩ = some (.bool cs[k].absent) ∧ w'.cell? ⟨b2, o2 + k * 7, none⟩ = some (.int .i64 cs[k].name.kind) ∧ w'.cell? ⟨b2, o2 + k * 7 + 1, none⟩ = some (.string cs[k].name.owner) ∧ w'.cell? ⟨b2, o2 + k * 7 + 2, none⟩ = some (.int .i64 cs[k].name.number) ∧ w'.cell? ⟨b2, o2 + k * 7 + 3, none⟩ = some (.int .i64 cs[k].name.index) ∧ w'.cell? ⟨b2, o2 + k * 7 + 4, none⟩ = some (.string cs[k].name.text) ∧ w'.cell? ⟨b2, o2 + k * 7 + 5, none⟩ = some (.string cs[k].value) ∧ w'.cell? ⟨b2, o2 + k * 7 + 6, none⟩ = some (.bool cs[k].absent) := by
        intro w' hb'
        have e := fun j u (hj : j < 7) (hu : (chCells cs[k])[j]? = some u) => ((bcell hb').1 _ _ hbl1).trans (hc1 k j u h1 hj hu)
        have f := fun j u (hj : j < 7) (hu : (chCells cs[k])[j]? = some u) => ((bcell hb').1 _ _ hbl2).trans (hc2 k j u h1 hj hu)
        exact ⟨e 0 _ (by decide) rfl, e 1 _ (by decide) rfl, e 2 _ (by decide) rfl, e 3 _ (by decide) rfl, e 4 _ (by decide) rfl, e 5 _ (by decide) rfl, e 6 _ (by decide) rfl, f 0 _ (by decide) rfl, f 1 _ (by decide) rfl, f 2 _ (by decide) rfl, f 3 _ (by decide) rfl, f 4 _ (by decide) rfl, f 5 _ (by decide) rfl, f 6 _ (by decide) rfl⟩
      have hft := fill_eq (cs := cs.take k) (fun x hx => HSM.out x (List.mem_of_mem_take hx))
      have hgd : Good k (fillL (cs.take k)) := hft.2.more (by rw [List.length_take]; omega)
      rw [← hft.1] at hgd
      have ONE := hid (fun w' (h : IsState w' q (fillT (cs.take k))) (h' : RowE w' A3 n3 c3 (fillL (cs.take k))) => one_any k (by omega) q (fillT (cs.take k)) A3 n3 c3 cs[k] hsm hgd w' h (by rw [hft.1]; exact h'))
      rw [hft.1, ← foldT_snoc cs k h1, ← foldL_snoc cs k h1] at ONE
      obtain ⟨q0, q1, q2, q3, q4, q5, q6, q7, q8, q9, q10, q11, q12, q13⟩ := KK wr (Below.refl _ _)
      have K := hid KK
      clear KK hc1 hc2 hsm hft hgd hinv ha ht
      unfold chV at ONE
      have HL3 := hid (show True from trivial)
      generalize hx : cs[k] = x at *
      clear hx
      go_wp2_with fail
      go_region_held3 (fun w' => w'.cell? ⟨b1, o1 + k * 7, none⟩ = some (.int .i64 x.name.kind) ∧ w'.cell? ⟨b1, o1 + k * 7 + 1, none⟩ = some (.string x.name.owner) ∧ w'.cell? ⟨b1, o1 + k * 7 + 2, none⟩ = some (.int .i64 x.name.number) ∧ w'.cell? ⟨b1, o1 + k * 7 + 3, none⟩ = some (.int .i64 x.name.index) ∧ w'.cell? ⟨b1, o1 + k * 7 + 4, none⟩ = some (.string x.name.text) ∧ w'.cell? ⟨b1, o1 + k * 7 + 5, none⟩ = some (.string x.value) ∧ w'.cell? ⟨b1, o1 + k * 7 + 6, none⟩ = some (.bool x.absent) ∧ w'.cell? ⟨b2, o2 + k * 7, none⟩ = some (.int .i64 x.name.kind) ∧ w'.cell? ⟨b2, o2 + k * 7 + 1, none⟩ = some (.string x.name.owner) ∧ w'.cell? ⟨b2, o2 + k * 7 + 2, none⟩ = some (.int .i64 x.name.number) ∧ w'.cell? ⟨b2, o2 + k * 7 + 3, none⟩ = some (.int .i64 x.name.index) ∧ w'.cell? ⟨b2, o2 + k * 7 + 4, none⟩ = some (.string x.name.text) ∧ w'.cell? ⟨b2, o2 + k * 7 + 5, none⟩ = some (.string x.value) ∧ w'.cell? ⟨b2, o2 + k * 7 + 6, none⟩ = some (.bool x.absent))
        (first | go_keep | exact K.out _ ((Below.refl _ wr).drew.trans (hb3.mono (Nat.le_refl _))))
        (first | (go_at_call 22; refine (ONE.out _ ?_ ?_).mono ?_; (exact HI.out.st.below (Below.refl _ _).drew); (exact HI.out.re.below (Below.refl _ _).drew); rintro e w3 ⟨q9', A9, n9, c9, rfl, hs3, hr3, hb3⟩))
      have hb13 : Below wr.heap.size wr w3 := (Below.refl _ wr).drew.trans (hb3.mono (Nat.le_refl _))
      have HS3 := hid hs3; have HR3 := hid hr3
      clear hs3 hr3 q0 q1 q2 q3 q4 q5 q6 q7 q8 q9 q10 q11 q12 q13
      go_upto_region 15 with (go_at_call 23; refine (ISC.out _ (k + 1) q9' A9 n9 c9 HS3.out HR3.out).mono ?_; rintro e w5 ⟨rfl, hb5⟩)
      have hb15 : Below wr.heap.size wr w5 := hb13.trans (hb5.mono hb13.size)
      have hI5 := HI.out.below hb15
      have hA5 := ownsRow_below HA.out hb15
      have hT5 := ownsRow_below HT.out hb15
      have hB5 : Below w.heap.size w w5 := hB.trans (hb15.mono hB.size)
      have hI5' : Inv w.heap.size w5 cs (fillT (cs.take (k + 1))) (fillL (cs.take (k + 1))) q9' A9 n9 c9 (ps ++ [q9']) (rs ++ [(A9, n9, c9)]) (some ⟨b1, o1, none⟩) c1 (some ⟨b2, o2, none⟩) c2 :=
        ⟨HS3.out.below hb5, HR3.out.below hb5, hI5.ia.snoc HPS.out (HS3.out.below hb5), hI5.ib.snoc HRS.out (HR3.out.below hb5), hI5.r1, hI5.r2⟩
      have HI5 := hid hI5'; have HA5 := hid hA5; have HT5 := hid hT5
      have hsz5 := hB5.size
      clear hI5 hI5' hA5 hT5
      go_wp2_with (first
        | (at_builtin; refine wpList_append_own _ rfl (.tmp 52) (.tmp 54) _ rfl w.heap.size 26 i0 (.pointer none) 1 8 Tryz.underlying44 hi hz0 hz1 hz2 rfl (by decide) _ _ _ rfl (HA5.out.alloc _) ⟨w5.heap.size, 0, none⟩ 1 1 [ptV q9'] rfl rfl (cell_one_new _ _ _) (by simp [ptV, Value.oneCell']) (by unfold maxLen; omega) (by omega) (by simp; omega) ?_; intro v6 w6 hown6 hgrow6 _; have hB6 : Below w.heap.size w w6 := Below.grown (hB5.alloc hsz5 _) hgrow6 (by simp; omega) (fun j e => (HA5.out.lt j e).1); have hsz6 := hB6.size; have HI6 := hid (Inv.grown (HI5.out.below ((Below.refl _ _).alloc (Nat.le_refl _) _)) (HA5.out.alloc _) (by decide) (by decide) (by decide) (by decide) (by decide) hgrow6); have HT6 := hid ((HT5.out.alloc _).kept hgrow6 (rows_ne HT5.out HA5.out (by decide))); have HA6 := hid hown6; clear hown6 hgrow6)
        | (at_builtin; refine wpList_append_own _ rfl (.tmp 56) (.tmp 58) _ rfl w.heap.size 27 j0 (.slice none 0 0) 1 24 Tryz.underlying45 hj hy0 hy1 hy2 rfl (by decide) _ _ _ rfl (HT6.out.alloc _) ⟨w6.heap.size, 0, none⟩ 1 1 [rsV (A9, n9, c9)] rfl rfl (cell_one_new _ _ _) (by simp [rsV, Value.oneCell']) (by unfold maxLen; omega) (by omega) (by simp; omega) ?_; intro v7 w7 hown7 hgrow7 _; have hB7 : Below w.heap.size w w7 := Below.grown (hB6.alloc hsz6 _) hgrow7 (by simp; omega) (fun j e => (HT6.out.lt j e).1); have HI7 := hid (Inv.grown (HI6.out.below ((Below.refl _ _).alloc (Nat.le_refl _) _)) (HT6.out.alloc _) (by decide) (by decide) (by decide) (by decide) (by decide) hgrow7); have HA7 := hid ((HA6.out.alloc _).kept hgrow7 (rows_ne HA6.out HT6.out (by decide))); have HT7 := hid hown7; clear hown7 hgrow7))
      go_roundw
      case rel => exact ⟨k + 1, q9', A9, n9, c9, ps ++ [q9'], rs ++ [(A9, n9, c9)], by go_num, rfl, rfl, by omega, HI7.out, by rw [List.map_append]; exact HA7.out, by rw [List.map_append]; exact HT7.out, by simp [HPS.out], by simp [HRS.out], hB7⟩
      case measure => simp [intOf]; omega
    · obtain rfl : k = cs.length := by omega
      have h1d : decide ((cs.length : Int) < (cs.length : Int)) = false := by simp
      obtain ⟨Aa, ca, rfl, hsa⟩ := Sl.of_own ha
      obtain ⟨At, ct, rfl, hst⟩ := Sl.of_own ht
      have HSA := hid hsa; have HST := hid hst
      clear ha ht hinv hsa hst HA HT
      obtain ⟨wo, rfl⟩ : ∃ wo : World, wo = wr := ⟨_, rfl⟩
      go_wp2_with fail
      go_loopw [11] (fun jv wr2 => ∃ j : Nat, jv = .int .i64 j ∧ j ≤ cs.length + 1 ∧ Below wo.heap.size wo wr2) (fun jv _ => cs.length + 1 - (intOf jv).toNat)
      case atStart => exact ⟨0, rfl, Nat.zero_le _, Below.refl _ _⟩
      case round =>
        obtain ⟨j, rfl, hj2, hBj⟩ := hrel
        by_cases h2 : j < cs.length + 1
        · have h2i : (j : Int) < (cs.length : Int) + 1 := by omega
          have h2d : decide ((j : Int) < (cs.length : Int) + 1) = true := by rw [decide_eq_true_iff]; omega
          have h2n : decide (j < cs.length + 1) = true := by rw [decide_eq_true_iff]; omega
          have hpj : ps[j]? = some (ps[j]'(by rw [HPS.out]; omega)) := List.getElem?_eq_getElem _
          have hrj : rs[j]? = some (rs[j]'(by rw [HRS.out]; omega)) := List.getElem?_eq_getElem _
          have hsj := HI.out.ia j _ hpj
          have hqj := HI.out.ib j _ hrj
          obtain ⟨ba, oa, rfl, hba, hca⟩ := one_cell_of HSA.out j (ptV _) (by omega) (by rw [List.getElem?_map, hpj]; rfl)
          obtain ⟨bt, ot, rfl, hbt, hct⟩ := one_cell_of HST.out j (rsV _) (by omega) (by rw [List.getElem?_map, hrj]; rfl)
          generalize ps[j]'(by rw [HPS.out]; omega) = pj at *
          generalize rs[j]'(by rw [HRS.out]; omega) = rj at *
          obtain ⟨Ar, nr, cr⟩ := rj
          unfold ptV at hca
          unfold rsV at hct
          dsimp only at hct hqj
          have K := hid (show ∀ w', Below wo.heap.size wo w' → w'.cell? ⟨ba, oa + j, none⟩ = some (.pointer pj) ∧ w'.cell? ⟨bt, ot + j, none⟩ = some (.slice Ar nr cr) from fun w' hb' => ⟨((bcell hb').1 _ _ hba).trans hca, ((bcell hb').1 _ _ hbt).trans hct⟩)
          obtain ⟨q0, q1⟩ := K.out _ hBj
          have HSJ := hid hsj; have HQJ := hid hqj
          clear hpj hrj hsj hqj hca hct
          go_wp2_with fail
          go_region_held3 (fun w' => w'.cell? ⟨ba, oa + j, none⟩ = some (.pointer pj) ∧ w'.cell? ⟨bt, ot + j, none⟩ = some (.slice Ar nr cr))
            (first | go_keep | exact K.out _ (hBj.drew.trans (hb3.mono hBj.drew.size)))
            (first | (go_at_call 23; refine (ISC.out _ j pj Ar nr cr ?_ ?_).mono ?_; (exact HSJ.out.below hBj.drew); (exact HQJ.out.below hBj.drew); rintro e w3 ⟨rfl, hb3⟩))
          have hB3' : Below wo.heap.size wo w3 := hBj.drew.trans (hb3.mono hBj.drew.size)
          clear q0 q1
          go_wp2_with fail
          go_roundw
          case rel => exact ⟨j + 1, by go_num, by omega, hB3'⟩
          case measure => simp [intOf]; omega
        · have h2d : decide ((j : Int) < (cs.length : Int) + 1) = false := by rw [decide_eq_false_iff_not]; omega
          go_wp2_with fail
          go_ret
          exact ⟨rfl, hB.trans (hBj.mono hB.size)⟩
end Go.Proofs.YtnbgfalhmnbefaaGreatDoor
