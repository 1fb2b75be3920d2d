/-
  THE REFERENCE OF LAYER 5, WALKED: Without.
-/
import Derived.Test.YtnbgfalhmnbefaaGreatDoorApp
namespace Go.Proofs.YtnbgfalhmnbefaaGreatDoor
open Go.RowKit

/-- A slice value that reads as a list of objects. -/
structure RowE (w : World) (A : Option Addr) (n c : Nat) (l : EL) : Prop where
  s : Sl w w.heap.size 6 A n c (l.flatMap eCells)
  z : A = none → c = 0
  ty : ∀ ad, A = some ad → ∃ cs, w.heap[ad.block]? = some (.cells cs 40 (0, 0))
theorem RowE.below {w w' : World} {A : Option Addr} {n c : Nat} {l : EL} (h : RowE w A n c l) (hb : Below w.heap.size w w') : RowE w' A n c l :=
  ⟨(h.1.below hb).more hb.size, h.2, fun ad e => by
    obtain ⟨cs, hc⟩ := h.3 ad e
    exact ⟨cs, (hb.block _ (Array.getElem?_eq_some_iff.1 hc).1).trans hc⟩⟩
def RPost (w : World) (e : Int) (l : EL) (o : Ending) (w' : World) : Prop := ∃ A n c, o = .returned (.tuple #[.slice A n c, .int .i64 e]) ∧ (e ≠ 0 → A = none ∧ n = 0 ∧ c = 0) ∧ (e = 0 → RowE w' A n c l) ∧ Below w.heap.size w w'
theorem Tryz.info_E : (Tryz.prog.info? 40).map (fun i => (i.zero, i.size, i.bytes)) = some (some (.agg #[.int .i64 0, .string ⟨#[]⟩, .int .i64 0, .int .i64 0, .string ⟨#[]⟩, .string ⟨#[]⟩]), 6, 72) := by kernel_rfl

theorem RowE.of_own {w : World} {base n : Nat} {v : Value} {l : EL} (h : w.ownsRow base 40 6 v n (l.flatMap eCells)) : ∃ A c, v = .slice A n c ∧ RowE w A n c l := by
  obtain ⟨A, c, hv, hs⟩ := Sl.of_own h
  refine ⟨A, c, hv, hs, fun e => ?_, fun ad e => ?_⟩
  · subst e hv
    rcases h.2 with ⟨h1, _⟩ | ⟨g, cap, cur, h1, _⟩
    · cases h1; rfl
    · cases h1
  · subst e hv
    rcases h.2 with ⟨h1, _⟩ | ⟨g, cap, cur, h1, _, hh, _⟩
    · cases h1
    · cases h1
      exact ⟨cur, hh⟩
theorem eCells_one (l : EL) : ∀ u ∈ l.flatMap eCells, u.oneCell' = true := by
  intro u hu
  obtain ⟨x, _, hx⟩ := List.mem_flatMap.1 hu
  simp only [eCells, nmCells, List.cons_append, List.nil_append, List.mem_cons, List.not_mem_nil, or_false] at hx
  rcases hx with rfl | rfl | rfl | rfl | rfl | rfl <;> rfl
theorem addr_add (b off j : Nat) : (⟨b, off, none⟩ : Addr).add j = ⟨b, off + j, none⟩ := by
  unfold Addr.add; split <;> simp_all
/-- The cells of a cut. -/
theorem RowE.cut {w W' : World} {b off n c : Nat} {l : EL} (h : RowE w (some ⟨b, off, none⟩) n c l) (hb : Below w.heap.size w W') (k m : Nat) (hkm : k + m ≤ l.length) :
    ∀ j u, (((l.drop k).take m).flatMap eCells)[j]? = some u → W'.cell? ((⟨b, off + k * 6, none⟩ : Addr).add j) = some u := by
  intro j u hu
  obtain ⟨h1, h2, _⟩ := h
  obtain ⟨e1, e2, e3⟩ := (h1.below hb).elem eCells_len (by decide)
  have hj : j < m * 6 := by
    have := (List.getElem?_eq_some_iff.1 hu).1
    rw [flat_len eCells 6 eCells_len, List.length_take, List.length_drop] at this
    omega
  have hq : j / 6 < m := by omega
  have hlen : j / 6 < ((l.drop k).take m).length := by rw [List.length_take, List.length_drop]; omega
  rw [show j = j / 6 * 6 + j % 6 by omega, flat_get eCells 6 eCells_len _ _ _ (by omega) hlen] at hu
  rw [List.getElem_take, List.getElem_drop] at hu
  rcases e3 with rfl | ⟨b', off', hA, hb', hc⟩
  · simp at hkm; omega
  · cases hA
    rw [addr_add]
    have := hc (k + j / 6) (j % 6) u (by omega) (by omega) hu
    rw [show off + k * 6 + j = off + (k + j / 6) * 6 + j % 6 by omega]
    exact this

set_option maxRecDepth 100000 in
set_option maxHeartbeats 3200000 in
theorem refOutYes (b off c : Nat) (l : EL) (nm : Nm) (hl : smallE l) (hn : nm.owner.size ≤ 1000000) (ht : nm.text.size ≤ 1000000) (hc : checkN nm = 0) (his : isL l nm = true) (hlen : l.length ≤ 1000000) (w : World) (hs : RowE w (some ⟨b, off, none⟩) l.length c l) :
    Calls Tryz.prog 53 #[.slice (some ⟨b, off, none⟩) l.length c, nmV nm] w (RPost w 0 (l.eraseIdx (findL l nm))) := by
  have hF := fun w' (hb : Below w.heap.size w w') => find_any (some ⟨b, off, none⟩) l.length c l nm hl hn w' ((hs.below hb).1)
  have hC := fun w' => refCheck_any nm hn ht w'
  rw [his] at hF
  rw [hc] at hC
  have hk : findL l nm < l.length := by
    by_cases h : findL l nm < l.length
    · exact h
    · rw [isL, List.getElem?_eq_none (by omega)] at his; cases his
  unfold nmV at hF hC
  generalize findL l nm = k at *
  have HF := hid hF; have HC := hid hC; have HS := hid hs
  have hcap : l.length ≤ c := hs.1.2.1
  have hcm : c ≤ maxLen := hs.1.2.2.1
  unfold maxLen at hcm
  have hkc : k ≤ c := by omega
  have hki : (k : Int) < 1000000 := by omega
  have hk1 : (k : Int) + 1 ≤ (l.length : Int) := by omega
  have hk2 : k + 1 ≤ l.length := hk
  have hk3 : k + 1 ≤ c := by omega
  have hk4 : (0 : Int) ≤ (k : Int) + 1 := by omega
  clear hF hC hs his hc
  unfold nmV
  go_enter Tryz.func53, Tryz.ntmps53
  go_upto_region 1 with fail
  generalize hW : w.alloc (.cells #[.int .i64 nm.kind, .string nm.owner, .int .i64 nm.number, .int .i64 nm.index, .string nm.text] 24) = W
  have b0 : Blk W w.heap.size 24 #[.int .i64 nm.kind, .string nm.owner, .int .i64 nm.number, .int .i64 nm.index, .string nm.text] := by rw [← hW]; exact Blk.new _ _ _
  have hB0 : Below w.heap.size w W := by rw [← hW]; exact (Below.refl _ _).alloc (Nat.le_refl _) _
  have lW := b0.lt
  clear hW
  have KK : ∀ w', Below W.heap.size W w' → w'.cell? ⟨w.heap.size, 0, none⟩ = some (.int .i64 nm.kind) ∧ w'.cell? ⟨w.heap.size, 1, none⟩ = some (.string nm.owner) ∧ w'.cell? ⟨w.heap.size, 2, none⟩ = some (.int .i64 nm.number) ∧ w'.cell? ⟨w.heap.size, 3, none⟩ = some (.int .i64 nm.index) ∧ w'.cell? ⟨w.heap.size, 4, none⟩ = some (.string nm.text) := by
    intro w' hb'
    have cc := b0.below hb' lW
    exact ⟨cc.cell 0, cc.cell 1, cc.cell 2, cc.cell 3, cc.cell 4⟩
  have K := hid KK
  obtain ⟨q0, q1, q2, q3, q4⟩ := KK W (Below.refl _ _)
  clear KK b0
  go_wp2_with (first
    | (go_at_call 102; refine (HC.out _).mono ?_; rintro e w1 ⟨rfl, hb1⟩; have hB1 := hB0.trans (hb1.mono hB0.size); obtain ⟨r0, r1, r2, r3, r4⟩ := K.out _ hb1)
    | (go_at_call 45; refine (HF.out _ hB1).mono ?_; rintro e w2 ⟨rfl, hb2⟩; have hB2 := hB1.trans (hb2.mono hB1.size)))
  obtain ⟨i0, hi, hz0, hz1, hz2⟩ := info_parts Tryz.info_E
  have hw1 : IntKind.i64.wrap ((k : Int) + 1) = ((k + 1 : Nat) : Int) := by rw [IntWalk.i64_in _ (by omega)]; omega
  have hown0 : (w2.alloc (.cells #[] 40)).drew.ownsRow w.heap.size 40 6 (.slice (some ⟨w2.heap.size, 0, none⟩) 0 0) 0 [] := World.ownsRow_lit (base := w.heap.size) w2 #[] 0 hB2.size (by unfold maxLen; omega) rfl
  have hB3 : Below w.heap.size w (w2.alloc (.cells #[] 40)).drew := (hB2.alloc hB2.size _).drew
  have O := hid hown0
  have NEWS := hid (show ∀ w', Below w.heap.size w w' → ∀ ad, (if c = k + 1 then some (⟨b, off, none⟩ : Addr) else some ⟨b, off + (k + 1) * 6, none⟩) = some ad → ∀ j u, (((l.drop (k + 1)).take (l.length - (k + 1))).flatMap eCells)[j]? = some u → w'.cell? (ad.add j) = some u from by
    intro w' hb' ad had j u hu
    by_cases e : c = k + 1
    · rw [show l.length - (k + 1) = 0 by omega] at hu
      simp at hu
    · rw [if_neg e] at had
      cases had
      exact HS.out.cut hb' (k + 1) _ (by omega) j u hu)
  clear hown0
  go_region_law (first
    | (refine step_append_gen _ rfl (.tmp 20) (.tmp 23) 27 rfl w.heap.size 40 i0 (.agg #[.int .i64 0, .string ⟨#[]⟩, .int .i64 0, .int .i64 0, .string ⟨#[]⟩, .string ⟨#[]⟩]) 6 72 Tryz.underlying27 hi hz0 hz1 hz2 rfl (by decide) _ 0 [] rfl O.out (some ⟨b, off, none⟩) k c (((l.drop 0).take k).flatMap eCells) rfl (by rw [flat_len eCells 6 eCells_len, List.length_take, List.length_drop]; omega) (fun e => nomatch e) (fun ad e => by cases e; exact (HS.out.cut hB3 0 k (by omega))) (eCells_one _) (by unfold maxLen; omega) (by omega) hB3.size ?_; intro v4 w4 hown4 hgrow4; have hB4 : Below w.heap.size w w4 := hB3.grown hgrow4 hB3.size (fun j ej => (O.out.lt j ej).1))
    | (refine step_append_gen _ rfl (.tmp 24) (.tmp 28) 27 rfl w.heap.size 40 i0 (.agg #[.int .i64 0, .string ⟨#[]⟩, .int .i64 0, .int .i64 0, .string ⟨#[]⟩, .string ⟨#[]⟩]) 6 72 Tryz.underlying27 hi hz0 hz1 hz2 rfl (by decide) _ _ _ rfl hown4 (if c = k + 1 then some ⟨b, off, none⟩ else some ⟨b, off + (k + 1) * 6, none⟩) (l.length - (k + 1)) (c - (k + 1)) (((l.drop (k + 1)).take (l.length - (k + 1))).flatMap eCells) rfl (by rw [flat_len eCells 6 eCells_len, List.length_take, List.length_drop]; omega) (fun e => by split at e <;> cases e) (NEWS.out w4 hB4) (eCells_one _) (by unfold maxLen; omega) (by omega) hB4.size ?_; intro v9 w9 hown9 hgrow9))
  have hB9 : Below w.heap.size w w9 := hB4.grown hgrow9 hB4.size (fun j ej => (hown4.lt j ej).1)
  have hrows : (([] : List Value) ++ ((l.drop 0).take k).flatMap eCells) ++ ((l.drop (k + 1)).take (l.length - (k + 1))).flatMap eCells = (l.eraseIdx k).flatMap eCells := by
    rw [List.eraseIdx_eq_take_drop_succ, List.flatMap_append, List.nil_append, List.drop_zero, List.take_of_length_le (l := l.drop (k + 1)) (by rw [List.length_drop]; omega)]
  rw [hrows, Nat.zero_add] at hown9
  obtain ⟨A9, c9, rfl, hr9⟩ := RowE.of_own hown9
  clear hlen hki hk1 hk4 hcm hown9 hown4 hrows hw1
  go_wp2_with fail
  all_goals go_ret2
  all_goals exact ⟨A9, _, c9, rfl, fun h => absurd rfl h, fun _ => hr9, hB9⟩

set_option maxRecDepth 100000 in
set_option maxHeartbeats 3200000 in
theorem refOut_any (A : Option Addr) (n c : Nat) (l : EL) (nm : Nm) (hl : smallE l) (hn : nm.owner.size ≤ 1000000) (ht : nm.text.size ≤ 1000000) (hlen : l.length ≤ 1000000) (w : World) (hs : RowE w A n c l) :
    Calls Tryz.prog 53 #[.slice A n c, nmV nm] w (RPost w (withoutE nm) (if isL l nm then l.eraseIdx (findL l nm) else l)) := by
  obtain ⟨rfl, -, hel⟩ := hs.1.elem eCells_len (by decide)
  have hE : withoutE nm = if checkN nm ≠ 0 then 12 else 0 := rfl
  by_cases hc : checkN nm = 0
  · rw [hE, if_neg (by simp [hc])]
    cases his : isL l nm with
    | true =>
      rw [if_pos rfl]
      rcases hel with rfl | ⟨b, off, rfl, -⟩
      · simp [isL, findL] at his
      · exact refOutYes b off c l nm hl hn ht hc his hlen w hs
    | false =>
      rw [if_neg (by simp)]
      have hF := fun w' (hb : Below w.heap.size w w') => find_any A l.length c l nm hl hn w' ((hs.below hb).1)
      have hC := fun w' => refCheck_any nm hn ht w'
      rw [his] at hF
      rw [hc] at hC
      unfold nmV at hF hC
      generalize findL l nm = k at *
      have HF := hid hF; have HC := hid hC; have HS := hid hs
      clear hF hC hs his hc hE hel
      unfold nmV
      go_enter Tryz.func53, Tryz.ntmps53
      go_upto_region 1 with fail
      generalize hW : w.alloc (.cells #[.int .i64 nm.kind, .string nm.owner, .int .i64 nm.number, .int .i64 nm.index, .string nm.text] 24) = W
      have b0 : Blk W w.heap.size 24 #[.int .i64 nm.kind, .string nm.owner, .int .i64 nm.number, .int .i64 nm.index, .string nm.text] := by rw [← hW]; exact Blk.new _ _ _
      have hB0 : Below w.heap.size w W := by rw [← hW]; exact (Below.refl _ _).alloc (Nat.le_refl _) _
      have lW := b0.lt
      clear hW
      have KK : ∀ w', Below W.heap.size W w' → w'.cell? ⟨w.heap.size, 0, none⟩ = some (.int .i64 nm.kind) ∧ w'.cell? ⟨w.heap.size, 1, none⟩ = some (.string nm.owner) ∧ w'.cell? ⟨w.heap.size, 2, none⟩ = some (.int .i64 nm.number) ∧ w'.cell? ⟨w.heap.size, 3, none⟩ = some (.int .i64 nm.index) ∧ w'.cell? ⟨w.heap.size, 4, none⟩ = some (.string nm.text) := by
        intro w' hb'
        have cc := b0.below hb' lW
        exact ⟨cc.cell 0, cc.cell 1, cc.cell 2, cc.cell 3, cc.cell 4⟩
      have K := hid KK
      obtain ⟨q0, q1, q2, q3, q4⟩ := KK W (Below.refl _ _)
      clear KK b0
      go_wp2_with (first
        | (go_at_call 102; refine (HC.out _).mono ?_; rintro e w1 ⟨rfl, hb1⟩; have hB1 := hB0.trans (hb1.mono hB0.size); obtain ⟨r0, r1, r2, r3, r4⟩ := K.out _ hb1)
        | (go_at_call 45; refine (HF.out _ hB1).mono ?_; rintro e w2 ⟨rfl, hb2⟩; have hB2 := hB1.trans (hb2.mono hB1.size)))
      go_ret2
      exact ⟨A, _, c, rfl, fun h => absurd rfl h, fun _ => HS.out.below hB2, hB2⟩
  · rw [hE, if_pos hc]
    have hC := fun w' => refCheck_any nm hn ht w'
    have hcb := checkN_ne hc
    unfold nmV at hC
    generalize checkN nm = e at *
    have HC := hid hC
    clear hC hE hc hel
    unfold nmV
    go_enter Tryz.func53, Tryz.ntmps53
    go_upto_region 1 with fail
    generalize hW : w.alloc (.cells #[.int .i64 nm.kind, .string nm.owner, .int .i64 nm.number, .int .i64 nm.index, .string nm.text] 24) = W
    have b0 : Blk W w.heap.size 24 #[.int .i64 nm.kind, .string nm.owner, .int .i64 nm.number, .int .i64 nm.index, .string nm.text] := by rw [← hW]; exact Blk.new _ _ _
    have hB0 : Below w.heap.size w W := by rw [← hW]; exact (Below.refl _ _).alloc (Nat.le_refl _) _
    clear hW
    have q0 : W.cell? ⟨w.heap.size, 0, none⟩ = some (.int .i64 nm.kind) := b0.cell 0
    have q1 : W.cell? ⟨w.heap.size, 1, none⟩ = some (.string nm.owner) := b0.cell 1
    have q2 : W.cell? ⟨w.heap.size, 2, none⟩ = some (.int .i64 nm.number) := b0.cell 2
    have q3 : W.cell? ⟨w.heap.size, 3, none⟩ = some (.int .i64 nm.index) := b0.cell 3
    have q4 : W.cell? ⟨w.heap.size, 4, none⟩ = some (.string nm.text) := b0.cell 4
    go_wp2_with (go_at_call 102; refine (HC.out _).mono ?_; rintro e w1 ⟨rfl, hb1⟩)
    all_goals go_ret2
    all_goals exact ⟨none, 0, 0, rfl, fun _ => ⟨rfl, rfl, rfl⟩, fun h => absurd h (by decide), hB0.trans (hb1.mono hB0.size)⟩
end Go.Proofs.YtnbgfalhmnbefaaGreatDoor
