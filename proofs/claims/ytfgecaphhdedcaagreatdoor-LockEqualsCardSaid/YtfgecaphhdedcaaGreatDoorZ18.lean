/-
  THE LAW LockEquals, go_upto_region 10 with fail
          obtain ⟨z01, z02, z03, z04, z05, z06, z07, z08, z09⟩ := z0
          go_region_held3 (fun w' => w'.cell? ⟨b7, 0, none⟩ = some (.int .i64 E) ∧ w'.cell? ⟨b7, 1, none⟩ = some (.bool S) ∧ w'.cell? ⟨b7, 2, none⟩ = some (.slice A1 (ownHs l tx).length c1) ∧ w'.cell? ⟨b8, 0, none⟩ = some (.int .i64 E') ∧ w'.cell? ⟨b8, 1, none⟩ = some (.bool S') ∧ w'.cell? ⟨b8, 2, none⟩ = some (.slice A2 (ownHs l' tx').length c2) ∧ w'.cell? ⟨b9, 0, none⟩ = some (.int .i64 E3) ∧ w'.cell? ⟨b9, 1, none⟩ = some (.bool S3) ∧ w'.cell? ⟨b9, 2, none⟩ = some (.slice A3 HS3.length c3))
            (first | exact K9.out _ (by (belE; done)) | go_keep)
            (first
              | (go_at_call 11; refine (KN.out _).mono ?_; rintro o w1 ⟨rfl, hb1⟩; have hx1 : Below wc.heap.size wc w1 := viaB (by (belE; done)) hb1)
              | (go_at_call 25; refine (E12.out _ hx1).mono ?_; rintro o w2 ⟨rfl, hb2⟩; have hx2 : Below wc.heap.size wc w2 := viaB hx1 hb2)
              | (go_at_call 12; refine (M12.out _ hx2).mono ?_; rintro o w3 ⟨rfl, hb3⟩; have hx3 : Below wc.heap.size wc w3 := viaB hx2 hb3)
              | fail)
          all_goals go_outline
          all_goals sorryED.
-/
import Derived.Test.YtfgecaphhdedcaaGreatDoorZ15
import Derived.Test.YtfgecaphhdedcaaGreatDoorZ6
import Derived.Test.YtfgecaphhdedcaaGreatDoorZ13
import Derived.Deep.DeepMust
import Derived.Deep.RegionHeld3
import Derived.Deep.CutRange
import Derived.Deep.CutBlock
namespace Go.Proofs.YtfgecaphhdedcaaGreatDoor
open Go.RowKit

theorem viaB {w0 w' w3 : World} (h : Below w0.heap.size w0 w') (hb : Below w'.heap.size w' w3) : Below w0.heap.size w0 w3 := h.trans (hb.mono h.size)
theorem allocB {w0 w' : World} (h : Below w0.heap.size w0 w') (o : Obj) : Below w0.heap.size w0 (w'.alloc o) := h.alloc h.size o
/-- Three cells written. -/
abbrev set3 (w : World) (g : Nat) (x y z : Value) : World := ((w.setCell ⟨g, 0, none⟩ x).setCell ⟨g, 1, none⟩ y).setCell ⟨g, 2, none⟩ z
theorem Blk.set3 {w : World} {g : Nat} {t : TypeId} {a b c : Value} (h : Blk w g t #[a, b, c]) (x y z : Value) : Blk (set3 w g x y z) g t #[x, y, z] := ((h.set_ 0 x).set_ 1 y).set_ 2 z
theorem Blk.far3 {w : World} {g g' : Nat} {t : TypeId} {cs : Array Value} (h : Blk w g t cs) (hne : g ≠ g') (x y z : Value) : Blk (Go.Proofs.YtfgecaphhdedcaaGreatDoor.set3 w g' x y z) g t cs := ((h.far (p := ⟨g', 0, none⟩) hne x).far (p := ⟨g', 1, none⟩) hne y).far (p := ⟨g', 2, none⟩) hne z
theorem Blk.behind {w w' : World} {g : Nat} {t : TypeId} {cs : Array Value} (h : Blk w g t cs) (hb : Below w.heap.size w w') : Blk w' g t cs := h.below hb h.lt
theorem facts3 {w : World} {g : Nat} {t : TypeId} {a b c : Value} (h : Blk w g t #[a, b, c]) : w.cell? ⟨g, 0, none⟩ = some a ∧ w.cell? ⟨g, 1, none⟩ = some b ∧ w.cell? ⟨g, 2, none⟩ = some c ∧ w.frozen? ⟨g, 0, none⟩ = false ∧ w.frozen? ⟨g, 1, none⟩ = false ∧ w.frozen? ⟨g, 2, none⟩ = false := ⟨h.cell 0, h.cell 1, h.cell 2, h.frozen 0, h.frozen 1, h.frozen 2⟩
theorem RowN.set1 {w : World} {A : Option Addr} {n c g i : Nat} {l : List ByteArray} {t : TypeId} {cs : Array Value} (h : RowN w A n c l) (hk : Blk w g t cs) (ht : t ≠ 42) (u : Value) : RowN (w.setCell ⟨g, i, none⟩ u) A n c l := by
  have hne : ∀ ad, A = some ad → ad.block ≠ g := fun ad e hx => by
    obtain ⟨cs2, hc⟩ := h.ty ad e
    subst hx
    exact Blk.ne_ hk hc ht rfl
  refine ⟨?_, h.z, fun ad e => ?_⟩
  · obtain ⟨h1, h2, h3, h4⟩ := h.s
    refine ⟨h1, h2, h3, h4.imp_right ?_⟩
    rintro ⟨bb, off, rfl, hbb, hc⟩
    refine ⟨bb, off, rfl, by simpa [World.setCell] using hbb, fun j v hu => (World.cell?_setCell_other _ _ _ _ ?_).trans (hc j v hu)⟩
    have hx : bb ≠ g := hne ⟨bb, off, none⟩ rfl
    intro e
    simp only [Addr.mk.injEq] at e
    omega
  · obtain ⟨cs2, hc⟩ := h.ty ad e
    exact ⟨cs2, (Below.heap_setCell _ _ _ _ (hne ad e)).trans hc⟩
theorem RowN.set3 {w : World} {A : Option Addr} {n c g : Nat} {l : List ByteArray} {cs : Array Value} (h : RowN w A n c l) (hk : Blk w g 24 cs) (x y z : Value) : RowN (set3 w g x y z) A n c l :=
  ((h.set1 hk (by decide) x).set1 (hk.set_ 0 x) (by decide) y).set1 ((hk.set_ 0 x).set_ 1 y) (by decide) z
theorem RowN.more {w : World} {A : Option Addr} {n c : Nat} {l : List ByteArray} (h : RowN w A n c l) (o : Obj) : RowN (w.alloc o) A n c l := h.below ((Below.refl _ _).alloc (Nat.le_refl _) _)
theorem withFact {P Q : Prop} (h : P) (k : P → Q) : Q := k h
macro "belE" : tactic => `(tactic| repeat (first | with_reducible assumption | with_reducible exact Below.refl _ _ | with_reducible apply Below.drew | with_reducible apply allocB | with_reducible apply Below.setCell | with_reducible exact Nat.le_refl _ | (dsimp only; omega)))
macro "blkN" : tactic => `(tactic| (with_reducible refine Blk.new_ _ _ _ ?_; first | with_reducible rfl | (simp; done)))
macro "blkE" : tactic => `(tactic| repeat (first | with_reducible assumption | blkN | with_reducible refine Blk.alloc ?_ _ | with_reducible refine Blk.drew ?_ | (with_reducible refine Blk.set3 (a := ?_) (b := ?_) (c := ?_) ?_ _ _ _; (first | with_reducible assumption | blkN))))
macro "blkS" : tactic => `(tactic| first | with_reducible assumption | blkN | with_reducible refine Blk.alloc ?_ _ | with_reducible refine Blk.set3 (a := .int .i64 0) (b := .bool false) (c := .slice none 0 0) ?_ _ _ _ | (with_reducible refine Blk.far3 ?_ ?_ _ _ _; rotate_left; (focus (omega; done))))
macro "blkF" : tactic => `(tactic| repeat blkS)
macro "rowF" : tactic => `(tactic| repeat (first | with_reducible assumption | with_reducible refine RowN.more ?_ _ | with_reducible refine RowN.set3 (cs := #[.int .i64 0, .bool false, .slice none 0 0]) ?_ ?_ _ _ _ | blkS))

set_option maxRecDepth 100000 in
set_option maxHeartbeats 3200000 in
theorem lawLkEquals_any (E : Int) (S : Bool) (A : Option Addr) (n c : Nat) (l : Bs) (tx : ByteArray) (htx : tx.size ≤ maxLen) (E' : Int) (S' : Bool) (A' : Option Addr) (n' c' : Nat) (l' : Bs) (tx' : ByteArray) (htx' : tx'.size ≤ maxLen) (ch : Nat) (hch : ch < 256)
    (w : World) (hsl : Sl w w.heap.size 1 A n c (l.map u8v)) (hsl' : Sl w w.heap.size 1 A' n' c' (l'.map u8v)) :
    Calls Tryz.prog 7 #[rawV E S A n c tx, rawV E' S' A' n' c' tx', .int .u8 ch] w fun e w' => e = .returned (.bool true) ∧ Below w.heap.size w w' := by
  have OW := hid (fun w' h' => own34_any E S A n c l tx htx w' h')
  have OW' := hid (fun w' h' => own34_any E' S' A' n' c' l' tx' htx' w' h')
  unfold rawV at *
  have h0 : (0 : Int) ≤ (ch : Int) := by omega
  have h1 : (ch : Int) < 256 := by omega
  clear htx htx'
  go_enter Tryz.func7, Tryz.ntmps7
  go_upto_region 1 with fail
  generalize hW : (w.alloc (.cells #[.int .i64 E, .bool S, .slice A n c, .string tx] 56)).alloc (.cells #[.int .i64 E', .bool S', .slice A' n' c', .string tx'] 56) = W
  have b0 : Blk W w.heap.size 56 #[.int .i64 E, .bool S, .slice A n c, .string tx] := by rw [← hW]; exact (Blk.new _ _ _).alloc _
  have b1 : Blk W (w.heap.size + 1) 56 #[.int .i64 E', .bool S', .slice A' n' c', .string tx'] := by rw [← hW]; exact Blk.new_ _ _ _ (by simp)
  have hB0 : Below w.heap.size w W := by rw [← hW]; exact ((Below.refl _ _).alloc (Nat.le_refl _) _).alloc (by simp) _
  have HSL := hid (fun w' (h : Below W.heap.size W w') => (((hsl.below hB0).more hB0.size).below h).more h.size)
  have HSL' := hid (fun w' (h : Below W.heap.size W w') => (((hsl'.below hB0).more hB0.size).below h).more h.size)
  have HB0 := hid hB0
  clear hW hsl hsl' hB0
  have KX := hid (show ∀ w', Below W.heap.size W w' → w'.cell? ⟨w.heap.size, 0, none⟩ = some (.int .i64 E) ∧ w'.cell? ⟨w.heap.size, 1, none⟩ = some (.bool S) ∧ w'.cell? ⟨w.heap.size, 2, none⟩ = some (.slice A n c) ∧ w'.cell? ⟨w.heap.size, 3, none⟩ = some (.string tx) ∧ w'.cell? ⟨w.heap.size + 1, 0, none⟩ = some (.int .i64 E') ∧ w'.cell? ⟨w.heap.size + 1, 1, none⟩ = some (.bool S') ∧ w'.cell? ⟨w.heap.size + 1, 2, none⟩ = some (.slice A' n' c') ∧ w'.cell? ⟨w.heap.size + 1, 3, none⟩ = some (.string tx') from fun w' h => by
    have c1 := b0.below h b0.lt
    have c2 := b1.below h b1.lt
    exact ⟨c1.cell 0, c1.cell 1, c1.cell 2, c1.cell 3, c2.cell 0, c2.cell 1, c2.cell 2, c2.cell 3⟩)
  clear b0 b1
  obtain ⟨q0, q1, q2, q3, q4, q5, q6, q7⟩ := KX.out W (Below.refl _ _)
  go_cut [7, 8] (fun p q wx => ∃ b7 b8 A1 c1 A2 c2, p = .pointer (some ⟨b7, 0, none⟩) ∧ q = .pointer (some ⟨b8, 0, none⟩) ∧ b7 ≠ b8 ∧ Blk wx b7 24 #[.int .i64 E, .bool S, .slice A1 (ownHs l tx).length c1] ∧ Blk wx b8 24 #[.int .i64 E', .bool S', .slice A2 (ownHs l' tx').length c2] ∧ RowN wx A1 (ownHs l tx).length c1 (ownHs l tx) ∧ RowN wx A2 (ownHs l' tx').length c2 (ownHs l' tx') ∧ Below W.heap.size W wx)
  case first =>
    go_region_held3 (fun w' => w'.cell? ⟨w.heap.size, 0, none⟩ = some (.int .i64 E) ∧ w'.cell? ⟨w.heap.size, 1, none⟩ = some (.bool S) ∧ w'.cell? ⟨w.heap.size, 2, none⟩ = some (.slice A n c) ∧ w'.cell? ⟨w.heap.size, 3, none⟩ = some (.string tx) ∧ w'.cell? ⟨w.heap.size + 1, 0, none⟩ = some (.int .i64 E') ∧ w'.cell? ⟨w.heap.size + 1, 1, none⟩ = some (.bool S') ∧ w'.cell? ⟨w.heap.size + 1, 2, none⟩ = some (.slice A' n' c') ∧ w'.cell? ⟨w.heap.size + 1, 3, none⟩ = some (.string tx'))
      (first | exact KX.out _ (by (belE; done)) | go_keep)
      (first
        | (go_at_call_of 23 (Value.agg #[Value.int .i64 E, Value.bool S, Value.slice A n c, Value.string tx]); refine (OW.out _ (HSL.out _ (by (belE; done)))).mono ?_; rintro o w1 ⟨A1, c1, rfl, ho1, hb1⟩; have hx1 : Below W.heap.size W w1 := viaB (by (belE; done)) hb1; have hs1 := hx1.size; have HO1 := hid (rowN_own ho1); (first | (refine withFact (P := Blk w1 (W.heap.size) 24 #[.int .i64 0, .bool false, .slice none 0 0]) ?_ ?_; (focus (refine Blk.behind ?_ hb1; blkE; done)); intro x0; obtain ⟨xa0, xb0, xc0, xd0, xe0, xg0⟩ := facts3 x0; have xl0 := x0.lt; have xm0 : ¬ ((W.heap.size) = w1.heap.size) := Nat.ne_of_lt xl0; have xk0 : ¬ (w1.heap.size = (W.heap.size)) := Nat.ne_of_gt xl0) | skip); (first | (refine withFact (P := Blk w1 (W.heap.size + 1) 24 #[.int .i64 0, .bool false, .slice none 0 0]) ?_ ?_; (focus (refine Blk.behind ?_ hb1; blkE; done)); intro x1; obtain ⟨xa1, xb1, xc1, xd1, xe1, xg1⟩ := facts3 x1; have xl1 := x1.lt; have xm1 : ¬ ((W.heap.size + 1) = w1.heap.size) := Nat.ne_of_lt xl1; have xk1 : ¬ (w1.heap.size = (W.heap.size + 1)) := Nat.ne_of_gt xl1) | skip))
        | (go_at_call_of 23 (Value.agg #[Value.int .i64 E', Value.bool S', Value.slice A' n' c', Value.string tx']); refine (OW'.out _ (HSL'.out _ (by (belE; done)))).mono ?_; rintro o w2 ⟨A2, c2, rfl, ho2, hb2⟩; have hx2 : Below W.heap.size W w2 := viaB (by (belE; done)) hb2; have hs2 := hx2.size; have HO2 := hid (rowN_own ho2); have h12 : Below w1.heap.size w1 w2 := viaB (by (belE; done)) hb2; have HO3 := hid (HO1.out.below h12); have hs12 := h12.size; (first | (refine withFact (P := Blk w2 (W.heap.size) 24 #[.int .i64 0, .bool false, .slice none 0 0]) ?_ ?_; (focus (refine Blk.behind ?_ hb2; blkE; done)); intro y0; obtain ⟨ya0, yb0, yc0, yd0, ye0, yg0⟩ := facts3 y0; have yl0 := y0.lt; have ym0 : ¬ ((W.heap.size) = w2.heap.size) := Nat.ne_of_lt yl0; have yk0 : ¬ (w2.heap.size = (W.heap.size)) := Nat.ne_of_gt yl0) | (refine withFact (P := Blk w2 (W.heap.size) 24 #[.int .i64 E, .bool S, .slice A1 (ownHs l tx).length c1]) ?_ ?_; (focus (refine Blk.behind ?_ hb2; blkE; done)); intro y0; obtain ⟨ya0, yb0, yc0, yd0, ye0, yg0⟩ := facts3 y0; have yl0 := y0.lt; have ym0 : ¬ ((W.heap.size) = w2.heap.size) := Nat.ne_of_lt yl0; have yk0 : ¬ (w2.heap.size = (W.heap.size)) := Nat.ne_of_gt yl0) | skip); (first | (refine withFact (P := Blk w2 (W.heap.size + 1) 24 #[.int .i64 0, .bool false, .slice none 0 0]) ?_ ?_; (focus (refine Blk.behind ?_ hb2; blkE; done)); intro y1; obtain ⟨ya1, yb1, yc1, yd1, ye1, yg1⟩ := facts3 y1; have yl1 := y1.lt; have ym1 : ¬ ((W.heap.size + 1) = w2.heap.size) := Nat.ne_of_lt yl1; have yk1 : ¬ (w2.heap.size = (W.heap.size + 1)) := Nat.ne_of_gt yl1) | (refine withFact (P := Blk w2 (W.heap.size + 1) 24 #[.int .i64 E, .bool S, .slice A1 (ownHs l tx).length c1]) ?_ ?_; (focus (refine Blk.behind ?_ hb2; blkE; done)); intro y1; obtain ⟨ya1, yb1, yc1, yd1, ye1, yg1⟩ := facts3 y1; have yl1 := y1.lt; have ym1 : ¬ ((W.heap.size + 1) = w2.heap.size) := Nat.ne_of_lt yl1; have yk1 : ¬ (w2.heap.size = (W.heap.size + 1)) := Nat.ne_of_gt yl1) | skip); (first | (refine withFact (P := Blk w2 (w1.heap.size) 24 #[.int .i64 0, .bool false, .slice none 0 0]) ?_ ?_; (focus (refine Blk.behind ?_ hb2; blkE; done)); intro y2; obtain ⟨ya2, yb2, yc2, yd2, ye2, yg2⟩ := facts3 y2; have yl2 := y2.lt; have ym2 : ¬ ((w1.heap.size) = w2.heap.size) := Nat.ne_of_lt yl2; have yk2 : ¬ (w2.heap.size = (w1.heap.size)) := Nat.ne_of_gt yl2) | (refine withFact (P := Blk w2 (w1.heap.size) 24 #[.int .i64 E, .bool S, .slice A1 (ownHs l tx).length c1]) ?_ ?_; (focus (refine Blk.behind ?_ hb2; blkE; done)); intro y2; obtain ⟨ya2, yb2, yc2, yd2, ye2, yg2⟩ := facts3 y2; have yl2 := y2.lt; have ym2 : ¬ ((w1.heap.size) = w2.heap.size) := Nat.ne_of_lt yl2; have yk2 : ¬ (w2.heap.size = (w1.heap.size)) := Nat.ne_of_gt yl2) | skip); (first | (refine withFact (P := Blk w2 (w1.heap.size + 1) 24 #[.int .i64 0, .bool false, .slice none 0 0]) ?_ ?_; (focus (refine Blk.behind ?_ hb2; blkE; done)); intro y3; obtain ⟨ya3, yb3, yc3, yd3, ye3, yg3⟩ := facts3 y3; have yl3 := y3.lt; have ym3 : ¬ ((w1.heap.size + 1) = w2.heap.size) := Nat.ne_of_lt yl3; have yk3 : ¬ (w2.heap.size = (w1.heap.size + 1)) := Nat.ne_of_gt yl3) | (refine withFact (P := Blk w2 (w1.heap.size + 1) 24 #[.int .i64 E, .bool S, .slice A1 (ownHs l tx).length c1]) ?_ ?_; (focus (refine Blk.behind ?_ hb2; blkE; done)); intro y3; obtain ⟨ya3, yb3, yc3, yd3, ye3, yg3⟩ := facts3 y3; have yl3 := y3.lt; have ym3 : ¬ ((w1.heap.size + 1) = w2.heap.size) := Nat.ne_of_lt yl3; have yk3 : ¬ (w2.heap.size = (w1.heap.size + 1)) := Nat.ne_of_gt yl3) | skip)))
    all_goals go_wp2_with fail
    all_goals go_meet
    all_goals
      have r1 := HO3.out
      have r2 := HO2.out
      refine ⟨_, _, A1, c1, A2, c2, rfl, rfl, ?_, ?_, ?_, ?_, ?_, ?_⟩
      · omega
      · blkF
      · blkF
      · rowF
      · rowF
      · belE
  case rest =>
    obtain ⟨b7, b8, A1, c1, A2, c2, rfl, rfl, hne, h7, h8, r1, r2, hx⟩ := hcut
    obtain ⟨q0, q1, q2, q3, -, -, -, -⟩ := KX.out _ hx
    have H7 := hid h7
    have H8 := hid h8
    have R1 := hid r1
    have R2 := hid r2
    have HX := hid hx
    clear h7 h8 r1 r2 hx
    go_upto_block 0 with (go_at_call 23; refine (OW.out _ (HSL.out _ HX.out)).mono ?_; rintro o wo ⟨A3, c3, rfl, ho3, hb3⟩; have HO3 := hid ho3; have HB3 := hid hb3; clear ho3 hb3)
    obtain ⟨W6, hW6⟩ : ∃ x, wo.alloc (.cells #[.int .i64 E, .bool S, .slice A3 (ownHs l tx).length c3] 24) = x := ⟨_, rfl⟩
    have hal : Below wo.heap.size wo W6 := by rw [← hW6]; exact (Below.refl _ _).alloc (Nat.le_refl _) _
    have hbw := HB3.out.trans (hal.mono HB3.out.size)
    have H9 := hid (show Blk W6 wo.heap.size 24 #[.int .i64 E, .bool S, .slice A3 (ownHs l tx).length c3] by rw [← hW6]; exact Blk.new _ _ _)
    have R3 := hid ((rowN_own HO3.out).below hal)
    have H7' := hid (H7.out.behind hbw)
    have H8' := hid (H8.out.behind hbw)
    have R1' := hid (R1.out.below hbw)
    have R2' := hid (R2.out.below hbw)
    have HX' := hid (viaB HX.out hbw)
    rw [hW6]
    have n7 : b7 ≠ wo.heap.size := by have := H7.out.lt; have := HB3.out.size; omega
    have n8 : b8 ≠ wo.heap.size := by have := H8.out.lt; have := HB3.out.size; omega
    have n9 : W.heap.size ≤ wo.heap.size := Nat.le_trans HX.out.size HB3.out.size
    have HBW := hid hbw
    have HOW := hid (show W6.ownsRow wc.heap.size 42 1 (.slice A3 (ownHs l tx).length c3) (ownHs l tx).length ((ownHs l tx).map (.string ·)) by rw [← hW6]; exact HO3.out.alloc _)
    clear hW6 hal hbw q0 q1 q2 q3
    go_cut [17] (fun _ wx => ∃ E3 S3 HS3 A3 c3, sameL ⟨E, S, ownHs l tx⟩ ⟨E3, S3, HS3⟩ = decide (ch % 4 = 0) ∧ HS3.length ≤ 100 ∧ Blk wx wo.heap.size 24 #[.int .i64 E3, .bool S3, .slice A3 HS3.length c3] ∧ RowN wx A3 HS3.length c3 HS3 ∧ Blk wx b7 24 #[.int .i64 E, .bool S, .slice A1 (ownHs l tx).length c1] ∧ Blk wx b8 24 #[.int .i64 E', .bool S', .slice A2 (ownHs l' tx').length c2] ∧ RowN wx A1 (ownHs l tx).length c1 (ownHs l tx) ∧ RowN wx A2 (ownHs l' tx').length c2 (ownHs l' tx') ∧ Below W.heap.size W wx)
    case first =>
      have l1 : (ownHs l tx).length ≤ 41 := ownHs_len l tx
      have p0 := H9.out.cell 0
      have p1 := H9.out.cell 1
      have p2 := H9.out.cell 2
      have t0 := H9.out.frozen 0
      have t1 := H9.out.frozen 1
      have t2 := H9.out.frozen 2
      have hm : (ch : Int) % 4 = 0 ∨ (ch : Int) % 4 = 1 ∨ (ch : Int) % 4 = 2 ∨ (ch : Int) % 4 = 3 := by omega
      rcases hm with hm | hm | hm | hm
      · have hz : sameL ⟨E, S, ownHs l tx⟩ ⟨E, S, ownHs l tx⟩ = decide (ch % 4 = 0) := by rw [decide_eq_true (by omega)]; exact sameL_iff.2 rfl
        have HZ := hid hz
        clear hz l1
        go_wp2_with fail
        go_meet
        exact ⟨E, S, ownHs l tx, A3, c3, HZ.out, by have := ownHs_len l tx; omega, H9.out, R3.out, H7'.out, H8'.out, R1'.out, R2'.out, HX'.out⟩
      · have hz : sameL ⟨E, S, ownHs l tx⟩ ⟨wrap64 (E + 1), S, ownHs l tx⟩ = decide (ch % 4 = 0) := by
          rw [decide_eq_false (by omega), Bool.eq_false_iff]
          intro h
          have h2 := congrArg Lk.epoch (sameL_iff.1 h)
          dsimp only at h2
          unfold wrap64 at h2
          omega
        have HZ := hid hz
        clear hz l1
        go_wp2_with fail
        go_meet
        exact ⟨_, S, ownHs l tx, A3, c3, HZ.out, by have := ownHs_len l tx; omega, H9.out.set_ 0 _, R3.out.set1 H9.out (by decide) _, H7'.out.far (p := ⟨wo.heap.size, 0, none⟩) n7 _, H8'.out.far (p := ⟨wo.heap.size, 0, none⟩) n8 _, R1'.out.set1 H9.out (by decide) _, R2'.out.set1 H9.out (by decide) _, HX'.out.setCell (p := ⟨wo.heap.size, 0, none⟩) n9 _⟩
      · have hz : sameL ⟨E, S, ownHs l tx⟩ ⟨E, !S, ownHs l tx⟩ = decide (ch % 4 = 0) := by
          rw [decide_eq_false (by omega), Bool.eq_false_iff]
          intro h
          have h2 := congrArg Lk.shared (sameL_iff.1 h)
          cases S <;> simp at h2
        have HZ := hid hz
        clear hz l1
        go_wp2_with fail
        go_meet
        exact ⟨E, _, ownHs l tx, A3, c3, HZ.out, by have := ownHs_len l tx; omega, H9.out.set_ 1 _, R3.out.set1 H9.out (by decide) _, H7'.out.far (p := ⟨wo.heap.size, 1, none⟩) n7 _, H8'.out.far (p := ⟨wo.heap.size, 1, none⟩) n8 _, R1'.out.set1 H9.out (by decide) _, R2'.out.set1 H9.out (by decide) _, HX'.out.setCell (p := ⟨wo.heap.size, 1, none⟩) n9 _⟩
      · have hz : sameL ⟨E, S, ownHs l tx⟩ ⟨E, S, ownHs l tx ++ [⟨#[57]⟩]⟩ = decide (ch % 4 = 0) := by
          rw [decide_eq_false (by omega), Bool.eq_false_iff]
          intro h
          have h2 := congrArg (fun x => x.holders.length) (sameL_iff.1 h)
          simp at h2
        have HZ := hid hz
        obtain ⟨i0, hi, hz0, hz1, hz2⟩ := info_parts Tryz.info_lin
        have hsz := HBW.out.size
        clear hz
        go_wp2_with (at_builtin; refine wpList_append_own _ rfl (.tmp 33) (.tmp 34) _ rfl wc.heap.size 42 i0 (.string ⟨#[]⟩) 1 16 Tryz.underlying22 hi hz0 hz1 hz2 rfl (by decide) _ _ _ rfl (HOW.out.alloc _) ⟨W6.heap.size, 0, none⟩ 1 1 [.string ⟨#[57]⟩] rfl rfl (cell_one_new _ _ _) (by simp [Value.oneCell']) (by unfold maxLen; omega) (by omega) (by simp; omega) ?_; intro v7 w7 hown7 hgrow7 _; obtain ⟨A7, c7, rfl, -, -⟩ := own_shape hown7; have HB7 := hid (show Below wc.heap.size wc w7 from Below.grown (HBW.out.alloc hsz _) hgrow7 (by simp; omega) (fun j e => (HOW.out.lt j e).1)); have h97 : Blk w7 wo.heap.size 24 #[.int .i64 E, .bool S, .slice A3 (ownHs l tx).length c3] := (H9.out.alloc _).grown hgrow7 (Blk.not_row H9.out HOW.out (by decide)); have g2 := h97.cell 2; have g3 := h97.frozen 2; have H97 := hid h97; have HO7 := hid hown7; clear hown7 hgrow7 h97)
        go_meet
        have e1 : (ownHs l tx ++ [(⟨#[57]⟩ : ByteArray)]).length = (ownHs l tx).length + 1 := by simp
        have ro := rowN_own (l := ownHs l tx ++ [⟨#[57]⟩]) (n := (ownHs l tx).length + 1) (by have := HO7.out; rw [List.map_append]; exact this)
        have hbx := viaB HX.out HB7.out
        refine ⟨E, S, ownHs l tx ++ [⟨#[57]⟩], A7, c7, HZ.out, by rw [e1]; omega, ?_, ?_, ?_, ?_, ?_, ?_, ?_⟩
        · rw [e1]; exact H97.out.set_ 2 _
        · rw [e1]; exact ro.set1 H97.out (by decide) _
        · exact (H7.out.behind HB7.out).far (p := ⟨wo.heap.size, 2, none⟩) n7 _
        · exact (H8.out.behind HB7.out).far (p := ⟨wo.heap.size, 2, none⟩) n8 _
        · exact (R1.out.below HB7.out).set1 H97.out (by decide) _
        · exact (R2.out.below HB7.out).set1 H97.out (by decide) _
        · exact hbx.setCell (p := ⟨wo.heap.size, 2, none⟩) n9 _
    case rest =>
      obtain ⟨E3, S3, HS3, A3, c3, hsm, h100, h9, r3, h7, h8, r1, r2, hx⟩ := hcut
      have K9 := hid (fun w' (hb : Below wc.heap.size wc w') => show w'.cell? ⟨b7, 0, none⟩ = some (.int .i64 E) ∧ w'.cell? ⟨b7, 1, none⟩ = some (.bool S) ∧ w'.cell? ⟨b7, 2, none⟩ = some (.slice A1 (ownHs l tx).length c1) ∧ w'.cell? ⟨b8, 0, none⟩ = some (.int .i64 E') ∧ w'.cell? ⟨b8, 1, none⟩ = some (.bool S') ∧ w'.cell? ⟨b8, 2, none⟩ = some (.slice A2 (ownHs l' tx').length c2) ∧ w'.cell? ⟨wo.heap.size, 0, none⟩ = some (.int .i64 E3) ∧ w'.cell? ⟨wo.heap.size, 1, none⟩ = some (.bool S3) ∧ w'.cell? ⟨wo.heap.size, 2, none⟩ = some (.slice A3 HS3.length c3) from ⟨(h7.behind hb).cell 0, (h7.behind hb).cell 1, (h7.behind hb).cell 2, (h8.behind hb).cell 0, (h8.behind hb).cell 1, (h8.behind hb).cell 2, (h9.behind hb).cell 0, (h9.behind hb).cell 1, (h9.behind hb).cell 2⟩)
      have l1 : (ownHs l tx).length ≤ 41 := ownHs_len l tx
      have EQ12 := fun w' (hb : Below wc.heap.size wc w') => lkEqual_any ⟨E, S, ownHs l tx⟩ ⟨E', S', ownHs l' tx'⟩ A1 A2 c1 c2 (by dsimp only; omega) w' (r1.below hb) (r2.below hb)
      have SM12 := fun w' (hb : Below wc.heap.size wc w') => same34_any ⟨E, S, ownHs l tx⟩ ⟨E', S', ownHs l' tx'⟩ A1 A2 c1 c2 (by dsimp only; omega) w' (r1.below hb) (r2.below hb)
      have EQ13 := fun w' (hb : Below wc.heap.size wc w') => lkEqual_any ⟨E, S, ownHs l tx⟩ ⟨E3, S3, HS3⟩ A1 A3 c1 c3 (by dsimp only; omega) w' (r1.below hb) (r3.below hb)
      have EQ31 := fun w' (hb : Below wc.heap.size wc w') => lkEqual_any ⟨E3, S3, HS3⟩ ⟨E, S, ownHs l tx⟩ A3 A1 c3 c1 (by dsimp only; omega) w' (r3.below hb) (r1.below hb)
      have hsy : sameL ⟨E3, S3, HS3⟩ ⟨E, S, ownHs l tx⟩ = sameL ⟨E, S, ownHs l tx⟩ ⟨E3, S3, HS3⟩ := by rw [Bool.eq_iff_iff, sameL_iff, sameL_iff]; exact eq_comm
      rw [hsy] at EQ31
      unfold lkCells at EQ12 SM12 EQ13 EQ31
      dsimp only at EQ12 SM12 EQ13 EQ31
      generalize sameL ⟨E, S, ownHs l tx⟩ ⟨E3, S3, HS3⟩ = y at *
      generalize sameL ⟨E, S, ownHs l tx⟩ ⟨E', S', ownHs l' tx'⟩ = x at *
      have hd : ∀ z : Bool, z = decide (ch % 4 = 0) → z = decide ((ch : Int) % 4 = 0) := fun z h => by rw [h]; exact decide_eq_decide.2 (by omega)
      have hy := hd y hsm
      have KN := hid known34_any
      have E12 := hid EQ12
      have M12 := hid SM12
      have E13 := hid EQ13
      have E31 := hid EQ31
      have HX2 := hid hx
      have z0 := K9.out _ (Below.refl _ _)
      clear EQ12 SM12 EQ13 EQ31 hsy hd hsm h9 r3 h7 h8 r1 r2 hx
      cases y with
      | true =>
        have hc4 : (ch : Int) % 4 = 0 := of_decide_eq_true hy.symm
        have hw5 : (ch : Int).tmod 4 = 0 := by rw [Int.tmod_eq_emod_of_nonneg h0, hc4]
        have hw6 : decide ((ch : Int).tmod 4 = 0) = true := decide_eq_true hw5
        have hw7 : ((ch : Int).tmod 4 == 0) = true := by rw [beq_iff_eq]; exact hw5
        clear hy
        cases x with
        | true =>
          go_upto_region 10 with fail
          obtain ⟨z01, z02, z03, z04, z05, z06, z07, z08, z09⟩ := z0
          go_region_held3 (fun w' => w'.cell? ⟨b7, 0, none⟩ = some (.int .i64 E) ∧ w'.cell? ⟨b7, 1, none⟩ = some (.bool S) ∧ w'.cell? ⟨b7, 2, none⟩ = some (.slice A1 (ownHs l tx).length c1) ∧ w'.cell? ⟨b8, 0, none⟩ = some (.int .i64 E') ∧ w'.cell? ⟨b8, 1, none⟩ = some (.bool S') ∧ w'.cell? ⟨b8, 2, none⟩ = some (.slice A2 (ownHs l' tx').length c2) ∧ w'.cell? ⟨wo.heap.size, 0, none⟩ = some (.int .i64 E3) ∧ w'.cell? ⟨wo.heap.size, 1, none⟩ = some (.bool S3) ∧ w'.cell? ⟨wo.heap.size, 2, none⟩ = some (.slice A3 HS3.length c3))
            (first | exact K9.out _ (by (belE; done)) | go_keep)
            (first
              | (go_at_call 11; with_reducible refine (KN.out _).mono ?_; rintro o v1 ⟨rfl, hb1⟩; have hx1 : Below wc.heap.size wc v1 := viaB (by (belE; done)) hb1)
              | (go_at_call 12; with_reducible refine (M12.out _ (by (belE; done))).mono ?_; rintro o v3 ⟨rfl, hb3⟩; have hx3 : Below wc.heap.size wc v3 := viaB (by (belE; done)) hb3)
              | (go_at_call 25; with_reducible refine (E12.out _ (by (belE; done))).mono ?_; rintro o v2 ⟨rfl, hb2⟩; have hx2 : Below wc.heap.size wc v2 := viaB (by (belE; done)) hb2)
              | (go_at_call 25; with_reducible refine (E13.out _ (by (belE; done))).mono ?_; rintro o v4 ⟨rfl, hb4⟩; have hx4 : Below wc.heap.size wc v4 := viaB (by (belE; done)) hb4)
              | (go_at_call 25; with_reducible refine (E31.out _ (by (belE; done))).mono ?_; rintro o v5 ⟨rfl, hb5⟩; have hx5 : Below wc.heap.size wc v5 := viaB (by (belE; done)) hb5))
          all_goals go_wp2_with fail
          all_goals go_ret
          all_goals exact ⟨rfl, HB0.out.trans ((viaB HX2.out (by belE)).mono HB0.out.size)⟩
        | false =>
          go_upto_region 10 with fail
          obtain ⟨z01, z02, z03, z04, z05, z06, z07, z08, z09⟩ := z0
          go_region_held3 (fun w' => w'.cell? ⟨b7, 0, none⟩ = some (.int .i64 E) ∧ w'.cell? ⟨b7, 1, none⟩ = some (.bool S) ∧ w'.cell? ⟨b7, 2, none⟩ = some (.slice A1 (ownHs l tx).length c1) ∧ w'.cell? ⟨b8, 0, none⟩ = some (.int .i64 E') ∧ w'.cell? ⟨b8, 1, none⟩ = some (.bool S') ∧ w'.cell? ⟨b8, 2, none⟩ = some (.slice A2 (ownHs l' tx').length c2) ∧ w'.cell? ⟨wo.heap.size, 0, none⟩ = some (.int .i64 E3) ∧ w'.cell? ⟨wo.heap.size, 1, none⟩ = some (.bool S3) ∧ w'.cell? ⟨wo.heap.size, 2, none⟩ = some (.slice A3 HS3.length c3))
            (first | exact K9.out _ (by (belE; done)) | go_keep)
            (first
              | (go_at_call 11; with_reducible refine (KN.out _).mono ?_; rintro o v1 ⟨rfl, hb1⟩; have hx1 : Below wc.heap.size wc v1 := viaB (by (belE; done)) hb1)
              | (go_at_call 12; with_reducible refine (M12.out _ (by (belE; done))).mono ?_; rintro o v3 ⟨rfl, hb3⟩; have hx3 : Below wc.heap.size wc v3 := viaB (by (belE; done)) hb3)
              | (go_at_call 25; with_reducible refine (E12.out _ (by (belE; done))).mono ?_; rintro o v2 ⟨rfl, hb2⟩; have hx2 : Below wc.heap.size wc v2 := viaB (by (belE; done)) hb2)
              | (go_at_call 25; with_reducible refine (E13.out _ (by (belE; done))).mono ?_; rintro o v4 ⟨rfl, hb4⟩; have hx4 : Below wc.heap.size wc v4 := viaB (by (belE; done)) hb4)
              | (go_at_call 25; with_reducible refine (E31.out _ (by (belE; done))).mono ?_; rintro o v5 ⟨rfl, hb5⟩; have hx5 : Below wc.heap.size wc v5 := viaB (by (belE; done)) hb5))
          all_goals go_wp2_with fail
          all_goals go_ret
          all_goals exact ⟨rfl, HB0.out.trans ((viaB HX2.out (by belE)).mono HB0.out.size)⟩
      | false =>
        have hc4 : ¬ (ch : Int) % 4 = 0 := of_decide_eq_false hy.symm
        have hw5 : ¬ (ch : Int).tmod 4 = 0 := by rw [Int.tmod_eq_emod_of_nonneg h0]; exact hc4
        have hw6 : decide ((ch : Int).tmod 4 = 0) = false := decide_eq_false hw5
        have hw7 : ((ch : Int).tmod 4 == 0) = false := by rw [beq_eq_false_iff_ne]; exact hw5
        clear hy
        cases x with
        | true =>
          go_upto_region 10 with fail
          obtain ⟨z01, z02, z03, z04, z05, z06, z07, z08, z09⟩ := z0
          go_region_held3 (fun w' => w'.cell? ⟨b7, 0, none⟩ = some (.int .i64 E) ∧ w'.cell? ⟨b7, 1, none⟩ = some (.bool S) ∧ w'.cell? ⟨b7, 2, none⟩ = some (.slice A1 (ownHs l tx).length c1) ∧ w'.cell? ⟨b8, 0, none⟩ = some (.int .i64 E') ∧ w'.cell? ⟨b8, 1, none⟩ = some (.bool S') ∧ w'.cell? ⟨b8, 2, none⟩ = some (.slice A2 (ownHs l' tx').length c2) ∧ w'.cell? ⟨wo.heap.size, 0, none⟩ = some (.int .i64 E3) ∧ w'.cell? ⟨wo.heap.size, 1, none⟩ = some (.bool S3) ∧ w'.cell? ⟨wo.heap.size, 2, none⟩ = some (.slice A3 HS3.length c3))
            (first | exact K9.out _ (by (belE; done)) | go_keep)
            (first
              | (go_at_call 11; with_reducible refine (KN.out _).mono ?_; rintro o v1 ⟨rfl, hb1⟩; have hx1 : Below wc.heap.size wc v1 := viaB (by (belE; done)) hb1)
              | (go_at_call 12; with_reducible refine (M12.out _ (by (belE; done))).mono ?_; rintro o v3 ⟨rfl, hb3⟩; have hx3 : Below wc.heap.size wc v3 := viaB (by (belE; done)) hb3)
              | (go_at_call 25; with_reducible refine (E12.out _ (by (belE; done))).mono ?_; rintro o v2 ⟨rfl, hb2⟩; have hx2 : Below wc.heap.size wc v2 := viaB (by (belE; done)) hb2)
              | (go_at_call 25; with_reducible refine (E13.out _ (by (belE; done))).mono ?_; rintro o v4 ⟨rfl, hb4⟩; have hx4 : Below wc.heap.size wc v4 := viaB (by (belE; done)) hb4)
              | (go_at_call 25; with_reducible refine (E31.out _ (by (belE; done))).mono ?_; rintro o v5 ⟨rfl, hb5⟩; have hx5 : Below wc.heap.size wc v5 := viaB (by (belE; done)) hb5))
          all_goals go_wp2_with fail
          all_goals go_ret
          all_goals exact ⟨rfl, HB0.out.trans ((viaB HX2.out (by belE)).mono HB0.out.size)⟩
        | false =>
          go_upto_region 10 with fail
          obtain ⟨z01, z02, z03, z04, z05, z06, z07, z08, z09⟩ := z0
          go_region_held3 (fun w' => w'.cell? ⟨b7, 0, none⟩ = some (.int .i64 E) ∧ w'.cell? ⟨b7, 1, none⟩ = some (.bool S) ∧ w'.cell? ⟨b7, 2, none⟩ = some (.slice A1 (ownHs l tx).length c1) ∧ w'.cell? ⟨b8, 0, none⟩ = some (.int .i64 E') ∧ w'.cell? ⟨b8, 1, none⟩ = some (.bool S') ∧ w'.cell? ⟨b8, 2, none⟩ = some (.slice A2 (ownHs l' tx').length c2) ∧ w'.cell? ⟨wo.heap.size, 0, none⟩ = some (.int .i64 E3) ∧ w'.cell? ⟨wo.heap.size, 1, none⟩ = some (.bool S3) ∧ w'.cell? ⟨wo.heap.size, 2, none⟩ = some (.slice A3 HS3.length c3))
            (first | exact K9.out _ (by (belE; done)) | go_keep)
            (first
              | (go_at_call 11; with_reducible refine (KN.out _).mono ?_; rintro o v1 ⟨rfl, hb1⟩; have hx1 : Below wc.heap.size wc v1 := viaB (by (belE; done)) hb1)
              | (go_at_call 12; with_reducible refine (M12.out _ (by (belE; done))).mono ?_; rintro o v3 ⟨rfl, hb3⟩; have hx3 : Below wc.heap.size wc v3 := viaB (by (belE; done)) hb3)
              | (go_at_call 25; with_reducible refine (E12.out _ (by (belE; done))).mono ?_; rintro o v2 ⟨rfl, hb2⟩; have hx2 : Below wc.heap.size wc v2 := viaB (by (belE; done)) hb2)
              | (go_at_call 25; with_reducible refine (E13.out _ (by (belE; done))).mono ?_; rintro o v4 ⟨rfl, hb4⟩; have hx4 : Below wc.heap.size wc v4 := viaB (by (belE; done)) hb4)
              | (go_at_call 25; with_reducible refine (E31.out _ (by (belE; done))).mono ?_; rintro o v5 ⟨rfl, hb5⟩; have hx5 : Below wc.heap.size wc v5 := viaB (by (belE; done)) hb5))
          all_goals go_wp2_with fail
          all_goals go_ret
          all_goals exact ⟨rfl, HB0.out.trans ((viaB HX2.out (by belE)).mono HB0.out.size)⟩
end Go.Proofs.YtfgecaphhdedcaaGreatDoor
