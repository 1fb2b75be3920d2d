/-
  LAYER 24 (view): a view beside blocks of other kinds that are written. No function of the program is walked here.
  LAYER 34 (lock), WALKED: read, Get, write.
  LAYER 34 (lock), WALKED: slices.BinarySearchFunc at holders.
  LAYER 34 (lock), WALKED: Get, write, use. (Written by the program gen_lku.py.)
-/
import Derived.Test.YtfgecaphhdedcaaGreatDoorZ8
import Derived.Test.YtfgecaphhdedcaaGreatDoorZ9
import Derived.Deep.LoopGhost
import Derived.Deep.DeepMust
namespace Go.Proofs.YtfgecaphhdedcaaGreatDoor
open Go.RowKit

section
variable {w w' : World} {lo vb k : Nat} {T : T} {f : NF} {sp A : Option Addr} {br bn n c : Nat} {xs : List Value}
/-- One block of another kind is written. -/
theorem VwAt.grown1 (h : VwAt w lo vb k T f sp br bn A n c xs) {g : Nat} {t : TypeId} {cs : Array Value} (hg : Blk w g t cs) (h1 : t ≠ 85) (h2 : t ≠ 148) (hlo : lo ≤ g) (hgr : w.grownBy w' (some g)) : VwAt w' lo vb k T f sp br bn A n c xs := by
  have hlt := h.lt
  obtain ⟨bk, l1, l2, l3, ne, ⟨w0, h0, hs1, hs2⟩, ok, ⟨rf, mr⟩, mn, ro, nk⟩ := h
  refine ⟨bk.grown hgr (fun e => ?_), l1, l2, l3, ne, ⟨w0, h0, hs1, hs2.grown hgr (by omega) (fun j e => by cases e; omega)⟩, ok, ⟨_, mr.kept hgr (fun e => ?_)⟩, mn.kept hgr (fun e => ?_), ro.keep (fun k' cs' hk' => ?_) hgr.size, nk⟩
  · cases e; exact Blk.ne_ hg bk h1 rfl
  · cases e; exact map_ne hg mr.obj rfl
  · cases e; exact map_ne hg mn.obj rfl
  · refine (hgr.block k' (Array.getElem?_eq_some_iff.1 hk').1 (fun e => ?_)).trans hk'
    cases e
    exact Blk.ne_ hg hk' h2 rfl
theorem IsView.grown1 (h : IsView w lo vb k T f) {g : Nat} {t : TypeId} {cs : Array Value} (hg : Blk w g t cs) (h1 : t ≠ 85) (h2 : t ≠ 148) (hlo : lo ≤ g) (hgr : w.grownBy w' (some g)) : IsView w' lo vb k T f :=
  let ⟨_, _, _, _, _, _, _, h⟩ := h; ⟨_, _, _, _, _, _, _, h.grown1 hg h1 h2 hlo hgr⟩
theorem below_of_none (h : w.grownBy w' none) : Below w.heap.size w w' := Below.grown (Below.refl _ _) h (Nat.le_refl _) (fun _ e => by cases e)
/-- A row of one's own is written. -/
theorem IsView.own (h : IsView w lo vb k T f) {base size m : Nat} {t : TypeId} {v : Value} {ys : List Value} (ho : w.ownsRow base t size v m ys) (h1 : t ≠ 85) (h2 : t ≠ 148) (hlo : lo ≤ base) (hgr : w.grownBy w' v.ownBlock) : IsView w' lo vb k T f := by
  rcases ho.2 with ⟨rfl, -⟩ | ⟨g, cap, cur, rfl, hb, hh, -⟩
  · exact h.below (below_of_none hgr)
  · exact h.grown1 (g := g) hh h1 h2 (by omega) hgr
end
section
variable {w0 w w' : World}
theorem KeepV.new (h : KeepV w0 w) {row : Option Nat} (hgr : w.grownBy w' row) (hr : ∀ j, row = some j → w0.heap.size ≤ j) : KeepV w0 w' := fun k o hk h1 h2 => by
  have hlt := (Array.getElem?_eq_some_iff.1 hk).1
  have hk1 := h k o hk h1 h2
  refine (hgr.block k (Array.getElem?_eq_some_iff.1 hk1).1 (fun e => ?_)).trans hk1
  have := hr k e.symm
  omega
theorem grown_setRow (w : World) (g : Nat) (cs : Array Value) : w.grownBy (w.setRow g cs) (some g) := ⟨rfl, rfl, rfl, by simp, fun k _ hk => setRow_other w g k cs (fun e => hk (by rw [e]))⟩
theorem KeepV.setRow (h : KeepV w0 w) {g : Nat} (hg : w0.heap.size ≤ g) (cs : Array Value) : KeepV w0 (w.setRow g cs) := h.new (grown_setRow w g cs) (fun j e => by cases e; exact hg)
theorem IsView.setRow {lo vb k : Nat} {T : T} {f : NF} (h : IsView w lo vb k T f) {g : Nat} {t : TypeId} {cs : Array Value} (hg : Blk w g t cs) (h1 : t ≠ 85) (h2 : t ≠ 148) (hlo : lo ≤ g) (cs' : Array Value) : IsView (w.setRow g cs') lo vb k T f := h.grown1 hg h1 h2 hlo (grown_setRow w g cs')
theorem KeepV.size {w w' : World} (h : KeepV w w') (hs : w.heap.size ≤ w'.heap.size) {g : Nat} {t : TypeId} {cs : Array Value} (hk : Blk w g t cs) (ht : t ≠ 85) : Blk w' g t cs ∧ w.heap.size ≤ w'.heap.size := ⟨h.blk hk ht, hs⟩
end
end Go.Proofs.YtfgecaphhdedcaaGreatDoor
namespace Go.Proofs.YtfgecaphhdedcaaGreatDoor
open Go.RowKit

theorem lockN_ok {m : ByteArray} {n : Int} (hm : m.size ≤ maxLen) : (lockN m n).Ok := ⟨hm, Nat.zero_le _⟩
/-- The lock that a call returned: its holders in a row of its own. -/
def LkOut (W w' : World) (l : Lk) (A : Option Addr) (c : Nat) : Prop := w'.ownsRow W.heap.size 42 1 (.slice A l.holders.length c) l.holders.length (l.holders.map (.string ·))

set_option maxRecDepth 100000 in
set_option maxHeartbeats 3200000 in
theorem lkRead_any (lo vb k : Nat) (T : T) (f : NF) (m : ByteArray) (n ep : Int) (hm : m.size ≤ maxLen) (hk : k < maxLen) (hs : ∀ s, curV T f (lockN m n) = some s → s.size ≤ 1000000) (w : World) (h : IsView w lo vb k T f) :
    Calls Tryz.prog 50 #[.pointer (some ⟨vb, 0, none⟩), .agg #[.string m, .int .i64 n], .int .i64 ep] w fun o w' => ∃ A c, o = .returned (.tuple #[.agg (lkCells ((rdL (curV T f (lockN m n)) ep).getD ⟨0, false, []⟩) A c), .int .i64 (if (rdL (curV T f (lockN m n)) ep).isSome then 0 else 3)]) ∧ LkOut w w' ((rdL (curV T f (lockN m n)) ep).getD ⟨0, false, []⟩) A c ∧ IsView w' lo vb (k + 1) T f ∧ Below lo w w' ∧ KeepV w w' := by
  have GT := fun w' h' => vget_any lo vb k T f (lockN m n) (lockN_ok hm) hk w' h'
  have OL := hid (ofLock_any m n)
  have hlo := h.lt
  have FIN := hid (show ∀ w3, IsView w3 lo vb (k + 1) T f → Below lo w w3 → KeepV w w3 → Blk w3 (w.heap.size + 1) 24 #[.int .i64 0, .bool false, .slice none 0 0] → ∀ cs, IsView (w3.setRow (w.heap.size + 1) cs) lo vb (k + 1) T f ∧ Below lo w (w3.setRow (w.heap.size + 1) cs) ∧ KeepV w (w3.setRow (w.heap.size + 1) cs) from fun w3 h1 h2 h3 h4 cs => ⟨h1.setRow h4 (by decide) (by decide) (by omega) cs, below_setRow h2 (by omega) cs, h3.setRow (by omega) cs⟩)
  cases hcv : curV T f (lockN m n) with
  | none =>
    rw [hcv] at GT
    have GT := hid GT
    have hr : rdL none ep = some (emptyLk ep) := rfl
    rw [hr]
    clear hr hcv hs
    go_enter Tryz.func50, Tryz.ntmps50
    go_upto_region 1 with fail
    generalize hW : (w.alloc (.cells #[.string m, .int .i64 n] 44)).alloc (.cells #[.int .i64 0, .bool false, .slice none 0 0] 24) = W
    have b0 : Blk W w.heap.size 44 #[.string m, .int .i64 n] := by rw [← hW]; exact (Blk.new _ _ _).alloc _
    have r0 : Blk W (w.heap.size + 1) 24 #[.int .i64 0, .bool false, .slice none 0 0] := by rw [← hW]; exact Blk.new_ _ _ _ (by simp)
    have hB0 : Below w.heap.size w W := by rw [← hW]; exact ((Below.refl _ _).alloc (Nat.le_refl _) _).alloc (by simp) _
    have q0 : W.cell? ⟨w.heap.size, 0, none⟩ = some (.string m) := b0.cell 0
    have q1 : W.cell? ⟨w.heap.size, 1, none⟩ = some (.int .i64 n) := b0.cell 1
    have HV := hid (h.below hB0)
    have HR := hid r0
    have HB := hid hB0
    clear hW b0 r0 h hB0
    go_wp2_with (first
      | (go_at_call 28; refine (OL.out _).mono ?_; rintro o w2 ⟨rfl, hb2⟩; have HV2 := hid (HV.out.below hb2); have HR2 := hid (HR.out.below hb2 HR.out.lt); have HB2 := hid (HB.out.trans (hb2.mono HB.out.size)); clear hb2)
      | (go_at_call 77; refine (GT.out _ HV2.out).mono ?_; rintro o w3 ⟨rfl, hv3, hb3, hk3⟩; have HV3 := hid hv3; have HR3 := hid (hk3.blk HR2.out (by decide)); have HB3 := hid ((HB2.out.mono hlo).trans hb3); have HK3 := hid ((KeepV.below HB2.out).trans hk3); clear hv3 hb3 hk3)
      | (refine wpList_store_row rfl 24 _ _ rfl (w.heap.size + 1) #[.int .i64 ep, .bool false, .slice none 0 0] rfl rfl 24 #[.int .i64 0, .bool false, .slice none 0 0] HR3.out rfl rfl (one3 _ _ _ _ _) ?_))
    refine bodyPost_ret (v := .tuple #[.agg #[.int .i64 ep, .bool false, .slice none 0 0], .int .i64 0]) ?_ ?_ ?_
    · exact results_cell_two rfl _ _ (w.heap.size + 1) 24 #[.int .i64 ep, .bool false, .slice none 0 0] (0, 0) _ _ rfl rfl (setRow_heap _ _ _ _ _ _ HR3.out) Tryz.underlying24 rfl (by kernel_rfl)
    · rfl
    · exact ⟨none, 0, rfl, World.ownsRow_nil _ _ _ _, FIN.out _ HV3.out HB3.out HK3.out HR3.out _⟩
  | some s =>
    rw [hcv] at GT
    have hsz := hs s hcv
    have e1 : getS (some s) = s := rfl
    rw [e1] at GT
    have GT := hid GT
    have DE := fun w' => lkDecode_any s.data.toList (by rw [← ba_size]; exact hsz) w'
    simp only [strB_of] at DE
    have hr : rdL (some s) ep = if ldOk 16777216 s.data.toList then (if (ldLk 16777216 s.data.toList).epoch = ep then some (ldLk 16777216 s.data.toList) else some (emptyLk ep)) else none := rfl
    rw [hr]
    clear hr e1 hcv hs
    by_cases hok : ldOk 16777216 s.data.toList
    · simp only [if_pos hok] at DE ⊢
      generalize ldLk 16777216 s.data.toList = L at *
      obtain ⟨E, S, HS⟩ := L
      unfold lkCells at *
      dsimp only at *
      have DE := hid DE
      clear hok
      by_cases hep : E = ep
      · subst hep
        rw [if_pos rfl]
        go_enter Tryz.func50, Tryz.ntmps50
        go_upto_region 1 with fail
        generalize hW : (w.alloc (.cells #[.string m, .int .i64 n] 44)).alloc (.cells #[.int .i64 0, .bool false, .slice none 0 0] 24) = W
        have b0 : Blk W w.heap.size 44 #[.string m, .int .i64 n] := by rw [← hW]; exact (Blk.new _ _ _).alloc _
        have r0 : Blk W (w.heap.size + 1) 24 #[.int .i64 0, .bool false, .slice none 0 0] := by rw [← hW]; exact Blk.new_ _ _ _ (by simp)
        have hB0 : Below w.heap.size w W := by rw [← hW]; exact ((Below.refl _ _).alloc (Nat.le_refl _) _).alloc (by simp) _
        have q0 : W.cell? ⟨w.heap.size, 0, none⟩ = some (.string m) := b0.cell 0
        have q1 : W.cell? ⟨w.heap.size, 1, none⟩ = some (.int .i64 n) := b0.cell 1
        have HV := hid (h.below hB0)
        have HR := hid r0
        have HB := hid hB0
        clear hW b0 r0 h hB0
        go_wp2_with (first
          | (go_at_call 28; refine (OL.out _).mono ?_; rintro o w2 ⟨rfl, hb2⟩; have HV2 := hid (HV.out.below hb2); have HR2 := hid (HR.out.below hb2 HR.out.lt); have HB2 := hid (HB.out.trans (hb2.mono HB.out.size)); clear hb2)
          | (go_at_call 77; refine (GT.out _ HV2.out).mono ?_; rintro o w3 ⟨rfl, hv3, hb3, hk3⟩; have HV3 := hid hv3; have HR3 := hid (hk3.blk HR2.out (by decide)); have HB3 := hid ((HB2.out.mono hlo).trans hb3); have HK3 := hid ((KeepV.below HB2.out).trans hk3); have HZ3 := hid (Nat.le_trans HB2.out.size hb3.size); clear hv3 hb3 hk3)
          | (go_at_call 9; refine (DE.out _).mono ?_; rintro o w4 ⟨A, c, rfl, ho4, hb4⟩; have HV4 := hid (HV3.out.below hb4); have HR4 := hid (HR3.out.below hb4 HR3.out.lt); have HB4 := hid (HB3.out.trans (hb4.mono (Nat.le_trans hlo HZ3.out))); have HK4 := hid (HK3.out.trans (KeepV.below hb4)); have HO4 := hid ho4; have HZ4 := hid (Nat.le_trans HZ3.out hb4.size); have HV5 := hid (fun o => HV4.out.below ((Below.refl w4.heap.size w4).alloc (Nat.le_refl _) o)); have HR5 := hid (fun o => HR4.out.alloc o); have HB5 := hid (fun o => HB4.out.alloc (Nat.le_trans hlo HZ4.out) o); have HK5 := hid (fun o => HK4.out.trans (KeepV.below ((Below.refl w4.heap.size w4).alloc (Nat.le_refl _) o))); have HO5 := hid (fun o => ownsRow_below HO4.out ((Below.refl w4.heap.size w4).alloc (Nat.le_refl _) o)); clear ho4 hb4)
          | (refine wpList_store_row rfl 24 _ _ rfl (w.heap.size + 1) #[.int .i64 E, .bool S, .slice A HS.length c] rfl rfl 24 #[.int .i64 0, .bool false, .slice none 0 0] (HR5.out _) rfl rfl (one3 _ _ _ _ _) ?_))
        refine bodyPost_ret (v := .tuple #[.agg #[.int .i64 E, .bool S, .slice A HS.length c], .int .i64 0]) ?_ ?_ ?_
        · exact results_cell_two rfl _ _ (w.heap.size + 1) 24 #[.int .i64 E, .bool S, .slice A HS.length c] (0, 0) _ _ rfl rfl (setRow_heap _ _ _ _ _ _ (HR5.out _)) Tryz.underlying24 rfl (by kernel_rfl)
        · rfl
        · exact ⟨A, c, rfl, ownsRow_setRow ((HO5.out _).lower (by have := HZ3.out; omega)) (HR5.out _) (by decide), FIN.out _ (HV5.out _) (HB5.out _) (HK5.out _) (HR5.out _) _⟩
      · have hpb : (E != ep) = true := by simp [hep]
        rw [if_neg hep]
        clear hep
        go_enter Tryz.func50, Tryz.ntmps50
        go_upto_region 1 with fail
        generalize hW : (w.alloc (.cells #[.string m, .int .i64 n] 44)).alloc (.cells #[.int .i64 0, .bool false, .slice none 0 0] 24) = W
        have b0 : Blk W w.heap.size 44 #[.string m, .int .i64 n] := by rw [← hW]; exact (Blk.new _ _ _).alloc _
        have r0 : Blk W (w.heap.size + 1) 24 #[.int .i64 0, .bool false, .slice none 0 0] := by rw [← hW]; exact Blk.new_ _ _ _ (by simp)
        have hB0 : Below w.heap.size w W := by rw [← hW]; exact ((Below.refl _ _).alloc (Nat.le_refl _) _).alloc (by simp) _
        have q0 : W.cell? ⟨w.heap.size, 0, none⟩ = some (.string m) := b0.cell 0
        have q1 : W.cell? ⟨w.heap.size, 1, none⟩ = some (.int .i64 n) := b0.cell 1
        have HV := hid (h.below hB0)
        have HR := hid r0
        have HB := hid hB0
        clear hW b0 r0 h hB0
        go_wp2_with (first
          | (go_at_call 28; refine (OL.out _).mono ?_; rintro o w2 ⟨rfl, hb2⟩; have HV2 := hid (HV.out.below hb2); have HR2 := hid (HR.out.below hb2 HR.out.lt); have HB2 := hid (HB.out.trans (hb2.mono HB.out.size)); clear hb2)
          | (go_at_call 77; refine (GT.out _ HV2.out).mono ?_; rintro o w3 ⟨rfl, hv3, hb3, hk3⟩; have HV3 := hid hv3; have HR3 := hid (hk3.blk HR2.out (by decide)); have HB3 := hid ((HB2.out.mono hlo).trans hb3); have HK3 := hid ((KeepV.below HB2.out).trans hk3); have HZ3 := hid (Nat.le_trans HB2.out.size hb3.size); clear hv3 hb3 hk3)
          | (go_at_call 9; refine (DE.out _).mono ?_; rintro o w4 ⟨A, c, rfl, ho4, hb4⟩; have HV4 := hid (HV3.out.below hb4); have HR4 := hid (HR3.out.below hb4 HR3.out.lt); have HB4 := hid (HB3.out.trans (hb4.mono (Nat.le_trans hlo HZ3.out))); have HK4 := hid (HK3.out.trans (KeepV.below hb4)); have HO4 := hid ho4; have HZ4 := hid (Nat.le_trans HZ3.out hb4.size); have HV5 := hid (fun o => HV4.out.below ((Below.refl w4.heap.size w4).alloc (Nat.le_refl _) o)); have HR5 := hid (fun o => HR4.out.alloc o); have HB5 := hid (fun o => HB4.out.alloc (Nat.le_trans hlo HZ4.out) o); have HK5 := hid (fun o => HK4.out.trans (KeepV.below ((Below.refl w4.heap.size w4).alloc (Nat.le_refl _) o))); have HO5 := hid (fun o => ownsRow_below HO4.out ((Below.refl w4.heap.size w4).alloc (Nat.le_refl _) o)); clear ho4 hb4)
          | (refine wpList_store_row rfl 24 _ _ rfl (w.heap.size + 1) #[.int .i64 ep, .bool false, .slice none 0 0] rfl rfl 24 #[.int .i64 0, .bool false, .slice none 0 0] (HR5.out _) rfl rfl (one3 _ _ _ _ _) ?_))
        refine bodyPost_ret (v := .tuple #[.agg #[.int .i64 ep, .bool false, .slice none 0 0], .int .i64 0]) ?_ ?_ ?_
        · exact results_cell_two rfl _ _ (w.heap.size + 1) 24 #[.int .i64 ep, .bool false, .slice none 0 0] (0, 0) _ _ rfl rfl (setRow_heap _ _ _ _ _ _ (HR5.out _)) Tryz.underlying24 rfl (by kernel_rfl)
        · rfl
        · exact ⟨none, 0, rfl, World.ownsRow_nil _ _ _ _, FIN.out _ (HV5.out _) (HB5.out _) (HK5.out _) (HR5.out _) _⟩
    · simp only [if_neg hok] at DE ⊢
      unfold lkCells at *
      dsimp only at *
      have DE := hid DE
      clear hok
      go_enter Tryz.func50, Tryz.ntmps50
      go_upto_region 1 with fail
      generalize hW : (w.alloc (.cells #[.string m, .int .i64 n] 44)).alloc (.cells #[.int .i64 0, .bool false, .slice none 0 0] 24) = W
      have b0 : Blk W w.heap.size 44 #[.string m, .int .i64 n] := by rw [← hW]; exact (Blk.new _ _ _).alloc _
      have r0 : Blk W (w.heap.size + 1) 24 #[.int .i64 0, .bool false, .slice none 0 0] := by rw [← hW]; exact Blk.new_ _ _ _ (by simp)
      have hB0 : Below w.heap.size w W := by rw [← hW]; exact ((Below.refl _ _).alloc (Nat.le_refl _) _).alloc (by simp) _
      have q0 : W.cell? ⟨w.heap.size, 0, none⟩ = some (.string m) := b0.cell 0
      have q1 : W.cell? ⟨w.heap.size, 1, none⟩ = some (.int .i64 n) := b0.cell 1
      have HV := hid (h.below hB0)
      have HR := hid r0
      have HB := hid hB0
      clear hW b0 r0 h hB0
      go_wp2_with (first
        | (go_at_call 28; refine (OL.out _).mono ?_; rintro o w2 ⟨rfl, hb2⟩; have HV2 := hid (HV.out.below hb2); have HR2 := hid (HR.out.below hb2 HR.out.lt); have HB2 := hid (HB.out.trans (hb2.mono HB.out.size)); clear hb2)
        | (go_at_call 77; refine (GT.out _ HV2.out).mono ?_; rintro o w3 ⟨rfl, hv3, hb3, hk3⟩; have HV3 := hid hv3; have HR3 := hid (hk3.blk HR2.out (by decide)); have HB3 := hid ((HB2.out.mono hlo).trans hb3); have HK3 := hid ((KeepV.below HB2.out).trans hk3); have HZ3 := hid (Nat.le_trans HB2.out.size hb3.size); clear hv3 hb3 hk3)
        | (go_at_call 9; refine (DE.out _).mono ?_; rintro o w4 ⟨A, c, rfl, ho4, hb4⟩; have HV4 := hid (HV3.out.below hb4); have HR4 := hid (HR3.out.below hb4 HR3.out.lt); have HB4 := hid (HB3.out.trans (hb4.mono (Nat.le_trans hlo HZ3.out))); have HK4 := hid (HK3.out.trans (KeepV.below hb4)); have HO4 := hid ho4; have HZ4 := hid (Nat.le_trans HZ3.out hb4.size); have HV5 := hid (fun o => HV4.out.below ((Below.refl w4.heap.size w4).alloc (Nat.le_refl _) o)); have HR5 := hid (fun o => HR4.out.alloc o); have HB5 := hid (fun o => HB4.out.alloc (Nat.le_trans hlo HZ4.out) o); have HK5 := hid (fun o => HK4.out.trans (KeepV.below ((Below.refl w4.heap.size w4).alloc (Nat.le_refl _) o))); have HO5 := hid (fun o => ownsRow_below HO4.out ((Below.refl w4.heap.size w4).alloc (Nat.le_refl _) o)); clear ho4 hb4)
        | (refine wpList_store_row rfl 24 _ _ rfl (w.heap.size + 1) #[.int .i64 0, .bool false, .slice none 0 0] rfl rfl 24 #[.int .i64 0, .bool false, .slice none 0 0] (HR5.out _) rfl rfl (one3 _ _ _ _ _) ?_))
      refine bodyPost_ret (v := .tuple #[.agg #[.int .i64 0, .bool false, .slice none 0 0], .int .i64 3]) ?_ ?_ ?_
      · exact results_cell_two rfl _ _ (w.heap.size + 1) 24 #[.int .i64 0, .bool false, .slice none 0 0] (0, 0) _ _ rfl rfl (setRow_heap _ _ _ _ _ _ (HR5.out _)) Tryz.underlying24 rfl (by kernel_rfl)
      · rfl
      · exact ⟨none, 0, rfl, World.ownsRow_nil _ _ _ _, FIN.out _ (HV5.out _) (HB5.out _) (HK5.out _) (HR5.out _) _⟩
end Go.Proofs.YtfgecaphhdedcaaGreatDoor
namespace Go.Proofs.YtfgecaphhdedcaaGreatDoor
open Go.RowKit

theorem posL_at {hs : List ByteArray} {who : ByteArray} (i : Nat) (hi : i ≤ hs.length) (h1 : ∀ t (ht : t < hs.length), t < i → cl hs[t] who < 0) (h2 : ∀ t (ht : t < hs.length), i ≤ t → ¬ cl hs[t] who < 0) : posL hs who = i := by
  unfold posL
  conv => lhs; rw [← List.take_append_drop i hs]
  rw [List.countP_append]
  have e1 : (hs.take i).countP (fun h => decide (cl h who < 0)) = (hs.take i).length := by
    rw [List.countP_eq_length]
    intro a ha
    obtain ⟨t, ht, rfl⟩ := List.mem_iff_getElem.1 ha
    rw [List.length_take] at ht
    rw [List.getElem_take]
    simpa using h1 t (by omega) (by omega)
  have e2 : (hs.drop i).countP (fun h => decide (cl h who < 0)) = 0 := by
    rw [List.countP_eq_zero]
    intro a ha
    obtain ⟨t, ht, rfl⟩ := List.mem_iff_getElem.1 ha
    rw [List.length_drop] at ht
    rw [List.getElem_drop]
    simpa using h2 (i + t) (by omega) (by omega)
  rw [e1, e2, List.length_take]
  omega

set_option maxRecDepth 100000 in
set_option maxHeartbeats 3200000 in
theorem lkSearch_any (A : Option Addr) (c : Nat) (hs : List ByteArray) (who : ByteArray) (ha : Asc hs) (hz : ∀ h ∈ hs, h.size ≤ maxLen) (hw : who.size ≤ maxLen) (hn : hs.length ≤ 1000000) (w : World) (hr : RowN w A hs.length c hs) :
    Calls Tryz.prog 73 #[.slice A hs.length c, .string who, .func (.func 53) #[] #[]] w fun o w' => o = .returned (.tuple #[.int .i64 (posL hs who), .bool (memL hs who)]) ∧ Below w.heap.size w w' := by
  have HZ := hid hz
  have HA := hid ha
  have HR := hid hr
  have hcap := hr.1.2.1
  have hmx := hr.1.2.2.1
  unfold maxLen at hmx
  have MI := memL_iff ha who
  obtain ⟨p, hp⟩ : ∃ p, p = posL hs who := ⟨_, rfl⟩
  rw [← hp] at MI ⊢
  obtain ⟨m, hm⟩ : ∃ m, m = memL hs who := ⟨_, rfl⟩
  rw [← hm] at MI ⊢
  have HM := hid MI
  have HP := hid hp
  have CMP := hid (fun (y : ByteArray) (hy : y.size ≤ maxLen) w' => show Calls Tryz.prog 53 #[.string y, .string who] w' fun o w2 => o = .returned (.int .i64 (cl y who)) ∧ Below w'.heap.size w' w2 from cmpLin_any y who hy hw w')
  have HB0 := hid (Below.refl w.heap.size w)
  clear hz ha hr hp hm MI hw
  go_enter Tryz.func73, Tryz.ntmps73
  go_wp2_with fail
  go_loopg [9, 10] hs.length (fun kx s9 s10 wr => ∃ lo hi : Nat, s9 = .int .i64 lo ∧ s10 = .int .i64 hi ∧ lo ≤ hi ∧ hi ≤ hs.length ∧ hi - lo ≤ kx ∧ Hid (Below w.heap.size w wr) ∧
    Hid ((∀ t (ht : t < hs.length), t < lo → cl hs[t] who < 0) ∧ (∀ t (ht : t < hs.length), hi ≤ t → 0 ≤ cl hs[t] who)))
  case atStart => exact ⟨0, hs.length, rfl, rfl, Nat.zero_le _, Nat.le_refl _, by omega, HB0, hid ⟨fun t _ ht => absurd ht (Nat.not_lt_zero _), fun t h1 h2 => by omega⟩⟩
  case round =>
    obtain ⟨lo, hi, rfl, rfl, hlh, hin, hg, HB, I⟩ := hrel
    by_cases hlt : lo < hi
    · obtain ⟨bb, off, rfl, hbb, hc⟩ := HR.out.at (by omega)
      have hmid : (lo + hi) / 2 < hs.length := by omega
      have hck := hc _ HB.out ((lo + hi) / 2) hmid
      have HCM := hid (CMP.out hs[(lo + hi) / 2] (HZ.out _ (List.getElem_mem hmid)))
      have HS2 := hid (posL_split HA.out who)
      obtain ⟨y, hy⟩ : ∃ y, y = hs[(lo + hi) / 2] := ⟨_, rfl⟩
      rw [← hy] at hck HCM
      have Y := hid hy
      clear hy hc
      obtain ⟨cv, hcv⟩ : ∃ cv, cv = cl y who := ⟨_, rfl⟩
      rw [← hcv] at HCM
      have CV := hid hcv
      clear hcv
      by_cases hyx : cv < 0
      · go_wp2_with (go_at_call 53; refine (HCM.out _).mono ?_; rintro e w' ⟨rfl, hb'⟩; have HB2 := hid (HB.out.trans (hb'.mono HB.out.size)); clear hb')
        go_roundg (hi - ((lo + hi) / 2 + 1))
        case measure => omega
        case rel =>
          refine ⟨(lo + hi) / 2 + 1, hi, by rw [show ((lo : Int) + (hi : Int)) / 2 + 1 = (((lo + hi) / 2 + 1 : Nat) : Int) by omega], rfl, by omega, hin, Nat.le_refl _, HB2, hid ⟨fun t ht htl => ?_, I.out.2⟩⟩
          rcases Nat.lt_or_ge t ((lo + hi) / 2) with h1 | h1
          · have hpw := List.pairwise_iff_getElem.1 HA.out t ((lo + hi) / 2) ht hmid h1
            exact cl_trans hpw (by rw [← Y.out, ← CV.out]; exact hyx)
          · obtain rfl : t = (lo + hi) / 2 := by omega
            rw [← Y.out, ← CV.out]; exact hyx
      · go_wp2_with (go_at_call 53; refine (HCM.out _).mono ?_; rintro e w' ⟨rfl, hb'⟩; have HB2 := hid (HB.out.trans (hb'.mono HB.out.size)); clear hb')
        go_roundg ((lo + hi) / 2 - lo)
        case measure => omega
        case rel =>
          refine ⟨lo, (lo + hi) / 2, rfl, by rw [show ((lo : Int) + (hi : Int)) / 2 = (((lo + hi) / 2 : Nat) : Int) by omega], by omega, by omega, Nat.le_refl _, HB2, hid ⟨I.out.1, fun t ht htl => Int.not_lt.1 fun hlt' => ?_⟩⟩
          rcases Nat.lt_or_ge ((lo + hi) / 2) t with h1 | h1
          · have hpw := List.pairwise_iff_getElem.1 HA.out ((lo + hi) / 2) t hmid ht h1
            exact absurd (show cv < 0 by rw [CV.out, Y.out]; exact cl_trans hpw hlt') (by omega)
          · obtain rfl : t = (lo + hi) / 2 := by omega
            exact absurd (show cv < 0 by rw [CV.out, Y.out]; exact hlt') (by omega)
    · obtain rfl : hi = lo := by omega
      have ep : p = hi := by rw [HP.out]; exact posL_at hi hin I.out.1 (fun t ht h => Int.not_lt.2 (I.out.2 t ht h))
      subst ep
      by_cases hnl : p < hs.length
      · obtain ⟨bb, off, rfl, hbb, hc⟩ := HR.out.at (by omega)
        have hck := hc _ HB.out p hnl
        have HCM := hid (CMP.out hs[p] (HZ.out _ (List.getElem_mem hnl)))
        have hme := HM.out
        rw [List.getElem?_eq_getElem hnl] at hme
        simp only at hme
        generalize hs[p] = y at *
        obtain ⟨cv, hcv⟩ : ∃ cv, cv = cl y who := ⟨_, rfl⟩
        rw [← hcv] at HCM hme
        clear hcv hc HM
        by_cases hyx : cv = 0
        · have hm1 : m = true := by rw [hme]; simp [hyx]
          subst hm1
          clear hme
          subst hyx
          go_wp2_with (go_at_call 53; refine (HCM.out _).mono ?_; rintro e w' ⟨rfl, hb'⟩; have HB2 := hid (HB.out.trans (hb'.mono HB.out.size)); clear hb')
          go_ret2
          exact ⟨rfl, HB2.out⟩
        · have hm1 : m = false := by rw [hme]; simp [hyx]
          have hyb : (cv == 0) = false := by simp [hyx]
          subst hm1
          clear hme
          go_wp2_with (go_at_call 53; refine (HCM.out _).mono ?_; rintro e w' ⟨rfl, hb'⟩; have HB2 := hid (HB.out.trans (hb'.mono HB.out.size)); clear hb')
          go_ret2
          exact ⟨rfl, HB2.out⟩
      · have hm1 : m = false := by
          rw [HM.out, List.getElem?_eq_none (by omega)]
        subst hm1
        clear HM
        go_wp2_with fail
        go_ret2
        exact ⟨rfl, HB.out⟩
end Go.Proofs.YtfgecaphhdedcaaGreatDoor
namespace Go.Proofs.YtfgecaphhdedcaaGreatDoor
open Go.RowKit

theorem rdL_size {o : Option ByteArray} {ep : Int} {l : Lk} {B : Nat} (h : rdL o ep = some l) (hs : ∀ s, o = some s → s.size ≤ B) : ∀ x ∈ l.holders, x.size ≤ B := by
  unfold rdL at h
  cases o with
  | none => cases h; intro x hx; simp [emptyLk] at hx
  | some s =>
    simp only at h
    split at h
    · split at h
      · cases h
        have := hs s rfl
        exact lkGo_size (by rw [← ba_size]; exact this) _ _ _ _ (fun _ h => by simp at h)
      · cases h; intro x hx; simp [emptyLk] at hx
    · cases h

/-- What Get answers. -/
def gotE (m : ByteArray) (n ep : Int) (o : Option ByteArray) : Int := if beginE m n ep ≠ 0 then beginE m n ep else if (rdL o ep).isSome then 0 else 3
def gotL (m : ByteArray) (n ep : Int) (o : Option ByteArray) : Lk := if beginE m n ep ≠ 0 then ⟨0, false, []⟩ else (rdL o ep).getD ⟨0, false, []⟩
/-- What a write answers, and what it leaves. -/
def wrE (m : ByteArray) (n : Int) (l : Lk) : Int := if checkL l ≠ 0 then checkL l else setE (lockN m n) (strB (encLk l))
def wrF (f : NF) (m : ByteArray) (n : Int) (l : Lk) : NF := if wrE m n l = 0 then setF f (lockN m n) (some (strB (encLk l))) else f
/-- What use answers. -/
def useE (m : ByteArray) (n ep : Int) (who : ByteArray) (o : Option ByteArray) : Int := if beginE m n ep ≠ 0 then beginE m n ep else if hbad who then 12 else if (rdL o ep).isSome then 0 else 3

set_option maxRecDepth 100000 in
set_option maxHeartbeats 3200000 in
theorem lkGet_any (lo vb k : Nat) (T : T) (f : NF) (m : ByteArray) (n ep : Int) (hm : m.size ≤ maxLen) (hk : k < maxLen) (hs : ∀ s, curV T f (lockN m n) = some s → s.size ≤ 1000000) (w : World) (h : IsView w lo vb k T f) :
    Calls Tryz.prog 20 #[.pointer (some ⟨vb, 0, none⟩), .agg #[.string m, .int .i64 n], .int .i64 ep] w fun o w' => ∃ A c, o = .returned (.tuple #[.agg (lkCells (gotL m n ep (curV T f (lockN m n))) A c), .int .i64 (gotE m n ep (curV T f (lockN m n)))]) ∧ LkOut w w' (gotL m n ep (curV T f (lockN m n))) A c ∧ IsView w' lo vb (k + 1) T f ∧ Below lo w w' ∧ KeepV w w' := by
  have RD := fun w' h' => lkRead_any lo vb k T f m n ep hm hk hs w' h'
  have BG := hid (fun w' => lkBegin_any ⟨vb, 0, none⟩ m n ep hm w')
  have hlo := h.lt
  have FIN := hid (show ∀ w3, IsView w3 lo vb (k + 1) T f → Below lo w w3 → KeepV w w3 → ∀ cs0, Blk w3 (w.heap.size + 1) 24 cs0 → ∀ cs, IsView (w3.setRow (w.heap.size + 1) cs) lo vb (k + 1) T f ∧ Below lo w (w3.setRow (w.heap.size + 1) cs) ∧ KeepV w (w3.setRow (w.heap.size + 1) cs) from fun w3 h1 h2 h3 cs0 h4 cs => ⟨h1.setRow h4 (by decide) (by decide) (by omega) cs, below_setRow h2 (by omega) cs, h3.setRow (by omega) cs⟩)
  have e1 : gotL m n ep (curV T f (lockN m n)) = if beginE m n ep ≠ 0 then ⟨0, false, []⟩ else (rdL (curV T f (lockN m n)) ep).getD ⟨0, false, []⟩ := rfl
  have e2 : gotE m n ep (curV T f (lockN m n)) = if beginE m n ep ≠ 0 then beginE m n ep else if (rdL (curV T f (lockN m n)) ep).isSome then 0 else 3 := rfl
  rw [e1, e2]
  clear e1 e2 hs
  generalize (rdL (curV T f (lockN m n)) ep).getD ⟨0, false, []⟩ = LL at *
  generalize (if (rdL (curV T f (lockN m n)) ep).isSome = true then (0 : Int) else 3) = LE at *
  generalize beginE m n ep = be at *
  obtain ⟨E, S, HS⟩ := LL
  unfold lkCells at *
  dsimp only at *
  have RD := hid RD
  by_cases hb : be = 0
  · subst hb
    simp only [ne_eq, not_true_eq_false, if_false]
    go_enter Tryz.func20, Tryz.ntmps20
    go_upto_region 1 with fail
    generalize hW : (w.alloc (.cells #[.string m, .int .i64 n] 44)).alloc (.cells #[.int .i64 0, .bool false, .slice none 0 0] 24) = W
    have b0 : Blk W w.heap.size 44 #[.string m, .int .i64 n] := by rw [← hW]; exact (Blk.new _ _ _).alloc _
    have r0 : Blk W (w.heap.size + 1) 24 #[.int .i64 0, .bool false, .slice none 0 0] := by rw [← hW]; exact Blk.new_ _ _ _ (by simp)
    have hB0 : Below w.heap.size w W := by rw [← hW]; exact ((Below.refl _ _).alloc (Nat.le_refl _) _).alloc (by simp) _
    have q0 : W.cell? ⟨w.heap.size, 0, none⟩ = some (.string m) := b0.cell 0
    have q1 : W.cell? ⟨w.heap.size, 1, none⟩ = some (.int .i64 n) := b0.cell 1
    have HV := hid (h.below hB0)
    have HR := hid r0
    have HQ := hid b0
    have HB := hid hB0
    clear hW b0 r0 h hB0
    go_wp2_with (first
      | (go_at_call 49; refine (BG.out _).mono ?_; rintro o w2 ⟨rfl, hb2⟩; have HV2 := hid (HV.out.below hb2); have HR2 := hid (HR.out.below hb2 HR.out.lt); have HQ2 := hid (HQ.out.below hb2 HQ.out.lt); have HB2 := hid (HB.out.trans (hb2.mono HB.out.size)); have p0 : w2.cell? ⟨w.heap.size, 0, none⟩ = some (.string m) := HQ2.out.cell 0; have p1 : w2.cell? ⟨w.heap.size, 1, none⟩ = some (.int .i64 n) := HQ2.out.cell 1; clear hb2)
      | (go_at_call 50; refine (RD.out _ HV2.out).mono ?_; rintro o w4 ⟨A, c, rfl, ho4, hv4, hb4, hk4⟩; have HV4 := hid hv4; have HR4 := hid (hk4.blk HR2.out (by decide)); have HB4 := hid ((HB2.out.mono hlo).trans hb4); have HK4 := hid ((KeepV.below HB2.out).trans hk4); have HO4 := hid (ho4.lower (base' := w.heap.size) HB2.out.size); clear ho4 hv4 hb4 hk4)
      | (refine wpList_store_row rfl 24 _ _ rfl (w.heap.size + 1) #[.int .i64 E, .bool S, .slice A HS.length c] rfl rfl 24 #[.int .i64 0, .bool false, .slice none 0 0] HR4.out rfl rfl (one3 _ _ _ _ _) ?_))
    refine bodyPost_ret (v := .tuple #[.agg #[.int .i64 E, .bool S, .slice A HS.length c], .int .i64 LE]) ?_ ?_ ?_
    · exact results_cell_two rfl _ _ (w.heap.size + 1) 24 #[.int .i64 E, .bool S, .slice A HS.length c] (0, 0) _ _ rfl rfl (setRow_heap _ _ _ _ _ _ HR4.out) Tryz.underlying24 rfl (by kernel_rfl)
    · rfl
    · exact ⟨A, c, rfl, ownsRow_setRow HO4.out HR4.out (by decide), FIN.out _ HV4.out HB4.out HK4.out _ HR4.out _⟩
  · have hbb : (be != 0) = true := by simp [hb]
    rw [if_pos hb, if_pos hb]
    dsimp only
    clear hb
    go_enter Tryz.func20, Tryz.ntmps20
    go_upto_region 1 with fail
    generalize hW : (w.alloc (.cells #[.string m, .int .i64 n] 44)).alloc (.cells #[.int .i64 0, .bool false, .slice none 0 0] 24) = W
    have b0 : Blk W w.heap.size 44 #[.string m, .int .i64 n] := by rw [← hW]; exact (Blk.new _ _ _).alloc _
    have r0 : Blk W (w.heap.size + 1) 24 #[.int .i64 0, .bool false, .slice none 0 0] := by rw [← hW]; exact Blk.new_ _ _ _ (by simp)
    have hB0 : Below w.heap.size w W := by rw [← hW]; exact ((Below.refl _ _).alloc (Nat.le_refl _) _).alloc (by simp) _
    have q0 : W.cell? ⟨w.heap.size, 0, none⟩ = some (.string m) := b0.cell 0
    have q1 : W.cell? ⟨w.heap.size, 1, none⟩ = some (.int .i64 n) := b0.cell 1
    have HV := hid (h.below hB0)
    have HR := hid r0
    have HQ := hid b0
    have HB := hid hB0
    clear hW b0 r0 h hB0
    go_wp2_with (first
      | (go_at_call 49; refine (BG.out _).mono ?_; rintro o w2 ⟨rfl, hb2⟩; have HV2 := hid (HV.out.below hb2); have HR2 := hid (HR.out.below hb2 HR.out.lt); have HQ2 := hid (HQ.out.below hb2 HQ.out.lt); have HB2 := hid (HB.out.trans (hb2.mono HB.out.size)); have p0 : w2.cell? ⟨w.heap.size, 0, none⟩ = some (.string m) := HQ2.out.cell 0; have p1 : w2.cell? ⟨w.heap.size, 1, none⟩ = some (.int .i64 n) := HQ2.out.cell 1; clear hb2)
      | (refine wpList_store_row rfl 24 _ _ rfl (w.heap.size + 1) #[.int .i64 0, .bool false, .slice none 0 0] rfl rfl 24 #[.int .i64 0, .bool false, .slice none 0 0] HR2.out rfl rfl (one3 _ _ _ _ _) ?_))
    refine bodyPost_ret (v := .tuple #[.agg #[.int .i64 0, .bool false, .slice none 0 0], .int .i64 be]) ?_ ?_ ?_
    · exact results_cell_two rfl _ _ (w.heap.size + 1) 24 #[.int .i64 0, .bool false, .slice none 0 0] (0, 0) _ _ rfl rfl (setRow_heap _ _ _ _ _ _ HR2.out) Tryz.underlying24 rfl (by kernel_rfl)
    · rfl
    · exact ⟨none, 0, rfl, World.ownsRow_nil _ _ _ _, FIN.out _ (HV2.out.mono (Nat.le_succ _)) (HB2.out.mono hlo) (KeepV.below HB2.out) _ HR2.out _⟩

set_option maxRecDepth 100000 in
set_option maxHeartbeats 3200000 in
theorem lkWrite_any (lo vb k : Nat) (T : T) (f : NF) (m : ByteArray) (n : Int) (hm : m.size ≤ maxLen) (hk : k ≤ 1000000) (l : Lk) (A : Option Addr) (c : Nat) (hz : ∀ x ∈ l.holders, x.size ≤ 1000000) (w : World) (h : IsView w lo vb k T f) (hr : RowN w A l.holders.length c l.holders) :
    Calls Tryz.prog 44 #[.pointer (some ⟨vb, 0, none⟩), .agg #[.string m, .int .i64 n], .agg (lkCells l A c)] w fun o w' => o = .returned (.int .i64 (wrE m n l)) ∧ IsView w' lo vb (k + 1) T (wrF f m n l) ∧ Below lo w w' ∧ KeepV w w' := by
  have EN := fun w' h' => lkEncode_any l A c hz w' h'
  have ST := hid (fun w' h' => vset_any lo vb k T f (lockN m n) (strB (encLk l)) (lockN_ok hm) hk w' h')
  have OL := hid (ofLock_any m n)
  have hlo := h.lt
  have hW : wrE m n l = if checkL l ≠ 0 then checkL l else setE (lockN m n) (strB (encLk l)) := rfl
  have hF : wrF f m n l = if wrE m n l = 0 then setF f (lockN m n) (some (strB (encLk l))) else f := rfl
  rw [hF, hW]
  clear hF hW hz
  have hB0 : Below w.heap.size w ((w.alloc (.cells #[.string m, .int .i64 n] 44)).alloc (.cells (lkCells l A c) 24)) := ((Below.refl _ _).alloc (Nat.le_refl _) _).alloc (by simp) _
  have HR := hid (hr.below hB0)
  have HV := hid (h.below hB0)
  have HB := hid hB0
  have b0 : Blk ((w.alloc (.cells #[.string m, .int .i64 n] 44)).alloc (.cells (lkCells l A c) 24)) w.heap.size 44 #[.string m, .int .i64 n] := (Blk.new _ _ _).alloc _
  have HQ := hid b0
  clear hB0 hr h b0
  unfold lkCells at *
  by_cases hc : checkL l = 0
  · simp only [hc, ne_eq, not_true_eq_false, if_false, if_true] at EN ⊢
    have EN := hid EN
    clear hc
    generalize setE (lockN m n) (strB (encLk l)) = se at *
    generalize (if se = 0 then setF f (lockN m n) (some (strB (encLk l))) else f) = f2 at *
    generalize strB (encLk l) = sv at *
    go_enter Tryz.func44, Tryz.ntmps44
    go_wp2_with (first
      | (go_at_call 13; refine (EN.out _ HR.out).mono ?_; rintro o w2 ⟨rfl, hb2⟩; have HV2 := hid (HV.out.below hb2); have HQ2 := hid (HQ.out.below hb2 HQ.out.lt); have HB2 := hid (HB.out.trans (hb2.mono HB.out.size)); have p0 : w2.cell? ⟨w.heap.size, 0, none⟩ = some (.string m) := HQ2.out.cell 0; have p1 : w2.cell? ⟨w.heap.size, 1, none⟩ = some (.int .i64 n) := HQ2.out.cell 1; clear hb2)
      | (go_at_call 28; refine (OL.out _).mono ?_; rintro o w3 ⟨rfl, hb3⟩; have HV3 := hid (HV2.out.below hb3); have HB3 := hid (HB2.out.trans (hb3.mono HB2.out.size)); clear hb3)
      | (go_at_call 74; refine (ST.out _ HV3.out).mono ?_; rintro o w4 ⟨rfl, hv4, hb4, hk4⟩))
    go_ret
    exact ⟨rfl, hv4, (HB3.out.mono hlo).trans hb4, (KeepV.below HB3.out).trans hk4⟩
  · have hcb : (checkL l != 0) = true := by simp [hc]
    simp only [if_pos hc, if_neg hc] at EN ⊢
    have EN := hid EN
    clear hc
    generalize checkL l = ce at *
    go_enter Tryz.func44, Tryz.ntmps44
    go_wp2_with (first
      | (go_at_call 13; refine (EN.out _ HR.out).mono ?_; rintro o w2 ⟨rfl, hb2⟩; have HV2 := hid (HV.out.below hb2); have HB2 := hid (HB.out.trans (hb2.mono HB.out.size)); clear hb2))
    go_ret
    exact ⟨rfl, HV2.out.mono (Nat.le_succ _), HB2.out.mono hlo, KeepV.below HB2.out⟩

set_option maxRecDepth 100000 in
set_option maxHeartbeats 3200000 in
theorem lkUse_any (lo vb k : Nat) (T : T) (f : NF) (m : ByteArray) (n ep : Int) (hm : m.size ≤ maxLen) (who : ByteArray) (hw : who.size ≤ maxLen) (hk : k < maxLen) (hs : ∀ s, curV T f (lockN m n) = some s → s.size ≤ 1000000) (w : World) (h : IsView w lo vb k T f) :
    Calls Tryz.prog 42 #[.pointer (some ⟨vb, 0, none⟩), .agg #[.string m, .int .i64 n], .int .i64 ep, .string who] w fun o w' => ∃ A c L p b, o = .returned (.tuple #[.agg (lkCells L A c), .int .i64 p, .bool b, .int .i64 (useE m n ep who (curV T f (lockN m n)))]) ∧ (useE m n ep who (curV T f (lockN m n)) = 0 → rdL (curV T f (lockN m n)) ep = some L ∧ p = posL L.holders who ∧ b = memL L.holders who) ∧ LkOut w w' L A c ∧ IsView w' lo vb (k + 1) T f ∧ Below lo w w' ∧ KeepV w w' := by
  have RD := fun w' h' => lkRead_any lo vb k T f m n ep hm hk hs w' h'
  have BG := hid (fun w' => lkBegin_any ⟨vb, 0, none⟩ m n ep hm w')
  have CH := hid (fun w' => holder_any who hw w')
  have hlo := h.lt
  have FIN := hid (show ∀ w3, IsView w3 lo vb (k + 1) T f → Below lo w w3 → KeepV w w3 → ∀ cs0, Blk w3 (w.heap.size + 1) 24 cs0 → ∀ cs, IsView (w3.setRow (w.heap.size + 1) cs) lo vb (k + 1) T f ∧ Below lo w (w3.setRow (w.heap.size + 1) cs) ∧ KeepV w (w3.setRow (w.heap.size + 1) cs) from fun w3 h1 h2 h3 cs0 h4 cs => ⟨h1.setRow h4 (by decide) (by decide) (by omega) cs, below_setRow h2 (by omega) cs, h3.setRow (by omega) cs⟩)
  have e2 : useE m n ep who (curV T f (lockN m n)) = if beginE m n ep ≠ 0 then beginE m n ep else if hbad who then 12 else if (rdL (curV T f (lockN m n)) ep).isSome then 0 else 3 := rfl
  have hep : beginE m n ep = 0 → epochE ep = 0 := by
    unfold beginE
    split
    · intro h; exact absurd h (by assumption)
    · exact id
  have hgd := fun L (hL : rdL (curV T f (lockN m n)) ep = some L) => rdL_good hL
  have hsz := fun L (hL : rdL (curV T f (lockN m n)) ep = some L) => rdL_size hL hs
  rw [e2]
  clear e2 hs
  generalize rdL (curV T f (lockN m n)) ep = RL at *
  generalize beginE m n ep = be at *
  generalize hbad who = hw' at *
  by_cases hb : be = 0
  · subst hb
    have hee := hep rfl
    simp only [ne_eq, not_true_eq_false, if_false]
    cases hw' with
    | false =>
      simp only [Bool.false_eq_true, if_false]
      cases RL with
      | some LL =>
        obtain ⟨E, S, HS⟩ := LL
        obtain ⟨hg1, -⟩ := hgd _ rfl hee
        have hz1 := hsz _ rfl
        have SR := hid (fun A c w' h' => lkSearch_any A c HS who hg1.asc (fun x hx => by have := hz1 x hx; unfold maxLen; omega) hw (by have := hg1.n; dsimp only at this; omega) w' h')
        unfold lkCells at *
        simp only [Option.getD_some, Option.isSome_some, if_true] at RD ⊢
        have RD := hid RD
        clear hgd hsz hg1 hz1 hee hep
        go_enter Tryz.func42, Tryz.ntmps42
        go_upto_region 1 with fail
        generalize hW : (w.alloc (.cells #[.string m, .int .i64 n] 44)).alloc (.cells #[.int .i64 0, .bool false, .slice none 0 0] 24) = W
        have b0 : Blk W w.heap.size 44 #[.string m, .int .i64 n] := by rw [← hW]; exact (Blk.new _ _ _).alloc _
        have r0 : Blk W (w.heap.size + 1) 24 #[.int .i64 0, .bool false, .slice none 0 0] := by rw [← hW]; exact Blk.new_ _ _ _ (by simp)
        have hB0 : Below w.heap.size w W := by rw [← hW]; exact ((Below.refl _ _).alloc (Nat.le_refl _) _).alloc (by simp) _
        have q0 : W.cell? ⟨w.heap.size, 0, none⟩ = some (.string m) := b0.cell 0
        have q1 : W.cell? ⟨w.heap.size, 1, none⟩ = some (.int .i64 n) := b0.cell 1
        have HV := hid (h.below hB0)
        have HR := hid r0
        have HQ := hid b0
        have HB := hid hB0
        clear hW b0 r0 h hB0
        go_wp2_with (first
          | (go_at_call 49; refine (BG.out _).mono ?_; rintro o w2 ⟨rfl, hb2⟩; have HV2 := hid (HV.out.below hb2); have HR2 := hid (HR.out.below hb2 HR.out.lt); have HQ2 := hid (HQ.out.below hb2 HQ.out.lt); have HB2 := hid (HB.out.trans (hb2.mono HB.out.size)); have p0 : w2.cell? ⟨w.heap.size, 0, none⟩ = some (.string m) := HQ2.out.cell 0; have p1 : w2.cell? ⟨w.heap.size, 1, none⟩ = some (.int .i64 n) := HQ2.out.cell 1; clear hb2)
          | (go_at_call 52; refine (CH.out _).mono ?_; rintro o w3 ⟨rfl, hb3⟩; have HV3 := hid (HV2.out.below hb3); have HR3 := hid (HR2.out.below hb3 HR2.out.lt); have HQ3 := hid (HQ2.out.below hb3 HQ2.out.lt); have HB3 := hid (HB2.out.trans (hb3.mono HB2.out.size)); have o0 : w3.cell? ⟨w.heap.size, 0, none⟩ = some (.string m) := HQ3.out.cell 0; have o1 : w3.cell? ⟨w.heap.size, 1, none⟩ = some (.int .i64 n) := HQ3.out.cell 1; clear hb3)
          | (go_at_call 50; refine (RD.out _ HV3.out).mono ?_; rintro o w4 ⟨A, c, rfl, ho4, hv4, hb4, hk4⟩; have HV4 := hid hv4; have HR4 := hid (hk4.blk HR3.out (by decide)); have HB4 := hid ((HB3.out.mono hlo).trans hb4); have HK4 := hid ((KeepV.below HB3.out).trans hk4); have HO4 := hid (ho4.lower (base' := w.heap.size) HB3.out.size); have HZ4 := hid (Nat.le_trans HB3.out.size hb4.size); clear ho4 hv4 hb4 hk4)
          | (refine wpList_store_row rfl 24 _ _ rfl (w.heap.size + 1) #[.int .i64 E, .bool S, .slice A HS.length c] rfl rfl 24 #[.int .i64 E, .bool S, .slice A HS.length c] HR6.out rfl rfl (one3 _ _ _ _ _) ?_)
          | (refine wpList_store_row rfl 24 _ _ rfl (w.heap.size + 1) #[.int .i64 E, .bool S, .slice A HS.length c] rfl rfl 24 #[.int .i64 0, .bool false, .slice none 0 0] HR4.out rfl rfl (one3 _ _ _ _ _) ?_; go_must (obtain ⟨w5, hw5⟩ : ∃ x, x = w4.setRow (w.heap.size + 1) #[.int .i64 E, .bool S, .slice A HS.length c] := ⟨_, rfl⟩; have b5 : Blk w5 (w.heap.size + 1) 24 #[.int .i64 E, .bool S, .slice A HS.length c] := (by rw [hw5]; exact setRow_heap _ _ _ _ _ _ HR4.out); have hf5 := FIN.out _ HV4.out HB4.out HK4.out _ HR4.out #[.int .i64 E, .bool S, .slice A HS.length c]; have ho5 := ownsRow_setRow (cs' := #[.int .i64 E, .bool S, .slice A HS.length c]) HO4.out HR4.out (by decide); rw [← hw5] at hf5 ho5 ⊢; obtain ⟨A', c', hv5, hrow5⟩ := RowN.of_own ho5; cases hv5; have HROW5 := hid hrow5; have HF5 := hid hf5; have HO5 := hid ho5; have HR5 := hid b5; have n0 : w5.cell? ⟨w.heap.size + 1, 0, none⟩ = some (.int .i64 E) := b5.cell 0; have n1 : w5.cell? ⟨w.heap.size + 1, 1, none⟩ = some (.bool S) := b5.cell 1; have n2 : w5.cell? ⟨w.heap.size + 1, 2, none⟩ = some (.slice A HS.length c) := b5.cell 2; clear hw5 b5 hf5 ho5 hrow5))
          | (go_at_call 73; refine (SR.out A c _ HROW5.out).mono ?_; rintro o w6 ⟨rfl, hb6⟩; have HV6 := hid (HF5.out.1.below hb6); have HB6 := hid (HF5.out.2.1.trans (hb6.mono HF5.out.1.lt)); have HK6 := hid (HF5.out.2.2.trans (KeepV.below hb6)); have HR6 := hid (HR5.out.below hb6 HR5.out.lt); have HO6 := hid (ownsRow_below HO5.out hb6); have s0 : w6.cell? ⟨w.heap.size + 1, 0, none⟩ = some (.int .i64 E) := HR6.out.cell 0; have s1 : w6.cell? ⟨w.heap.size + 1, 1, none⟩ = some (.bool S) := HR6.out.cell 1; have s2 : w6.cell? ⟨w.heap.size + 1, 2, none⟩ = some (.slice A HS.length c) := HR6.out.cell 2; clear hb6))
        refine bodyPost_ret (v := .tuple #[.agg #[.int .i64 E, .bool S, .slice A HS.length c], .int .i64 (posL HS who), .bool (memL HS who), .int .i64 0]) ?_ ?_ ?_
        · exact results_cell_four rfl _ _ (w.heap.size + 1) 24 #[.int .i64 E, .bool S, .slice A HS.length c] (0, 0) _ _ _ _ rfl rfl rfl rfl (setRow_heap _ _ _ _ _ _ HR6.out) Tryz.underlying24 rfl (by kernel_rfl)
        · rfl
        · exact ⟨A, c, ⟨E, S, HS⟩, _, _, rfl, fun _ => ⟨rfl, rfl, rfl⟩, ownsRow_setRow HO6.out HR6.out (by decide), FIN.out _ HV6.out HB6.out HK6.out _ HR6.out _⟩
      | none =>
        unfold lkCells at *
        simp only [Option.getD_none, Option.isSome_none, Bool.false_eq_true, if_false] at RD ⊢
        have RD := hid RD
        clear hgd hsz hee hep
        go_enter Tryz.func42, Tryz.ntmps42
        go_upto_region 1 with fail
        generalize hW : (w.alloc (.cells #[.string m, .int .i64 n] 44)).alloc (.cells #[.int .i64 0, .bool false, .slice none 0 0] 24) = W
        have b0 : Blk W w.heap.size 44 #[.string m, .int .i64 n] := by rw [← hW]; exact (Blk.new _ _ _).alloc _
        have r0 : Blk W (w.heap.size + 1) 24 #[.int .i64 0, .bool false, .slice none 0 0] := by rw [← hW]; exact Blk.new_ _ _ _ (by simp)
        have hB0 : Below w.heap.size w W := by rw [← hW]; exact ((Below.refl _ _).alloc (Nat.le_refl _) _).alloc (by simp) _
        have q0 : W.cell? ⟨w.heap.size, 0, none⟩ = some (.string m) := b0.cell 0
        have q1 : W.cell? ⟨w.heap.size, 1, none⟩ = some (.int .i64 n) := b0.cell 1
        have HV := hid (h.below hB0)
        have HR := hid r0
        have HQ := hid b0
        have HB := hid hB0
        clear hW b0 r0 h hB0
        go_wp2_with (first
          | (go_at_call 49; refine (BG.out _).mono ?_; rintro o w2 ⟨rfl, hb2⟩; have HV2 := hid (HV.out.below hb2); have HR2 := hid (HR.out.below hb2 HR.out.lt); have HQ2 := hid (HQ.out.below hb2 HQ.out.lt); have HB2 := hid (HB.out.trans (hb2.mono HB.out.size)); have p0 : w2.cell? ⟨w.heap.size, 0, none⟩ = some (.string m) := HQ2.out.cell 0; have p1 : w2.cell? ⟨w.heap.size, 1, none⟩ = some (.int .i64 n) := HQ2.out.cell 1; clear hb2)
          | (go_at_call 52; refine (CH.out _).mono ?_; rintro o w3 ⟨rfl, hb3⟩; have HV3 := hid (HV2.out.below hb3); have HR3 := hid (HR2.out.below hb3 HR2.out.lt); have HQ3 := hid (HQ2.out.below hb3 HQ2.out.lt); have HB3 := hid (HB2.out.trans (hb3.mono HB2.out.size)); have o0 : w3.cell? ⟨w.heap.size, 0, none⟩ = some (.string m) := HQ3.out.cell 0; have o1 : w3.cell? ⟨w.heap.size, 1, none⟩ = some (.int .i64 n) := HQ3.out.cell 1; clear hb3)
          | (go_at_call 50; refine (RD.out _ HV3.out).mono ?_; rintro o w4 ⟨A, c, rfl, ho4, hv4, hb4, hk4⟩; have HV4 := hid hv4; have HR4 := hid (hk4.blk HR3.out (by decide)); have HB4 := hid ((HB3.out.mono hlo).trans hb4); have HK4 := hid ((KeepV.below HB3.out).trans hk4); have HO4 := hid (ho4.lower (base' := w.heap.size) HB3.out.size); have HZ4 := hid (Nat.le_trans HB3.out.size hb4.size); clear ho4 hv4 hb4 hk4)
          | (refine wpList_store_row rfl 24 _ _ rfl (w.heap.size + 1) #[.int .i64 0, .bool false, .slice none 0 0] rfl rfl 24 #[.int .i64 0, .bool false, .slice A 0 c] HR5.out rfl rfl (one3 _ _ _ _ _) ?_)
          | (refine wpList_store_row rfl 24 _ _ rfl (w.heap.size + 1) #[.int .i64 0, .bool false, .slice A 0 c] rfl rfl 24 #[.int .i64 0, .bool false, .slice none 0 0] HR4.out rfl rfl (one3 _ _ _ _ _) ?_; go_must (obtain ⟨w5, hw5⟩ : ∃ x, x = w4.setRow (w.heap.size + 1) #[.int .i64 0, .bool false, .slice A 0 c] := ⟨_, rfl⟩; have b5 : Blk w5 (w.heap.size + 1) 24 #[.int .i64 0, .bool false, .slice A 0 c] := (by rw [hw5]; exact setRow_heap _ _ _ _ _ _ HR4.out); have hf5 := FIN.out _ HV4.out HB4.out HK4.out _ HR4.out #[.int .i64 0, .bool false, .slice A 0 c]; rw [← hw5] at hf5 ⊢; have HF5 := hid hf5; have HR5 := hid b5; clear hw5 b5 hf5)))
        refine bodyPost_ret (v := .tuple #[.agg #[.int .i64 0, .bool false, .slice none 0 0], .int .i64 0, .bool false, .int .i64 3]) ?_ ?_ ?_
        · exact results_cell_four rfl _ _ (w.heap.size + 1) 24 #[.int .i64 0, .bool false, .slice none 0 0] (0, 0) _ _ _ _ rfl rfl rfl rfl (setRow_heap _ _ _ _ _ _ HR5.out) Tryz.underlying24 rfl (by kernel_rfl)
        · rfl
        · exact ⟨none, 0, ⟨0, false, []⟩, 0, false, rfl, fun h => absurd h (by decide), World.ownsRow_nil _ _ _ _, FIN.out _ HF5.out.1 HF5.out.2.1 HF5.out.2.2 _ HR5.out _⟩
    | true =>
      simp only [if_true] at CH ⊢
      clear hgd hsz hee hep RD
      go_enter Tryz.func42, Tryz.ntmps42
      go_upto_region 1 with fail
      generalize hW : (w.alloc (.cells #[.string m, .int .i64 n] 44)).alloc (.cells #[.int .i64 0, .bool false, .slice none 0 0] 24) = W
      have b0 : Blk W w.heap.size 44 #[.string m, .int .i64 n] := by rw [← hW]; exact (Blk.new _ _ _).alloc _
      have r0 : Blk W (w.heap.size + 1) 24 #[.int .i64 0, .bool false, .slice none 0 0] := by rw [← hW]; exact Blk.new_ _ _ _ (by simp)
      have hB0 : Below w.heap.size w W := by rw [← hW]; exact ((Below.refl _ _).alloc (Nat.le_refl _) _).alloc (by simp) _
      have q0 : W.cell? ⟨w.heap.size, 0, none⟩ = some (.string m) := b0.cell 0
      have q1 : W.cell? ⟨w.heap.size, 1, none⟩ = some (.int .i64 n) := b0.cell 1
      have HV := hid (h.below hB0)
      have HR := hid r0
      have HQ := hid b0
      have HB := hid hB0
      clear hW b0 r0 h hB0
      go_wp2_with (first
        | (go_at_call 49; refine (BG.out _).mono ?_; rintro o w2 ⟨rfl, hb2⟩; have HV2 := hid (HV.out.below hb2); have HR2 := hid (HR.out.below hb2 HR.out.lt); have HQ2 := hid (HQ.out.below hb2 HQ.out.lt); have HB2 := hid (HB.out.trans (hb2.mono HB.out.size)); have p0 : w2.cell? ⟨w.heap.size, 0, none⟩ = some (.string m) := HQ2.out.cell 0; have p1 : w2.cell? ⟨w.heap.size, 1, none⟩ = some (.int .i64 n) := HQ2.out.cell 1; clear hb2)
        | (go_at_call 52; refine (CH.out _).mono ?_; rintro o w3 ⟨rfl, hb3⟩; have HV3 := hid (HV2.out.below hb3); have HR3 := hid (HR2.out.below hb3 HR2.out.lt); have HQ3 := hid (HQ2.out.below hb3 HQ2.out.lt); have HB3 := hid (HB2.out.trans (hb3.mono HB2.out.size)); have o0 : w3.cell? ⟨w.heap.size, 0, none⟩ = some (.string m) := HQ3.out.cell 0; have o1 : w3.cell? ⟨w.heap.size, 1, none⟩ = some (.int .i64 n) := HQ3.out.cell 1; clear hb3)
        | (refine wpList_store_row rfl 24 _ _ rfl (w.heap.size + 1) #[.int .i64 0, .bool false, .slice none 0 0] rfl rfl 24 #[.int .i64 0, .bool false, .slice none 0 0] HR3.out rfl rfl (one3 _ _ _ _ _) ?_))
      refine bodyPost_ret (v := .tuple #[.agg #[.int .i64 0, .bool false, .slice none 0 0], .int .i64 0, .bool false, .int .i64 12]) ?_ ?_ ?_
      · exact results_cell_four rfl _ _ (w.heap.size + 1) 24 #[.int .i64 0, .bool false, .slice none 0 0] (0, 0) _ _ _ _ rfl rfl rfl rfl (setRow_heap _ _ _ _ _ _ HR3.out) Tryz.underlying24 rfl (by kernel_rfl)
      · rfl
      · exact ⟨none, 0, ⟨0, false, []⟩, 0, false, rfl, fun h => absurd h (by decide), World.ownsRow_nil _ _ _ _, FIN.out _ (HV3.out.mono (Nat.le_succ _)) (HB3.out.mono hlo) (KeepV.below HB3.out) _ HR3.out _⟩
  · have hbb : (be != 0) = true := by simp [hb]
    rw [if_pos hb]
    have HNE := hid hb
    clear hb hgd hsz hep RD
    go_enter Tryz.func42, Tryz.ntmps42
    go_upto_region 1 with fail
    generalize hW : (w.alloc (.cells #[.string m, .int .i64 n] 44)).alloc (.cells #[.int .i64 0, .bool false, .slice none 0 0] 24) = W
    have b0 : Blk W w.heap.size 44 #[.string m, .int .i64 n] := by rw [← hW]; exact (Blk.new _ _ _).alloc _
    have r0 : Blk W (w.heap.size + 1) 24 #[.int .i64 0, .bool false, .slice none 0 0] := by rw [← hW]; exact Blk.new_ _ _ _ (by simp)
    have hB0 : Below w.heap.size w W := by rw [← hW]; exact ((Below.refl _ _).alloc (Nat.le_refl _) _).alloc (by simp) _
    have q0 : W.cell? ⟨w.heap.size, 0, none⟩ = some (.string m) := b0.cell 0
    have q1 : W.cell? ⟨w.heap.size, 1, none⟩ = some (.int .i64 n) := b0.cell 1
    have HV := hid (h.below hB0)
    have HR := hid r0
    have HQ := hid b0
    have HB := hid hB0
    clear hW b0 r0 h hB0
    go_wp2_with (first
      | (go_at_call 49; refine (BG.out _).mono ?_; rintro o w2 ⟨rfl, hb2⟩; have HV2 := hid (HV.out.below hb2); have HR2 := hid (HR.out.below hb2 HR.out.lt); have HQ2 := hid (HQ.out.below hb2 HQ.out.lt); have HB2 := hid (HB.out.trans (hb2.mono HB.out.size)); have p0 : w2.cell? ⟨w.heap.size, 0, none⟩ = some (.string m) := HQ2.out.cell 0; have p1 : w2.cell? ⟨w.heap.size, 1, none⟩ = some (.int .i64 n) := HQ2.out.cell 1; clear hb2)
      | (refine wpList_store_row rfl 24 _ _ rfl (w.heap.size + 1) #[.int .i64 0, .bool false, .slice none 0 0] rfl rfl 24 #[.int .i64 0, .bool false, .slice none 0 0] HR2.out rfl rfl (one3 _ _ _ _ _) ?_))
    refine bodyPost_ret (v := .tuple #[.agg #[.int .i64 0, .bool false, .slice none 0 0], .int .i64 0, .bool false, .int .i64 be]) ?_ ?_ ?_
    · exact results_cell_four rfl _ _ (w.heap.size + 1) 24 #[.int .i64 0, .bool false, .slice none 0 0] (0, 0) _ _ _ _ rfl rfl rfl rfl (setRow_heap _ _ _ _ _ _ HR2.out) Tryz.underlying24 rfl (by kernel_rfl)
    · rfl
    · exact ⟨none, 0, ⟨0, false, []⟩, 0, false, rfl, fun h => absurd h HNE.out, World.ownsRow_nil _ _ _ _, FIN.out _ (HV2.out.mono (Nat.le_succ _)) (HB2.out.mono hlo) (KeepV.below HB2.out) _ HR2.out _⟩
end Go.Proofs.YtfgecaphhdedcaaGreatDoor
