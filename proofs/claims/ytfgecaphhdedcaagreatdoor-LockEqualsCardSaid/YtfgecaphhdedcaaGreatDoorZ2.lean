/-
  LAYER 3, WALKED: lineage.parse, Valid, Ordinals.
  LAYER 3, WALKED: Valid, Ordinals, Compare.
  LAYER 4, WALKED: object.number, Word, uses, the check of a birth.
  LAYER 4, WALKED: object.uses (a table), the check of a name.
  LAYER 4, WALKED: the check of a name.
  LAYER 4, WALKED: object.Compare.
  THE EQUALITY OF NAMES. No function of the program is walked here.
  LAYER 5: the balanced tree as a datum, and where it lies in memory. No function of the program is walked here.
-/
import Derived.Test.YtfgecaphhdedcaaGreatDoorZ1
import Derived.Lib.AtoiErrMem
import Derived.Test.YtfgecaphhdedcaaGreatDoorShelf
import Derived.Deep.RegionHeld3
import Derived.Deep.DeepCutAuto
import Derived.BigQuiet
namespace Go.Proofs.YtfgecaphhdedcaaGreatDoor
open Go.RowKit Go.Shelf

attribute [local go_sem] Oper.semAt_some

theorem blk_own (g : Nat) (t : TypeId) (cs : Array Value) : Own (fun (_ : Unit) W => Blk W g t cs) := fun _ W W' row h hg hr =>
  h.grown hg (fun e => by obtain ⟨o, ho, hc⟩ := hr g e.symm; rw [show W.heap[g]? = _ from h] at ho; cases ho; cases hc)

theorem parts_stops (hAt : AtoiOk) (n : Nat) (hn : 1 ≤ n) (s : ByteArray) (hs : s.size ≤ maxLen) (Bn : Nat) (w : World) (hB : Blk w Bn 9 #[.string s]) :
    SeqStopsK Fence.wide n Tryz.prog 103 #[.pointer (some ⟨Bn, 0, none⟩)] (fun p : M.Part => #[partV p]) KpL (fun ys => ys = M.parts s.data.toList) (fun pre => pre <+: M.parts s.data.toList) 10 w :=
  fun l J Jx W hW hJ _ hY h0 => parts1_in hAt n hn l Bn s hs J Jx (fun pre W W' h hb => hJ pre W W' none h ⟨hb.os, hb.tape, hb.output, hb.size, fun k hk _ => hb.block k hk⟩ (fun r e => by cases e)) hY W (hB.below hW hB.lt) h0

theorem kpL_putObj (B : Nat) (W : World) (l : Nat) (o o' : Obj) (_ : B ≤ l) (hl : W.heap[l]? = some o) (ho : o.isCells = false) (_ : o.isWalk = false) : KpL W (W.putObj l o') := fun k _ _ _ _ hk => by
  rw [World.putObj_heap_other]
  · exact hk
  · rintro rfl; rw [hk] at hl; cases hl; cases ho

theorem KpL.alloc (W : World) (o : Obj) : KpL W (W.alloc o) := fun k _ _ _ _ hk => (Below.heap_alloc W o k (Array.getElem?_eq_some_iff.1 hk).1).trans hk

theorem KpL.appended {W w1 : World} {n₀ B k : Nat} {v v' : Value} {xs : List Value} {tmp : Obj} (hrow : W.ownsRow n₀ 3 1 v k xs) (hgrow : (W.alloc tmp).grownBy w1 v.ownBlock)
    (hv : Boxed w1 B 107 v) : KpL W (w1.setCell ⟨B, 0, none⟩ v') := fun j cs t fz ht hj => by
  have h1 := KpL.alloc W tmp j cs t fz ht hj
  have hne : some j ≠ v.ownBlock := by
    rcases hrow.2 with ⟨rfl, _⟩ | ⟨g, cap, cur, rfl, _, hh, _⟩
    · simp [Value.ownBlock]
    · intro e
      have e' : j = g := by simpa [Value.ownBlock] using e
      subst e'
      rw [hj] at hh
      cases hh
      rcases ht with h | h <;> exact absurd h (by decide)
  have h2 := (hgrow.block j (Array.getElem?_eq_some_iff.1 h1).1 hne).trans h1
  refine (Below.heap_setCell w1 _ _ j ?_).trans h2
  intro e
  change j = B at e
  subst e
  rw [show w1.heap[j]? = _ from hv] at h2
  cases h2
  rcases ht with h | h <;> exact absurd h (by decide)

/-- 'out = append(out, ..)' where out lies in a box: what holds behind the store. -/
theorem appended2 {W w1 : World} {m n₀ B : Nat} {t e : TypeId} {size : Nat} {v v' : Value} {k k' : Nat} {xs ys : List Value} {tmp : Obj}
    (hv : Boxed W B t v) (hte : t ≠ e) (hrow : W.ownsRow n₀ e size v k xs) (hmn : m ≤ n₀) (hmW : m ≤ W.heap.size) (hB : m ≤ B)
    (hown' : w1.ownsRow n₀ e size v' k' ys) (hgrow : (W.alloc tmp).grownBy w1 v.ownBlock) :
    Boxed w1 B t v ∧ Boxed (w1.setCell ⟨B, 0, none⟩ v') B t v' ∧ (w1.setCell ⟨B, 0, none⟩ v').ownsRow n₀ e size v' k' ys ∧ KeepsOthers W (w1.setCell ⟨B, 0, none⟩ v') ∧ Below m W (w1.setCell ⟨B, 0, none⟩ v') := by
  have hv1 : Boxed w1 B t v := (hv.alloc tmp).kept hgrow (hv.not_row hte hrow)
  refine ⟨hv1, hv1.set v', hown'.kept (grownBy_setCell' w1 B v') (.inr (hv1.not_row hte hown').symm), ?_, ?_⟩
  · refine ((KeepsOthers.alloc W tmp).trans (KeepsOthers.of_grownBy hgrow fun j o ej hj => ?_)).trans (KeepsOthers.setCell _ _ _)
    rcases (hrow.alloc tmp).2 with ⟨rfl, _⟩ | ⟨g, cap, cur, rfl, _, hgb, _⟩
    · simp [Value.ownBlock] at ej
    · obtain rfl : g = j := by simpa [Value.ownBlock] using ej
      rw [hgb] at hj; cases hj; rfl
  · exact (((Below.refl m W).alloc hmW tmp).grown hgrow (by simp; omega) fun j ej => Nat.le_trans hmn (hrow.lt j ej).1).setCell (p := ⟨B, 0, none⟩) hB v'

theorem cell_putObj {W : World} {l : Nat} {o o' : Obj} {a : Addr} {v : Value} (h : W.cell? a = some v) (hl : W.heap[l]? = some o) (ho : o.isCells = false) : (W.putObj l o').cell? a = some v :=
  cell_kept h (grownBy_putObj' W l o') (fun r e => by cases e; exact ⟨_, hl, ho⟩)

/-- All parts are good. -/
def allOk (pre : List M.Part) : Prop := ∀ p ∈ pre, p.e = 0
def ordsOf (pre : List M.Part) : List Int := pre.map (·.ord)
theorem collect_ok : ∀ (pre : List M.Part) (acc : List Int), allOk pre → M.collect pre acc = (acc ++ ordsOf pre, 0, 0)
  | [], acc, _ => by simp [M.collect, ordsOf]
  | p :: r, acc, h => by
    have h1 : p.e = 0 := h p (by simp)
    rw [M.collect, if_neg (by simp [h1]), collect_ok r _ (fun q hq => h q (by simp [hq]))]
    simp [ordsOf]
theorem collect_err : ∀ (pre : List M.Part) (acc : List Int) (p : M.Part) (r : List M.Part), allOk pre → p.e ≠ 0 → M.collect (pre ++ p :: r) acc = ([], p.at_, p.e)
  | [], acc, p, r, _, h => by simp [M.collect, h]
  | q :: l, acc, p, r, hl, h => by
    have h1 : q.e = 0 := hl q (by simp)
    rw [List.cons_append, M.collect, if_neg (by simp [h1])]
    exact collect_err l _ p r (fun q hq => hl q (by simp [hq])) h

set_option maxRecDepth 100000 in
set_option maxHeartbeats 2000000 in
theorem parse_in (hAt : AtoiOk) (n : Nat) (hn : 3 ≤ n) (s : ByteArray) (hs : s.size ≤ maxLen) (w : World) :
    CallsIn Fence.wide n Tryz.prog 61 #[.string s] w fun e W' => ∃ v, e = .returned (.tuple #[v, .int .i64 (M.parse s.data.toList).2.1, .int .i64 (M.parse s.data.toList).2.2]) ∧
      W'.ownsRow w.heap.size 3 1 v (M.ords s.data.toList).length ((M.ords s.data.toList).map i64v) ∧ Below w.heap.size w W' := by
  have h1 : 1 ≤ n := by omega
  obtain ⟨i0, hi, hz0, hz1, hz2⟩ := info_parts Tryz.info_int
  refine callsIn_of_wp_marks Tryz.func61 rfl trivial ?_ rfl
  simp only [Tryz.ntmps61, List.size_toArray, List.length_cons, List.length_nil, Nat.reduceAdd, Nat.reduceSub, Array.replicate_succ, Array.replicate_zero, List.push_toArray, List.append_toArray, List.nil_append, List.cons_append]
  gi_wp2_with (refine ⟨trivial, ?_⟩; gi_at_call 89; refine (parts_in s (n - 1) _).mono ?_; rintro e w' ⟨rfl, rfl⟩)
  obtain ⟨W0, hW0⟩ : ∃ W0, ((((w.alloc (.cells #[.slice none 0 0] 107)).alloc (.cells #[.int .i64 0] 3)).alloc (.cells #[.int .i64 0] 25)).alloc (.cells #[.slice none 0 0] 107)).alloc (.cells #[.string s] 9) = W0 := ⟨_, rfl⟩
  have b0 : Boxed W0 w.heap.size 107 (.slice none 0 0) := by rw [← hW0]; exact ((((Boxed.new w _ _).alloc _).alloc _).alloc _).alloc _
  have b1 : Boxed W0 (w.heap.size + 1) 3 (.int .i64 0) := by
    rw [← hW0]; have := ((Boxed.new (w.alloc (.cells #[.slice none 0 0] 107)) 3 (.int .i64 0)).alloc (.cells #[.int .i64 0] 25)).alloc (.cells #[.slice none 0 0] 107)
    simp only [World.size_alloc] at this; exact this.alloc _
  have b2 : Boxed W0 (w.heap.size + 1 + 1) 25 (.int .i64 0) := by
    rw [← hW0]; have := (Boxed.new ((w.alloc (.cells #[.slice none 0 0] 107)).alloc (.cells #[.int .i64 0] 3)) 25 (.int .i64 0)).alloc (.cells #[.slice none 0 0] 107)
    simp only [World.size_alloc] at this; exact this.alloc _
  have b3 : Boxed W0 (w.heap.size + 1 + 1 + 1) 107 (.slice none 0 0) := by
    rw [← hW0]; have := Boxed.new (((w.alloc (.cells #[.slice none 0 0] 107)).alloc (.cells #[.int .i64 0] 3)).alloc (.cells #[.int .i64 0] 25)) 107 (.slice none 0 0)
    simp only [World.size_alloc] at this; exact this.alloc _
  have b4 : Boxed W0 (w.heap.size + 1 + 1 + 1 + 1) 9 (.string s) := by
    rw [← hW0]; have := Boxed.new ((((w.alloc (.cells #[.slice none 0 0] 107)).alloc (.cells #[.int .i64 0] 3)).alloc (.cells #[.int .i64 0] 25)).alloc (.cells #[.slice none 0 0] 107)) 9 (.string s)
    simp only [World.size_alloc] at this; exact this
  have hB0 : Below w.heap.size w W0 := by
    rw [← hW0]; exact (((((Below.refl _ w).alloc (Nat.le_refl _) _).alloc (by simp) _).alloc (by simp; omega) _).alloc (by simp; omega) _).alloc (by simp; omega) _
  have hsz : W0.heap.size = w.heap.size + 5 := by rw [← hW0]; simp
  rw [hW0]
  clear hW0
  refine wpIn_rangeFunc_ownH rfl h1 (gf := 103) (lb := #[.pointer (some ⟨w.heap.size + 1 + 1 + 1 + 1, 0, none⟩)]) rfl trivial (enters_of Tryz.func103 (by kernel_rfl) rfl)
    (parts_stops hAt (n - 1) (by omega) s hs (w.heap.size + 1 + 1 + 1 + 1) W0 b4) (fun h k => h.trans k) (kpL_putObj _) (Below.refl _ _) (fun _ => rfl)
    (fun pre W => (((∃ v, Boxed W (w.heap.size + 1 + 1 + 1) 107 v ∧ W.ownsRow (w.heap.size + 5) 3 1 v (ordsOf pre).length ((ordsOf pre).map i64v) ∧ allOk pre) ∧
        (Boxed W w.heap.size 107 (.slice none 0 0) ∧ Boxed W (w.heap.size + 1) 3 (.int .i64 0) ∧ Boxed W (w.heap.size + 1 + 1) 25 (.int .i64 0))) ∧ Below w.heap.size w W) ∧ w.heap.size + 5 ≤ W.heap.size)
    (fun c pre W => (c = .ret ∧ ∃ (l : List M.Part) (p : M.Part), pre = l ++ [p] ∧ allOk l ∧ p.e ≠ 0 ∧ Boxed W w.heap.size 107 (.slice none 0 0) ∧ Boxed W (w.heap.size + 1) 3 (.int .i64 p.at_) ∧ Boxed W (w.heap.size + 1 + 1) 25 (.int .i64 p.e)) ∧ Below w.heap.size w W)
    ?hI ?hIx ?h0
    (fun p a' W => ∃ Bx, w.heap.size ≤ Bx ∧ Blk W Bx 145 #[.int .i64 p.ord, .int .i64 p.at_, .int .i64 p.e] ∧
      a' = { tmps := #[.string s, undef, .pointer (some ⟨w.heap.size, 0, none⟩), .pointer (some ⟨w.heap.size + 1, 0, none⟩), .pointer (some ⟨w.heap.size + 1 + 1, 0, none⟩), .pointer (some ⟨w.heap.size + 1 + 1 + 1, 0, none⟩), .pointer (some ⟨Bx, 0, none⟩), .string s, .func (.func 103) #[] #[.pointer (some ⟨w.heap.size + 1 + 1 + 1 + 1, 0, none⟩)], partV p, undef, undef, undef, undef, undef, undef, undef, undef, undef, undef, undef, undef, undef], defers := [] })
    ?hAx ?assign ?body ?done ?stop
  case hI =>
    refine OwnFrom.and (OwnFrom.and (OwnFrom.and (Own.from (holdsRow_own (w.heap.size + 5) (w.heap.size + 1 + 1 + 1) 107 3 1 (fun pre => (ordsOf pre).length) (fun pre => (ordsOf pre).map i64v) (fun pre _ => allOk pre)) _) ?_) (ownFrom_below (Nat.le_refl _) (by omega))) (fun s A B row hs hg _ => Nat.le_trans hs hg.size)
    exact Own.from (fun s A B row hs hg hr => ⟨boxed_own _ _ (fun (_ : Unit) => _) () A B row hs.1 hg hr, boxed_own _ _ (fun (_ : Unit) => _) () A B row hs.2.1 hg hr, boxed_own _ _ (fun (_ : Unit) => _) () A B row hs.2.2 hg hr⟩) _
  case hIx =>
    intro c
    refine OwnFrom.and ?_ (ownFrom_below (Nat.le_refl _) (by omega))
    refine Own.from ?_ _
    rintro s A B row ⟨rfl, l, p, rfl, hl, hp, c0, c1, c2⟩ hg hr
    exact ⟨rfl, l, p, rfl, hl, hp, boxed_own _ _ (fun (_ : Unit) => _) () A B row c0 hg hr, boxed_own _ _ (fun (_ : Unit) => _) () A B row c1 hg hr, boxed_own _ _ (fun (_ : Unit) => _) () A B row c2 hg hr⟩
  case h0 => exact ⟨⟨⟨⟨_, b3, World.ownsRow_nil _ _ _ _, fun p hp => by cases hp⟩, b0, b1, b2⟩, hB0⟩, by omega⟩
  case hAx =>
    rintro p a' _ X Y row ⟨Bx, h1, h2, h3⟩ hg hr
    exact ⟨Bx, h1, blk_own Bx _ _ () X Y row h2 hg (fun r e => (hr r e).2), h3⟩
  case assign =>
    rintro l pre x W K ⟨⟨⟨⟨v, bv, hrow, hok⟩, c0, c1, c2⟩, hB⟩, h5⟩ hK
    simp only [partV]
    gi_wp2
    exact hK _ _ ((KeepsOthers.alloc _ _).from _) (KpL.alloc _ _) ⟨⟨⟨⟨v, bv.alloc _, hrow.alloc _, hok⟩, c0.alloc _, c1.alloc _, c2.alloc _⟩, hB.alloc hB.size _⟩, by simp; omega⟩ ⟨W.heap.size, hB.size, Blk.new W _ _, rfl⟩
  case body =>
    rintro l pre x a' W _ _ ⟨⟨⟨⟨v, bv, hrow, hok⟩, c0, c1, c2⟩, hB⟩, h5⟩ ⟨Bx, hBx, bX, rfl⟩ hlt
    have cX0 : W.cell? ⟨Bx, 0, none⟩ = some (.int .i64 x.ord) := bX.cell 0
    have cX1 : W.cell? ⟨Bx, 1, none⟩ = some (.int .i64 x.at_) := bX.cell 1
    have cX2 : W.cell? ⟨Bx, 2, none⟩ = some (.int .i64 x.e) := bX.cell 2
    by_cases hx : x.e = 0
    · have hxb : (x.e != 0) = false := by simp [hx]
      have hX := hid hx; clear hx
      have hc := bv.cell
      have hol : (ordsOf pre).length < 10 := by simp [ordsOf]; omega
      gi_wp2_with (gi_at_builtin; refine wpListIn_append_own _ rfl _ _ 107 rfl (w.heap.size + 5) 3 i0 (.int .i64 0) 1 8 Tryz.underlying107 hi hz0 hz1 hz2 rfl (by decide) _ _ _ rfl (hrow.alloc _) ⟨W.heap.size, 0, none⟩ 1 1 [.int .i64 x.ord] rfl rfl (cell_one_new _ _ _) (by simp [Value.oneCell']) (by unfold maxLen; omega) (by omega) (by simp; omega) ?_; intro v' w1 hown' hgrow _; obtain ⟨g', cap', rfl⟩ := ownsRow_succ hown'; obtain ⟨hv1, hv2, hr2, hk2, hb2⟩ := appended2 (m := w.heap.size) bv (by decide) hrow (by omega) hB.size (by omega) hown' hgrow; have hc1 := hv1.cell; have hf1 := hv1.frozen)
      have hne := c0.not_row (t := 107) (e := 3) (by decide) hrow
      refine ⟨hk2.from _, KpL.appended hrow hgrow hv1, ⟨⟨⟨⟨_, hv2, ?_, ?_⟩, ((c0.alloc _).kept hgrow hne).other (by omega) _, ?_, ?_⟩, hB.trans hb2⟩, Nat.le_trans h5 hk2.size⟩⟩
      · simpa [ordsOf, i64v] using hr2
      · intro p hp
        rcases List.mem_append.1 hp with hp | hp
        · exact hok p hp
        · rw [List.mem_singleton.1 hp]; exact hX.out
      · exact ((c1.alloc _).kept hgrow (fun e => by have := (hrow.lt _ e.symm).1; omega)).other (by omega) _
      · exact ((c2.alloc _).kept hgrow (c2.not_row (by decide) hrow)).other (by omega) _
    · have hxb : (x.e != 0) = true := by simp [hx]
      have hX := hid hx; clear hx
      have e0 := bX.ne_ (t' := 107) c0 (by decide)
      have e1 := bX.ne_ (t' := 3) c1 (by decide)
      have e2 := bX.ne_ (t' := 25) c2 (by decide)
      have e0' := e0.symm
      have e1' := e1.symm
      have e2' := e2.symm
      have d0 := c0.cell
      have d1 := c1.cell
      have d2 := c2.cell
      have f0 := c0.frozen
      have f1 := c1.frozen
      have f2 := c2.frozen
      have k0 : Boxed (((W.setCell ⟨w.heap.size, 0, none⟩ (.slice none 0 0)).setCell ⟨w.heap.size + 1, 0, none⟩ (.int .i64 x.at_)).setCell ⟨w.heap.size + 1 + 1, 0, none⟩ (.int .i64 x.e)).drew w.heap.size 107 (.slice none 0 0) := ((c0.set _).other (by omega) _).other (by omega) _
      have k1 : Boxed (((W.setCell ⟨w.heap.size, 0, none⟩ (.slice none 0 0)).setCell ⟨w.heap.size + 1, 0, none⟩ (.int .i64 x.at_)).setCell ⟨w.heap.size + 1 + 1, 0, none⟩ (.int .i64 x.e)).drew (w.heap.size + 1) 3 (.int .i64 x.at_) := ((c1.other (by omega) _).set _).other (by omega) _
      have k2 : Boxed (((W.setCell ⟨w.heap.size, 0, none⟩ (.slice none 0 0)).setCell ⟨w.heap.size + 1, 0, none⟩ (.int .i64 x.at_)).setCell ⟨w.heap.size + 1 + 1, 0, none⟩ (.int .i64 x.e)).drew (w.heap.size + 1 + 1) 25 (.int .i64 x.e) := (((c2.other (by omega) _).other (by omega) _).set _)
      have k3 : Below w.heap.size w (((W.setCell ⟨w.heap.size, 0, none⟩ (.slice none 0 0)).setCell ⟨w.heap.size + 1, 0, none⟩ (.int .i64 x.at_)).setCell ⟨w.heap.size + 1 + 1, 0, none⟩ (.int .i64 x.e)).drew :=
        (((hB.setCell (p := ⟨w.heap.size, 0, none⟩) (Nat.le_refl _) _).setCell (p := ⟨w.heap.size + 1, 0, none⟩) (by simp) _).setCell (p := ⟨w.heap.size + 1 + 1, 0, none⟩) (by simp; omega) _).drew
      have k4 : KeepsOthers W (((W.setCell ⟨w.heap.size, 0, none⟩ (.slice none 0 0)).setCell ⟨w.heap.size + 1, 0, none⟩ (.int .i64 x.at_)).setCell ⟨w.heap.size + 1 + 1, 0, none⟩ (.int .i64 x.e)).drew :=
        (((KeepsOthers.setCell _ _ _).trans (KeepsOthers.setCell _ _ _)).trans (KeepsOthers.setCell _ _ _)).trans (KeepsOthers.drew _)
      have hm : Tryz.prog.follows .mixedOrders = true := by kernel_rfl
      have K0 := hid k0; have K1 := hid k1; have K2 := hid k2; have K3 := hid k3; have K4 := hid k4
      clear k0 k1 k2 k3 k4
      gi_wp2
      gi_region_with_o (fail)
      all_goals gi_wp2
      all_goals exact ⟨K4.out.from _, ⟨rfl, pre, x, rfl, hok, hX.out, K0.out, K1.out, K2.out⟩, K3.out⟩
  case done =>
    rintro D ys W hD rfl ⟨⟨⟨⟨v, bv, hrow, hok⟩, c0, c1, c2⟩, hB⟩, h5⟩ hK
    have hp : M.parse s.data.toList = (ordsOf (M.parts s.data.toList), 0, 0) := by rw [M.parse, collect_ok _ _ hok]; simp
    have HP := hid hp; clear hp
    obtain ⟨A, cap, rfl, -⟩ := Sl.of_own hrow
    have hc := bv.cell
    have d0 := c0.cell
    have d1 := c1.cell
    have d2 := c2.cell
    have f0 := c0.frozen
    have f1 := c1.frozen
    have f2 := c2.frozen
    have q0 : Boxed (((W.setCell ⟨w.heap.size, 0, none⟩ (.slice A (ordsOf (M.parts s.data.toList)).length cap)).setCell ⟨w.heap.size + 1, 0, none⟩ (.int .i64 0)).setCell ⟨w.heap.size + 1 + 1, 0, none⟩ (.int .i64 0)) w.heap.size 107 (.slice A (ordsOf (M.parts s.data.toList)).length cap) := ((c0.set _).other (by omega) _).other (by omega) _
    have q1 : Boxed (((W.setCell ⟨w.heap.size, 0, none⟩ (.slice A (ordsOf (M.parts s.data.toList)).length cap)).setCell ⟨w.heap.size + 1, 0, none⟩ (.int .i64 0)).setCell ⟨w.heap.size + 1 + 1, 0, none⟩ (.int .i64 0)) (w.heap.size + 1) 3 (.int .i64 0) := ((c1.other (by omega) _).set _).other (by omega) _
    have q2 : Boxed (((W.setCell ⟨w.heap.size, 0, none⟩ (.slice A (ordsOf (M.parts s.data.toList)).length cap)).setCell ⟨w.heap.size + 1, 0, none⟩ (.int .i64 0)).setCell ⟨w.heap.size + 1 + 1, 0, none⟩ (.int .i64 0)) (w.heap.size + 1 + 1) 25 (.int .i64 0) := ((c2.other (by omega) _).other (by omega) _).set _
    have q3 : Below w.heap.size w (((W.setCell ⟨w.heap.size, 0, none⟩ (.slice A (ordsOf (M.parts s.data.toList)).length cap)).setCell ⟨w.heap.size + 1, 0, none⟩ (.int .i64 0)).setCell ⟨w.heap.size + 1 + 1, 0, none⟩ (.int .i64 0)) :=
      ((hB.setCell (p := ⟨w.heap.size, 0, none⟩) (Nat.le_refl _) _).setCell (p := ⟨w.heap.size + 1, 0, none⟩) (by simp) _).setCell (p := ⟨w.heap.size + 1 + 1, 0, none⟩) (by simp; omega) _
    have q4 : (((W.setCell ⟨w.heap.size, 0, none⟩ (.slice A (ordsOf (M.parts s.data.toList)).length cap)).setCell ⟨w.heap.size + 1, 0, none⟩ (.int .i64 0)).setCell ⟨w.heap.size + 1 + 1, 0, none⟩ (.int .i64 0)).heap[D]? = some (.deferred (some [])) :=
      (((KeepsOthers.setCell _ _ _).trans (KeepsOthers.setCell _ _ _)).trans (KeepsOthers.setCell _ _ _)).same D _ hK rfl
    have q5 : (((W.setCell ⟨w.heap.size, 0, none⟩ (.slice A (ordsOf (M.parts s.data.toList)).length cap)).setCell ⟨w.heap.size + 1, 0, none⟩ (.int .i64 0)).setCell ⟨w.heap.size + 1 + 1, 0, none⟩ (.int .i64 0)).ownsRow w.heap.size 3 1 (.slice A (ordsOf (M.parts s.data.toList)).length cap) (ordsOf (M.parts s.data.toList)).length ((ordsOf (M.parts s.data.toList)).map i64v) :=
      (((hrow.kept (grownBy_setCell' _ _ _) (.inr fun e => by have := (hrow.lt _ e).1; omega)).kept (grownBy_setCell' _ _ _) (.inr fun e => by have := (hrow.lt _ e).1; omega)).kept (grownBy_setCell' _ _ _) (.inr fun e => by have := (hrow.lt _ e).1; omega)).lower (by omega)
    have Q0 := hid q0; have Q1 := hid q1; have Q2 := hid q2; have Q3 := hid q3; have Q4 := hid q4; have Q5 := hid q5
    clear q0 q1 q2 q3 q4 q5
    gi_wp2
    refine ⟨by simp, .inl ⟨_, _, rfl, run_takeDeferred Q4.out, ?_⟩⟩
    have z0 := cell_putObj (o' := .deferred none) Q0.out.cell Q4.out rfl
    have z1 := cell_putObj (o' := .deferred none) Q1.out.cell Q4.out rfl
    have z2 := cell_putObj (o' := .deferred none) Q2.out.cell Q4.out rfl
    refine ⟨.tuple #[.slice A (ordsOf (M.parts s.data.toList)).length cap, .int .i64 0, .int .i64 0], by simp [results, Tryz.results61, go_sem, z0, z1, z2], _, by rw [HP.out], ?_, ?_⟩
    · rw [show M.ords s.data.toList = ordsOf (M.parts s.data.toList) from by rw [M.ords, HP.out]]
      exact ownsRow_putObj Q5.out _ Q4.out rfl
    · exact Q3.out.trans (belowK_b (w := w) (Nat.le_refl _) _ D _ _ (by omega) Q4.out rfl rfl)
  case stop =>
    rintro D c pre W hD hpre ⟨⟨rfl, l, p, rfl, hl, hp, c0, c1, c2⟩, hB⟩ hK
    gi_wp2
    refine ⟨by simp, .inl ⟨_, _, rfl, run_takeDeferred hK, ?_⟩⟩
    have z0 := cell_putObj (o' := .deferred none) c0.cell hK rfl
    have z1 := cell_putObj (o' := .deferred none) c1.cell hK rfl
    have z2 := cell_putObj (o' := .deferred none) c2.cell hK rfl
    obtain ⟨rest, hrest⟩ := hpre
    have hpp : M.parse s.data.toList = ([], p.at_, p.e) := by
      rw [M.parse, ← hrest, List.append_assoc]; exact collect_err l [] p rest hl hp
    refine ⟨.tuple #[.slice none 0 0, .int .i64 p.at_, .int .i64 p.e], by simp [results, Tryz.results61, go_sem, z0, z1, z2], _, by rw [hpp], ?_, ?_⟩
    · rw [show M.ords s.data.toList = [] from by rw [M.ords, hpp]]
      exact World.ownsRow_nil _ _ _ _
    · exact hB.trans (belowK_b (w := w) (Nat.le_refl _) _ D _ _ (by omega) hK rfl rfl)
end Go.Proofs.YtfgecaphhdedcaaGreatDoor
namespace Go.Proofs.YtfgecaphhdedcaaGreatDoor
open Go.RowKit

theorem atoiOk : AtoiOk := fun s n w hl h => (Tryz.strconv_Atoi s n hl h w).mono fun e w' ⟨he, t, hw⟩ => ⟨he, by subst hw; exact Lib.bytesWorld_below _ _ _⟩

theorem parse_any (s : ByteArray) (hs : s.size ≤ maxLen) (w : World) :
    Calls Tryz.prog 61 #[.string s] w fun e W' => ∃ v, e = .returned (.tuple #[v, .int .i64 (M.parse s.data.toList).2.1, .int .i64 (M.parse s.data.toList).2.2]) ∧
      W'.ownsRow w.heap.size 3 1 v (M.ords s.data.toList).length ((M.ords s.data.toList).map i64v) ∧ Below w.heap.size w W' :=
  callsIn_wide.1 (parse_in atoiOk 3 (Nat.le_refl _) s hs w)

set_option maxHeartbeats 400000 in
theorem valid_any (s : ByteArray) (hs : s.size ≤ maxLen) (w : World) :
    Calls Tryz.prog 30 #[.string s] w fun e W' => e = .returned (.bool (M.valid s.data.toList)) ∧ Below w.heap.size w W' := by
  go_enter Tryz.func30, Tryz.ntmps30
  go_wp2_with (go_at_call 61; refine (parse_any s hs _).mono ?_; rintro e w' ⟨v, rfl, hown, hb⟩)
  go_ret
  exact ⟨rfl, hb⟩

set_option maxHeartbeats 400000 in
theorem ords_any (s : ByteArray) (hs : s.size ≤ maxLen) (w : World) :
    Calls Tryz.prog 79 #[.string s] w fun e W' => ∃ v, e = .returned v ∧ W'.ownsRow w.heap.size 3 1 v (M.ords s.data.toList).length ((M.ords s.data.toList).map i64v) ∧ Below w.heap.size w W' := by
  go_enter Tryz.func79, Tryz.ntmps79
  go_wp2_with (go_at_call 61; refine (parse_any s hs _).mono ?_; rintro e w' ⟨v, rfl, hown, hb⟩)
  go_ret
  exact ⟨v, rfl, hown, hb⟩

theorem cmpInts_drop (xs ys : List Int) (k : Nat) (hk : k < xs.length) (hk' : k < ys.length) :
    M.cmpInts (xs.drop k) (ys.drop k) = if xs[k] < ys[k] then -1 else if ys[k] < xs[k] then 1 else M.cmpInts (xs.drop (k + 1)) (ys.drop (k + 1)) := by
  rw [List.drop_eq_getElem_cons hk, List.drop_eq_getElem_cons hk', M.cmpInts]

theorem ci_ne {a b r : Int} (h : (Lib.compareInt a b != 0) = true) : (if a < b then -1 else if b < a then 1 else r) = Lib.compareInt a b := by
  unfold Lib.compareInt at *
  by_cases h1 : a < b
  · simp [h1]
  · by_cases h2 : b < a
    · simp [h1, h2]
    · simp [h1, h2] at h
theorem ci_eq {a b r : Int} (h : (Lib.compareInt a b != 0) = false) : (if a < b then -1 else if b < a then 1 else r) = r := by
  unfold Lib.compareInt at h
  by_cases h1 : a < b
  · simp [h1] at h
  · by_cases h2 : b < a
    · simp [h1, h2] at h
    · simp [h1, h2]
theorem ret_int {k : IntKind} {a b : Int} (h : a = b) : Ending.returned (.int k a) = .returned (.int k b) := by rw [h]

set_option maxRecDepth 100000 in
set_option maxHeartbeats 1000000 in
theorem compareInts_any (A A' : Option Addr) (n m c c' : Nat) (xs ys : List Int) (w : World) (hx : Sl w w.heap.size 1 A n c (xs.map i64v)) (hy : Sl w w.heap.size 1 A' m c' (ys.map i64v)) :
    Calls Tryz.prog 78 #[.slice A n c, .slice A' m c'] w fun e w' => e = .returned (.int .i64 (M.cmpInts xs ys)) ∧ w = w' := by
  obtain ⟨hx1, hx2, hx3, hx4⟩ := hx
  obtain ⟨hy1, hy2, hy3, hy4⟩ := hy
  simp only [List.length_map, Nat.mul_one] at hx1 hy1
  unfold maxLen at hx3 hy3
  subst hx1 hy1
  go_enter Tryz.func78, Tryz.ntmps78
  go_wp2
  go_loop [11] (fun i => ∃ k : Nat, i = .int .i64 k ∧ k ≤ xs.length ∧ k ≤ ys.length ∧ M.cmpInts xs ys = M.cmpInts (xs.drop k) (ys.drop k)) (fun i => xs.length - (intOf i).toNat)
  case atStart => exact ⟨0, rfl, Nat.zero_le _, Nat.zero_le _, rfl⟩
  case round =>
    obtain ⟨k, rfl, hk, hk', he⟩ := hrel
    have HE := hid he; clear he
    by_cases h1 : k < xs.length
    · rcases hx4 with h0 | ⟨b, off, rfl, hb, hc⟩
      · omega
      have hcx := hc k (i64v xs[k]) (by simp [h1])
      unfold i64v at hcx
      by_cases h2 : k < ys.length
      · rcases hy4 with h0 | ⟨b', off', rfl, hb', hc'⟩
        · omega
        have hcy := hc' k (i64v ys[k]) (by simp [h2])
        unfold i64v at hcy
        have hd := cmpInts_drop xs ys k h1 h2
        have HD := hid hd; clear hd hc hc'
        go_wp2_with (go_at_call 96; refine (Tryz.cmp_Compare_int _ _ _).mono ?_; rintro e w' ⟨rfl, rfl⟩)
        · have hne : (Lib.compareInt xs[k] ys[k] != 0) = true := by assumption
          go_ret
          exact ⟨ret_int (by rw [HE.out, HD.out, ci_ne hne]), rfl⟩
        · have hne : (Lib.compareInt xs[k] ys[k] != 0) = false := by assumption
          go_round
          case rel => exact ⟨k + 1, by go_num, by omega, by omega, by rw [HE.out, HD.out, ci_eq hne]⟩
          case measure => simp [intOf]; omega
      · clear hc
        have hd : M.cmpInts (xs.drop k) (ys.drop k) = 1 := by
          rw [List.drop_of_length_le (l := ys) (by omega), List.drop_eq_getElem_cons h1]; rfl
        have HD := hid hd; clear hd
        go_wp2
        go_ret
        exact ⟨ret_int (by rw [HE.out, HD.out]), rfl⟩
    · have hkx : k = xs.length := by omega
      by_cases h3 : xs.length < ys.length
      · have hd : M.cmpInts (xs.drop k) (ys.drop k) = -1 := by
          rw [List.drop_of_length_le (l := xs) (by omega), List.drop_eq_getElem_cons (l := ys) (by omega)]; rfl
        have HD := hid hd; clear hd hkx
        go_wp2
        go_ret
        exact ⟨ret_int (by rw [HE.out, HD.out]), rfl⟩
      · have hd : M.cmpInts (xs.drop k) (ys.drop k) = 0 := by
          rw [List.drop_of_length_le (l := xs) (by omega), List.drop_of_length_le (l := ys) (by omega)]; rfl
        have HD := hid hd; clear hd hkx
        go_wp2
        go_ret
        exact ⟨ret_int (by rw [HE.out, HD.out]), rfl⟩

/-- lineage.Compare. -/
def cmpLin (a b : Bs) : Int := if M.valid a && M.valid b then M.cmpInts (M.ords a) (M.ords b) else if M.valid a then -1 else if M.valid b then 1 else Lib.compareBytes a b

set_option maxRecDepth 100000 in
set_option maxHeartbeats 1000000 in
theorem cmpLin_any (a b : ByteArray) (ha : a.size ≤ maxLen) (hb : b.size ≤ maxLen) (w : World) :
    Calls Tryz.prog 53 #[.string a, .string b] w fun e w' => e = .returned (.int .i64 (cmpLin a.data.toList b.data.toList)) ∧ Below w.heap.size w w' := by
  obtain ⟨va, hva⟩ : ∃ v, v = M.valid a.data.toList := ⟨_, rfl⟩
  obtain ⟨vb, hvb⟩ : ∃ v, v = M.valid b.data.toList := ⟨_, rfl⟩
  have ca := fun w => valid_any a ha w
  have cb := fun w => valid_any b hb w
  rw [← hva] at ca
  rw [← hvb] at cb
  have HVA := hid hva; have HVB := hid hvb; have CA := hid ca; have CB := hid cb
  clear hva hvb ca cb
  go_enter Tryz.func53, Tryz.ntmps53
  go_wp2_with fail
  refine (CA.out _).mono ?_
  rintro e w1 ⟨rfl, hb1⟩
  go_wp2_with fail
  refine (CB.out _).mono ?_
  rintro e w2 ⟨rfl, hb2⟩
  have hB2 : Below w.heap.size w w2 := hb1.trans (hb2.mono hb1.size)
  cases va with
  | true =>
    cases vb with
    | true =>
      go_wp2_with fail
      refine (ords_any a ha _).mono ?_
      rintro e w3 ⟨v3, rfl, ho3, hb3⟩
      go_wp2_with fail
      refine (ords_any b hb _).mono ?_
      rintro e w4 ⟨v4, rfl, ho4, hb4⟩
      obtain ⟨A, c, rfl, hs3⟩ := Sl.of_own ho3
      obtain ⟨A', c', rfl, hs4⟩ := Sl.of_own ho4
      have hs3' := (hs3.below hb4).more hb4.size
      go_wp2_with fail
      refine (compareInts_any _ _ _ _ _ _ _ _ _ hs3' hs4).mono ?_
      rintro e w5 ⟨rfl, rfl⟩
      go_wp2_with fail
      go_ret
      exact ⟨ret_int (by rw [cmpLin, ← HVA.out, ← HVB.out]; rfl), (hB2.trans (hb3.mono hB2.size)).trans (hb4.mono (Nat.le_trans hB2.size hb3.size))⟩
    | false =>
      go_wp2_with fail
      go_ret
      exact ⟨ret_int (by rw [cmpLin, ← HVA.out, ← HVB.out]; rfl), hB2⟩
  | false =>
    cases vb with
    | true =>
      go_wp2_with fail
      go_ret
      exact ⟨ret_int (by rw [cmpLin, ← HVA.out, ← HVB.out]; rfl), hB2⟩
    | false =>
      go_wp2_with fail
      refine (Tryz.strings_Compare a b _).mono ?_
      rintro e w5 ⟨rfl, rfl⟩
      go_wp2_with fail
      go_ret
      exact ⟨ret_int (by rw [cmpLin, ← HVA.out, ← HVB.out]; rfl), hB2⟩
end Go.Proofs.YtfgecaphhdedcaaGreatDoor
namespace Go.Proofs.YtfgecaphhdedcaaGreatDoor
open Go.RowKit

theorem ret_bool {a b : Bool} (h : a = b) : Ending.returned (.bool a) = .returned (.bool b) := by rw [h]
def okNum (n : Int) : Bool := decide (0 ≤ n) && decide (n ≤ 1073741824)
/-- An odd rune. -/
def oddP (r : Nat) : Bool := decide (r ≤ 32) || decide (126 < r) || decide (r = 47)
def wordB (s : ByteArray) : Bool := decide (s.size ≠ 0) && (decide (s.size ≤ 32) && !(decide (0 ≤ Lib.idxFunc oddP true s)))

set_option maxHeartbeats 400000 in
theorem number_any (n : Int) (w : World) : Calls Tryz.prog 60 #[.int .i64 n] w fun e w' => e = .returned (.bool (okNum n)) ∧ w = w' := by
  go_enter Tryz.func60, Tryz.ntmps60
  go_wp2
  all_goals
    go_ret
    exact ⟨ret_bool (by unfold okNum; rw [Bool.eq_iff_iff]; simp <;> omega), rfl⟩

set_option maxHeartbeats 400000 in
theorem word1_any (r : Nat) (hr : r ≤ 1114111) (w : World) : Calls Tryz.prog 99 #[.int .i32 r] w fun e w' => e = .returned (.bool (oddP r)) ∧ w = w' := by
  go_enter Tryz.func99, Tryz.ntmps99
  go_wp2
  all_goals
    go_ret
    exact ⟨ret_bool (by unfold oddP; rw [Bool.eq_iff_iff]; simp <;> omega), rfl⟩

set_option maxHeartbeats 400000 in
theorem word_any (s : ByteArray) (hs : s.size ≤ maxLen) (w : World) : Calls Tryz.prog 85 #[.string s] w fun e w' => e = .returned (.bool (wordB s)) ∧ Below w.heap.size w w' := by
  unfold maxLen at hs
  unfold wordB
  by_cases h : s.size = 0
  · have he := empty_t h
    go_enter Tryz.func85, Tryz.ntmps85
    go_wp2
    go_ret
    exact ⟨ret_bool (by simp [h]), Below.refl _ _⟩
  · have he := empty_f h
    by_cases h2 : s.size ≤ 32
    · go_enter Tryz.func85, Tryz.ntmps85
      go_wp2_with fail
      refine (Tryz.strings_ContainsFunc_grows 99 #[] (enters_of Tryz.func99 (by kernel_rfl) rfl) oddP s _ (fun W x hx _ => (word1_any x hx W).mono fun _ _ ⟨h1, h2⟩ => ⟨h1, by subst h2; exact Below.refl _ _⟩)).mono ?_
      rintro e w1 ⟨rfl, hb⟩
      go_wp2_with fail
      go_ret
      exact ⟨ret_bool (by simp [h, h2]), hb⟩
    · go_enter Tryz.func85, Tryz.ntmps85
      go_wp2
      go_ret
      exact ⟨ret_bool (by simp <;> omega), Below.refl _ _⟩
end Go.Proofs.YtfgecaphhdedcaaGreatDoor
namespace Go.Proofs.YtfgecaphhdedcaaGreatDoor
open Go.RowKit

def kOwn : Nat → Bool
  | 0 => false
  | 1 => true
  | 2 => true
  | 3 => true
  | 4 => true
  | 5 => true
  | 6 => true
  | 7 => true
  | 8 => true
  | 9 => true
  | 10 => true
  | 11 => true
  | 12 => true
  | 13 => false
  | 14 => false
  | 15 => false
  | 16 => false
  | 17 => false
  | 18 => true
  | 19 => true
  | 20 => false
  | _ => false
def kNum : Nat → Bool
  | 0 => false
  | 1 => false
  | 2 => false
  | 3 => false
  | 4 => false
  | 5 => false
  | 6 => false
  | 7 => true
  | 8 => true
  | 9 => true
  | 10 => true
  | 11 => true
  | 12 => true
  | 13 => true
  | 14 => false
  | 15 => false
  | 16 => true
  | 17 => false
  | 18 => true
  | 19 => false
  | 20 => false
  | _ => false
def kTxt : Nat → Bool
  | 0 => false
  | 1 => false
  | 2 => false
  | 3 => false
  | 4 => false
  | 5 => false
  | 6 => false
  | 7 => false
  | 8 => false
  | 9 => true
  | 10 => false
  | 11 => false
  | 12 => false
  | 13 => false
  | 14 => true
  | 15 => false
  | 16 => false
  | 17 => true
  | 18 => false
  | 19 => false
  | 20 => false
  | _ => false
def kMost : Nat → Int
  | 0 => 0
  | 1 => -1
  | 2 => -1
  | 3 => 63
  | 4 => -1
  | 5 => -1
  | 6 => -1
  | 7 => -1
  | 8 => 63
  | 9 => -1
  | 10 => -1
  | 11 => -1
  | 12 => -1
  | 13 => -1
  | 14 => -1
  | 15 => -1
  | 16 => -1
  | 17 => -1
  | 18 => 1073741824
  | 19 => -1
  | 20 => -1
  | _ => -1
def usesCells : Array Value := #[.string ⟨#[]⟩, .bool false, .bool false, .bool false, .int .i64 (0), .string ⟨#[112, 114, 111, 99, 101, 115, 115]⟩, .bool true, .bool false, .bool false, .int .i64 (-1), .string ⟨#[114, 101, 103, 105, 115, 116, 101, 114, 115]⟩, .bool true, .bool false, .bool false, .int .i64 (-1), .string ⟨#[112, 97, 103, 101]⟩, .bool true, .bool false, .bool false, .int .i64 (63), .string ⟨#[116, 97, 98, 108, 101]⟩, .bool true, .bool false, .bool false, .int .i64 (-1), .string ⟨#[99, 111, 117, 110, 116, 101, 114]⟩, .bool true, .bool false, .bool false, .int .i64 (-1), .string ⟨#[112, 101, 110, 100, 105, 110, 103]⟩, .bool true, .bool false, .bool false, .int .i64 (-1), .string ⟨#[110, 111, 100, 101]⟩, .bool true, .bool true, .bool false, .int .i64 (-1), .string ⟨#[98, 108, 111, 99, 107]⟩, .bool true, .bool true, .bool false, .int .i64 (63), .string ⟨#[101, 110, 116, 114, 121]⟩, .bool true, .bool true, .bool true, .int .i64 (-1), .string ⟨#[108, 105, 115, 116, 105, 110, 103]⟩, .bool true, .bool true, .bool false, .int .i64 (-1), .string ⟨#[112, 105, 112, 101]⟩, .bool true, .bool true, .bool false, .int .i64 (-1), .string ⟨#[108, 111, 99, 107]⟩, .bool true, .bool true, .bool false, .int .i64 (-1), .string ⟨#[116, 101, 114, 109, 105, 110, 97, 108]⟩, .bool false, .bool true, .bool false, .int .i64 (-1), .string ⟨#[97, 99, 99, 111, 117, 110, 116]⟩, .bool false, .bool false, .bool true, .int .i64 (-1), .string ⟨#[99, 108, 111, 99, 107]⟩, .bool false, .bool false, .bool false, .int .i64 (-1), .string ⟨#[112, 111, 114, 116]⟩, .bool false, .bool true, .bool false, .int .i64 (-1), .string ⟨#[98, 111, 120]⟩, .bool false, .bool false, .bool true, .int .i64 (-1), .string ⟨#[111, 117, 116]⟩, .bool true, .bool true, .bool false, .int .i64 (1073741824), .string ⟨#[115, 104, 101, 108, 108]⟩, .bool true, .bool false, .bool false, .int .i64 (-1), .string ⟨#[101, 112, 111, 99, 104]⟩, .bool false, .bool false, .bool false, .int .i64 (-1)]

theorem wpList_build_at {P : Program} {ops : Array Oper} {rest : List Oper} {o : Oper} {a : Act} {w : World} {Q : Exit → Act → World → Prop} (hg : o.guard = none) (t : TypeId) (parts : Array (Nat × Operand)) (ho : o.op = .build t parts)
    (cells : Array Value) (hb : P.built t (parts.map fun (i, x) => (i, a.eval x)).toList = some cells) (h : wpList P ops Q rest (a.put o.dst (.agg cells)) w) : wpList P ops Q (o :: rest) a w :=
  wpList_build hg t parts ho (by rw [hb]; rfl) (by rw [hb]; exact h)

theorem setRow_new (w : World) (cs cs' : Array Value) (t : TypeId) : (w.alloc (.cells cs t)).setRow w.heap.size cs' = w.alloc (.cells cs' t) := by
  show World.mk _ _ _ _ _ = World.mk _ _ _ _ _
  congr 1
  simp [World.alloc, -World.alloc_eq]
  apply Array.ext
  · simp
  · intro k h1 h2
    simp only [Array.getElem_modify, Array.getElem_push]
    split
    · rename_i hk; subst hk; simp
    · rename_i hk
      split
      · rfl
      · rename_i hk2; exfalso; simp at h1; omega

set_option maxRecDepth 100000 in
set_option maxHeartbeats 2000000 in
theorem uses_any (w : World) : Calls Tryz.prog 84 #[] w fun e w' => e = .returned (.agg usesCells) ∧ w' = w.alloc (.cells usesCells 139) := by
  go_enter Tryz.func84, Tryz.ntmps84
  go_wp2_with (first | (refine wpList_build_at rfl 139 _ rfl usesCells (by kernel_rfl) ?_) | (refine wpList_store_row rfl 139 _ _ rfl w.heap.size usesCells rfl rfl 139 _ (heap_alloc_new w _) (by kernel_rfl) (by kernel_rfl) (by kernel_rfl) ?_; rw [setRow_new]))
  exact bodyPost_ret (v := .agg usesCells) (results_cell_row rfl _ _ w.heap.size 139 usesCells (0, 0) _ rfl (heap_alloc_new w _) Tryz.underlying139 rfl (by kernel_rfl)) rfl ⟨rfl, rfl⟩
end Go.Proofs.YtfgecaphhdedcaaGreatDoor
namespace Go.Proofs.YtfgecaphhdedcaaGreatDoor
open Go.RowKit

/-- A name. -/
structure Nm where
  kind : Int
  owner : ByteArray
  number : Int
  index : Int
  text : ByteArray
  deriving DecidableEq

def nmCells (n : Nm) : List Value := [.int .i64 n.kind, .string n.owner, .int .i64 n.number, .int .i64 n.index, .string n.text]
def nmV (n : Nm) : Value := .agg #[.int .i64 n.kind, .string n.owner, .int .i64 n.number, .int .i64 n.index, .string n.text]
/-- What every Go value fulfils. -/
structure Nm.Ok (n : Nm) : Prop where
  owner : n.owner.size ≤ maxLen
  text : n.text.size ≤ maxLen

/-- What the check asks, by what the kind uses. -/
def checkF (ow nu te : Bool) (mo : Int) (n : Nm) : Int :=
  if (!ow && !n.owner.toList.isEmpty) || (!nu && (n.number != 0)) || (decide (mo < 0) && (n.index != 0)) || (!te && !n.text.toList.isEmpty) then 1
  else if ow && !(M.valid n.owner.data.toList) then 12
  else if !(okNum n.number) || decide (n.index < 0) || decide (max mo 0 < n.index) then 2
  else if te && !(wordB n.text) then 12
  else 0
def checkN (n : Nm) : Int := if n.kind < 1 ∨ 20 < n.kind then 11 else checkF (kOwn n.kind.toNat) (kNum n.kind.toNat) (kTxt n.kind.toNat) (kMost n.kind.toNat) n

def kWord (k : Nat) : ByteArray := match usesCells[5 * k]? with | some (.string s) => s | _ => ⟨#[]⟩
theorem uses_at (k : Nat) (h1 : 1 ≤ k) (h2 : k ≤ 20) (w : World) : (Instr.index 139 (.agg usesCells) (.int .i64 k)).run Tryz.prog w = .ok (.agg #[.string (kWord k), .bool (kOwn k), .bool (kNum k), .bool (kTxt k), .int .i64 (kMost k)]) w := by
  obtain rfl | rfl | rfl | rfl | rfl | rfl | rfl | rfl | rfl | rfl | rfl | rfl | rfl | rfl | rfl | rfl | rfl | rfl | rfl | rfl : k = 1 ∨ k = 2 ∨ k = 3 ∨ k = 4 ∨ k = 5 ∨ k = 6 ∨ k = 7 ∨ k = 8 ∨ k = 9 ∨ k = 10 ∨ k = 11 ∨ k = 12 ∨ k = 13 ∨ k = 14 ∨ k = 15 ∨ k = 16 ∨ k = 17 ∨ k = 18 ∨ k = 19 ∨ k = 20 := by omega
  all_goals kernel_rfl

set_option maxRecDepth 100000 in
set_option maxHeartbeats 2000000 in
theorem checkN_any (n : Nm) (hn : n.Ok) (w : World) : Calls Tryz.prog 56 #[nmV n] w fun e w' => e = .returned (.int .i64 (checkN n)) ∧ Below w.heap.size w w' := by
  obtain ⟨kind, owner, number, index, text⟩ := n
  obtain ⟨hO, hT⟩ := hn
  dsimp only at hO hT
  unfold nmV
  by_cases hk : kind < 1 ∨ 20 < kind
  · have hr : checkN ⟨kind, owner, number, index, text⟩ = 11 := by rw [checkN, if_pos hk]
    have HR := hid hr; clear hr
    rcases hk with hk | hk
    · go_enter Tryz.func56, Tryz.ntmps56
      go_wp2_with fail
      go_ret
      exact ⟨ret_int HR.out.symm, (Below.refl _ _).alloc (Nat.le_refl _) _⟩
    · have hk' : ¬ kind < 1 := by omega
      go_enter Tryz.func56, Tryz.ntmps56
      go_wp2_with fail
      go_ret
      exact ⟨ret_int HR.out.symm, (Below.refl _ _).alloc (Nat.le_refl _) _⟩
  · obtain ⟨k, rfl⟩ : ∃ k : Nat, kind = k := ⟨kind.toNat, by omega⟩
    have k1 : 1 ≤ k := by omega
    have k2 : k ≤ 20 := by omega
    clear hk
    go_enter Tryz.func56, Tryz.ntmps56
    go_upto_region 3 with fail
    go_cut [0, 3] (fun _ p wx => ∃ g : Nat, p = .pointer (some ⟨g, 0, none⟩) ∧ w.heap.size < g ∧ Blk wx g 138 #[.string (kWord k), .bool (kOwn k), .bool (kNum k), .bool (kTxt k), .int .i64 (kMost k)] ∧
      Blk wx w.heap.size 66 #[.int .i64 k, .string owner, .int .i64 number, .int .i64 index, .string text] ∧ Below w.heap.size w wx)
    case first =>
      have hux := uses_at k k1 k2
      go_region_with (go_at_call 84; refine (uses_any _).mono ?_; rintro e w' ⟨rfl, rfl⟩)
      all_goals
        go_wp2_with fail
        go_meet
        refine ⟨_, rfl, by omega, ?_, ?_, ?_⟩
        · first | exact Blk.drew (Blk.new_ _ _ _ (by simp)) | exact Blk.drew ((Blk.new_ _ _ _ (by simp)).alloc _)
        · exact Blk.drew (((Blk.new_ _ _ _ (by simp)).alloc _).alloc _)
        · exact ((((Below.refl _ _).alloc (Nat.le_refl _) _).alloc (by simp) _).alloc (by simp; omega) _).drew
    case rest =>
      obtain ⟨g, rfl, hg, hu, hb, hB⟩ := hcut
      have hr : checkN ⟨k, owner, number, index, text⟩ = checkF (kOwn k) (kNum k) (kTxt k) (kMost k) ⟨k, owner, number, index, text⟩ := by
        rw [checkN, if_neg (by dsimp only; omega)]; simp
      have HR := hid hr; clear hr
      generalize kOwn k = ow at *
      generalize kNum k = nu at *
      generalize kTxt k = te at *
      generalize kMost k = mo at *
      generalize kWord k = wd at *
      have c1 : wc.cell? ⟨g, 1, none⟩ = some (.bool ow) := hu.cell 1
      have c2 : wc.cell? ⟨g, 2, none⟩ = some (.bool nu) := hu.cell 2
      have c3 : wc.cell? ⟨g, 3, none⟩ = some (.bool te) := hu.cell 3
      have c4 : wc.cell? ⟨g, 4, none⟩ = some (.int .i64 mo) := hu.cell 4
      have d1 : wc.cell? ⟨w.heap.size, 1, none⟩ = some (.string owner) := hb.cell 1
      have d2 : wc.cell? ⟨w.heap.size, 2, none⟩ = some (.int .i64 number) := hb.cell 2
      have d3 : wc.cell? ⟨w.heap.size, 3, none⟩ = some (.int .i64 index) := hb.cell 3
      have d4 : wc.cell? ⟨w.heap.size, 4, none⟩ = some (.string text) := hb.cell 4
      have HU := hid hu; have HBB := hid hb; clear hu hb
      have hF : checkF ow nu te mo ⟨k, owner, number, index, text⟩ = if (!ow && !owner.toList.isEmpty) || (!nu && (number != 0)) || (decide (mo < 0) && (index != 0)) || (!te && !text.toList.isEmpty) then 1
          else if ow && !(M.valid owner.data.toList) then 12
          else if !(okNum number) || decide (index < 0) || decide (max mo 0 < index) then 2
          else if te && !(wordB text) then 12
          else 0 := rfl
      rw [← HR.out] at hF
      have HF := hid hF; clear hF HR
      obtain ⟨be, hbe⟩ : ∃ b, owner.toList.isEmpty = b := ⟨_, rfl⟩
      obtain ⟨bn, hbn⟩ : ∃ b, (number != 0) = b := ⟨_, rfl⟩
      obtain ⟨bi, hbi⟩ : ∃ b, (index != 0) = b := ⟨_, rfl⟩
      obtain ⟨bt, hbt⟩ : ∃ b, text.toList.isEmpty = b := ⟨_, rfl⟩
      obtain ⟨bm, hbm⟩ : ∃ b, decide (mo < 0) = b := ⟨_, rfl⟩
      have HF2 := HF.out
      rw [hbe, hbn, hbi, hbt, hbm] at HF2
      have HF3 := hid HF2; clear HF2 HF
      go_upto_region 4 with fail
      go_cut [16] (fun b wx => b = .bool ((!ow && !be) || (!nu && bn) || (bm && bi) || (!te && !bt)) ∧ wc = wx)
      case first =>
        go_wp2_with fail
        all_goals
          go_meet
          refine ⟨?_, rfl⟩
          simp [*]
      case rest =>
        obtain ⟨rfl, rfl⟩ := hcut
        have h3 := HF3.out
        clear HF3
        generalize ((!ow && !be) || (!nu && bn) || (bm && bi) || (!te && !bt)) = A at *
        obtain ⟨vv, hvv⟩ : ∃ b, M.valid owner.data.toList = b := ⟨_, rfl⟩
        obtain ⟨nn, hnn⟩ : ∃ b, (!(okNum number) || decide (index < 0) || decide (max mo 0 < index)) = b := ⟨_, rfl⟩
        obtain ⟨ww, hww⟩ : ∃ b, wordB text = b := ⟨_, rfl⟩
        rw [hnn, hvv, hww] at h3
        have H3 := hid h3
        have HNN := hid hnn; have HVV := hid hvv; have HWW := hid hww
        clear h3 hnn hvv hww hbe hbn hbi hbt hbm
        have lg := HU.out.lt
        have lb := HBB.out.lt
        cases A with
        | true =>
          go_wp2_with fail
          go_ret
          exact ⟨ret_int H3.out.symm, hB⟩
        | false =>
          cases ow with
          | true =>
            go_wp2_with fail
            refine (valid_any owner hO _).mono ?_
            rintro e w1 ⟨rfl, hb1⟩
            rw [HVV.out]
            have hc1 := (bcell hb1).1
            cases vv with
            | false =>
              go_wp2_with fail
              go_ret
              exact ⟨ret_int H3.out.symm, hB.trans (hb1.mono hB.size)⟩
            | true =>
              go_upto_region 8 with fail
              go_cut [64] (fun b wx => b = .bool nn ∧ w1 = wx)
              case first =>
                go_wp2_with fail
                refine (number_any number _).mono ?_
                rintro e w2 ⟨rfl, rfl⟩
                go_wp2_with fail
                all_goals
                  go_meet
                  refine ⟨?_, rfl⟩
                  rw [← HNN.out]
                  simp [*]
              case rest =>
                obtain ⟨rfl, rfl⟩ := hcut
                cases nn with
                | true =>
                  go_wp2_with fail
                  go_ret
                  exact ⟨ret_int H3.out.symm, hB.trans (hb1.mono hB.size)⟩
                | false =>
                  cases te with
                  | true =>
                    go_wp2_with fail
                    refine (word_any text hT _).mono ?_
                    rintro e w3 ⟨rfl, hb3⟩
                    rw [HWW.out]
                    cases ww with
                    | true =>
                      go_wp2_with fail
                      go_ret
                      exact ⟨ret_int H3.out.symm, (hB.trans (hb1.mono hB.size)).trans (hb3.mono (hB.trans (hb1.mono hB.size)).size)⟩
                    | false =>
                      go_wp2_with fail
                      go_ret
                      exact ⟨ret_int H3.out.symm, (hB.trans (hb1.mono hB.size)).trans (hb3.mono (hB.trans (hb1.mono hB.size)).size)⟩
                  | false =>
                    go_wp2_with fail
                    go_ret
                    exact ⟨ret_int H3.out.symm, hB.trans (hb1.mono hB.size)⟩
          | false =>
            go_upto_region 8 with fail
            go_cut [64] (fun b wx => b = .bool nn ∧ wc = wx)
            case first =>
              go_wp2_with fail
              refine (number_any number _).mono ?_
              rintro e w2 ⟨rfl, rfl⟩
              go_wp2_with fail
              all_goals
                go_meet
                refine ⟨?_, rfl⟩
                rw [← HNN.out]
                simp [*]
            case rest =>
              obtain ⟨rfl, rfl⟩ := hcut
              cases nn with
              | true =>
                go_wp2_with fail
                go_ret
                exact ⟨ret_int H3.out.symm, hB⟩
              | false =>
                cases te with
                | true =>
                  go_wp2_with fail
                  refine (word_any text hT _).mono ?_
                  rintro e w3 ⟨rfl, hb3⟩
                  rw [HWW.out]
                  cases ww with
                  | true =>
                    go_wp2_with fail
                    go_ret
                    exact ⟨ret_int H3.out.symm, (hB).trans (hb3.mono (hB).size)⟩
                  | false =>
                    go_wp2_with fail
                    go_ret
                    exact ⟨ret_int H3.out.symm, (hB).trans (hb3.mono (hB).size)⟩
                | false =>
                  go_wp2_with fail
                  go_ret
                  exact ⟨ret_int H3.out.symm, hB⟩
end Go.Proofs.YtfgecaphhdedcaaGreatDoor
namespace Go.Proofs.YtfgecaphhdedcaaGreatDoor
open Go.RowKit

/-- cmp.Or. -/
def orI : List Int → Int
  | [] => 0
  | x :: r => if x = 0 then orI r else x
/-- object.Compare. -/
def cmpN (a b : Nm) : Int := orI [Lib.compareInt a.kind b.kind, cmpLin a.owner.data.toList b.owner.data.toList, Lib.compareInt a.number b.number, Lib.compareInt a.index b.index, Lib.compareBytes a.text.data.toList b.text.data.toList]

set_option maxRecDepth 100000 in
set_option maxHeartbeats 1000000 in
theorem or_any (A : Option Addr) (n c : Nat) (xs : List Int) (w : World) (hx : Sl w w.heap.size 1 A n c (xs.map i64v)) :
    Calls Tryz.prog 98 #[.slice A n c] w fun e w' => e = .returned (.int .i64 (orI xs)) ∧ w = w' := by
  obtain ⟨hx1, hx2, hx3, hx4⟩ := hx
  simp only [List.length_map, Nat.mul_one] at hx1
  unfold maxLen at hx3
  subst hx1
  go_enter Tryz.func98, Tryz.ntmps98
  go_wp2
  go_loop [8] (fun i => ∃ k : Nat, i = .int .i64 k ∧ k ≤ xs.length ∧ orI xs = orI (xs.drop k)) (fun i => xs.length - (intOf i).toNat)
  case atStart => exact ⟨0, rfl, Nat.zero_le _, rfl⟩
  case round =>
    obtain ⟨k, rfl, hk, he⟩ := hrel
    have HE := hid he; clear he
    by_cases h1 : k < xs.length
    · rcases hx4 with h0 | ⟨b, off, rfl, hb, hc⟩
      · omega
      have hcx := hc k (i64v xs[k]) (by simp [h1])
      unfold i64v at hcx
      have hd : orI (xs.drop k) = if xs[k] = 0 then orI (xs.drop (k + 1)) else xs[k] := by rw [List.drop_eq_getElem_cons h1, orI]
      have HD := hid hd; clear hd hc
      by_cases h0 : xs[k] = 0
      · have h0b : (xs[k] != 0) = false := by simp [h0]
        have H0 := hid h0; clear h0
        go_wp2
        go_round
        case rel => exact ⟨k + 1, by go_num, by omega, by rw [HE.out, HD.out, if_pos H0.out]⟩
        case measure => simp [intOf]; omega
      · have h0b : (xs[k] != 0) = true := by simp [h0]
        have H0 := hid h0; clear h0
        go_wp2
        go_ret
        exact ⟨ret_int (by rw [HE.out, HD.out, if_neg H0.out]), rfl⟩
    · have hd : orI (xs.drop k) = 0 := by rw [List.drop_of_length_le (by omega)]; rfl
      have HD := hid hd; clear hd
      go_wp2
      go_ret
      exact ⟨ret_int (by rw [HE.out, HD.out]), rfl⟩

/-- A slice literal that was just built. -/
theorem Sl.built (w : World) (cs : Array Value) (t : TypeId) {n : Nat} (hn : cs.size = n) (hm : n ≤ maxLen) {xs : List Value} (hx : cs.toList = xs) {g : Nat} (hg : g = w.heap.size) :
    Sl (w.alloc (.cells cs t)) (w.alloc (.cells cs t)).heap.size 1 (some ⟨g, 0, none⟩) n n xs := by
  subst hg hx
  refine ⟨by simp [hn], Nat.le_refl _, hm, .inr ⟨_, 0, rfl, by simp, fun j u hu => ?_⟩⟩
  rw [Nat.zero_add, (Blk.new w t cs).cell j, ← Array.getElem?_toList]
  exact hu

set_option maxRecDepth 100000 in
set_option maxHeartbeats 3200000 in
theorem cmpN_any (a b : Nm) (ha : a.Ok) (hb : b.Ok) (w : World) : Calls Tryz.prog 83 #[nmV a, nmV b] w fun e w' => e = .returned (.int .i64 (cmpN a b)) ∧ Below w.heap.size w w' := by
  obtain ⟨k, o, n, i, t⟩ := a
  obtain ⟨k', o', n', i', t'⟩ := b
  obtain ⟨hO, _⟩ := ha
  obtain ⟨hO', _⟩ := hb
  dsimp only at hO hO'
  unfold nmV
  go_enter Tryz.func83, Tryz.ntmps83
  go_wp2_with fail
  generalize hW : (w.alloc (.cells #[.int .i64 k, .string o, .int .i64 n, .int .i64 i, .string t] 66)).alloc (.cells #[.int .i64 k', .string o', .int .i64 n', .int .i64 i', .string t'] 66) = W
  have b1 : Blk W w.heap.size 66 #[.int .i64 k, .string o, .int .i64 n, .int .i64 i, .string t] := by rw [← hW]; exact (Blk.new _ _ _).alloc _
  have b2 : Blk W (w.heap.size + 1) 66 #[.int .i64 k', .string o', .int .i64 n', .int .i64 i', .string t'] := by rw [← hW]; exact Blk.new_ _ _ _ (by simp)
  have hB : Below w.heap.size w W := by rw [← hW]; exact (((Below.refl _ _).alloc (Nat.le_refl _) _).alloc (by simp) _)
  have l1 := b1.lt
  have l2 := b2.lt
  have c0 : W.cell? ⟨w.heap.size, 0, none⟩ = some (.int .i64 k) := b1.cell 0
  have c1 : W.cell? ⟨w.heap.size, 1, none⟩ = some (.string o) := b1.cell 1
  have c2 : W.cell? ⟨w.heap.size, 2, none⟩ = some (.int .i64 n) := b1.cell 2
  have c3 : W.cell? ⟨w.heap.size, 3, none⟩ = some (.int .i64 i) := b1.cell 3
  have c4 : W.cell? ⟨w.heap.size, 4, none⟩ = some (.string t) := b1.cell 4
  have d0 : W.cell? ⟨w.heap.size + 1, 0, none⟩ = some (.int .i64 k') := b2.cell 0
  have d1 : W.cell? ⟨w.heap.size + 1, 1, none⟩ = some (.string o') := b2.cell 1
  have d2 : W.cell? ⟨w.heap.size + 1, 2, none⟩ = some (.int .i64 n') := b2.cell 2
  have d3 : W.cell? ⟨w.heap.size + 1, 3, none⟩ = some (.int .i64 i') := b2.cell 3
  have d4 : W.cell? ⟨w.heap.size + 1, 4, none⟩ = some (.string t') := b2.cell 4
  clear hW b1 b2
  have p0 := fun w => Tryz.cmp_Compare_int k k' w
  have p1 := fun w => cmpLin_any o o' hO hO' w
  have p2 := fun w => Tryz.cmp_Compare_int n n' w
  have p3 := fun w => Tryz.cmp_Compare_int i i' w
  have p4 := fun w => Tryz.strings_Compare t t' w
  generalize hx0 : Lib.compareInt k k' = x0 at p0
  generalize hx1 : cmpLin o.data.toList o'.data.toList = x1 at p1
  generalize hx2 : Lib.compareInt n n' = x2 at p2
  generalize hx3 : Lib.compareInt i i' = x3 at p3
  generalize hx4 : Lib.compareBytes t.data.toList t'.data.toList = x4 at p4
  have hr : cmpN ⟨k, o, n, i, t⟩ ⟨k', o', n', i', t'⟩ = orI [x0, x1, x2, x3, x4] := by simp only [cmpN, hx0, hx1, hx2, hx3, hx4]
  have HR := hid hr
  clear hr hx0 hx1 hx2 hx3 hx4
  have p5 : ∀ w : World, Calls Tryz.prog 98 #[.slice (some ⟨w.heap.size, 0, none⟩) 5 5] (w.alloc (.cells #[.int .i64 x0, .int .i64 x1, .int .i64 x2, .int .i64 x3, .int .i64 x4] 3)) fun e w' => e = .returned (.int .i64 (orI [x0, x1, x2, x3, x4])) ∧ w.alloc (.cells #[.int .i64 x0, .int .i64 x1, .int .i64 x2, .int .i64 x3, .int .i64 x4] 3) = w' :=
    fun w => or_any _ _ _ [x0, x1, x2, x3, x4] _ (Sl.built (n := 5) w _ _ rfl (by unfold maxLen; omega) rfl rfl)
  have P5 := hid p5; clear p5
  have P0 := hid p0; have P1 := hid p1; have P2 := hid p2; have P3 := hid p3; have P4 := hid p4
  clear p0 p1 p2 p3 p4
  go_region_held3 (fun w' => w'.cell? ⟨w.heap.size, 0, none⟩ = some (.int .i64 k) ∧ w'.cell? ⟨w.heap.size, 1, none⟩ = some (.string o) ∧ w'.cell? ⟨w.heap.size, 2, none⟩ = some (.int .i64 n) ∧ w'.cell? ⟨w.heap.size, 3, none⟩ = some (.int .i64 i) ∧ w'.cell? ⟨w.heap.size, 4, none⟩ = some (.string t) ∧
      w'.cell? ⟨w.heap.size + 1, 0, none⟩ = some (.int .i64 k') ∧ w'.cell? ⟨w.heap.size + 1, 1, none⟩ = some (.string o') ∧ w'.cell? ⟨w.heap.size + 1, 2, none⟩ = some (.int .i64 n') ∧ w'.cell? ⟨w.heap.size + 1, 3, none⟩ = some (.int .i64 i') ∧ w'.cell? ⟨w.heap.size + 1, 4, none⟩ = some (.string t'))
    (first | go_keep | exact ⟨(hc1 _ _ l1).trans c0, (hc1 _ _ l1).trans c1, (hc1 _ _ l1).trans c2, (hc1 _ _ l1).trans c3, (hc1 _ _ l1).trans c4, (hc1 _ _ l2).trans d0, (hc1 _ _ l2).trans d1, (hc1 _ _ l2).trans d2, (hc1 _ _ l2).trans d3, (hc1 _ _ l2).trans d4⟩)
    (first
      | (go_at_call_of 96 (Value.int .i64 k); refine (P0.out _).mono ?_; rintro e w' ⟨rfl, rfl⟩)
      | (go_at_call_of 96 (Value.int .i64 n); refine (P2.out _).mono ?_; rintro e w' ⟨rfl, rfl⟩)
      | (go_at_call_of 96 (Value.int .i64 i); refine (P3.out _).mono ?_; rintro e w' ⟨rfl, rfl⟩)
      | (go_at_call 53; refine (P1.out _).mono ?_; rintro e w1 ⟨rfl, hb1⟩; have hc1 := (bcell hb1).1)
      | (go_at_call 80; refine (P4.out _).mono ?_; rintro e w' ⟨rfl, rfl⟩)
      | (go_at_call 98; refine (P5.out _).mono ?_; rintro e w' ⟨rfl, rfl⟩))
  go_wp2_with fail
  go_ret
  exact ⟨ret_int HR.out.symm, (hB.drew.trans (hb1.mono hB.size)).alloc (Nat.le_trans hB.size hb1.size) _⟩
end Go.Proofs.YtfgecaphhdedcaaGreatDoor
namespace Go.Proofs.YtfgecaphhdedcaaGreatDoor
open Go.RowKit

def eqN (a b : Nm) : Bool := a.kind == b.kind && (a.owner.toList == b.owner.toList && (a.number == b.number && (a.index == b.index && a.text.toList == b.text.toList)))
theorem eqN_iff (a b : Nm) : eqN a b = true ↔ a = b := by
  obtain ⟨k, o, n, i, t⟩ := a
  obtain ⟨k', o', n', i', t'⟩ := b
  have hb : ∀ x y : ByteArray, (x.toList == y.toList) = true ↔ x = y := by
    intro x y
    rw [beq_iff_eq, ByteArray.toList_eq, ByteArray.toList_eq]
    refine ⟨fun h => ?_, fun h => by rw [h]⟩
    obtain ⟨⟨x⟩⟩ := x
    obtain ⟨⟨y⟩⟩ := y
    simp only at h
    rw [h]
  simp only [eqN, Bool.and_eq_true, beq_iff_eq, Nm.mk.injEq]
  constructor
  · rintro ⟨h1, h2, h3, h4, h5⟩
    exact ⟨h1, (hb _ _).1 (by simpa using h2), h3, h4, (hb _ _).1 (by simpa using h5)⟩
  · rintro ⟨rfl, rfl, rfl, rfl, rfl⟩
    exact ⟨rfl, rfl, rfl, rfl, rfl⟩
end Go.Proofs.YtfgecaphhdedcaaGreatDoor
namespace Go.Proofs.YtfgecaphhdedcaaGreatDoor
open Go.RowKit

inductive T where
  | nil
  | node (l : T) (n : Nm) (v : ByteArray) (r : T)

namespace T
def h : T → Nat
  | nil => 0
  | node l _ _ r => 1 + max l.h r.h
def size : T → Nat
  | nil => 0
  | node l _ _ r => 1 + l.size + r.size
def bytes : T → Nat
  | nil => 0
  | node l _ v r => v.size + l.bytes + r.bytes
def toList : T → List (Nm × ByteArray)
  | nil => []
  | node l n v r => l.toList ++ (n, v) :: r.toList
def left : T → T | nil => nil | node l _ _ _ => l
def right : T → T | nil => nil | node _ _ _ r => r
/-- balance. -/
def bal (l : T) (n : Nm) (v : ByteArray) (r : T) : T :=
  if r.h + 1 < l.h then
    match l with
    | node ll ln lv lr =>
      if lr.h ≤ ll.h then node ll ln lv (node lr n v r)
      else match lr with
        | node a mn mv b => node (node ll ln lv a) mn mv (node b n v r)
        | nil => node l n v r
    | nil => node l n v r
  else if l.h + 1 < r.h then
    match r with
    | node rl rn rv rr =>
      if rl.h ≤ rr.h then node (node l n v rl) rn rv rr
      else match rl with
        | node a mn mv b => node (node l n v a) mn mv (node b rn rv rr)
        | nil => node l n v r
    | nil => node l n v r
  else node l n v r
def with_ : T → Nm → ByteArray → T
  | nil, n, v => node nil n v nil
  | node l m x r, n, v => if cmpN n m < 0 then bal (l.with_ n v) m x r else if 0 < cmpN n m then bal l m x (r.with_ n v) else node l n v r
/-- The tree without its first object, and this object. -/
def first : T → Nm → ByteArray → T → T × (Nm × ByteArray)
  | nil, n, v, r => (r, (n, v))
  | node l' n' v' r', n, v, r => (bal (first l' n' v' r').1 n v r, (first l' n' v' r').2)
def without : T → Nm → T
  | nil, _ => nil
  | node l m x r, n =>
    if cmpN n m < 0 then bal (l.without n) m x r
    else if 0 < cmpN n m then bal l m x (r.without n)
    else match r with
      | nil => l
      | node rl rn rv rr => bal l (first rl rn rv rr).2.1 (first rl rn rv rr).2.2 (first rl rn rv rr).1
def get : T → Nm → Option ByteArray
  | nil, _ => none
  | node l m x r, n => if cmpN n m < 0 then l.get n else if 0 < cmpN n m then r.get n else some x
/-- All names and values are Go's. -/
def Ok : T → Prop
  | nil => True
  | node l n v r => l.Ok ∧ n.Ok ∧ v.size ≤ maxLen ∧ r.Ok
/-- Small enough that no counter wraps. -/
def Fits (t : T) : Prop := t.size ≤ 1000000 ∧ t.bytes ≤ 1000000000

theorem size_eq (t : T) : t.size = t.toList.length := by
  induction t with
  | nil => rfl
  | node l n v r ihl ihr => simp [size, toList, ihl, ihr]; omega
def sumB (l : List (Nm × ByteArray)) : Nat := (l.map fun x => x.2.size).sum
theorem bytes_eq (t : T) : t.bytes = sumB t.toList := by
  induction t with
  | nil => rfl
  | node l n v r ihl ihr => simp [bytes, toList, ihl, ihr, sumB]; omega
theorem h_le (t : T) : t.h ≤ t.size := by
  induction t with
  | nil => exact Nat.le_refl _
  | node l n v r ihl ihr => simp only [h, size]; omega
theorem Fits.of_list {t u : T} (h : t.Fits) (e : u.toList = t.toList) : u.Fits := by
  unfold Fits at *
  rw [size_eq, bytes_eq, e, ← size_eq, ← bytes_eq]; exact h
theorem bal_list (l : T) (n : Nm) (v : ByteArray) (r : T) : (bal l n v r).toList = l.toList ++ (n, v) :: r.toList := by
  unfold bal
  split
  · split
    · split
      · simp [toList]
      · split <;> simp [toList]
    · simp [toList]
  · split
    · split
      · split
        · simp [toList]
        · split <;> simp [toList]
      · simp [toList]
    · simp [toList]
def okL (l : List (Nm × ByteArray)) : Prop := ∀ x ∈ l, x.1.Ok ∧ x.2.size ≤ maxLen
theorem ok_iff (t : T) : t.Ok ↔ okL t.toList := by
  induction t with
  | nil => simp [Ok, okL, toList]
  | node l n v r ihl ihr =>
    simp only [Ok, ihl, ihr, okL, toList, List.mem_append, List.mem_cons]
    constructor
    · rintro ⟨h1, h2, h3, h4⟩ x (h | rfl | h)
      · exact h1 x h
      · exact ⟨h2, h3⟩
      · exact h4 x h
    · intro h
      exact ⟨fun x hx => h x (.inl hx), (h (n, v) (.inr (.inl rfl))).1, (h (n, v) (.inr (.inl rfl))).2, fun x hx => h x (.inr (.inr hx))⟩
end T

def nodeCells (n : Nm) (v : ByteArray) (pl pr : Option Addr) (h s b : Nat) : Array Value :=
  #[.int .i64 n.kind, .string n.owner, .int .i64 n.number, .int .i64 n.index, .string n.text, .string v, .pointer pl, .pointer pr, .int .i64 h, .int .i64 s, .int .i64 b]

/-- The tree that a pointer leads to. -/
def IsTree (w : World) : Option Addr → T → Prop
  | p, .nil => p = none
  | p, .node l n v r => ∃ (b : Nat) (pl pr : Option Addr), p = some ⟨b, 0, none⟩ ∧ Blk w b 136 (nodeCells n v pl pr (T.node l n v r).h (T.node l n v r).size (T.node l n v r).bytes) ∧ IsTree w pl l ∧ IsTree w pr r
theorem IsTree.below {w w' : World} (hb : Below w.heap.size w w') : ∀ {t : T} {p : Option Addr}, IsTree w p t → IsTree w' p t
  | .nil, _, h => h
  | .node _ _ _ _, _, ⟨b, pl, pr, hp, hk, hl, hr⟩ => ⟨b, pl, pr, hp, hk.below hb hk.lt, IsTree.below hb hl, IsTree.below hb hr⟩
theorem IsTree.nil_iff {w : World} {p : Option Addr} {t : T} (h : IsTree w p t) : p = none ↔ t = .nil := by
  cases t with
  | nil => exact ⟨fun _ => rfl, fun _ => h⟩
  | node l n v r =>
    obtain ⟨b, pl, pr, rfl, _⟩ := h
    exact ⟨fun e => (nomatch e), fun e => (nomatch e)⟩
end Go.Proofs.YtfgecaphhdedcaaGreatDoor
