/-
  LAYER 3, WALKED: lineage.parse, Valid, Ordinals.
-/
import Derived.Test.YtfdbanhbegngoaaGreatDoorLinW
namespace Go.Proofs.YtfdbanhbegngoaaGreatDoor
open Go.RowKit Go.Shelf

attribute [local go_sem] Oper.semAt_some

theorem blk_own (g : Nat) (t : TypeId) (cs : Array Value) : Own (fun (_ : Unit) W => Blk W g t cs) := fun _ W W' row h hg hr =>
  h.grown hg (fun e => by obtain ⟨o, ho, hc⟩ := hr g e.symm; rw [show W.heap[g]? = _ from h] at ho; cases ho; cases hc)

theorem parts_stops (hAt : AtoiOk) (n : Nat) (hn : 1 ≤ n) (s : ByteArray) (hs : s.size ≤ maxLen) (Bn : Nat) (w : World) (hB : Blk w Bn 9 #[.string s]) :
    SeqStopsK Fence.wide n Tryz.prog 110 #[.pointer (some ⟨Bn, 0, none⟩)] (fun p : M.Part => #[partV p]) KpL (fun ys => ys = M.parts s.data.toList) (fun pre => pre <+: M.parts s.data.toList) 10 w :=
  fun l J Jx W hW hJ _ hY h0 => parts1_in hAt n hn l Bn s hs J Jx (fun pre W W' h hb => hJ pre W W' none h ⟨hb.os, hb.tape, hb.output, hb.size, fun k hk _ => hb.block k hk⟩ (fun r e => by cases e)) hY W (hB.below hW hB.lt) h0

theorem kpL_putObj (B : Nat) (W : World) (l : Nat) (o o' : Obj) (_ : B ≤ l) (hl : W.heap[l]? = some o) (ho : o.isCells = false) (_ : o.isWalk = false) : KpL W (W.putObj l o') := fun k _ _ _ _ hk => by
  rw [World.putObj_heap_other]
  · exact hk
  · rintro rfl; rw [hk] at hl; cases hl; cases ho

theorem KpL.alloc (W : World) (o : Obj) : KpL W (W.alloc o) := fun k _ _ _ _ hk => (Below.heap_alloc W o k (Array.getElem?_eq_some_iff.1 hk).1).trans hk

theorem KpL.appended {W w1 : World} {n₀ B k : Nat} {v v' : Value} {xs : List Value} {tmp : Obj} (hrow : W.ownsRow n₀ 3 1 v k xs) (hgrow : (W.alloc tmp).grownBy w1 v.ownBlock)
    (hv : Boxed w1 B 142 v) : KpL W (w1.setCell ⟨B, 0, none⟩ v') := fun j cs t fz ht hj => by
  have h1 := KpL.alloc W tmp j cs t fz ht hj
  have hne : some j ≠ v.ownBlock := by
    rcases hrow.2 with ⟨rfl, _⟩ | ⟨g, cap, cur, rfl, _, hh, _⟩
    · simp [Value.ownBlock]
    · intro e
      have e' : j = g := by simpa [Value.ownBlock] using e
      subst e'
      rw [hj] at hh
      cases hh
      rcases ht with h | h <;> exact absurd h (by decide)
  have h2 := (hgrow.block j (Array.getElem?_eq_some_iff.1 h1).1 hne).trans h1
  refine (Below.heap_setCell w1 _ _ j ?_).trans h2
  intro e
  change j = B at e
  subst e
  rw [show w1.heap[j]? = _ from hv] at h2
  cases h2
  rcases ht with h | h <;> exact absurd h (by decide)

/-- 'out = append(out, ..)' where out lies in a box: what holds behind the store. -/
theorem appended2 {W w1 : World} {m n₀ B : Nat} {t e : TypeId} {size : Nat} {v v' : Value} {k k' : Nat} {xs ys : List Value} {tmp : Obj}
    (hv : Boxed W B t v) (hte : t ≠ e) (hrow : W.ownsRow n₀ e size v k xs) (hmn : m ≤ n₀) (hmW : m ≤ W.heap.size) (hB : m ≤ B)
    (hown' : w1.ownsRow n₀ e size v' k' ys) (hgrow : (W.alloc tmp).grownBy w1 v.ownBlock) :
    Boxed w1 B t v ∧ Boxed (w1.setCell ⟨B, 0, none⟩ v') B t v' ∧ (w1.setCell ⟨B, 0, none⟩ v').ownsRow n₀ e size v' k' ys ∧ KeepsOthers W (w1.setCell ⟨B, 0, none⟩ v') ∧ Below m W (w1.setCell ⟨B, 0, none⟩ v') := by
  have hv1 : Boxed w1 B t v := (hv.alloc tmp).kept hgrow (hv.not_row hte hrow)
  refine ⟨hv1, hv1.set v', hown'.kept (grownBy_setCell' w1 B v') (.inr (hv1.not_row hte hown').symm), ?_, ?_⟩
  · refine ((KeepsOthers.alloc W tmp).trans (KeepsOthers.of_grownBy hgrow fun j o ej hj => ?_)).trans (KeepsOthers.setCell _ _ _)
    rcases (hrow.alloc tmp).2 with ⟨rfl, _⟩ | ⟨g, cap, cur, rfl, _, hgb, _⟩
    · simp [Value.ownBlock] at ej
    · obtain rfl : g = j := by simpa [Value.ownBlock] using ej
      rw [hgb] at hj; cases hj; rfl
  · exact (((Below.refl m W).alloc hmW tmp).grown hgrow (by simp; omega) fun j ej => Nat.le_trans hmn (hrow.lt j ej).1).setCell (p := ⟨B, 0, none⟩) hB v'

theorem cell_putObj {W : World} {l : Nat} {o o' : Obj} {a : Addr} {v : Value} (h : W.cell? a = some v) (hl : W.heap[l]? = some o) (ho : o.isCells = false) : (W.putObj l o').cell? a = some v :=
  cell_kept h (grownBy_putObj' W l o') (fun r e => by cases e; exact ⟨_, hl, ho⟩)

/-- All parts are good. -/
def allOk (pre : List M.Part) : Prop := ∀ p ∈ pre, p.e = 0
def ordsOf (pre : List M.Part) : List Int := pre.map (·.ord)
theorem collect_ok : ∀ (pre : List M.Part) (acc : List Int), allOk pre → M.collect pre acc = (acc ++ ordsOf pre, 0, 0)
  | [], acc, _ => by simp [M.collect, ordsOf]
  | p :: r, acc, h => by
    have h1 : p.e = 0 := h p (by simp)
    rw [M.collect, if_neg (by simp [h1]), collect_ok r _ (fun q hq => h q (by simp [hq]))]
    simp [ordsOf]
theorem collect_err : ∀ (pre : List M.Part) (acc : List Int) (p : M.Part) (r : List M.Part), allOk pre → p.e ≠ 0 → M.collect (pre ++ p :: r) acc = ([], p.at_, p.e)
  | [], acc, p, r, _, h => by simp [M.collect, h]
  | q :: l, acc, p, r, hl, h => by
    have h1 : q.e = 0 := hl q (by simp)
    rw [List.cons_append, M.collect, if_neg (by simp [h1])]
    exact collect_err l _ p r (fun q hq => hl q (by simp [hq])) h

set_option maxRecDepth 100000 in
set_option maxHeartbeats 2000000 in
theorem parse_in (hAt : AtoiOk) (n : Nat) (hn : 3 ≤ n) (s : ByteArray) (hs : s.size ≤ maxLen) (w : World) :
    CallsIn Fence.wide n Tryz.prog 91 #[.string s] w fun e W' => ∃ v, e = .returned (.tuple #[v, .int .i64 (M.parse s.data.toList).2.1, .int .i64 (M.parse s.data.toList).2.2]) ∧
      W'.ownsRow w.heap.size 3 1 v (M.ords s.data.toList).length ((M.ords s.data.toList).map i64v) ∧ Below w.heap.size w W' := by
  have h1 : 1 ≤ n := by omega
  obtain ⟨i0, hi, hz0, hz1, hz2⟩ := info_parts Tryz.info_int
  refine callsIn_of_wp_marks Tryz.func91 rfl trivial ?_ rfl
  simp only [Tryz.ntmps91, List.size_toArray, List.length_cons, List.length_nil, Nat.reduceAdd, Nat.reduceSub, Array.replicate_succ, Array.replicate_zero, List.push_toArray, List.append_toArray, List.nil_append, List.cons_append]
  gi_wp2_with (refine ⟨trivial, ?_⟩; gi_at_call 108; refine (parts_in s (n - 1) _).mono ?_; rintro e w' ⟨rfl, rfl⟩)
  obtain ⟨W0, hW0⟩ : ∃ W0, ((((w.alloc (.cells #[.slice none 0 0] 142)).alloc (.cells #[.int .i64 0] 3)).alloc (.cells #[.int .i64 0] 25)).alloc (.cells #[.slice none 0 0] 142)).alloc (.cells #[.string s] 9) = W0 := ⟨_, rfl⟩
  have b0 : Boxed W0 w.heap.size 142 (.slice none 0 0) := by rw [← hW0]; exact ((((Boxed.new w _ _).alloc _).alloc _).alloc _).alloc _
  have b1 : Boxed W0 (w.heap.size + 1) 3 (.int .i64 0) := by
    rw [← hW0]; have := ((Boxed.new (w.alloc (.cells #[.slice none 0 0] 142)) 3 (.int .i64 0)).alloc (.cells #[.int .i64 0] 25)).alloc (.cells #[.slice none 0 0] 142)
    simp only [World.size_alloc] at this; exact this.alloc _
  have b2 : Boxed W0 (w.heap.size + 1 + 1) 25 (.int .i64 0) := by
    rw [← hW0]; have := (Boxed.new ((w.alloc (.cells #[.slice none 0 0] 142)).alloc (.cells #[.int .i64 0] 3)) 25 (.int .i64 0)).alloc (.cells #[.slice none 0 0] 142)
    simp only [World.size_alloc] at this; exact this.alloc _
  have b3 : Boxed W0 (w.heap.size + 1 + 1 + 1) 142 (.slice none 0 0) := by
    rw [← hW0]; have := Boxed.new (((w.alloc (.cells #[.slice none 0 0] 142)).alloc (.cells #[.int .i64 0] 3)).alloc (.cells #[.int .i64 0] 25)) 142 (.slice none 0 0)
    simp only [World.size_alloc] at this; exact this.alloc _
  have b4 : Boxed W0 (w.heap.size + 1 + 1 + 1 + 1) 9 (.string s) := by
    rw [← hW0]; have := Boxed.new ((((w.alloc (.cells #[.slice none 0 0] 142)).alloc (.cells #[.int .i64 0] 3)).alloc (.cells #[.int .i64 0] 25)).alloc (.cells #[.slice none 0 0] 142)) 9 (.string s)
    simp only [World.size_alloc] at this; exact this
  have hB0 : Below w.heap.size w W0 := by
    rw [← hW0]; exact (((((Below.refl _ w).alloc (Nat.le_refl _) _).alloc (by simp) _).alloc (by simp; omega) _).alloc (by simp; omega) _).alloc (by simp; omega) _
  have hsz : W0.heap.size = w.heap.size + 5 := by rw [← hW0]; simp
  rw [hW0]
  clear hW0
  refine wpIn_rangeFunc_ownH rfl h1 (gf := 110) (lb := #[.pointer (some ⟨w.heap.size + 1 + 1 + 1 + 1, 0, none⟩)]) rfl trivial (enters_of Tryz.func110 (by kernel_rfl) rfl)
    (parts_stops hAt (n - 1) (by omega) s hs (w.heap.size + 1 + 1 + 1 + 1) W0 b4) (fun h k => h.trans k) (kpL_putObj _) (Below.refl _ _) (fun _ => rfl)
    (fun pre W => (((∃ v, Boxed W (w.heap.size + 1 + 1 + 1) 142 v ∧ W.ownsRow (w.heap.size + 5) 3 1 v (ordsOf pre).length ((ordsOf pre).map i64v) ∧ allOk pre) ∧
        (Boxed W w.heap.size 142 (.slice none 0 0) ∧ Boxed W (w.heap.size + 1) 3 (.int .i64 0) ∧ Boxed W (w.heap.size + 1 + 1) 25 (.int .i64 0))) ∧ Below w.heap.size w W) ∧ w.heap.size + 5 ≤ W.heap.size)
    (fun c pre W => (c = .ret ∧ ∃ (l : List M.Part) (p : M.Part), pre = l ++ [p] ∧ allOk l ∧ p.e ≠ 0 ∧ Boxed W w.heap.size 142 (.slice none 0 0) ∧ Boxed W (w.heap.size + 1) 3 (.int .i64 p.at_) ∧ Boxed W (w.heap.size + 1 + 1) 25 (.int .i64 p.e)) ∧ Below w.heap.size w W)
    ?hI ?hIx ?h0
    (fun p a' W => ∃ Bx, w.heap.size ≤ Bx ∧ Blk W Bx 166 #[.int .i64 p.ord, .int .i64 p.at_, .int .i64 p.e] ∧
      a' = { tmps := #[.string s, undef, .pointer (some ⟨w.heap.size, 0, none⟩), .pointer (some ⟨w.heap.size + 1, 0, none⟩), .pointer (some ⟨w.heap.size + 1 + 1, 0, none⟩), .pointer (some ⟨w.heap.size + 1 + 1 + 1, 0, none⟩), .pointer (some ⟨Bx, 0, none⟩), .string s, .func (.func 110) #[] #[.pointer (some ⟨w.heap.size + 1 + 1 + 1 + 1, 0, none⟩)], partV p, undef, undef, undef, undef, undef, undef, undef, undef, undef, undef, undef, undef, undef], defers := [] })
    ?hAx ?assign ?body ?done ?stop
  case hI =>
    refine OwnFrom.and (OwnFrom.and (OwnFrom.and (Own.from (holdsRow_own (w.heap.size + 5) (w.heap.size + 1 + 1 + 1) 142 3 1 (fun pre => (ordsOf pre).length) (fun pre => (ordsOf pre).map i64v) (fun pre _ => allOk pre)) _) ?_) (ownFrom_below (Nat.le_refl _) (by omega))) (fun s A B row hs hg _ => Nat.le_trans hs hg.size)
    exact Own.from (fun s A B row hs hg hr => ⟨boxed_own _ _ (fun (_ : Unit) => _) () A B row hs.1 hg hr, boxed_own _ _ (fun (_ : Unit) => _) () A B row hs.2.1 hg hr, boxed_own _ _ (fun (_ : Unit) => _) () A B row hs.2.2 hg hr⟩) _
  case hIx =>
    intro c
    refine OwnFrom.and ?_ (ownFrom_below (Nat.le_refl _) (by omega))
    refine Own.from ?_ _
    rintro s A B row ⟨rfl, l, p, rfl, hl, hp, c0, c1, c2⟩ hg hr
    exact ⟨rfl, l, p, rfl, hl, hp, boxed_own _ _ (fun (_ : Unit) => _) () A B row c0 hg hr, boxed_own _ _ (fun (_ : Unit) => _) () A B row c1 hg hr, boxed_own _ _ (fun (_ : Unit) => _) () A B row c2 hg hr⟩
  case h0 => exact ⟨⟨⟨⟨_, b3, World.ownsRow_nil _ _ _ _, fun p hp => by cases hp⟩, b0, b1, b2⟩, hB0⟩, by omega⟩
  case hAx =>
    rintro p a' _ X Y row ⟨Bx, h1, h2, h3⟩ hg hr
    exact ⟨Bx, h1, blk_own Bx _ _ () X Y row h2 hg (fun r e => (hr r e).2), h3⟩
  case assign =>
    rintro l pre x W K ⟨⟨⟨⟨v, bv, hrow, hok⟩, c0, c1, c2⟩, hB⟩, h5⟩ hK
    simp only [partV]
    gi_wp2
    exact hK _ _ ((KeepsOthers.alloc _ _).from _) (KpL.alloc _ _) ⟨⟨⟨⟨v, bv.alloc _, hrow.alloc _, hok⟩, c0.alloc _, c1.alloc _, c2.alloc _⟩, hB.alloc hB.size _⟩, by simp; omega⟩ ⟨W.heap.size, hB.size, Blk.new W _ _, rfl⟩
  case body =>
    rintro l pre x a' W _ _ ⟨⟨⟨⟨v, bv, hrow, hok⟩, c0, c1, c2⟩, hB⟩, h5⟩ ⟨Bx, hBx, bX, rfl⟩ hlt
    have cX0 : W.cell? ⟨Bx, 0, none⟩ = some (.int .i64 x.ord) := bX.cell 0
    have cX1 : W.cell? ⟨Bx, 1, none⟩ = some (.int .i64 x.at_) := bX.cell 1
    have cX2 : W.cell? ⟨Bx, 2, none⟩ = some (.int .i64 x.e) := bX.cell 2
    by_cases hx : x.e = 0
    · have hxb : (x.e != 0) = false := by simp [hx]
      have hX := hid hx; clear hx
      have hc := bv.cell
      have hol : (ordsOf pre).length < 10 := by simp [ordsOf]; omega
      gi_wp2_with (gi_at_builtin; refine wpListIn_append_own _ rfl _ _ 142 rfl (w.heap.size + 5) 3 i0 (.int .i64 0) 1 8 Tryz.underlying142 hi hz0 hz1 hz2 rfl (by decide) _ _ _ rfl (hrow.alloc _) ⟨W.heap.size, 0, none⟩ 1 1 [.int .i64 x.ord] rfl rfl (cell_one_new _ _ _) (by simp [Value.oneCell']) (by unfold maxLen; omega) (by omega) (by simp; omega) ?_; intro v' w1 hown' hgrow _; obtain ⟨g', cap', rfl⟩ := ownsRow_succ hown'; obtain ⟨hv1, hv2, hr2, hk2, hb2⟩ := appended2 (m := w.heap.size) bv (by decide) hrow (by omega) hB.size (by omega) hown' hgrow; have hc1 := hv1.cell; have hf1 := hv1.frozen)
      have hne := c0.not_row (t := 142) (e := 3) (by decide) hrow
      refine ⟨hk2.from _, KpL.appended hrow hgrow hv1, ⟨⟨⟨⟨_, hv2, ?_, ?_⟩, ((c0.alloc _).kept hgrow hne).other (by omega) _, ?_, ?_⟩, hB.trans hb2⟩, Nat.le_trans h5 hk2.size⟩⟩
      · simpa [ordsOf, i64v] using hr2
      · intro p hp
        rcases List.mem_append.1 hp with hp | hp
        · exact hok p hp
        · rw [List.mem_singleton.1 hp]; exact hX.out
      · exact ((c1.alloc _).kept hgrow (fun e => by have := (hrow.lt _ e.symm).1; omega)).other (by omega) _
      · exact ((c2.alloc _).kept hgrow (c2.not_row (by decide) hrow)).other (by omega) _
    · have hxb : (x.e != 0) = true := by simp [hx]
      have hX := hid hx; clear hx
      have e0 := bX.ne_ (t' := 142) c0 (by decide)
      have e1 := bX.ne_ (t' := 3) c1 (by decide)
      have e2 := bX.ne_ (t' := 25) c2 (by decide)
      have e0' := e0.symm
      have e1' := e1.symm
      have e2' := e2.symm
      have d0 := c0.cell
      have d1 := c1.cell
      have d2 := c2.cell
      have f0 := c0.frozen
      have f1 := c1.frozen
      have f2 := c2.frozen
      have k0 : Boxed (((W.setCell ⟨w.heap.size, 0, none⟩ (.slice none 0 0)).setCell ⟨w.heap.size + 1, 0, none⟩ (.int .i64 x.at_)).setCell ⟨w.heap.size + 1 + 1, 0, none⟩ (.int .i64 x.e)).drew w.heap.size 142 (.slice none 0 0) := ((c0.set _).other (by omega) _).other (by omega) _
      have k1 : Boxed (((W.setCell ⟨w.heap.size, 0, none⟩ (.slice none 0 0)).setCell ⟨w.heap.size + 1, 0, none⟩ (.int .i64 x.at_)).setCell ⟨w.heap.size + 1 + 1, 0, none⟩ (.int .i64 x.e)).drew (w.heap.size + 1) 3 (.int .i64 x.at_) := ((c1.other (by omega) _).set _).other (by omega) _
      have k2 : Boxed (((W.setCell ⟨w.heap.size, 0, none⟩ (.slice none 0 0)).setCell ⟨w.heap.size + 1, 0, none⟩ (.int .i64 x.at_)).setCell ⟨w.heap.size + 1 + 1, 0, none⟩ (.int .i64 x.e)).drew (w.heap.size + 1 + 1) 25 (.int .i64 x.e) := (((c2.other (by omega) _).other (by omega) _).set _)
      have k3 : Below w.heap.size w (((W.setCell ⟨w.heap.size, 0, none⟩ (.slice none 0 0)).setCell ⟨w.heap.size + 1, 0, none⟩ (.int .i64 x.at_)).setCell ⟨w.heap.size + 1 + 1, 0, none⟩ (.int .i64 x.e)).drew :=
        (((hB.setCell (p := ⟨w.heap.size, 0, none⟩) (Nat.le_refl _) _).setCell (p := ⟨w.heap.size + 1, 0, none⟩) (by simp) _).setCell (p := ⟨w.heap.size + 1 + 1, 0, none⟩) (by simp; omega) _).drew
      have k4 : KeepsOthers W (((W.setCell ⟨w.heap.size, 0, none⟩ (.slice none 0 0)).setCell ⟨w.heap.size + 1, 0, none⟩ (.int .i64 x.at_)).setCell ⟨w.heap.size + 1 + 1, 0, none⟩ (.int .i64 x.e)).drew :=
        (((KeepsOthers.setCell _ _ _).trans (KeepsOthers.setCell _ _ _)).trans (KeepsOthers.setCell _ _ _)).trans (KeepsOthers.drew _)
      have hm : Tryz.prog.follows .mixedOrders = true := by kernel_rfl
      have K0 := hid k0; have K1 := hid k1; have K2 := hid k2; have K3 := hid k3; have K4 := hid k4
      clear k0 k1 k2 k3 k4
      gi_wp2
      gi_region_with_o (fail)
      all_goals gi_wp2
      all_goals exact ⟨K4.out.from _, ⟨rfl, pre, x, rfl, hok, hX.out, K0.out, K1.out, K2.out⟩, K3.out⟩
  case done =>
    rintro D ys W hD rfl ⟨⟨⟨⟨v, bv, hrow, hok⟩, c0, c1, c2⟩, hB⟩, h5⟩ hK
    have hp : M.parse s.data.toList = (ordsOf (M.parts s.data.toList), 0, 0) := by rw [M.parse, collect_ok _ _ hok]; simp
    have HP := hid hp; clear hp
    obtain ⟨A, cap, rfl, -⟩ := Sl.of_own hrow
    have hc := bv.cell
    have d0 := c0.cell
    have d1 := c1.cell
    have d2 := c2.cell
    have f0 := c0.frozen
    have f1 := c1.frozen
    have f2 := c2.frozen
    have q0 : Boxed (((W.setCell ⟨w.heap.size, 0, none⟩ (.slice A (ordsOf (M.parts s.data.toList)).length cap)).setCell ⟨w.heap.size + 1, 0, none⟩ (.int .i64 0)).setCell ⟨w.heap.size + 1 + 1, 0, none⟩ (.int .i64 0)) w.heap.size 142 (.slice A (ordsOf (M.parts s.data.toList)).length cap) := ((c0.set _).other (by omega) _).other (by omega) _
    have q1 : Boxed (((W.setCell ⟨w.heap.size, 0, none⟩ (.slice A (ordsOf (M.parts s.data.toList)).length cap)).setCell ⟨w.heap.size + 1, 0, none⟩ (.int .i64 0)).setCell ⟨w.heap.size + 1 + 1, 0, none⟩ (.int .i64 0)) (w.heap.size + 1) 3 (.int .i64 0) := ((c1.other (by omega) _).set _).other (by omega) _
    have q2 : Boxed (((W.setCell ⟨w.heap.size, 0, none⟩ (.slice A (ordsOf (M.parts s.data.toList)).length cap)).setCell ⟨w.heap.size + 1, 0, none⟩ (.int .i64 0)).setCell ⟨w.heap.size + 1 + 1, 0, none⟩ (.int .i64 0)) (w.heap.size + 1 + 1) 25 (.int .i64 0) := ((c2.other (by omega) _).other (by omega) _).set _
    have q3 : Below w.heap.size w (((W.setCell ⟨w.heap.size, 0, none⟩ (.slice A (ordsOf (M.parts s.data.toList)).length cap)).setCell ⟨w.heap.size + 1, 0, none⟩ (.int .i64 0)).setCell ⟨w.heap.size + 1 + 1, 0, none⟩ (.int .i64 0)) :=
      ((hB.setCell (p := ⟨w.heap.size, 0, none⟩) (Nat.le_refl _) _).setCell (p := ⟨w.heap.size + 1, 0, none⟩) (by simp) _).setCell (p := ⟨w.heap.size + 1 + 1, 0, none⟩) (by simp; omega) _
    have q4 : (((W.setCell ⟨w.heap.size, 0, none⟩ (.slice A (ordsOf (M.parts s.data.toList)).length cap)).setCell ⟨w.heap.size + 1, 0, none⟩ (.int .i64 0)).setCell ⟨w.heap.size + 1 + 1, 0, none⟩ (.int .i64 0)).heap[D]? = some (.deferred (some [])) :=
      (((KeepsOthers.setCell _ _ _).trans (KeepsOthers.setCell _ _ _)).trans (KeepsOthers.setCell _ _ _)).same D _ hK rfl
    have q5 : (((W.setCell ⟨w.heap.size, 0, none⟩ (.slice A (ordsOf (M.parts s.data.toList)).length cap)).setCell ⟨w.heap.size + 1, 0, none⟩ (.int .i64 0)).setCell ⟨w.heap.size + 1 + 1, 0, none⟩ (.int .i64 0)).ownsRow w.heap.size 3 1 (.slice A (ordsOf (M.parts s.data.toList)).length cap) (ordsOf (M.parts s.data.toList)).length ((ordsOf (M.parts s.data.toList)).map i64v) :=
      (((hrow.kept (grownBy_setCell' _ _ _) (.inr fun e => by have := (hrow.lt _ e).1; omega)).kept (grownBy_setCell' _ _ _) (.inr fun e => by have := (hrow.lt _ e).1; omega)).kept (grownBy_setCell' _ _ _) (.inr fun e => by have := (hrow.lt _ e).1; omega)).lower (by omega)
    have Q0 := hid q0; have Q1 := hid q1; have Q2 := hid q2; have Q3 := hid q3; have Q4 := hid q4; have Q5 := hid q5
    clear q0 q1 q2 q3 q4 q5
    gi_wp2
    refine ⟨by simp, .inl ⟨_, _, rfl, run_takeDeferred Q4.out, ?_⟩⟩
    have z0 := cell_putObj (o' := .deferred none) Q0.out.cell Q4.out rfl
    have z1 := cell_putObj (o' := .deferred none) Q1.out.cell Q4.out rfl
    have z2 := cell_putObj (o' := .deferred none) Q2.out.cell Q4.out rfl
    refine ⟨.tuple #[.slice A (ordsOf (M.parts s.data.toList)).length cap, .int .i64 0, .int .i64 0], by simp [results, Tryz.results91, go_sem, z0, z1, z2], _, by rw [HP.out], ?_, ?_⟩
    · rw [show M.ords s.data.toList = ordsOf (M.parts s.data.toList) from by rw [M.ords, HP.out]]
      exact ownsRow_putObj Q5.out _ Q4.out rfl
    · exact Q3.out.trans (belowK_b (w := w) (Nat.le_refl _) _ D _ _ (by omega) Q4.out rfl rfl)
  case stop =>
    rintro D c pre W hD hpre ⟨⟨rfl, l, p, rfl, hl, hp, c0, c1, c2⟩, hB⟩ hK
    gi_wp2
    refine ⟨by simp, .inl ⟨_, _, rfl, run_takeDeferred hK, ?_⟩⟩
    have z0 := cell_putObj (o' := .deferred none) c0.cell hK rfl
    have z1 := cell_putObj (o' := .deferred none) c1.cell hK rfl
    have z2 := cell_putObj (o' := .deferred none) c2.cell hK rfl
    obtain ⟨rest, hrest⟩ := hpre
    have hpp : M.parse s.data.toList = ([], p.at_, p.e) := by
      rw [M.parse, ← hrest, List.append_assoc]; exact collect_err l [] p rest hl hp
    refine ⟨.tuple #[.slice none 0 0, .int .i64 p.at_, .int .i64 p.e], by simp [results, Tryz.results91, go_sem, z0, z1, z2], _, by rw [hpp], ?_, ?_⟩
    · rw [show M.ords s.data.toList = [] from by rw [M.ords, hpp]]
      exact World.ownsRow_nil _ _ _ _
    · exact hB.trans (belowK_b (w := w) (Nat.le_refl _) _ D _ _ (by omega) hK rfl rfl)
end Go.Proofs.YtfdbanhbegngoaaGreatDoor
