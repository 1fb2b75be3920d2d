/-
  LAYER 5, WALKED: names, Names.
-/
import Derived.Test.YtfdbanhbegngoaaGreatDoorWalk
namespace Go.Proofs.YtfdbanhbegngoaaGreatDoor
open Go.RowKit Go.Shelf

attribute [local go_sem] Oper.semAt_some

theorem treeOf_at (p : Option Addr) (t : T) (w : World) (h : StT w p t) : ∃ r, IsTree w r t ∧ ∀ w', Below w.heap.size w w' → Calls Tryz.prog 40 #[.pointer p] w' fun e w2 => e = .returned (.pointer r) ∧ w' = w2 := by
  rcases h with ⟨rfl, rfl⟩ | ⟨s, r, rfl, hk, ht⟩
  · refine ⟨none, rfl, fun w' _ => ?_⟩
    go_enter Tryz.func40, Tryz.ntmps40
    go_wp2
    go_ret
    exact ⟨rfl, rfl⟩
  · refine ⟨r, ht, fun w' hb => ?_⟩
    have c0 : w'.cell? ⟨s, 0, none⟩ = some (.pointer r) := (hk.below hb hk.lt).cell 0
    clear hk ht hb
    go_enter Tryz.func40, Tryz.ntmps40
    go_wp2
    go_ret
    exact ⟨rfl, rfl⟩
theorem Tryz.info_name : (Tryz.prog.info? 38).map (fun i => (i.zero, i.size, i.bytes)) = some (some (.agg #[.int .i64 0, .string ⟨#[]⟩, .int .i64 0, .int .i64 0, .string ⟨#[]⟩]), 5, 56) := by kernel_rfl

theorem keepsOthers_below {W W1 : World} (hb : Below W.heap.size W W1) : KeepsOthers W W1 := ⟨hb.size, fun k _ hk _ => (hb.block k (Array.getElem?_eq_some_iff.1 hk).1).trans hk⟩
theorem ownsRow_below {W W1 : World} {base : Nat} {e : TypeId} {size k : Nat} {v : Value} {xs : List Value} (h : W.ownsRow base e size v k xs) (hb : Below W.heap.size W W1) : W1.ownsRow base e size v k xs := by
  obtain ⟨h1, h2⟩ := h
  refine ⟨h1, h2.imp_right ?_⟩
  rintro ⟨g, cap, cur, hv, hg, hh, r⟩
  exact ⟨g, cap, cur, hv, hg, (hb.block g (Array.getElem?_eq_some_iff.1 hh).1).trans hh, r⟩
theorem cells_new (w : World) (cs : Array Value) (t : TypeId) : ∀ j u, cs.toList[j]? = some u → (w.alloc (.cells cs t)).cell? ((⟨w.heap.size, 0, none⟩ : Addr).add j) = some u := by
  intro j u hu
  have := (Blk.new w t cs).cell j
  rw [← Array.getElem?_toList, hu] at this
  have e : ((⟨w.heap.size, 0, none⟩ : Addr).add j) = ⟨w.heap.size, j, none⟩ := by
    simp only [Addr.add]; split <;> simp_all
  rw [e]; exact this

/-- An append at a step of a region that draws its order, inside a round. -/
theorem stepIn_append_own {F : Fence} {n : Nat} {P : Program} (w : World) {ops : Array Oper} {o : Oper} {a : Act} {Q : Exit → Act → World → Prop} {K : Act → World → Prop} {X : Prop}
    (hg : o.guard = none) (s x : Operand) (t : TypeId) (hop : o.op = Op.call { callee := Callee.builtin Builtin.append, args := #[s, x], argTypes := #[t, t] })
    (base : Nat) (e : TypeId) (i : TypeInfo) (z : Value) (size bytes : Nat) (h1 : P.underlying t = some (.slice e)) (h2 : P.info? e = some i) (h3 : i.zero = some z) (h4 : i.size = size) (h5 : i.bytes = bytes) (h6 : z.cells.size = size) (h7 : 0 < size)
    (v : Value) (k : Nat) (xs : List Value) (hs : a.eval s = v) (hown : w.ownsRow base e size v k xs) (ad : Addr) (m c : Nat) (news : List Value) (hx : a.eval x = .slice (some ad) m c) (hn : news.length = m * size)
    (hc : ∀ j u, news[j]? = some u → w.cell? (ad.add j) = some u) (h1c : ∀ u ∈ news, u.oneCell' = true) (b1 : k + m ≤ maxLen) (b2 : (k + m) * bytes ≤ 140737488355328) (b3 : base ≤ w.heap.size)
    (hK : ∀ v' w', w'.ownsRow base e size v' (k + m) (xs ++ news) → w.grownBy w' v.ownBlock → (v' = .slice none 0 0 ↔ v = .slice none 0 0 ∧ m = 0) → K (a.put o.dst v') w') :
    if Region.wanted o (yielded ops a.tmps) = true then Oper.wpIn F n P o a w K Q else X := by
  rw [if_pos (by simp [Region.wanted, hg])]
  obtain ⟨v', w', hrun, r1, r2, r3⟩ := run_append_own (P := P) w base t o.type e i z size bytes h1 h2 h3 h4 h5 h6 h7 v k xs hown ad m c news hn hc h1c b1 b2 b3
  unfold Oper.wpIn
  refine ⟨?_, ?_⟩
  · simp [Oper.about, hop, resolve, Target.leads, Sem.run_pure]
  · rw [Oper.semAt_plain F _ _ (by rw [hop]; intro c hc'; cases hc')]
    simp [execOp, hop, resolve, invoke, builtin, hs, hx, hrun, Result.andThen]
    exact hK v' w' r1 r2 r3

set_option maxHeartbeats 1000000 in
theorem names1_any (n : Nm) (w : World) : Calls Tryz.prog 67 #[nmV n] w fun e w' => e = .returned (.bool true) ∧ Below w.heap.size w w' := by
  unfold nmV
  go_enter Tryz.func67, Tryz.ntmps67
  go_wp2_with fail
  go_ret
  exact ⟨rfl, (Below.refl _ _).alloc (Nat.le_refl _) _⟩
set_option maxRecDepth 100000 in
set_option maxHeartbeats 2000000 in
theorem names_in (n : Nat) (hn : 3 ≤ n) (p : Option Addr) (t : T) (w : World) (hs : StT w p t) (hz : t.size ≤ 1000000) :
    CallsIn Fence.wide n Tryz.prog 66 #[.pointer p, (.func (.func 67) #[] #[])] w fun e W' => ∃ v, e = .returned v ∧
      W'.ownsRow w.heap.size 38 5 v (t.toList.filter (fun x => (fun _ => true) x.1)).length ((t.toList.filter (fun x => (fun _ => true) x.1)).flatMap (fun x => nmCells x.1)) ∧ Below w.heap.size w W' := by
  have h1 : 1 ≤ n := by omega
  obtain ⟨r, hTw, hcall⟩ := treeOf_at p t w hs
  obtain ⟨i0, hi, hz0, hz1, hz2⟩ := info_parts Tryz.info_name
  refine callsIn_of_wp_marks Tryz.func66 rfl trivial ?_ rfl
  simp only [Tryz.ntmps66, List.size_toArray, List.length_cons, List.length_nil, Nat.reduceAdd, Nat.reduceSub, Array.replicate_succ, Array.replicate_zero, List.push_toArray, List.append_toArray, List.nil_append, List.cons_append]
  gi_wp2_with (first
    | (refine ⟨trivial, ?_⟩; gi_at_call 40; refine (callsIn_wide.2 (hcall _ ((((Below.refl _ w).alloc (Nat.le_refl _) _).alloc (by simp) _)))).mono ?_; rintro e w' ⟨rfl, rfl⟩)
    | (refine ⟨trivial, ?_⟩; gi_at_call 34; refine (all_in (n - 1) r _).mono ?_; rintro e w' ⟨rfl, rfl⟩))
  obtain ⟨W0, hW0⟩ : ∃ W0, ((w.alloc (.cells #[(.func (.func 67) #[] #[])] 122)).alloc (.cells #[.slice none 0 0] 69)).alloc (.cells #[.pointer r] 53) = W0 := ⟨_, rfl⟩
  have b0 : Boxed W0 w.heap.size 122 (.func (.func 67) #[] #[]) := by rw [← hW0]; exact ((Boxed.new w _ _).alloc _).alloc _
  have b1 : Boxed W0 (w.heap.size + 1) 69 (.slice none 0 0) := by
    rw [← hW0]; have := (Boxed.new (w.alloc (.cells #[(.func (.func 67) #[] #[])] 122)) 69 (.slice none 0 0)).alloc (.cells #[.pointer r] 53)
    simp only [World.size_alloc] at this; exact this
  have b2 : Boxed W0 (w.heap.size + 1 + 1) 53 (.pointer r) := by
    rw [← hW0]; have := Boxed.new ((w.alloc (.cells #[(.func (.func 67) #[] #[])] 122)).alloc (.cells #[.slice none 0 0] 69)) 53 (.pointer r)
    simp only [World.size_alloc] at this; exact this
  have hB0 : Below w.heap.size w W0 := by
    rw [← hW0]; exact (((Below.refl _ w).alloc (Nat.le_refl _) _).alloc (by simp) _).alloc (by simp; omega) _
  have hsz : W0.heap.size = w.heap.size + 3 := by rw [← hW0]; simp
  obtain ⟨xs, hI, hxs⟩ := hTw.nodes (Q := fun _ => True) (fun _ _ => trivial)
  rw [hW0]
  clear hW0 hcall
  have hlen : xs.length ≤ 1000000 := by
    have := congrArg List.length hxs
    rw [← T.size_eq, List.length_map] at this
    omega
  refine wpIn_rangeFunc_ownH rfl h1 (gf := 72) (lb := #[.pointer (some ⟨w.heap.size + 1 + 1, 0, none⟩)]) rfl trivial (enters_of Tryz.func72 (by kernel_rfl) rfl)
    (all_stops w (n - 1) (w.heap.size + 1 + 1) r t xs W0 (by omega) hB0 b2.cell hI) (fun h k => h.trans k) (belowK_b (by omega)) (Below.refl _ _) (fun _ => rfl)
    (fun pre W => (((∃ v, Boxed W (w.heap.size + 1) 69 v ∧ W.ownsRow (w.heap.size + 3) 38 5 v (pre.filter (fun x => (fun _ => true) x.1.2.1)).length ((pre.filter (fun x => (fun _ => true) x.1.2.1)).flatMap (fun x => nmCells x.1.2.1)) ∧ True) ∧ Boxed W w.heap.size 122 (.func (.func 67) #[] #[])) ∧ Below w.heap.size w W) ∧ w.heap.size + 3 ≤ W.heap.size)
    (fun _ _ _ => False)
    ?hI ?hIx ?h0
    (fun x a' _ => a' = { tmps := #[.pointer p, (.func (.func 67) #[] #[]), undef, .pointer (some ⟨w.heap.size, 0, none⟩), .slice none 0 0, .pointer (some ⟨w.heap.size + 1, 0, none⟩), nodeV x, .pointer p, .pointer r, .func (.func 72) #[] #[.pointer (some ⟨w.heap.size + 1 + 1, 0, none⟩)], nodeV x, undef, undef, undef, undef, undef, undef, undef, undef, undef, undef, undef, undef, undef, undef], defers := [] })
    ?hAx ?assign ?body ?done ?stop
  case hI =>
    refine OwnFrom.and (OwnFrom.and (Own.from ?_ _) (ownFrom_below (Nat.le_refl _) (by omega))) (fun s A B row hs hg _ => Nat.le_trans hs hg.size)
    rintro s A B row hs hg hr
    exact ⟨holdsRow_own (w.heap.size + 3) (w.heap.size + 1) 69 38 5 (fun pre : List (Node (fun _ => True) w) => (pre.filter (fun x => (fun _ => true) x.1.2.1)).length) (fun pre => (pre.filter (fun x => (fun _ => true) x.1.2.1)).flatMap (fun x => nmCells x.1.2.1)) (fun _ _ => True) s A B row hs.1 hg hr, boxed_own _ _ (fun (_ : Unit) => _) () A B row hs.2 hg hr⟩
  case hIx => intro c; exact fun s A B row hs _ _ => hs
  case h0 => exact ⟨⟨⟨⟨_, b1, World.ownsRow_nil _ _ _ _, trivial⟩, b0⟩, hB0⟩, by omega⟩
  case hAx => exact fun x a' s A B row hs _ _ => hs
  case assign =>
    rintro l pre x W K hi hK
    gi_wp2
    exact hK _ _ ((KeepsOthers.refl _).from _) (Below.refl _ _) hi rfl
  case body =>
    rintro l pre x a' W _ _ ⟨⟨⟨⟨v, bv, hrow, -⟩, c0⟩, hB⟩, h5⟩ rfl hlt
    have hnode := x.2
    have hnW : NodeAt (fun _ => True) W x.1 := by obtain ⟨⟨e1, e2, e3, e4, e5, e6⟩, _⟩ := hnode; exact ⟨⟨e1, e2, e3, e4, e5, e6.below hB e6.lt⟩, trivial⟩
    have hnv : nodeV x = .pointer (some ⟨x.1.1, 0, none⟩) := rfl
    rw [hnv]
    clear hnv
    have nbl : x.1.1 < w.heap.size := by obtain ⟨⟨e1, e2, e3, e4, e5, e6⟩, _⟩ := hnode; exact e6.lt
    obtain ⟨nb, hnb⟩ : ∃ b, b = x.1.1 := ⟨_, rfl⟩
    obtain ⟨nm, hnm⟩ : ∃ b, b = x.1.2.1 := ⟨_, rfl⟩
    have KK : ∀ w', Below W.heap.size W w' → w'.cell? ⟨nb, 0, none⟩ = some (.int .i64 nm.kind) ∧ w'.cell? ⟨nb, 1, none⟩ = some (.string nm.owner) ∧ w'.cell? ⟨nb, 2, none⟩ = some (.int .i64 nm.number) ∧ w'.cell? ⟨nb, 3, none⟩ = some (.int .i64 nm.index) ∧ w'.cell? ⟨nb, 4, none⟩ = some (.string nm.text) := by
      intro w' hb
      subst hnb hnm
      obtain ⟨⟨e1, e2, e3, e4, e5, e6⟩, -⟩ := hnW
      have k1 := e6.below hb e6.lt
      exact ⟨k1.cell 0, k1.cell 1, k1.cell 2, k1.cell 3, k1.cell 4⟩
    obtain ⟨q0, q1, q2, q3, q4⟩ := KK W (Below.refl _ _)
    have HNM := hid hnm
    rw [← hnb] at nbl ⊢
    clear hnm hnb hnode hnW
    have nbW : nb < W.heap.size := by omega
    have hBW : w.heap.size < W.heap.size := by omega
    have cb0 := c0.cell
    have h1' : 1 ≤ n - 1 - 1 := by omega
    have hm : Tryz.prog.follows .mixedOrders = true := by kernel_rfl
    have CT := hid (fun w' (hb : Below W.heap.size W w') => names1_any nm w')
    unfold nmV at CT
    have HB := hid (And.intro bv (And.intro hrow c0))
    have K := hid KK
    have HBel := hid hB
    clear KK bv hrow c0 hB hI b0 b1 b2 hB0 hTw hxs
    gi_upto_region 4 with fail
    gi_cut [16] from 11 (fun d wx => d = .bool (true) ∧ Below W.heap.size W wx)
    case first =>
      gi_region_with_o (first | (refine ⟨trivial, ?_⟩; gi_at_call 67; refine (CallsIn.inRound l (callsIn_wide.2 (CT.out _ ((Below.refl _ W).drew)))).mono ?_; rintro e w1 ⟨rfl, hb1⟩))
      all_goals
        gi_wp2
        gi_meet
        exact ⟨rfl, ((Below.refl _ W).drew).trans hb1⟩
    case rest =>
      obtain ⟨rfl, hb⟩ := hcut
      obtain ⟨bv, hrow, c0⟩ := HB.out
      have bvd : Boxed wc.drew (w.heap.size + 1) 69 v := (hb.block _ bv.lt).trans bv
      have c0d : Boxed wc.drew w.heap.size 122 (.func (.func 67) #[] #[]) := (hb.block _ c0.lt).trans c0
      have hrowd : wc.drew.ownsRow (w.heap.size + 3) 38 5 v (pre.filter (fun x => (fun _ => true) x.1.2.1)).length ((pre.filter (fun x => (fun _ => true) x.1.2.1)).flatMap (fun x => nmCells x.1.2.1)) := ownsRow_below hrow hb.drew
      have hW0 : KeepsOthers W wc.drew := (keepsOthers_below hb).trans (KeepsOthers.drew _)
      have hWB : Below w.heap.size W wc.drew := (hb.mono (by omega)).drew
      have hszc : W.heap.size ≤ wc.heap.size := hb.size
      have hpl : (pre.filter (fun x => (fun _ => true) x.1.2.1)).length ≤ 1000000 := Nat.le_trans (List.length_filter_le _ _) (by omega)
      obtain ⟨q0, q1, q2, q3, q4⟩ := K.out _ hb.drew
      have hcv := bvd.cell
      have hfv := bvd.frozen
      have hcv2 : (wc.alloc (.cells #[.int .i64 nm.kind, .string nm.owner, .int .i64 nm.number, .int .i64 nm.index, .string nm.text] 38)).cell? ⟨w.heap.size + 1, 0, none⟩ = some v := (bvd.alloc (.cells #[.int .i64 nm.kind, .string nm.owner, .int .i64 nm.number, .int .i64 nm.index, .string nm.text] 38)).cell
      have H2 := hid (And.intro bvd (And.intro hrowd (And.intro hW0 hWB)))
      have hca : ∀ j u, (nmCells nm)[j]? = some u → (wc.drew.alloc (.cells #[.int .i64 nm.kind, .string nm.owner, .int .i64 nm.number, .int .i64 nm.index, .string nm.text] 38)).cell? ((⟨wc.heap.size, 0, none⟩ : Addr).add j) = some u := cells_new wc.drew #[.int .i64 nm.kind, .string nm.owner, .int .i64 nm.number, .int .i64 nm.index, .string nm.text] 38
      have HCA := hid hca
      have cc0 : ∀ w1 v', (wc.drew.alloc (.cells #[.int .i64 nm.kind, .string nm.owner, .int .i64 nm.number, .int .i64 nm.index, .string nm.text] 38)).grownBy w1 v.ownBlock → Boxed w1 (w.heap.size + 1) 69 v → Boxed (w1.setCell ⟨w.heap.size + 1, 0, none⟩ v') w.heap.size 122 (.func (.func 67) #[] #[]) := fun w1 v' hg _ => ((c0d.alloc _).kept hg (c0d.not_row (by decide) hrowd)).other (by omega) _
      have C0 := hid cc0
      have C1 := hid (show Boxed wc w.heap.size 122 (.func (.func 67) #[] #[]) from c0d)
      clear cc0 c0d
      clear hca bv hrow c0 bvd hrowd hW0 hWB hb
      have hsel : ((fun _ => true) x.1.2.1) = true := rfl
      have HSEL := hid hsel
      clear hsel
      gi_upto_region 5 with fail
      refine (?X : ∀ Q : Exit → Act → World → Prop, (∀ a wx, (KeepsOthers wc.drew wx ∧ Below w.heap.size wc.drew wx ∧ Boxed wx w.heap.size 122 (.func (.func 67) #[] #[]) ∧ ∃ v', Boxed wx (w.heap.size + 1) 69 v' ∧ wx.ownsRow (w.heap.size + 3) 38 5 v' ((pre.filter (fun x => (fun _ => true) x.1.2.1)).length + 1) ((pre.filter (fun x => (fun _ => true) x.1.2.1)).flatMap (fun x => nmCells x.1.2.1) ++ nmCells nm)) → Q .normal a wx) → Code.wpIn _ _ _ _ Q _ _) _ ?Y
      case X =>
        intro Q hQ
        refine wpIn_region_any hm ?_
        change wpAnyIn _ _ _ _ _ _ _ _ _ (World.drew _)
        refine wpAnyIn_ready (rs := [0, 1]) (by kernel_rfl) (by simp) ?_
        refine (AllReadyIn.cons rfl (fun K hK => ?_) (AllReadyIn.cons rfl (fun K hK => ?_) AllReadyIn.nil))
        ·
          (go_simp; refine hK _ _ ?_; clear hK K)
          refine wpAnyIn_ready (rs := [1]) (by kernel_rfl) (by simp) ?_
          refine (AllReadyIn.cons rfl (fun K hK => ?_) AllReadyIn.nil)
          (go_simp; refine hK _ _ ?_; clear hK K)
          refine wpAnyIn_ready (rs := [2]) (by kernel_rfl) (by simp) ?_
          refine (AllReadyIn.cons rfl (fun K hK => ?_) AllReadyIn.nil)
          (go_simp; refine hK _ _ ?_; clear hK K)
          refine wpAnyIn_ready (rs := [3]) (by kernel_rfl) (by simp) ?_
          refine (AllReadyIn.cons rfl (fun K hK => ?_) AllReadyIn.nil)
          (go_simp; refine hK _ _ ?_; clear hK K)
          refine wpAnyIn_ready (rs := [4]) (by kernel_rfl) (by simp) ?_
          refine (AllReadyIn.cons rfl (fun K hK => ?_) AllReadyIn.nil)
          (go_simp; refine hK _ _ ?_; clear hK K)
          refine wpAnyIn_ready (rs := [5]) (by kernel_rfl) (by simp) ?_
          refine (AllReadyIn.cons rfl (fun K hK => ?_) AllReadyIn.nil)
          (go_simp; refine hK _ _ ?_; clear hK K)
          refine wpAnyIn_ready (rs := [6]) (by kernel_rfl) (by simp) ?_
          refine (AllReadyIn.cons rfl (fun K hK => ?_) AllReadyIn.nil)
          (refine stepIn_append_own _ rfl _ _ 69 rfl (w.heap.size + 3) 38 i0 (.agg #[.int .i64 0, .string ⟨#[]⟩, .int .i64 0, .int .i64 0, .string ⟨#[]⟩]) 5 56 Tryz.underlying69 hi hz0 hz1 hz2 rfl (by decide) _ _ _ rfl (H2.out.2.1.alloc _) ⟨wc.heap.size, 0, none⟩ 1 1 (nmCells nm) rfl rfl HCA.out (by simp [nmCells, Value.oneCell']) (by unfold maxLen; omega) (by omega) (by simp; omega) ?_; intro v' w1 hown' hgrow _; obtain ⟨g', cap', rfl⟩ := ownsRow_succ hown'; obtain ⟨hv1, hv2, hr2, hk2, hb2⟩ := appended2 (m := w.heap.size) H2.out.1 (by decide) H2.out.2.1 (by omega) (by simp; omega) (by omega) hown' hgrow; have hc1 := hv1.cell; have hf1 := hv1.frozen; refine hK _ _ ?_; clear hK K)
          refine wpAnyIn_ready (rs := [7]) (by kernel_rfl) (by simp) ?_
          refine (AllReadyIn.cons rfl (fun K hK => ?_) AllReadyIn.nil)
          (go_simp; refine hK _ _ ?_; clear hK K)
          refine wpAnyIn_done (by kernel_rfl) ?_ _
          exact hQ _ _ ⟨hk2, hb2, (C0.out _ _ hgrow hv1), _, hv2, hr2⟩
        ·
          (go_simp; refine hK _ _ ?_; clear hK K)
          refine wpAnyIn_ready (rs := [0, 2]) (by kernel_rfl) (by simp) ?_
          refine (AllReadyIn.cons rfl (fun K hK => ?_) (AllReadyIn.cons rfl (fun K hK => ?_) AllReadyIn.nil))
          ·
            (go_simp; refine hK _ _ ?_; clear hK K)
            refine wpAnyIn_ready (rs := [2]) (by kernel_rfl) (by simp) ?_
            refine (AllReadyIn.cons rfl (fun K hK => ?_) AllReadyIn.nil)
            (go_simp; refine hK _ _ ?_; clear hK K)
            refine wpAnyIn_ready (rs := [3]) (by kernel_rfl) (by simp) ?_
            refine (AllReadyIn.cons rfl (fun K hK => ?_) AllReadyIn.nil)
            (go_simp; refine hK _ _ ?_; clear hK K)
            refine wpAnyIn_ready (rs := [4]) (by kernel_rfl) (by simp) ?_
            refine (AllReadyIn.cons rfl (fun K hK => ?_) AllReadyIn.nil)
            (go_simp; refine hK _ _ ?_; clear hK K)
            refine wpAnyIn_ready (rs := [5]) (by kernel_rfl) (by simp) ?_
            refine (AllReadyIn.cons rfl (fun K hK => ?_) AllReadyIn.nil)
            (go_simp; refine hK _ _ ?_; clear hK K)
            refine wpAnyIn_ready (rs := [6]) (by kernel_rfl) (by simp) ?_
            refine (AllReadyIn.cons rfl (fun K hK => ?_) AllReadyIn.nil)
            (refine stepIn_append_own _ rfl _ _ 69 rfl (w.heap.size + 3) 38 i0 (.agg #[.int .i64 0, .string ⟨#[]⟩, .int .i64 0, .int .i64 0, .string ⟨#[]⟩]) 5 56 Tryz.underlying69 hi hz0 hz1 hz2 rfl (by decide) _ _ _ rfl (H2.out.2.1.alloc _) ⟨wc.heap.size, 0, none⟩ 1 1 (nmCells nm) rfl rfl HCA.out (by simp [nmCells, Value.oneCell']) (by unfold maxLen; omega) (by omega) (by simp; omega) ?_; intro v' w1 hown' hgrow _; obtain ⟨g', cap', rfl⟩ := ownsRow_succ hown'; obtain ⟨hv1, hv2, hr2, hk2, hb2⟩ := appended2 (m := w.heap.size) H2.out.1 (by decide) H2.out.2.1 (by omega) (by simp; omega) (by omega) hown' hgrow; have hc1 := hv1.cell; have hf1 := hv1.frozen; refine hK _ _ ?_; clear hK K)
            refine wpAnyIn_ready (rs := [7]) (by kernel_rfl) (by simp) ?_
            refine (AllReadyIn.cons rfl (fun K hK => ?_) AllReadyIn.nil)
            (go_simp; refine hK _ _ ?_; clear hK K)
            refine wpAnyIn_done (by kernel_rfl) ?_ _
            exact hQ _ _ ⟨hk2, hb2, (C0.out _ _ hgrow hv1), _, hv2, hr2⟩
          ·
            (go_simp; refine hK _ _ ?_; clear hK K)
            refine wpAnyIn_ready (rs := [0, 3]) (by kernel_rfl) (by simp) ?_
            refine (AllReadyIn.cons rfl (fun K hK => ?_) (AllReadyIn.cons rfl (fun K hK => ?_) AllReadyIn.nil))
            ·
              (go_simp; refine hK _ _ ?_; clear hK K)
              refine wpAnyIn_ready (rs := [3]) (by kernel_rfl) (by simp) ?_
              refine (AllReadyIn.cons rfl (fun K hK => ?_) AllReadyIn.nil)
              (go_simp; refine hK _ _ ?_; clear hK K)
              refine wpAnyIn_ready (rs := [4]) (by kernel_rfl) (by simp) ?_
              refine (AllReadyIn.cons rfl (fun K hK => ?_) AllReadyIn.nil)
              (go_simp; refine hK _ _ ?_; clear hK K)
              refine wpAnyIn_ready (rs := [5]) (by kernel_rfl) (by simp) ?_
              refine (AllReadyIn.cons rfl (fun K hK => ?_) AllReadyIn.nil)
              (go_simp; refine hK _ _ ?_; clear hK K)
              refine wpAnyIn_ready (rs := [6]) (by kernel_rfl) (by simp) ?_
              refine (AllReadyIn.cons rfl (fun K hK => ?_) AllReadyIn.nil)
              (refine stepIn_append_own _ rfl _ _ 69 rfl (w.heap.size + 3) 38 i0 (.agg #[.int .i64 0, .string ⟨#[]⟩, .int .i64 0, .int .i64 0, .string ⟨#[]⟩]) 5 56 Tryz.underlying69 hi hz0 hz1 hz2 rfl (by decide) _ _ _ rfl (H2.out.2.1.alloc _) ⟨wc.heap.size, 0, none⟩ 1 1 (nmCells nm) rfl rfl HCA.out (by simp [nmCells, Value.oneCell']) (by unfold maxLen; omega) (by omega) (by simp; omega) ?_; intro v' w1 hown' hgrow _; obtain ⟨g', cap', rfl⟩ := ownsRow_succ hown'; obtain ⟨hv1, hv2, hr2, hk2, hb2⟩ := appended2 (m := w.heap.size) H2.out.1 (by decide) H2.out.2.1 (by omega) (by simp; omega) (by omega) hown' hgrow; have hc1 := hv1.cell; have hf1 := hv1.frozen; refine hK _ _ ?_; clear hK K)
              refine wpAnyIn_ready (rs := [7]) (by kernel_rfl) (by simp) ?_
              refine (AllReadyIn.cons rfl (fun K hK => ?_) AllReadyIn.nil)
              (go_simp; refine hK _ _ ?_; clear hK K)
              refine wpAnyIn_done (by kernel_rfl) ?_ _
              exact hQ _ _ ⟨hk2, hb2, (C0.out _ _ hgrow hv1), _, hv2, hr2⟩
            ·
              (go_simp; refine hK _ _ ?_; clear hK K)
              refine wpAnyIn_ready (rs := [0, 4]) (by kernel_rfl) (by simp) ?_
              refine (AllReadyIn.cons rfl (fun K hK => ?_) (AllReadyIn.cons rfl (fun K hK => ?_) AllReadyIn.nil))
              ·
                (go_simp; refine hK _ _ ?_; clear hK K)
                refine wpAnyIn_ready (rs := [4]) (by kernel_rfl) (by simp) ?_
                refine (AllReadyIn.cons rfl (fun K hK => ?_) AllReadyIn.nil)
                (go_simp; refine hK _ _ ?_; clear hK K)
                refine wpAnyIn_ready (rs := [5]) (by kernel_rfl) (by simp) ?_
                refine (AllReadyIn.cons rfl (fun K hK => ?_) AllReadyIn.nil)
                (go_simp; refine hK _ _ ?_; clear hK K)
                refine wpAnyIn_ready (rs := [6]) (by kernel_rfl) (by simp) ?_
                refine (AllReadyIn.cons rfl (fun K hK => ?_) AllReadyIn.nil)
                (refine stepIn_append_own _ rfl _ _ 69 rfl (w.heap.size + 3) 38 i0 (.agg #[.int .i64 0, .string ⟨#[]⟩, .int .i64 0, .int .i64 0, .string ⟨#[]⟩]) 5 56 Tryz.underlying69 hi hz0 hz1 hz2 rfl (by decide) _ _ _ rfl (H2.out.2.1.alloc _) ⟨wc.heap.size, 0, none⟩ 1 1 (nmCells nm) rfl rfl HCA.out (by simp [nmCells, Value.oneCell']) (by unfold maxLen; omega) (by omega) (by simp; omega) ?_; intro v' w1 hown' hgrow _; obtain ⟨g', cap', rfl⟩ := ownsRow_succ hown'; obtain ⟨hv1, hv2, hr2, hk2, hb2⟩ := appended2 (m := w.heap.size) H2.out.1 (by decide) H2.out.2.1 (by omega) (by simp; omega) (by omega) hown' hgrow; have hc1 := hv1.cell; have hf1 := hv1.frozen; refine hK _ _ ?_; clear hK K)
                refine wpAnyIn_ready (rs := [7]) (by kernel_rfl) (by simp) ?_
                refine (AllReadyIn.cons rfl (fun K hK => ?_) AllReadyIn.nil)
                (go_simp; refine hK _ _ ?_; clear hK K)
                refine wpAnyIn_done (by kernel_rfl) ?_ _
                exact hQ _ _ ⟨hk2, hb2, (C0.out _ _ hgrow hv1), _, hv2, hr2⟩
              ·
                (go_simp; refine hK _ _ ?_; clear hK K)
                refine wpAnyIn_ready (rs := [0, 5]) (by kernel_rfl) (by simp) ?_
                refine (AllReadyIn.cons rfl (fun K hK => ?_) (AllReadyIn.cons rfl (fun K hK => ?_) AllReadyIn.nil))
                ·
                  (go_simp; refine hK _ _ ?_; clear hK K)
                  refine wpAnyIn_ready (rs := [5]) (by kernel_rfl) (by simp) ?_
                  refine (AllReadyIn.cons rfl (fun K hK => ?_) AllReadyIn.nil)
                  (go_simp; refine hK _ _ ?_; clear hK K)
                  refine wpAnyIn_ready (rs := [6]) (by kernel_rfl) (by simp) ?_
                  refine (AllReadyIn.cons rfl (fun K hK => ?_) AllReadyIn.nil)
                  (refine stepIn_append_own _ rfl _ _ 69 rfl (w.heap.size + 3) 38 i0 (.agg #[.int .i64 0, .string ⟨#[]⟩, .int .i64 0, .int .i64 0, .string ⟨#[]⟩]) 5 56 Tryz.underlying69 hi hz0 hz1 hz2 rfl (by decide) _ _ _ rfl (H2.out.2.1.alloc _) ⟨wc.heap.size, 0, none⟩ 1 1 (nmCells nm) rfl rfl HCA.out (by simp [nmCells, Value.oneCell']) (by unfold maxLen; omega) (by omega) (by simp; omega) ?_; intro v' w1 hown' hgrow _; obtain ⟨g', cap', rfl⟩ := ownsRow_succ hown'; obtain ⟨hv1, hv2, hr2, hk2, hb2⟩ := appended2 (m := w.heap.size) H2.out.1 (by decide) H2.out.2.1 (by omega) (by simp; omega) (by omega) hown' hgrow; have hc1 := hv1.cell; have hf1 := hv1.frozen; refine hK _ _ ?_; clear hK K)
                  refine wpAnyIn_ready (rs := [7]) (by kernel_rfl) (by simp) ?_
                  refine (AllReadyIn.cons rfl (fun K hK => ?_) AllReadyIn.nil)
                  (go_simp; refine hK _ _ ?_; clear hK K)
                  refine wpAnyIn_done (by kernel_rfl) ?_ _
                  exact hQ _ _ ⟨hk2, hb2, (C0.out _ _ hgrow hv1), _, hv2, hr2⟩
                ·
                  (go_simp; refine hK _ _ ?_; clear hK K)
                  refine wpAnyIn_ready (rs := [0]) (by kernel_rfl) (by simp) ?_
                  refine (AllReadyIn.cons rfl (fun K hK => ?_) AllReadyIn.nil)
                  (go_simp; refine hK _ _ ?_; clear hK K)
                  refine wpAnyIn_ready (rs := [6]) (by kernel_rfl) (by simp) ?_
                  refine (AllReadyIn.cons rfl (fun K hK => ?_) AllReadyIn.nil)
                  (refine stepIn_append_own _ rfl _ _ 69 rfl (w.heap.size + 3) 38 i0 (.agg #[.int .i64 0, .string ⟨#[]⟩, .int .i64 0, .int .i64 0, .string ⟨#[]⟩]) 5 56 Tryz.underlying69 hi hz0 hz1 hz2 rfl (by decide) _ _ _ rfl (H2.out.2.1.alloc _) ⟨wc.heap.size, 0, none⟩ 1 1 (nmCells nm) rfl rfl HCA.out (by simp [nmCells, Value.oneCell']) (by unfold maxLen; omega) (by omega) (by simp; omega) ?_; intro v' w1 hown' hgrow _; obtain ⟨g', cap', rfl⟩ := ownsRow_succ hown'; obtain ⟨hv1, hv2, hr2, hk2, hb2⟩ := appended2 (m := w.heap.size) H2.out.1 (by decide) H2.out.2.1 (by omega) (by simp; omega) (by omega) hown' hgrow; have hc1 := hv1.cell; have hf1 := hv1.frozen; refine hK _ _ ?_; clear hK K)
                  refine wpAnyIn_ready (rs := [7]) (by kernel_rfl) (by simp) ?_
                  refine (AllReadyIn.cons rfl (fun K hK => ?_) AllReadyIn.nil)
                  (go_simp; refine hK _ _ ?_; clear hK K)
                  refine wpAnyIn_done (by kernel_rfl) ?_ _
                  exact hQ _ _ ⟨hk2, hb2, (C0.out _ _ hgrow hv1), _, hv2, hr2⟩
      case Y =>
        intro a wx hx
        obtain ⟨hk, hb2, c0', v', bv', hr'⟩ := hx
        obtain ⟨-, -, hW0, hWB⟩ := H2.out
        have he : (pre ++ [x]).filter (fun x => (fun _ => true) x.1.2.1) = pre.filter (fun x => (fun _ => true) x.1.2.1) ++ [x] := by
          rw [List.filter_append, List.filter_cons_of_pos (by exact HSEL.out)]; rfl
        refine ⟨(hW0.trans hk).from _, hWB.trans hb2, ⟨⟨⟨⟨v', bv', ?_, trivial⟩, c0'⟩, HBel.out.trans (hWB.trans hb2)⟩, ?_⟩⟩
        · rw [he, List.length_append, List.flatMap_append]
          simpa [HNM.out] using hr'
        · have := (hW0.trans hk).size; omega
  case done =>
    rintro D ys W hD rfl ⟨⟨⟨⟨v, bv, hrow, -⟩, c0⟩, hB⟩, h5⟩ hK
    obtain ⟨A, cap, rfl, -⟩ := Sl.of_own hrow
    have hc := bv.cell
    have HR := hid hrow
    have HX := hid hxs
    have HBe := hid hB
    clear hrow bv hB hxs hTw c0 b0 b1 b2 hB0
    gi_wp2
    refine ⟨by simp, .inl ⟨_, _, rfl, run_takeDeferred hK, ?_⟩⟩
    refine ⟨.slice A (ys.filter (fun x => (fun _ => true) x.1.2.1)).length cap, by simp [results, Tryz.results66, go_sem], _, rfl, ?_, ?_⟩
    · have := ownsRow_putObj (HR.out.lower (base' := w.heap.size) (by omega)) (.deferred none) hK rfl
      rw [← HX.out, List.filter_map, List.length_map, List.flatMap_map]
      exact this
    · exact HBe.out.trans (belowK_b (w := w) (Nat.le_refl _) _ D _ _ (by omega) hK rfl rfl)
  case stop =>
    rintro D c pre W hD hpre hf
    exact hf.elim


theorem names_any (p : Option Addr) (t : T) (w : World) (hs : StT w p t) (hz : t.size ≤ 1000000) :
    Calls Tryz.prog 27 #[.pointer p] w fun e W' => ∃ v, e = .returned v ∧ W'.ownsRow w.heap.size 38 5 v t.toList.length (t.toList.flatMap (fun x => nmCells x.1)) ∧ Below w.heap.size w W' := by
  have h := callsIn_wide.1 (names_in 3 (Nat.le_refl _) p t w hs hz)
  rw [List.filter_eq_self.2 (fun _ _ => rfl)] at h
  go_enter Tryz.func27, Tryz.ntmps27
  go_wp2_with (go_at_call 66; refine h.mono ?_; rintro e w' ⟨v, rfl, hown, hb⟩)
  go_ret
  exact ⟨v, rfl, hown, hb⟩
end Go.Proofs.YtfdbanhbegngoaaGreatDoor
