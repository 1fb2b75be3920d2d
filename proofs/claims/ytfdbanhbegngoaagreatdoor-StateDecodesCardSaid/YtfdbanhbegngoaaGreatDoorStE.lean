/-
  LAYER 5, WALKED: State.Encode, where no encoding is too long.
-/
import Derived.Test.YtfdbanhbegngoaaGreatDoorNmE
import Derived.Test.YtfdbanhbegngoaaGreatDoorStD
import Derived.Test.YtfdbanhbegngoaaGreatDoorIsM
namespace Go.Proofs.YtfdbanhbegngoaaGreatDoor
open Go.RowKit Go.Shelf

attribute [local go_sem] Oper.semAt_some

theorem wr_own {β : Type} (B g : Nat) (f : β → Bs) : Own (fun s W => Wr W B g (f s) 0) := by
  rintro s X Y row ⟨hBg, v, hk, ho⟩ hg hrow
  have hgr : some g ≠ row := fun e => by
    obtain ⟨o, h1, h2⟩ := hrow g e.symm
    rw [hk] at h1
    cases h1
    cases h2
  refine ⟨hBg, v, hk.grown hg hgr, ho.kept hg ?_⟩
  rcases ho.2 with ⟨h1, -⟩ | ⟨g', cap, cur, rfl, -, hgb, -⟩
  · exact .inl (by rw [h1]; rfl)
  · refine .inr fun e => ?_
    obtain ⟨o, h1, h2⟩ := hrow g' (by simpa [Value.ownBlock] using e.symm)
    rw [hgb] at h1
    cases h1
    cases h2
theorem KeepT.others {w w' : World} (h : KeepT w w') (hs : w.heap.size ≤ w'.heap.size) : KeepsOthers w w' :=
  ⟨hs, fun k o hk hc => h k o hk (fun cs fr e => by subst e; cases hc) (fun cs fr e => by subst e; cases hc)⟩

theorem Wr.keep {w w' : World} {B g : Nat} {b : Bs} {e : Int} (h : Wr w B g b e) (hb : Below w.heap.size w w') : Wr w' B g b e := by
  obtain ⟨hBg, v, hk, ho⟩ := h
  exact ⟨hBg, v, (hb.block g hk.lt).trans hk, ownsRow_below ho hb⟩

/-- What is known of an entry that a state of these laws holds. -/
def entOk (x : Nm × ByteArray) : Prop := checkN x.1 = 0 ∧ x.1.Ok ∧ (encN x.1).length ≤ 100000 ∧ x.2.size ≤ 100000

theorem flat_node {w : World} : ∀ (pre : List (Node entOk w)), (pre.flatMap (fun x => encE x.1.2)).length ≤ 200020 * pre.length
  | [] => by simp
  | x :: r => by
    have ih := flat_node r
    obtain ⟨-, h1, h2, h3, h4⟩ := x.2
    have e : (encE x.1.2).length ≤ 200020 := by
      have a1 := natL_ten (u := (encN x.1.2.1).length) (by omega)
      rw [ba_size] at h4
      have a2 := natL_ten (u := x.1.2.2.data.toList.length) (by omega)
      unfold encE txtL
      simp only [List.length_append]
      omega
    rw [List.flatMap_cons, List.length_append, List.length_cons]
    omega

set_option maxRecDepth 100000 in
set_option maxHeartbeats 3200000 in
theorem stEncode_in (n : Nat) (hn : 3 ≤ n) (p : Option Addr) (t : T) (w : World) (hs : IsState w p t) (hz : t.size ≤ 1000) (hQ : ∀ x ∈ t.toList, entOk x) :
    CallsIn Fence.wide n Tryz.prog 8 #[.pointer p] w fun e W' => ∃ v, e = .returned v ∧ W'.ownsRow w.heap.size 5 1 v (encL t.toList).length ((encL t.toList).map u8v) ∧ Below w.heap.size w W' := by
  have h1 : 1 ≤ n := by omega
  obtain ⟨sb, r, rfl, hk, hTw⟩ := hs
  have hsl := hk.lt
  have NW := hid newWriter_any
  have WN := hid (fun B g b (u : Nat) (hu : u < 9223372036854775808) (hb : b.length ≤ 999999000) w' (hBw : B ≤ w'.heap.size) (h : Wr w' B g b 0) => wnumberK B g b 0 u hu hb w' hBw h)
  have WT := hid (fun B g b (s : ByteArray) (hs : s.size ≤ 16777216) (hb : b.length ≤ 900000000) w' (hBw : B ≤ w'.heap.size) (h : Wr w' B g b 0) => wtextK B g b 0 s hs hb w' hBw h)
  simp only [if_pos] at WN WT
  have WB := hid (fun B g b (hb : b.length ≤ 1000000000) w' (h : Wr w' B g b 0) => wbytes_any B g b hb w' h)
  have LEN := hid (fun w' (hb : Below w.heap.size w w') => len_any (some ⟨sb, 0, none⟩) t w' (.inr ⟨sb, r, rfl, hk.below hb hsl, hTw.below hb⟩))
  obtain ⟨xs, hI, hxs⟩ := hTw.nodes (Q := entOk) hQ
  have hlen : xs.length = t.size := by
    have := congrArg List.length hxs
    rw [List.length_map] at this
    rw [this, T.size_eq]
  have c0 : ∀ w', Below w.heap.size w w' → w'.cell? ⟨sb, 0, none⟩ = some (.pointer r) := fun w' hb => (hk.below hb hsl).cell 0
  have HC := hid c0
  have HK := hid hk
  have HI := hid hI
  clear hk hTw c0 hQ hI
  refine callsIn_of_wp_marks Tryz.func8 rfl trivial ?_ rfl
  simp only [Tryz.ntmps8, List.size_toArray, List.length_cons, List.length_nil, Nat.reduceAdd, Nat.reduceSub, Array.replicate_succ, Array.replicate_zero, List.push_toArray, List.append_toArray, List.nil_append, List.cons_append]
  gi_upto_region 4 with (refine ⟨trivial, ?_⟩; gi_at_call 32; refine (callsIn_wide.2 (NW.out _)).mono ?_; rintro e w1 ⟨rfl, hr, hb⟩; have HR := hid hr; have HB := hid hb; clear hr hb)
  have hg1 : w.heap.size < w1.heap.size := by obtain ⟨-, v, hk1, -⟩ := HR.out; exact hk1.lt
  have hm : Tryz.prog.follows .mixedOrders = true := by kernel_rfl
  obtain ⟨W2, hW2⟩ : ∃ x, w1.alloc (.cells #[.pointer (some ⟨w.heap.size, 0, none⟩)] 74) = x := ⟨_, rfl⟩
  have hb2 : Below w1.heap.size w1 W2 := by rw [← hW2]; exact (Below.refl _ _).alloc (Nat.le_refl _) _
  have hr2 : Wr W2 w.heap.size w.heap.size [] 0 := HR.out.keep hb2
  have hx2 : Boxed W2 w1.heap.size 74 (.pointer (some ⟨w.heap.size, 0, none⟩)) := by rw [← hW2]; exact Boxed.new _ _ _
  have hB2 : Below w.heap.size w W2 := HB.out.trans (hb2.mono (by omega))
  have cx := hx2.cell
  have HR2 := hid hr2; have HX2 := hid hx2; have HB2 := hid hB2
  rw [hW2]
  clear hW2 hb2 hr2 hx2 hB2 HR HB
  gi_cut [3] from 12 (fun q wx => q = .pointer (some ⟨w1.heap.size, 0, none⟩) ∧ Wr wx w.heap.size w.heap.size (natL t.size) 0 ∧ Boxed wx w1.heap.size 74 (.pointer (some ⟨w.heap.size, 0, none⟩)) ∧ Below w.heap.size w wx)
  case first =>
    refine wpIn_region_any hm ?_
    change wpAnyIn _ _ _ _ _ _ _ _ _ (World.drew _)
    refine wpAnyIn_ready (rs := [0, 1]) (by kernel_rfl) (by simp) ?_
    refine (AllReadyIn.cons rfl (fun K hK => ?_) (AllReadyIn.cons rfl (fun K hK => ?_) AllReadyIn.nil))
    ·
      (go_simp; refine hK _ _ ?_; clear hK K)
      refine wpAnyIn_ready (rs := [1]) (by kernel_rfl) (by simp) ?_
      refine (AllReadyIn.cons rfl (fun K hK => ?_) AllReadyIn.nil)
      (go_simp; refine hK _ _ ?_; clear hK K)
      refine wpAnyIn_ready (rs := [2]) (by kernel_rfl) (by simp) ?_
      refine (AllReadyIn.cons rfl (fun K hK => ?_) AllReadyIn.nil)
      (go_simp; refine ⟨trivial, ?_⟩; gi_at_call 28; refine (callsIn_wide.2 (LEN.out _ HB2.out.drew)).mono ?_; rintro e w' ⟨rfl, rfl⟩; refine hK _ _ ?_; clear hK K)
      refine wpAnyIn_ready (rs := [3]) (by kernel_rfl) (by simp) ?_
      refine (AllReadyIn.cons rfl (fun K hK => ?_) AllReadyIn.nil)
      (go_simp; refine ⟨trivial, ?_⟩; gi_at_call 33; refine (callsIn_wide.2 (WN.out w.heap.size w.heap.size [] t.size (by omega) (by simp) _ HB2.out.drew.size HR2.out)).mono ?_; rintro e w3 ⟨rfl, hr3, hb3, hk3⟩; refine hK _ _ ?_; clear hK K)
      refine wpAnyIn_done (by kernel_rfl) ?_ _
      (try gi_wp2)
      gi_meet
      exact ⟨rfl, hr3, hk3.blk HX2.out (by decide) (by decide), HB2.out.drew.trans hb3⟩
    ·
      (go_simp; refine hK _ _ ?_; clear hK K)
      refine wpAnyIn_ready (rs := [0, 2]) (by kernel_rfl) (by simp) ?_
      refine (AllReadyIn.cons rfl (fun K hK => ?_) (AllReadyIn.cons rfl (fun K hK => ?_) AllReadyIn.nil))
      ·
        (go_simp; refine hK _ _ ?_; clear hK K)
        refine wpAnyIn_ready (rs := [2]) (by kernel_rfl) (by simp) ?_
        refine (AllReadyIn.cons rfl (fun K hK => ?_) AllReadyIn.nil)
        (go_simp; refine ⟨trivial, ?_⟩; gi_at_call 28; refine (callsIn_wide.2 (LEN.out _ HB2.out.drew)).mono ?_; rintro e w' ⟨rfl, rfl⟩; refine hK _ _ ?_; clear hK K)
        refine wpAnyIn_ready (rs := [3]) (by kernel_rfl) (by simp) ?_
        refine (AllReadyIn.cons rfl (fun K hK => ?_) AllReadyIn.nil)
        (go_simp; refine ⟨trivial, ?_⟩; gi_at_call 33; refine (callsIn_wide.2 (WN.out w.heap.size w.heap.size [] t.size (by omega) (by simp) _ HB2.out.drew.size HR2.out)).mono ?_; rintro e w3 ⟨rfl, hr3, hb3, hk3⟩; refine hK _ _ ?_; clear hK K)
        refine wpAnyIn_done (by kernel_rfl) ?_ _
        (try gi_wp2)
        gi_meet
        exact ⟨rfl, hr3, hk3.blk HX2.out (by decide) (by decide), HB2.out.drew.trans hb3⟩
      ·
        (go_simp; refine ⟨trivial, ?_⟩; gi_at_call 28; refine (callsIn_wide.2 (LEN.out _ HB2.out.drew)).mono ?_; rintro e w' ⟨rfl, rfl⟩; refine hK _ _ ?_; clear hK K)
        refine wpAnyIn_ready (rs := [0]) (by kernel_rfl) (by simp) ?_
        refine (AllReadyIn.cons rfl (fun K hK => ?_) AllReadyIn.nil)
        (go_simp; refine hK _ _ ?_; clear hK K)
        refine wpAnyIn_ready (rs := [3]) (by kernel_rfl) (by simp) ?_
        refine (AllReadyIn.cons rfl (fun K hK => ?_) AllReadyIn.nil)
        (go_simp; refine ⟨trivial, ?_⟩; gi_at_call 33; refine (callsIn_wide.2 (WN.out w.heap.size w.heap.size [] t.size (by omega) (by simp) _ HB2.out.drew.size HR2.out)).mono ?_; rintro e w3 ⟨rfl, hr3, hb3, hk3⟩; refine hK _ _ ?_; clear hK K)
        refine wpAnyIn_done (by kernel_rfl) ?_ _
        (try gi_wp2)
        gi_meet
        exact ⟨rfl, hr3, hk3.blk HX2.out (by decide) (by decide), HB2.out.drew.trans hb3⟩
  case rest =>
    obtain ⟨rfl, hr3, hx3, hB3⟩ := hcut
    have cs := HC.out _ hB3
    have HR3 := hid hr3; have HX3 := hid hx3; have HB3 := hid hB3
    clear hr3 hx3 hB3 cx HR2 HX2 HB2
    gi_wp2_with (refine ⟨trivial, ?_⟩; gi_at_call 34; refine (all_in (n - 1) r _).mono ?_; rintro e w' ⟨rfl, rfl⟩)
    have hbw : Below w.heap.size w (wc.alloc (.cells #[.pointer r] 53)) := HB3.out.alloc HB3.out.size _
    have hbt : (wc.alloc (.cells #[.pointer r] 53)).cell? ⟨wc.heap.size, 0, none⟩ = some (.pointer r) := (Boxed.new wc _ _).cell
    have hr0 : Wr (wc.alloc (.cells #[.pointer r] 53)) w.heap.size w.heap.size (natL t.size) 0 := HR3.out.keep ((Below.refl _ _).alloc (Nat.le_refl _) _)
    have hx0 : Boxed (wc.alloc (.cells #[.pointer r] 53)) w1.heap.size 74 (.pointer (some ⟨w.heap.size, 0, none⟩)) := HX3.out.alloc _
    have hws : w.heap.size ≤ wc.heap.size := HB3.out.size
    have hpbl : w1.heap.size < wc.heap.size := HX3.out.lt
    clear cs
    refine wpIn_rangeFunc_ownH rfl h1 (gf := 72) (lb := #[.pointer (some ⟨wc.heap.size, 0, none⟩)]) rfl trivial (enters_of Tryz.func72 (by kernel_rfl) rfl)
      (all_stops w (n - 1) wc.heap.size r t xs _ (by simp) hbw hbt HI.out) (fun h k => h.trans k) (belowK_b (by simp; omega)) (Below.refl _ _) (fun _ => rfl)
      (fun pre W => ((Wr W w.heap.size w.heap.size (natL t.size ++ pre.flatMap (fun x => encE x.1.2)) 0 ∧ Boxed W w1.heap.size 74 (.pointer (some ⟨w.heap.size, 0, none⟩))) ∧ Below w.heap.size w W) ∧ wc.heap.size + 1 ≤ W.heap.size)
      (fun _ _ _ => False)
      ?hI ?hIx ?h0
      (fun x a' _ => a' = { tmps := #[.pointer (some ⟨sb, 0, none⟩), undef, .slice none 0 0, .pointer (some ⟨w1.heap.size, 0, none⟩), nodeV x, undef, undef, undef, undef, .pointer (some ⟨sb, 0, none⟩), .bool false, .pointer (some ⟨w.heap.size, 0, none⟩), u12, u13, u14, u15, .pointer (some ⟨sb, 0, none⟩), .pointer (some ⟨sb, 0, none⟩), .pointer (some ⟨sb, 0, none⟩), .pointer r, .func (.func 72) #[] #[.pointer (some ⟨wc.heap.size, 0, none⟩)], nodeV x, u22, u23, u24, u25, u26, u27, u28, u29, u30, u31, u32, u33, u34, u35, u36, u37, u38, u39, u40, u41, u42, u43, u44], defers := [] })
      ?hAx ?assign ?body ?done ?stop
    case hI =>
      refine OwnFrom.and (OwnFrom.and (Own.from ?_ _) (ownFrom_below (Nat.le_refl _) (by simp; omega))) (fun s A B row hs hg _ => Nat.le_trans hs hg.size)
      rintro s A B row hs hg hr
      exact ⟨wr_own w.heap.size w.heap.size (fun pre : List (Node entOk w) => natL t.size ++ pre.flatMap (fun x => encE x.1.2)) s A B row hs.1 hg hr, boxed_own _ _ (fun (_ : Unit) => _) () A B row hs.2 hg hr⟩
    case hIx => intro c; exact fun s A B row hs _ _ => hs
    case h0 => exact ⟨⟨⟨by simpa using hr0, hx0⟩, hbw⟩, by simp⟩
    case hAx => exact fun x a' s A B row hs _ _ => hs
    case assign =>
      rintro l pre x W K hi hK
      gi_wp2
      exact hK _ _ ((KeepsOthers.refl _).from _) (Below.refl _ _) hi rfl
    case body =>
      rintro l pre x a' W _ _ ⟨⟨⟨hr, bx⟩, hB⟩, h5⟩ rfl hlt
      obtain ⟨⟨e1, e2, e3, e4, e5, e6⟩, hq1, hq2, hq3, hq4⟩ := x.2
      have hnv : nodeV x = .pointer (some ⟨x.1.1, 0, none⟩) := rfl
      rw [hnv]
      have happ : (pre ++ [x]).flatMap (fun x => encE x.1.2) = pre.flatMap (fun x => encE x.1.2) ++ (txtL (encN x.1.2.1) ++ txtL x.1.2.2.data.toList) := by
        rw [List.flatMap_append]
        simp [encE]
      have HAPP := hid happ
      have hpl := flat_node pre
      have hl0 := natL_ten (u := t.size) (by omega)
      obtain ⟨nb, hnb⟩ : ∃ b, b = x.1.1 := ⟨_, rfl⟩
      obtain ⟨nm, hnm⟩ : ∃ b, b = x.1.2.1 := ⟨_, rfl⟩
      obtain ⟨vv, hvv⟩ : ∃ b, b = x.1.2.2 := ⟨_, rfl⟩
      rw [← hnm] at hq1 hq2 hq3
      rw [← hvv] at hq4
      have KK : ∀ w', Below w.heap.size w w' → w'.cell? ⟨nb, 0, none⟩ = some (.int .i64 nm.kind) ∧ w'.cell? ⟨nb, 1, none⟩ = some (.string nm.owner) ∧ w'.cell? ⟨nb, 2, none⟩ = some (.int .i64 nm.number) ∧ w'.cell? ⟨nb, 3, none⟩ = some (.int .i64 nm.index) ∧ w'.cell? ⟨nb, 4, none⟩ = some (.string nm.text) ∧ w'.cell? ⟨nb, 5, none⟩ = some (.string vv) := by
        intro w' hb
        subst hnb hnm hvv
        have k1 := e6.below hb e6.lt
        exact ⟨k1.cell 0, k1.cell 1, k1.cell 2, k1.cell 3, k1.cell 4, k1.cell 5⟩
      have K6 := hid KK
      obtain ⟨q0, q1, q2, q3, q4, -⟩ := KK W hB
      have EN := hid (fun w' => encode4_any nm hq2 hq1 (by omega) w')
      unfold nmV at EN
      have HNM := hid hnm; have HVV := hid hvv
      rw [← hnb]
      generalize hacc : natL t.size ++ pre.flatMap (fun x => encE x.1.2) = acc at *
      have hal : acc.length ≤ 10 + 200020 * pre.length := by rw [← hacc, List.length_append]; omega
      have HACC := hid hacc
      have HR := hid hr; have HX := hid bx; have HB := hid hB
      clear hnm hvv hnb happ hnv KK hacc hr bx hB hr0 hx0 hbt hbw hxs hpl e6
      have hbound : (acc ++ txtL (strB (encN nm)).data.toList).length ≤ 900000000 := by
        have a1 := natL_ten (u := (encN nm).length) (by omega)
        rw [List.length_append, txtL, List.length_append, strB_toList]
        omega
      have H4L := hid hbound
      have h1' : 1 ≤ n - 1 - 1 := by omega
      have hsn : (strB (encN nm)).size ≤ 16777216 := by rw [strB_size]; omega
      clear hbound
      gi_upto_region 9 with (first
        | (refine ⟨trivial, ?_⟩; gi_at_call 35; refine (CallsIn.inRound l (callsIn_wide.2 (EN.out _))).mono ?_; rintro e w3 ⟨rfl, hb3⟩; have HR3b := hid (HR.out.keep hb3); have hx3 : Boxed w3 w1.heap.size 74 (.pointer (some ⟨w.heap.size, 0, none⟩)) := (hb3.block _ HX.out.lt).trans HX.out; have cx3 := hx3.cell; have HX3b := hid hx3; have HB3b := hid hb3; clear hb3 hx3)
        | (refine ⟨trivial, ?_⟩; gi_at_call 36; refine (CallsIn.inRound l (callsIn_wide.2 (WT.out w.heap.size w.heap.size acc (strB (encN nm)) hsn (by omega) _ (Nat.le_trans HB.out.size HB3b.out.size) HR3b.out))).mono ?_; rintro e w4 ⟨rfl, hr4, hb4, hk4⟩; have HR4 := hid hr4; have hx4 : Boxed w4 w1.heap.size 74 (.pointer (some ⟨w.heap.size, 0, none⟩)) := hk4.blk HX3b.out (by decide) (by decide); have cx4 := hx4.cell; have HX4 := hid hx4; have HB4s := hid hb4; have HK4 := hid hk4; clear hr4 hb4 hk4 hx4))
      obtain ⟨-, -, -, -, -, p5⟩ := K6.out _ (HB.out.trans ((HB3b.out.mono HB.out.size).trans HB4s.out))
      have HB4 := hid (show Below w.heap.size w w4 from HB.out.trans ((HB3b.out.mono HB.out.size).trans HB4s.out))
      clear cx3 q0 q1 q2 q3 q4
      refine (?X : ∀ Q : Exit → Act → World → Prop, (∀ a wx, (Wr wx w.heap.size w.heap.size (acc ++ txtL (strB (encN nm)).data.toList ++ txtL vv.data.toList) 0 ∧ Boxed wx w1.heap.size 74 (.pointer (some ⟨w.heap.size, 0, none⟩)) ∧ Below w.heap.size w4 wx ∧ KeepT w4 wx ∧ w4.heap.size ≤ wx.heap.size) → Q .normal a wx) → Code.wpIn _ _ _ _ Q _ _) _ ?Y
      case X =>
        intro Q hQ
        refine wpIn_region_any hm ?_
        change wpAnyIn _ _ _ _ _ _ _ _ _ (World.drew _)
        refine wpAnyIn_ready (rs := [0, 1]) (by kernel_rfl) (by simp) ?_
        refine (AllReadyIn.cons rfl (fun K hK => ?_) (AllReadyIn.cons rfl (fun K hK => ?_) AllReadyIn.nil))
        ·
          (go_simp; refine hK _ _ ?_; clear hK K)
          refine wpAnyIn_ready (rs := [1]) (by kernel_rfl) (by simp) ?_
          refine (AllReadyIn.cons rfl (fun K hK => ?_) AllReadyIn.nil)
          (go_simp; refine hK _ _ ?_; clear hK K)
          refine wpAnyIn_ready (rs := [2]) (by kernel_rfl) (by simp) ?_
          refine (AllReadyIn.cons rfl (fun K hK => ?_) AllReadyIn.nil)
          (go_simp; refine hK _ _ ?_; clear hK K)
          refine wpAnyIn_ready (rs := [3]) (by kernel_rfl) (by simp) ?_
          refine (AllReadyIn.cons rfl (fun K hK => ?_) AllReadyIn.nil)
          (go_simp; refine hK _ _ ?_; clear hK K)
          refine wpAnyIn_ready (rs := [4]) (by kernel_rfl) (by simp) ?_
          refine (AllReadyIn.cons rfl (fun K hK => ?_) AllReadyIn.nil)
          (go_simp; refine hK _ _ ?_; clear hK K)
          refine wpAnyIn_ready (rs := [5]) (by kernel_rfl) (by simp) ?_
          refine (AllReadyIn.cons rfl (fun K hK => ?_) AllReadyIn.nil)
          (go_simp; refine ⟨trivial, ?_⟩; gi_at_call 36; refine (CallsIn.inRound l (callsIn_wide.2 (WT.out w.heap.size w.heap.size _ vv (by omega) H4L.out _ HB4.out.drew.size HR4.out))).mono ?_; rintro e w5 ⟨rfl, hr5, hb5, hk5⟩; refine hK _ _ ?_; clear hK K)
          refine wpAnyIn_done (by kernel_rfl) ?_ _
          exact hQ _ _ ⟨hr5, hk5.blk (KeepT.blk (KeepT.below (Below.refl _ _).drew) HX4.out (by decide) (by decide)) (by decide) (by decide), ((Below.refl _ _).drew).trans hb5, (KeepT.below (Below.refl _ _).drew).trans hk5, hb5.size⟩
        ·
          (go_simp; refine hK _ _ ?_; clear hK K)
          refine wpAnyIn_ready (rs := [0, 2]) (by kernel_rfl) (by simp) ?_
          refine (AllReadyIn.cons rfl (fun K hK => ?_) (AllReadyIn.cons rfl (fun K hK => ?_) AllReadyIn.nil))
          ·
            (go_simp; refine hK _ _ ?_; clear hK K)
            refine wpAnyIn_ready (rs := [2]) (by kernel_rfl) (by simp) ?_
            refine (AllReadyIn.cons rfl (fun K hK => ?_) AllReadyIn.nil)
            (go_simp; refine hK _ _ ?_; clear hK K)
            refine wpAnyIn_ready (rs := [3]) (by kernel_rfl) (by simp) ?_
            refine (AllReadyIn.cons rfl (fun K hK => ?_) AllReadyIn.nil)
            (go_simp; refine hK _ _ ?_; clear hK K)
            refine wpAnyIn_ready (rs := [4]) (by kernel_rfl) (by simp) ?_
            refine (AllReadyIn.cons rfl (fun K hK => ?_) AllReadyIn.nil)
            (go_simp; refine hK _ _ ?_; clear hK K)
            refine wpAnyIn_ready (rs := [5]) (by kernel_rfl) (by simp) ?_
            refine (AllReadyIn.cons rfl (fun K hK => ?_) AllReadyIn.nil)
            (go_simp; refine ⟨trivial, ?_⟩; gi_at_call 36; refine (CallsIn.inRound l (callsIn_wide.2 (WT.out w.heap.size w.heap.size _ vv (by omega) H4L.out _ HB4.out.drew.size HR4.out))).mono ?_; rintro e w5 ⟨rfl, hr5, hb5, hk5⟩; refine hK _ _ ?_; clear hK K)
            refine wpAnyIn_done (by kernel_rfl) ?_ _
            exact hQ _ _ ⟨hr5, hk5.blk (KeepT.blk (KeepT.below (Below.refl _ _).drew) HX4.out (by decide) (by decide)) (by decide) (by decide), ((Below.refl _ _).drew).trans hb5, (KeepT.below (Below.refl _ _).drew).trans hk5, hb5.size⟩
          ·
            (go_simp; refine hK _ _ ?_; clear hK K)
            refine wpAnyIn_ready (rs := [0, 3]) (by kernel_rfl) (by simp) ?_
            refine (AllReadyIn.cons rfl (fun K hK => ?_) (AllReadyIn.cons rfl (fun K hK => ?_) AllReadyIn.nil))
            ·
              (go_simp; refine hK _ _ ?_; clear hK K)
              refine wpAnyIn_ready (rs := [3]) (by kernel_rfl) (by simp) ?_
              refine (AllReadyIn.cons rfl (fun K hK => ?_) AllReadyIn.nil)
              (go_simp; refine hK _ _ ?_; clear hK K)
              refine wpAnyIn_ready (rs := [4]) (by kernel_rfl) (by simp) ?_
              refine (AllReadyIn.cons rfl (fun K hK => ?_) AllReadyIn.nil)
              (go_simp; refine hK _ _ ?_; clear hK K)
              refine wpAnyIn_ready (rs := [5]) (by kernel_rfl) (by simp) ?_
              refine (AllReadyIn.cons rfl (fun K hK => ?_) AllReadyIn.nil)
              (go_simp; refine ⟨trivial, ?_⟩; gi_at_call 36; refine (CallsIn.inRound l (callsIn_wide.2 (WT.out w.heap.size w.heap.size _ vv (by omega) H4L.out _ HB4.out.drew.size HR4.out))).mono ?_; rintro e w5 ⟨rfl, hr5, hb5, hk5⟩; refine hK _ _ ?_; clear hK K)
              refine wpAnyIn_done (by kernel_rfl) ?_ _
              exact hQ _ _ ⟨hr5, hk5.blk (KeepT.blk (KeepT.below (Below.refl _ _).drew) HX4.out (by decide) (by decide)) (by decide) (by decide), ((Below.refl _ _).drew).trans hb5, (KeepT.below (Below.refl _ _).drew).trans hk5, hb5.size⟩
            ·
              (go_simp; refine hK _ _ ?_; clear hK K)
              refine wpAnyIn_ready (rs := [0, 4]) (by kernel_rfl) (by simp) ?_
              refine (AllReadyIn.cons rfl (fun K hK => ?_) (AllReadyIn.cons rfl (fun K hK => ?_) AllReadyIn.nil))
              ·
                (go_simp; refine hK _ _ ?_; clear hK K)
                refine wpAnyIn_ready (rs := [4]) (by kernel_rfl) (by simp) ?_
                refine (AllReadyIn.cons rfl (fun K hK => ?_) AllReadyIn.nil)
                (go_simp; refine hK _ _ ?_; clear hK K)
                refine wpAnyIn_ready (rs := [5]) (by kernel_rfl) (by simp) ?_
                refine (AllReadyIn.cons rfl (fun K hK => ?_) AllReadyIn.nil)
                (go_simp; refine ⟨trivial, ?_⟩; gi_at_call 36; refine (CallsIn.inRound l (callsIn_wide.2 (WT.out w.heap.size w.heap.size _ vv (by omega) H4L.out _ HB4.out.drew.size HR4.out))).mono ?_; rintro e w5 ⟨rfl, hr5, hb5, hk5⟩; refine hK _ _ ?_; clear hK K)
                refine wpAnyIn_done (by kernel_rfl) ?_ _
                exact hQ _ _ ⟨hr5, hk5.blk (KeepT.blk (KeepT.below (Below.refl _ _).drew) HX4.out (by decide) (by decide)) (by decide) (by decide), ((Below.refl _ _).drew).trans hb5, (KeepT.below (Below.refl _ _).drew).trans hk5, hb5.size⟩
              ·
                (go_simp; refine hK _ _ ?_; clear hK K)
                refine wpAnyIn_ready (rs := [0]) (by kernel_rfl) (by simp) ?_
                refine (AllReadyIn.cons rfl (fun K hK => ?_) AllReadyIn.nil)
                (go_simp; refine hK _ _ ?_; clear hK K)
                refine wpAnyIn_ready (rs := [5]) (by kernel_rfl) (by simp) ?_
                refine (AllReadyIn.cons rfl (fun K hK => ?_) AllReadyIn.nil)
                (go_simp; refine ⟨trivial, ?_⟩; gi_at_call 36; refine (CallsIn.inRound l (callsIn_wide.2 (WT.out w.heap.size w.heap.size _ vv (by omega) H4L.out _ HB4.out.drew.size HR4.out))).mono ?_; rintro e w5 ⟨rfl, hr5, hb5, hk5⟩; refine hK _ _ ?_; clear hK K)
                refine wpAnyIn_done (by kernel_rfl) ?_ _
                exact hQ _ _ ⟨hr5, hk5.blk (KeepT.blk (KeepT.below (Below.refl _ _).drew) HX4.out (by decide) (by decide)) (by decide) (by decide), ((Below.refl _ _).drew).trans hb5, (KeepT.below (Below.refl _ _).drew).trans hk5, hb5.size⟩
      case Y =>
        intro a wx hx
        obtain ⟨y1, y2, y3, y4, y5⟩ := hx
        have e2 := HAPP.out
        have e3 := HACC.out
        refine ⟨(((keepsOthers_below HB3b.out).trans (HK4.out.others HB4s.out.size)).trans (y4.others y5)).from _, ((HB3b.out.mono HB.out.size).trans HB4s.out).trans y3, ⟨⟨⟨?_, y2⟩, HB4.out.trans y3⟩, ?_⟩⟩
        · rw [e2, ← HNM.out, ← HVV.out, ← List.append_assoc, ← List.append_assoc, e3]
          exact y1
        · have a1 := HB3b.out.size
          have a2 := HB4s.out.size
          omega
    case done =>
      rintro D ys W hD rfl ⟨⟨⟨hr, bx⟩, hB⟩, h5⟩ hK
      have hpl := flat_node ys
      have hl0 := natL_ten (u := t.size) (by omega)
      have hEL : natL t.size ++ ys.flatMap (fun x => encE x.1.2) = encL t.toList := by
        unfold encL
        rw [← T.size_eq, ← hxs, List.flatMap_map]
      rw [hEL] at hr
      have hle : (encL t.toList).length ≤ 1000000000 := by rw [← hEL, List.length_append]; omega
      have cx := bx.cell
      have HR := hid hr
      have HBe := hid hB
      have hDl : D < W.heap.size := (Array.getElem?_eq_some_iff.1 hK).1
      clear hr bx hB hxs hEL hr0 hx0 hbt hbw hpl
      gi_wp2_with (refine ⟨trivial, ?_⟩; gi_at_call 37; refine (callsIn_wide.2 (WB.out _ _ _ hle _ HR.out)).mono ?_; rintro e w6 ⟨v, rfl, ho, hb6⟩; obtain ⟨A, c, rfl, -, -⟩ := own_shape ho; have HO := hid ho; have HB6 := hid hb6; clear ho hb6)
      have hK6 : w6.heap[D]? = some (.deferred (some [])) := (HB6.out.block D hDl).trans hK
      have hW6 := HB6.out.size
      refine ⟨by simp, .inl ⟨_, _, rfl, run_takeDeferred hK6, ?_⟩⟩
      refine ⟨.slice A (encL t.toList).length c, by simp [results, Tryz.results8, go_sem], _, rfl, ?_, ?_⟩
      · exact ownsRow_putObj (HO.out.lower (base' := w.heap.size) (by omega)) (.deferred none) hK6 rfl
      · exact (HBe.out.trans (HB6.out.mono HBe.out.size)).trans (belowK_b (w := w) (Nat.le_refl _) _ D _ _ (by simp at hD; omega) hK6 rfl rfl)
    case stop =>
      rintro D c pre W hD hpre hf
      exact hf.elim
theorem stEncode_any (p : Option Addr) (t : T) (w : World) (hs : IsState w p t) (hz : t.size ≤ 1000) (hQ : ∀ x ∈ t.toList, entOk x) :
    Calls Tryz.prog 8 #[.pointer p] w fun e W' => ∃ v, e = .returned v ∧ W'.ownsRow w.heap.size 5 1 v (encL t.toList).length ((encL t.toList).map u8v) ∧ Below w.heap.size w W' :=
  callsIn_wide.1 (stEncode_in 3 (Nat.le_refl _) p t w hs hz hQ)
end Go.Proofs.YtfdbanhbegngoaaGreatDoor
