/-
  THE LAWS' HELPERS, WALKED: replevinlaw05.To.
-/
import Derived.Test.YtnbgfalhmnbefaaGreatDoorChg
import Derived.BigRegion
import Derived.Deep.RegionHeld3
namespace Go.Proofs.YtnbgfalhmnbefaaGreatDoor
open Go.RowKit

/-- A slice value that reads as a list of changes. -/
def RowC (w : World) (A : Option Addr) (n c : Nat) (l : List Ch) : Prop := Sl w w.heap.size 7 A n c (l.flatMap chCells)
theorem RowC.below {w w' : World} {A : Option Addr} {n c : Nat} {l : List Ch} (h : RowC w A n c l) (hb : Below w.heap.size w w') : RowC w' A n c l := (Sl.below h hb).more hb.size
theorem Tryz.info_C : (Tryz.prog.info? 54).map (fun i => (i.zero, i.size, i.bytes)) = some (some (.agg #[.int .i64 0, .string ⟨#[]⟩, .int .i64 0, .int .i64 0, .string ⟨#[]⟩, .string ⟨#[]⟩, .bool false]), 7, 80) := by kernel_rfl
theorem Tryz.info_Ch : (Tryz.prog.info? 52).map (fun i => (i.zero, i.size, i.bytes)) = some (some (.agg #[.int .i64 0, .string ⟨#[]⟩, .int .i64 0, .int .i64 0, .string ⟨#[]⟩, .string ⟨#[]⟩, .bool false]), 7, 80) := by kernel_rfl

theorem snocC (l : List Ch) (k : Nat) (h : k < l.length) : ((l.take (k + 1)).map cutC).flatMap chCells = ((l.take k).map cutC).flatMap chCells ++ chCells (cutC l[k]) := by
  rw [List.take_add_one, List.getElem?_eq_getElem h, List.map_append, List.flatMap_append]
  simp
theorem rows_ne {w : World} {b1 b2 : Nat} {e1 e2 : TypeId} {s1 s2 n1 n2 : Nat} {v1 v2 : Value} {x1 x2 : List Value} (h1 : w.ownsRow b1 e1 s1 v1 n1 x1) (h2 : w.ownsRow b2 e2 s2 v2 n2 x2) (hne : e1 ≠ e2) : v1.ownBlock = none ∨ v1.ownBlock ≠ v2.ownBlock := by
  rcases h1.2 with ⟨rfl, _⟩ | ⟨g1, c1, cu1, rfl, _, hh1, _⟩
  · left; rfl
  · right
    rcases h2.2 with ⟨rfl, _⟩ | ⟨g2, c2, cu2, rfl, _, hh2, _⟩
    · simp [Value.ownBlock]
    · intro he
      have : g1 = g2 := by simpa [Value.ownBlock] using he
      subst this
      exact Blk.ne_ (t := e1) (t' := e2) hh1 hh2 hne rfl
theorem own_ne {w : World} {b1 : Nat} {e1 : TypeId} {s1 n1 : Nat} {v1 : Value} {x1 : List Value} (h1 : w.ownsRow b1 e1 s1 v1 n1 x1) {g : Nat} (hg : w.heap.size ≤ g) : some g ≠ v1.ownBlock := by
  intro e
  have := (h1.lt g e.symm).2
  omega
theorem chCells_one1 (c : Ch) : ∀ u ∈ chCells c, u.oneCell' = true := by
  have := chCells_one [c]
  simpa using this

set_option maxRecDepth 100000 in
set_option maxHeartbeats 3200000 in
theorem to5_own (A : Option Addr) (n c : Nat) (l : List Ch) (hO : ∀ x ∈ l, x.name.owner.size ≤ maxLen ∧ x.name.text.size ≤ maxLen ∧ x.value.size ≤ maxLen) (w : World) (hs : RowC w A n c l) :
    Calls Tryz.prog 21 #[.slice A n c] w fun e w' => ∃ A1 c1 A2 c2, e = .returned (.tuple #[.slice A1 (toC l).length c1, .slice A2 (toC l).length c2]) ∧ w'.ownsRow w.heap.size 52 7 (.slice A1 (toC l).length c1) (toC l).length ((toC l).flatMap chCells) ∧ w'.ownsRow w.heap.size 54 7 (.slice A2 (toC l).length c2) (toC l).length ((toC l).flatMap chCells) ∧ Below w.heap.size w w' := by
  obtain ⟨rfl, hmx, hel⟩ := Sl.elem hs chCells_len (by decide)
  unfold maxLen at hmx
  obtain ⟨i0, hi, hz0, hz1, hz2⟩ := info_parts Tryz.info_C
  obtain ⟨j0, hj, hy0, hy1, hy2⟩ := info_parts Tryz.info_Ch
  clear hs
  go_enter Tryz.func21, Tryz.ntmps21
  go_wp2_with fail
  go_loopw [4, 5, 6] (fun o p i wr => ∃ k : Nat, i = .int .i64 k ∧ k ≤ l.length ∧ k ≤ 24 ∧ wr.ownsRow w.heap.size 52 7 o k (((l.take k).map cutC).flatMap chCells) ∧ wr.ownsRow w.heap.size 54 7 p k (((l.take k).map cutC).flatMap chCells) ∧ Below w.heap.size w wr) (fun _ _ i _ => l.length - (intOf i).toNat)
  case atStart => exact ⟨0, rfl, Nat.zero_le _, Nat.zero_le _, World.ownsRow_nil _ _ _ _, World.ownsRow_nil _ _ _ _, Below.refl _ _⟩
  case round =>

    obtain ⟨k, rfl, hk, hk24, ho, hp, hB⟩ := hrel
    by_cases h1 : k < l.length
    · have h1i : (k : Int) < (l.length : Int) := by omega
      by_cases h2 : k < 24
      · have h2i : (k : Int) < 24 := by omega
        rcases hel with rfl | ⟨b, off, rfl, hb, hc⟩
        · simp at h1
        have KK : ∀ w', Below w.heap.size w w' → w'.cell? ⟨b, off + k * 7, none⟩ = some (.int .i64 l[k].name.kind) ∧ w'.cell? ⟨b, off + k * 7 + 1, none⟩ = some (.string l[k].name.owner) ∧ w'.cell? ⟨b, off + k * 7 + 2, none⟩ = some (.int .i64 l[k].name.number) ∧ w'.cell? ⟨b, off + k * 7 + 3, none⟩ = some (.int .i64 l[k].name.index) ∧ w'.cell? ⟨b, off + k * 7 + 4, none⟩ = some (.string l[k].name.text) ∧ w'.cell? ⟨b, off + k * 7 + 5, none⟩ = some (.string l[k].value) ∧ w'.cell? ⟨b, off + k * 7 + 6, none⟩ = some (.bool l[k].absent) := by
          intro w' hb'
          have e := fun j u (hj : j < 7) (hu : (chCells l[k])[j]? = some u) => ((bcell hb').1 _ _ hb).trans (hc k j u h1 hj hu)
          exact ⟨e 0 _ (by decide) rfl, e 1 _ (by decide) rfl, e 2 _ (by decide) rfl, e 3 _ (by decide) rfl, e 4 _ (by decide) rfl, e 5 _ (by decide) rfl, e 6 _ (by decide) rfl⟩
        obtain ⟨q0, q1, q2, q3, q4, q5, q6⟩ := KK wr hB
        obtain ⟨s1, s2, s3⟩ := hO l[k] (List.getElem_mem h1)
        unfold maxLen at s1 s2 s3
        have HO := hid ho; have HP := hid hp
        clear KK hc hO ho hp
        generalize hx : l[k] = x at *
        obtain ⟨⟨kd, ow, nu, ix, tx⟩, vl, ab⟩ := x
        dsimp only at *
        have HX := hid hx
        clear hx
        have m1 : (min (vl.size : Int) 200).toNat = min vl.size 200 := by omega
        have m2 : (min (ow.size : Int) 100).toNat = min ow.size 100 := by omega
        have m3 : (min (tx.size : Int) 100).toNat = min tx.size 100 := by omega
        have m4 : (0 : Int) ≤ min (ow.size : Int) 100 := by omega
        have m5 : (0 : Int) ≤ min (tx.size : Int) 100 := by omega
        have m6 : min (ow.size : Int) 100 ≤ (ow.size : Int) := by omega
        have m7 : min (tx.size : Int) 100 ≤ (tx.size : Int) := by omega
        have HZ := And.intro (And.intro hmx h1) (And.intro hk h1i)
        go_upto_region 8 with fail
        go_region
        have HC := hid (show cutC ⟨⟨kd, ow, nu, ix, tx⟩, vl, ab⟩ = ⟨⟨kd, ow.extract 0 (min ow.size 100), nu, ix, tx.extract 0 (min tx.size 100)⟩, vl.extract 0 (min vl.size 200), ab⟩ from rfl)
        generalize ow.extract 0 (min ow.size 100) = o1 at *
        generalize tx.extract 0 (min tx.size 100) = t1 at *
        generalize vl.extract 0 (min vl.size 200) = v1 at *
        generalize hW : (wr.alloc (.cells #[.int .i64 kd, .string o1, .int .i64 nu, .int .i64 ix, .string t1, .string v1, .bool ab] 54)).drew = W
        have b0 : Blk W wr.heap.size 54 #[.int .i64 kd, .string o1, .int .i64 nu, .int .i64 ix, .string t1, .string v1, .bool ab] := by rw [← hW]; exact (Blk.new _ _ _).drew
        have hBW : Below wr.heap.size wr W := by rw [← hW]; exact ((Below.refl _ _).alloc (Nat.le_refl _) _).drew
        have lW := b0.lt
        clear hW q0 q1 q2 q3 q4 q5 q6 s1 s2 s3 m1 m2 m3 m4 m5 m6 m7
        have hne := own_ne HP.out (Nat.le_refl _)
        have HPW := hid (ownsRow_below HP.out hBW)
        have HOW := hid (ownsRow_below HO.out hBW)
        have hBb : w.heap.size ≤ wr.heap.size := hB.size
        have p0 : W.cell? ⟨wr.heap.size, 0, none⟩ = some (.int .i64 kd) := b0.cell 0
        have p1 : W.cell? ⟨wr.heap.size, 1, none⟩ = some (.string o1) := b0.cell 1
        have p2 : W.cell? ⟨wr.heap.size, 2, none⟩ = some (.int .i64 nu) := b0.cell 2
        have p3 : W.cell? ⟨wr.heap.size, 3, none⟩ = some (.int .i64 ix) := b0.cell 3
        have p4 : W.cell? ⟨wr.heap.size, 4, none⟩ = some (.string t1) := b0.cell 4
        have p5 : W.cell? ⟨wr.heap.size, 5, none⟩ = some (.string v1) := b0.cell 5
        have p6 : W.cell? ⟨wr.heap.size, 6, none⟩ = some (.bool ab) := b0.cell 6
        go_upto_region 10 with (at_builtin; refine wpList_append_own _ rfl (.tmp 52) (.tmp 54) _ rfl w.heap.size 54 i0 (.agg #[.int .i64 0, .string ⟨#[]⟩, .int .i64 0, .int .i64 0, .string ⟨#[]⟩, .string ⟨#[]⟩, .bool false]) 7 80 Tryz.underlying22 hi hz0 hz1 hz2 rfl (by decide) _ _ _ rfl (HPW.out.alloc _) ⟨W.heap.size, 0, none⟩ 1 1 (chCells ⟨⟨kd, o1, nu, ix, t1⟩, v1, ab⟩) rfl rfl (cells_new W #[.int .i64 kd, .string o1, .int .i64 nu, .int .i64 ix, .string t1, .string v1, .bool ab] _) (chCells_one1 _) (by unfold maxLen; omega) (by omega) (by simp; omega) ?_; intro r1 w1 hown1 hgrow1 _)
        have b1 : Blk w1 wr.heap.size 54 #[.int .i64 kd, .string o1, .int .i64 nu, .int .i64 ix, .string t1, .string v1, .bool ab] := (b0.alloc _).grown hgrow1 hne
        have hB1 : Below w.heap.size w w1 := Below.grown ((hB.trans (hBW.mono hBb)).alloc (by have := hBW.size; omega) _) hgrow1 (by have := hBW.size; simp; omega) (fun j e => (HP.out.lt j e).1)
        have HO1 := hid ((HOW.out.alloc _).kept hgrow1 (rows_ne HOW.out HPW.out (by decide)))
        have HO2 := hid hown1
        have l1 := b1.lt
        have K1 := hid (show ∀ w', Blk w' wr.heap.size 54 #[.int .i64 kd, .string o1, .int .i64 nu, .int .i64 ix, .string t1, .string v1, .bool ab] → w'.cell? ⟨wr.heap.size, 0, none⟩ = some (.int .i64 kd) ∧ w'.cell? ⟨wr.heap.size, 1, none⟩ = some (.string o1) ∧ w'.cell? ⟨wr.heap.size, 2, none⟩ = some (.int .i64 nu) ∧ w'.cell? ⟨wr.heap.size, 3, none⟩ = some (.int .i64 ix) ∧ w'.cell? ⟨wr.heap.size, 4, none⟩ = some (.string t1) ∧ w'.cell? ⟨wr.heap.size, 5, none⟩ = some (.string v1) ∧ w'.cell? ⟨wr.heap.size, 6, none⟩ = some (.bool ab) from fun w' cc =>
          ⟨cc.cell 0, cc.cell 1, cc.cell 2, cc.cell 3, cc.cell 4, cc.cell 5, cc.cell 6⟩)
        have HB1 := hid b1
        have hneO := own_ne HO.out (Nat.le_refl _)
        obtain ⟨z0, z1, z2, z3, z4, z5, z6⟩ := K1.out w1 b1
        have T4 := hid (fun w' => to4_any ⟨kd, o1, nu, ix, t1⟩ w')
        unfold nmV at T4
        clear hown1 b0 b1 p0 p1 p2 p3 p4 p5 p6 hne hgrow1
        go_region_held3 (fun w' => w'.cell? ⟨wr.heap.size, 0, none⟩ = some (.int .i64 kd) ∧ w'.cell? ⟨wr.heap.size, 1, none⟩ = some (.string o1) ∧ w'.cell? ⟨wr.heap.size, 2, none⟩ = some (.int .i64 nu) ∧ w'.cell? ⟨wr.heap.size, 3, none⟩ = some (.int .i64 ix) ∧ w'.cell? ⟨wr.heap.size, 4, none⟩ = some (.string t1) ∧ w'.cell? ⟨wr.heap.size, 5, none⟩ = some (.string v1) ∧ w'.cell? ⟨wr.heap.size, 6, none⟩ = some (.bool ab))
          (first | go_keep | exact K1.out _ (HB1.out.below hB2 l1) | exact K1.out _ (((HB1.out.below hB2 l1).alloc _).grown hgrow3 hneO))
          (first
            | (go_at_call 16; refine (T4.out _).mono ?_; rintro e w2 ⟨rfl, hb2⟩; have hB2 : Below w1.heap.size w1 w2 := (Below.refl _ w1).drew.trans (hb2.mono (Nat.le_refl _)))
            | (refine step_append_gen _ (by rfl) (.tmp 56) (.tmp 65) _ (by rfl) w.heap.size 52 j0 (.agg #[.int .i64 0, .string ⟨#[]⟩, .int .i64 0, .int .i64 0, .string ⟨#[]⟩, .string ⟨#[]⟩, .bool false]) 7 80 Tryz.underlying46 hj hy0 hy1 hy2 (by rfl) (by decide) _ _ _ (by rfl) ((ownsRow_below HO1.out hB2).alloc _) (some ⟨w2.heap.size, 0, none⟩) 1 1 (chCells ⟨⟨kd, o1, nu, ix, t1⟩, v1, ab⟩) (by rfl) (by rfl) (fun e => nomatch e) (fun ad e => by cases e; exact cells_new w2 #[.int .i64 kd, .string o1, .int .i64 nu, .int .i64 ix, .string t1, .string v1, .bool ab] _) (chCells_one1 _) (by unfold maxLen; omega) (by omega) (by have := hB2.size; have := hB1.size; simp; omega) ?_; intro r2 w3 hown3 hgrow3))
        have hB3 : Below w.heap.size w w3 := Below.grown ((hB1.trans (hB2.mono hB1.size)).alloc (by have := hB2.size; have := hB1.size; omega) _) hgrow3 (by have := hB2.size; have := hB1.size; simp; omega) (fun j e => (HO1.out.lt j e).1)
        have HO3 := hid (((ownsRow_below HO2.out hB2).alloc _).kept hgrow3 (rows_ne (ownsRow_below HO2.out hB2) (ownsRow_below HO1.out hB2) (by decide)))
        have HO4 := hid hown3
        have HS := hid (snocC l k h1)
        clear hown3 hgrow3
        go_wp2_with fail
        go_roundw
        case rel => exact ⟨k + 1, by go_num, by omega, by omega, by rw [HS.out, HX.out, HC.out]; exact HO4.out, by rw [HS.out, HX.out, HC.out]; exact HO3.out, hB3⟩
        case measure => simp [intOf]; omega
      · obtain rfl : k = 24 := by omega
        have HL := hid (show toC l = (l.take 24).map cutC from rfl)
        have HN := hid (show (toC l).length = 24 by unfold toC; simp; omega)
        obtain ⟨A1, c1, rfl, hs1⟩ := Sl.of_own ho
        obtain ⟨A2, c2, rfl, hs2⟩ := Sl.of_own hp
        have H1 := hid ho; have H2 := hid hp
        clear hs1 hs2 ho hp hel
        go_wp2_with fail
        go_ret2
        exact ⟨A1, c1, A2, c2, by rw [HN.out]; rfl, by rw [HN.out, HL.out]; exact H1.out, by rw [HN.out, HL.out]; exact H2.out, hB⟩
    · obtain rfl : k = l.length := by omega
      have HL := hid (show toC l = (l.take l.length).map cutC by unfold toC; rw [List.take_of_length_le hk24, List.take_length])
      have HN := hid (show (toC l).length = l.length by unfold toC; simp; omega)
      obtain ⟨A1, c1, rfl, hs1⟩ := Sl.of_own ho
      obtain ⟨A2, c2, rfl, hs2⟩ := Sl.of_own hp
      have H1 := hid ho; have H2 := hid hp
      clear hs1 hs2 ho hp hel
      go_wp2_with fail
      go_ret2
      exact ⟨A1, c1, A2, c2, by rw [HN.out]; rfl, by rw [HN.out, HL.out]; exact H1.out, by rw [HN.out, HL.out]; exact H2.out, hB⟩
theorem RowC.of_own {w : World} {base n c : Nat} {e : TypeId} {A : Option Addr} {l : List Ch} (h : w.ownsRow base e 7 (.slice A n c) n (l.flatMap chCells)) : RowC w A n c l := by
  obtain ⟨A', c', hv, hs⟩ := Sl.of_own h
  cases hv
  exact hs
theorem to5_any (A : Option Addr) (n c : Nat) (l : List Ch) (hO : ∀ x ∈ l, x.name.owner.size ≤ maxLen ∧ x.name.text.size ≤ maxLen ∧ x.value.size ≤ maxLen) (w : World) (hs : RowC w A n c l) :
    Calls Tryz.prog 21 #[.slice A n c] w fun e w' => ∃ A1 c1 A2 c2, e = .returned (.tuple #[.slice A1 (toC l).length c1, .slice A2 (toC l).length c2]) ∧ RowC w' A1 (toC l).length c1 (toC l) ∧ RowC w' A2 (toC l).length c2 (toC l) ∧ Below w.heap.size w w' := by
  refine (to5_own A n c l hO w hs).mono fun e w' ⟨A1, c1, A2, c2, he, h1, h2, hb⟩ => ⟨A1, c1, A2, c2, he, RowC.of_own h1, RowC.of_own h2, hb⟩
end Go.Proofs.YtnbgfalhmnbefaaGreatDoor
