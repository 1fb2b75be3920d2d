/-
  LAYER 24 (view), WALKED: call, Set.
  LAYER 34 (lock), WALKED: a birth's check, the lock's name, begin.
  PLAIN LAWS OF LAYER 3: parts one after the other; the digits of a number. No program in sight.
  PLAIN LAW OF NAMES: object.Compare orders all names totally, and says 0 of equal names alone. No function of the program is walked here.
  PLAIN LAWS OF LAYER 34 (lock): the holders as an ascending row: where a process stands, the row with it, the row without it; when a lock is in order; what the operations make of a lock. No function of the program is walked here.
-/
import Derived.Test.YtfgecaphhdedcaaGreatDoorZ8
import Derived.Test.YtfgecaphhdedcaaGreatDoorZ3
import Derived.Test.YtfgecaphhdedcaaGreatDoorZ5
import Derived.Test.YtfgecaphhdedcaaGreatDoorZ1
import Derived.Test.YtfgecaphhdedcaaGreatDoorZ4
namespace Go.Proofs.YtfgecaphhdedcaaGreatDoor
open Go.RowKit

section
variable {w w' : World} {lo vb k : Nat} {T : T} {f f' : NF} {sp A : Option Addr} {br bn n c : Nat} {xs : List Value}
theorem Below.setCell_ {B : Nat} {a w : World} (h : Below B a w) {p : Addr} (hp : B ≤ p.block) (v : Value) : Below B a (w.setCell p v) := h.setCell hp v
theorem IsMp.far {b : Nat} {g : Nm → Option Ch} (h : IsMp w b k g) {p : Addr} (hp : p.block ≠ b) (v : Value) : IsMp (w.setCell p v) b k g := by
  obtain ⟨es, cl, ho⟩ := h.obj
  exact h.of_obj ho ((Below.heap_setCell w p v b (Ne.symm hp)).trans ho)
theorem VwAt.push (h : VwAt w lo vb k T f sp br bn A n c xs) (hb : Below w.heap.size w w') {v : Value} {ys : List Value} (ho : w'.ownsRow w.heap.size 148 7 v (n + 1) ys) (hy : ∀ u ∈ ys, u.oneCell' = true) :
    (∃ A' c', VwAt (w'.setCell ⟨vb, 2, none⟩ v) lo vb (k + 1) T f sp br bn A' (n + 1) c' ys) ∧ IsMp (w'.setCell ⟨vb, 2, none⟩ v) bn k (mpF f) := by
  have hlt := h.lt
  have hv := h.below hb
  obtain ⟨A', c', rfl, hr⟩ := RowG.of_own ho hy
  obtain ⟨bk, l1, l2, l3, ne, ⟨w0, h0, h1, h2⟩, ok, ⟨rf, mr⟩, mn, ro, nk⟩ := hv
  have n1 : vb ≠ br := map_ne bk mr.obj
  have n2 : vb ≠ bn := map_ne bk mn.obj
  refine ⟨⟨A', c', bk.set_ 2 _, l1, l2, l3, ne, ⟨w0, h0, h1, h2.setCell (by show w0.heap.size ≤ vb; omega) _⟩, ok, ⟨rf, (mr.far (p := ⟨vb, 2, none⟩) n1 _).mono (Nat.le_succ _)⟩, (mn.far (p := ⟨vb, 2, none⟩) n2 _).mono (Nat.le_succ _), hr.keep (fun i cs hi => (Below.heap_setCell w' _ _ i ?_).trans hi) (by simp), by omega⟩, mn.far (p := ⟨vb, 2, none⟩) n2 _⟩
  rintro rfl
  exact Blk.ne_ bk hi (by decide) rfl
theorem VwAt.wrote (h : VwAt w lo vb k T f sp br bn A n c xs) (hm : IsMp w' bn k (mpF f')) (hg : w.grownBy w' (some bn)) : VwAt w' lo vb k T f' sp br bn A n c xs := by
  have hlt := h.lt
  obtain ⟨bk, l1, l2, l3, ne, ⟨w0, h0, h1, h2⟩, ok, ⟨rf, mr⟩, mn, ro, nk⟩ := h
  have kv := KeepV.map mn.obj hg
  exact ⟨bk.grown hg (fun e => map_ne bk mn.obj (by cases e; rfl)), l1, l2, l3, ne, ⟨w0, h0, h1, h2.grown hg (by omega) (fun j e => by cases e; omega)⟩, ok, ⟨_, mr.kept hg (fun e => ne (by cases e; rfl))⟩, hm, kv.rowG ro (by decide) hg.size, nk⟩
theorem KeepV.setV (w : World) {vb : Nat} {cs : Array Value} (hk : Blk w vb 85 cs) (i : Nat) (v : Value) : KeepV w (w.setCell ⟨vb, i, none⟩ v) := fun j o ho _ h2 => by
  refine (Below.heap_setCell w ⟨vb, i, none⟩ v j ?_).trans ho
  intro e
  have e' : j = vb := e
  subst e'
  unfold Blk at hk
  rw [hk] at ho
  cases ho
  exact h2 _ _ rfl
end
theorem cells_blk' {w : World} {g : Nat} {t : TypeId} {cs : Array Value} (h : Blk w g t cs) : ∀ j u, cs.toList[j]? = some u → w.cell? ((⟨g, 0, none⟩ : Addr).add j) = some u := by
  intro j u hu
  have := h.cell j
  rw [← Array.getElem?_toList, hu] at this
  rw [addr_add', Nat.zero_add]
  exact this
def setE (n : Nm) (v : ByteArray) : Int := if checkN n ≠ 0 then 12 else if 65536 < v.size then 5 else 0

set_option maxRecDepth 100000 in
set_option maxHeartbeats 3200000 in
theorem vcall_any (lo vb k : Nat) (T : T) (f : NF) (n : Nm) (o : Option ByteArray) (hn : n.Ok) (hk : k ≤ 1000000) (w : World) (h : IsView w lo vb k T f) :
    Calls Tryz.prog 94 #[.pointer (some ⟨vb, 0, none⟩), chV (chOf n o)] w fun r w' => r = .returned (.int .i64 (setE n (getS o))) ∧ IsView w' lo vb (k + 1) T (if setE n (getS o) = 0 then setF f n o else f) ∧ Below lo w w' ∧ KeepV w w' := by
  have HC := hid (fun w' => checkN_any n hn w')
  have SE := hid (show setE n (getS o) = if checkN n ≠ 0 then 12 else if 65536 < (getS o).size then 5 else 0 from rfl)
  have HNU := hid (fun h => Nm.num (n := n) hn h)
  have hcv : chV (chOf n o) = .agg #[.int .i64 n.kind, .string n.owner, .int .i64 n.number, .int .i64 n.index, .string n.text, .string (getS o), .bool (!o.isSome)] := rfl
  rw [hcv]
  have HCV := hid hcv
  clear hcv
  unfold nmV at HC
  obtain ⟨sp, br, bn, A, cl, cc, xs, hv⟩ := h
  have hlo := hv.lt
  generalize setE n (getS o) = se at *
  generalize hce : checkN n = ce at *
  generalize hval : getS o = val at *
  generalize hab : (!o.isSome) = ab at *
  go_enter Tryz.func94, Tryz.ntmps94
  go_upto_region 1 with fail
  generalize hW : w.alloc (.cells #[.int .i64 n.kind, .string n.owner, .int .i64 n.number, .int .i64 n.index, .string n.text, .string val, .bool ab] 148) = W
  have b0 : Blk W w.heap.size 148 #[.int .i64 n.kind, .string n.owner, .int .i64 n.number, .int .i64 n.index, .string n.text, .string val, .bool ab] := by rw [← hW]; exact Blk.new _ _ _
  have hB0 : Below w.heap.size w W := by rw [← hW]; exact (Below.refl _ _).alloc (Nat.le_refl _) _
  have lW : w.heap.size < W.heap.size := b0.lt
  clear hW
  have KK : ∀ w', Below W.heap.size W w' → w'.cell? ⟨w.heap.size, 0, none⟩ = some (.int .i64 n.kind) ∧ w'.cell? ⟨w.heap.size, 1, none⟩ = some (.string n.owner) ∧ w'.cell? ⟨w.heap.size, 2, none⟩ = some (.int .i64 n.number) ∧ w'.cell? ⟨w.heap.size, 3, none⟩ = some (.int .i64 n.index) ∧ w'.cell? ⟨w.heap.size, 4, none⟩ = some (.string n.text) ∧ w'.cell? ⟨w.heap.size, 5, none⟩ = some (.string val) ∧ w'.cell? ⟨w.heap.size, 6, none⟩ = some (.bool ab) := by
    intro w' hb'
    have cc := b0.below hb' lW
    exact ⟨cc.cell 0, cc.cell 1, cc.cell 2, cc.cell 3, cc.cell 4, cc.cell 5, cc.cell 6⟩
  have K := hid KK
  obtain ⟨q0, q1, q2, q3, q4, q5, q6⟩ := KK W (Below.refl _ _)
  clear KK
  have HB0 := hid b0
  clear b0
  by_cases hc0 : ce = 0
  · subst hc0
    have hnum := HNU.out rfl
    by_cases hl : 65536 < val.size
    · have se0 := SE.out
      rw [if_neg (by simp), if_pos hl] at se0
      subst se0
      have hl' : (65536 : Int) < (val.size : Int) := by omega
      clear SE HNU hce hl
      go_wp2_with (go_at_call 56; refine (HC.out _).mono ?_; rintro e w2 ⟨rfl, hb2⟩; obtain ⟨r0, r1, r2, r3, r4, r5, r6⟩ := K.out _ hb2)
      have hB2 : Below w.heap.size w w2 := hB0.trans (hb2.mono hB0.size)
      go_ret
      exact ⟨rfl, ⟨_, _, _, _, _, _, _, (hv.below hB2).mono (Nat.le_succ _)⟩, hB2.mono hlo, KeepV.below hB2⟩
    · have se0 := SE.out
      rw [if_neg (by simp), if_neg hl] at se0
      subst se0
      have hl' : ¬ (65536 : Int) < (val.size : Int) := by omega
      clear SE HNU hce hl
      go_upto_region 7 with (go_at_call 56; refine (HC.out _).mono ?_; rintro e w2 ⟨rfl, hb2⟩; obtain ⟨r0, r1, r2, r3, r4, r5, r6⟩ := K.out _ hb2)
      have HB2 := hid (hB0.trans (hb2.mono hB0.size))
      have HV2 := hid (hv.below HB2.out)
      have HBX := hid (HB0.out.below hb2 lW)
      have ncc : cl ≤ 1000000 := by have := hv.nk; omega
      have c2 : w2.cell? ⟨vb, 2, none⟩ = some (.slice A cl cc) := HV2.out.bk.cell 2
      have c2a : (w2.alloc (.cells #[.int .i64 n.kind, .string n.owner, .int .i64 n.number, .int .i64 n.index, .string n.text, .string val, .bool ab] 148)).cell? ⟨vb, 2, none⟩ = some (.slice A cl cc) := (HV2.out.bk.alloc _).cell 2
      obtain ⟨i0, hi, hz0, hz1, hz2⟩ := info_parts Tryz.info_chg
      have hlx : xs.length = cl * 7 := hv.ro.1.1
      have CLN := hid (fun w' (hb : Below w2.heap.size w2 w') => vclone_any A cl cc xs (by omega) w' (HV2.out.ro.below hb))
      have PU := hid (fun w' (hb : Below w2.heap.size w2 w') v ho => HV2.out.push (w' := w') hb (v := v) (ys := xs ++ chCells (chOf n o)) ho (fun u hu => by
        rcases List.mem_append.1 hu with h | h
        · exact HV2.out.ro.one u h
        · exact chCells_one [chOf n o] u (by simpa using h)))
      have CC := hid (show chCells (chOf n o) = [.int .i64 n.kind, .string n.owner, .int .i64 n.number, .int .i64 n.index, .string n.text, .string val, .bool ab] from by rw [← hval, ← hab]; rfl)
      have KX := hid (show ∀ w', Below w2.heap.size w2 w' → w'.cell? ⟨w.heap.size, 0, none⟩ = some (.int .i64 n.kind) ∧ w'.cell? ⟨w.heap.size, 1, none⟩ = some (.string n.owner) ∧ w'.cell? ⟨w.heap.size, 2, none⟩ = some (.int .i64 n.number) ∧ w'.cell? ⟨w.heap.size, 3, none⟩ = some (.int .i64 n.index) ∧ w'.cell? ⟨w.heap.size, 4, none⟩ = some (.string n.text) ∧ w'.cell? ⟨w.heap.size, 5, none⟩ = some (.string val) ∧ w'.cell? ⟨w.heap.size, 6, none⟩ = some (.bool ab) ∧ w'.cell? ⟨vb, 2, none⟩ = some (.slice A cl cc) ∧ w'.frozen? ⟨vb, 2, none⟩ = false from fun w' hb' => by
        have cc := HBX.out.below hb' HBX.out.lt
        have dd := HV2.out.bk.below hb' HV2.out.bk.lt
        exact ⟨cc.cell 0, cc.cell 1, cc.cell 2, cc.cell 3, cc.cell 4, cc.cell 5, cc.cell 6, dd.cell 2, dd.frozen 2⟩)
      clear hv hb2 hB0 lW q0 q1 q2 q3 q4 q5 q6 K HC hval hab
      go_cut [] (fun wx => (∃ A' c', VwAt wx lo vb (k + 1) T f sp br bn A' (cl + 1) c' (xs ++ chCells (chOf n o))) ∧ IsMp wx bn k (mpF f) ∧ Blk wx w.heap.size 148 #[.int .i64 n.kind, .string n.owner, .int .i64 n.number, .int .i64 n.index, .string n.text, .string val, .bool ab] ∧ Below lo w2 wx ∧ KeepV w2 wx)
      case first =>
        go_region_law (first
          | (go_simp; go_at_call 108; refine (CLN.out _ (Below.refl _ _).drew).mono ?_; rintro e w5 ⟨v5, rfl, ho5, hb5⟩; have HB5 := hid ((Below.refl w2.heap.size w2).drew.trans hb5); have HO5 := hid ho5; clear ho5 hb5; obtain ⟨x0, x1, x2, x3, x4, x5, x6, xc, xf⟩ := KX.out _ HB5.out)
          | (go_simp; go_at_call 108; refine (CLN.out _ ((Below.refl _ _).alloc (Nat.le_refl _) _).drew).mono ?_; rintro e w5 ⟨v5, rfl, ho5, hb5⟩; have HB5 := hid (((Below.refl w2.heap.size w2).alloc (Nat.le_refl _) _).drew.trans (hb5.mono (by simp))); have HO5 := hid (ho5.lower (base' := w2.heap.size) (by simp)); have HN5 := hid (show ∀ j u, [.int .i64 n.kind, .string n.owner, .int .i64 n.number, .int .i64 n.index, .string n.text, .string val, .bool ab][j]? = some u → w5.cell? ((⟨w2.heap.size, 0, none⟩ : Addr).add j) = some u from cells_blk' (Blk.below (Blk.new w2 148 #[.int .i64 n.kind, .string n.owner, .int .i64 n.number, .int .i64 n.index, .string n.text, .string val, .bool ab]).drew hb5 (by simp))); clear ho5 hb5; obtain ⟨x0, x1, x2, x3, x4, x5, x6, xc, xf⟩ := KX.out _ HB5.out)
          | (refine step_append_gen _ rfl (.tmp 23) (.tmp 25) 69 rfl w2.heap.size 148 i0 (.agg #[.int .i64 0, .string ⟨#[]⟩, .int .i64 0, .int .i64 0, .string ⟨#[]⟩, .string ⟨#[]⟩, .bool false]) 7 80 Tryz.underlying69 hi hz0 hz1 hz2 rfl (by decide) v5 cl xs rfl (HO5.out.alloc _) (some ⟨w5.heap.size, 0, none⟩) 1 1 [.int .i64 n.kind, .string n.owner, .int .i64 n.number, .int .i64 n.index, .string n.text, .string val, .bool ab] rfl rfl (fun e => nomatch e) (fun ad e => by cases e; exact cells_new w5 #[.int .i64 n.kind, .string n.owner, .int .i64 n.number, .int .i64 n.index, .string n.text, .string val, .bool ab] _) (by simp [Value.oneCell']) (by unfold maxLen; omega) (by omega) (by have := HB5.out.size; simp; omega) ?_; intro v6 w6 ho6 hg6; have HB6 := hid (Below.grown (HB5.out.alloc HB5.out.size _) hg6 (by have := HB5.out.size; simp; omega) (fun j e => (HO5.out.lt j e).1)); obtain ⟨A6, c6, rfl, -, -⟩ := own_shape ho6; have HO6 := hid ho6; obtain ⟨y0, y1, y2, y3, y4, y5, y6, yc, yf⟩ := KX.out _ HB6.out; clear ho6 hg6)
          | (refine step_append_gen _ rfl (.tmp 23) (.tmp 25) 69 rfl w2.heap.size 148 i0 (.agg #[.int .i64 0, .string ⟨#[]⟩, .int .i64 0, .int .i64 0, .string ⟨#[]⟩, .string ⟨#[]⟩, .bool false]) 7 80 Tryz.underlying69 hi hz0 hz1 hz2 rfl (by decide) v5 cl xs rfl HO5.out (some ⟨w2.heap.size, 0, none⟩) 1 1 [.int .i64 n.kind, .string n.owner, .int .i64 n.number, .int .i64 n.index, .string n.text, .string val, .bool ab] rfl rfl (fun e => nomatch e) (fun ad e => by cases e; exact HN5.out) (by simp [Value.oneCell']) (by unfold maxLen; omega) (by omega) HB5.out.size ?_; intro v6 w6 ho6 hg6; have HB6 := hid (Below.grown HB5.out hg6 HB5.out.size (fun j e => (HO5.out.lt j e).1)); obtain ⟨A6, c6, rfl, -, -⟩ := own_shape ho6; have HO6 := hid ho6; obtain ⟨y0, y1, y2, y3, y4, y5, y6, yc, yf⟩ := KX.out _ HB6.out; clear ho6 hg6))
        all_goals
          go_wp2_with fail
          go_meet
          have ho6 := HO6.out
          rw [← CC.out] at ho6
          have hp := PU.out w6 HB6.out _ ho6
          have bx6 := HBX.out.below HB6.out HBX.out.lt
          have bv6 := HV2.out.bk.below HB6.out HV2.out.bk.lt
          exact ⟨hp.1, hp.2, bx6.far (p := ⟨vb, 2, none⟩) (Blk.ne_ bx6 bv6 (by decide)) _, (HB6.out.mono (Nat.le_trans hlo HB2.out.size)).setCell HV2.out.l1 _, (KeepV.below HB6.out).trans (KeepV.setV _ bv6 _ _)⟩
      case rest =>
        obtain ⟨⟨A', c', hv8⟩, hm8, hx8, hb8, hk8⟩ := hcut
        obtain ⟨w9, hr9, hm9, hg9⟩ := IsMp.store (w := wc.drew) (hm8.of_obj (w' := wc.drew) (Classical.choose_spec (Classical.choose_spec hm8.obj)) (Classical.choose_spec (Classical.choose_spec hm8.obj))) (by unfold maxLen; omega) hnum (chOf n o)
        rw [HCV.out, show nmV n = .agg #[.int .i64 n.kind, .string n.owner, .int .i64 n.number, .int .i64 n.index, .string n.text] from rfl] at hr9
        rw [mpF_set] at hm9
        have HV9 := hid (VwAt.wrote (w := wc.drew) (hv8.below (Below.refl _ _).drew) hm9 hg9)
        have HB9 := hid ((((HB2.out.mono hlo).trans hb8).drew).grown hg9 (Nat.le_trans hlo (Nat.le_trans HB2.out.size hb8.size)) (fun j e => by cases e; exact hv8.l3))
        have HK9 := hid (((KeepV.below HB2.out).trans hk8).trans ((KeepV.below (Below.refl wc.heap.size wc).drew).trans (KeepV.map hm8.obj hg9)))
        have z0 : wc.cell? ⟨w.heap.size, 0, none⟩ = some (.int .i64 n.kind) := hx8.cell 0
        have z1 : wc.cell? ⟨w.heap.size, 1, none⟩ = some (.string n.owner) := hx8.cell 1
        have z2 : wc.cell? ⟨w.heap.size, 2, none⟩ = some (.int .i64 n.number) := hx8.cell 2
        have z3 : wc.cell? ⟨w.heap.size, 3, none⟩ = some (.int .i64 n.index) := hx8.cell 3
        have z4 : wc.cell? ⟨w.heap.size, 4, none⟩ = some (.string n.text) := hx8.cell 4
        have z5 : wc.cell? ⟨w.heap.size, 5, none⟩ = some (.string val) := hx8.cell 5
        have z6 : wc.cell? ⟨w.heap.size, 6, none⟩ = some (.bool ab) := hx8.cell 6
        have zv : wc.cell? ⟨vb, 3, none⟩ = some (.map (some bn)) := hv8.bk.cell 3
        clear hv8 hm8 hx8 hb8 hk8 hm9 hg9 PU CLN KX
        go_upto_region 8 with fail
        go_region
        all_goals
          go_wp2_with fail
          go_ret
          exact ⟨rfl, ⟨_, _, _, _, _, _, _, HV9.out⟩, HB9.out, HK9.out⟩
  · have se0 := SE.out
    rw [if_pos hc0] at se0
    subst se0
    have hcb : decide (ce = 0) = false := by simp [hc0]
    clear SE HNU hce
    go_wp2_with (go_at_call 56; refine (HC.out _).mono ?_; rintro e w2 ⟨rfl, hb2⟩)
    have hB2 : Below w.heap.size w w2 := hB0.trans (hb2.mono hB0.size)
    go_ret
    exact ⟨rfl, ⟨_, _, _, _, _, _, _, (hv.below hB2).mono (Nat.le_succ _)⟩, hB2.mono hlo, KeepV.below hB2⟩

set_option maxHeartbeats 1000000 in
theorem vset_any (lo vb k : Nat) (T : T) (f : NF) (n : Nm) (v : ByteArray) (hn : n.Ok) (hk : k ≤ 1000000) (w : World) (h : IsView w lo vb k T f) :
    Calls Tryz.prog 74 #[.pointer (some ⟨vb, 0, none⟩), nmV n, .string v] w fun r w' => r = .returned (.int .i64 (setE n v)) ∧ IsView w' lo vb (k + 1) T (if setE n v = 0 then setF f n (some v) else f) ∧ Below lo w w' ∧ KeepV w w' := by
  have VC := hid (fun w' h' => vcall_any lo vb k T f n (some v) hn hk w' h')
  have e1 : chV (chOf n (some v)) = .agg #[.int .i64 n.kind, .string n.owner, .int .i64 n.number, .int .i64 n.index, .string n.text, .string v, .bool false] := rfl
  have e2 : getS (some v) = v := rfl
  rw [e1, e2] at VC
  clear e1 e2
  have h1 := h.below ((Below.refl w.heap.size w).alloc (Nat.le_refl _) (.cells #[.int .i64 n.kind, .string n.owner, .int .i64 n.number, .int .i64 n.index, .string n.text] 66))
  have HV := hid h1
  have hlo := h.lt
  have HB := hid ((Below.refl w.heap.size w).alloc (Nat.le_refl _) (.cells #[.int .i64 n.kind, .string n.owner, .int .i64 n.number, .int .i64 n.index, .string n.text] 66))
  clear h1 h
  unfold nmV
  generalize setE n v = se at *
  generalize (if se = 0 then setF f n (some v) else f) = f2 at *
  go_enter Tryz.func74, Tryz.ntmps74
  go_wp2_with (go_at_call 94; refine (VC.out _ HV.out).mono ?_; rintro r w2 ⟨rfl, hv2, hb2, hk2⟩)
  go_ret
  exact ⟨rfl, hv2, (HB.out.mono hlo).trans hb2, (KeepV.below HB.out).trans hk2⟩
end Go.Proofs.YtfgecaphhdedcaaGreatDoor
namespace Go.Proofs.YtfgecaphhdedcaaGreatDoor
open Go.RowKit

def bchk (m : ByteArray) (n : Int) : Int := if !(M.valid m.data.toList) then 12 else if !(okNum n) then 2 else 0
def lockN (m : ByteArray) (n : Int) : Nm := ⟨12, m, n, 0, ⟨#[]⟩⟩
def beginE (m : ByteArray) (n ep : Int) : Int := if bchk m n ≠ 0 then bchk m n else epochE ep

set_option maxHeartbeats 1000000 in
theorem birth_any (m : ByteArray) (n : Int) (hm : m.size ≤ maxLen) (w : World) : Calls Tryz.prog 29 #[.agg #[.string m, .int .i64 n]] w fun o w' => o = .returned (.int .i64 (bchk m n)) ∧ Below w.heap.size w w' := by
  have VA := hid (valid_any m hm)
  have HB := hid (show bchk m n = if !(M.valid m.data.toList) then 12 else if !(okNum n) then 2 else 0 from rfl)
  generalize bchk m n = x at *
  generalize M.valid m.data.toList = v at *
  have NU := hid (fun w' => number_any n w')
  generalize okNum n = u at *
  have K := hid (fun w' (hb : Below (w.alloc (.cells #[.string m, .int .i64 n] 44)).heap.size (w.alloc (.cells #[.string m, .int .i64 n] 44)) w') => (show w'.cell? ⟨w.heap.size, 1, none⟩ = some (.int .i64 n) from (((Blk.new w 44 #[.string m, .int .i64 n])).below hb (by simp)).cell 1))
  cases v with
  | false =>
    have hx := HB.out
    simp only [Bool.not_false, if_true] at hx
    subst hx
    go_enter Tryz.func29, Tryz.ntmps29
    go_wp2_with (first | (go_at_call 30; refine (VA.out _).mono ?_; rintro o w2 ⟨rfl, hb⟩))
    go_ret
    exact ⟨rfl, ((Below.refl _ _).alloc (Nat.le_refl _) _).trans (hb.mono (by simp))⟩
  | true =>
    cases u <;>
    · have hx := HB.out
      simp at hx
      subst hx
      go_enter Tryz.func29, Tryz.ntmps29
      go_wp2_with (first | (go_at_call 30; refine (VA.out _).mono ?_; rintro o w2 ⟨rfl, hb⟩; have c1 := K.out _ hb) | (go_at_call 60; refine (NU.out _).mono ?_; rintro o w3 ⟨rfl, rfl⟩))
      go_ret
      exact ⟨rfl, ((Below.refl _ _).alloc (Nat.le_refl _) _).trans (hb.mono (by simp))⟩

set_option maxHeartbeats 1000000 in
theorem birthOf_any (m : ByteArray) (n k ix : Int) (tx : ByteArray) (w : World) : Calls Tryz.prog 59 #[.agg #[.string m, .int .i64 n], .int .i64 k, .int .i64 ix, .string tx] w fun o w' => o = .returned (nmV ⟨k, m, n, ix, tx⟩) ∧ Below w.heap.size w w' := by
  unfold nmV
  go_enter Tryz.func59, Tryz.ntmps59
  go_wp2_with fail
  refine bodyPost_ret (v := .agg #[.int .i64 k, .string m, .int .i64 n, .int .i64 ix, .string tx]) (by simp [results, Tryz.results59, go_sem]) rfl ⟨rfl, ?_⟩
  exact (((Below.refl _ w).alloc (Nat.le_refl _) _).alloc (by simp) _)
set_option maxRecDepth 100000 in
set_option maxHeartbeats 1000000 in
theorem ofLock_any (m : ByteArray) (n : Int) (w : World) : Calls Tryz.prog 28 #[.agg #[.string m, .int .i64 n]] w fun o w' => o = .returned (nmV (lockN m n)) ∧ Below w.heap.size w w' := by
  have OF := hid (fun w' => birthOf_any m n 12 0 ⟨#[]⟩ w')
  have hw2 : w.heap.size < ((w.alloc (.cells #[.string m, .int .i64 n] 44)).alloc (.cells #[.int .i64 0, .string ⟨#[]⟩, .int .i64 0, .int .i64 0, .string ⟨#[]⟩] 66)).heap.size := by simp; omega
  go_enter Tryz.func28, Tryz.ntmps28
  go_wp2_with (first | (go_at_call 59; refine (OF.out _).mono ?_; rintro o w2 ⟨rfl, hb⟩; have HB := hid hb; have HK := hid (Blk.below (Blk.new_ (w.alloc (.cells #[.string m, .int .i64 n] 44)) 66 #[.int .i64 0, .string ⟨#[]⟩, .int .i64 0, .int .i64 0, .string ⟨#[]⟩] (n := w.heap.size + 1) (by simp)) hb (by simp)); clear hb) | (refine wpList_store_row rfl 66 _ _ rfl (w.heap.size + 1) #[.int .i64 12, .string m, .int .i64 n, .int .i64 0, .string ⟨#[]⟩] rfl rfl 66 #[.int .i64 0, .string ⟨#[]⟩, .int .i64 0, .int .i64 0, .string ⟨#[]⟩] HK.out rfl rfl (by simp [Value.oneCell']) ?_))
  refine bodyPost_ret (v := nmV (lockN m n)) ?_ ?_ ?_
  · exact results_cell_one rfl _ _ (w.heap.size + 1) 66 #[.int .i64 12, .string m, .int .i64 n, .int .i64 0, .string ⟨#[]⟩] (0, 0) _ rfl (setRow_heap _ _ _ _ _ _ HK.out) Tryz.underlying66 rfl (by kernel_rfl)
  · rfl
  · exact ⟨rfl, below_setRow ((((Below.refl _ w).alloc (Nat.le_refl _) _).alloc (by simp) _).trans (HB.out.mono (by simp; omega))) (by omega) _⟩

def lockB (m : ByteArray) (n : Int) : Value := .agg #[.string m, .int .i64 n]
theorem lockN_check {m : ByteArray} {n : Int} (h : bchk m n = 0) : checkN (lockN m n) = 0 := by
  unfold bchk at h
  have hv : M.valid m.data.toList = true := by
    cases hv : M.valid m.data.toList with
    | true => rfl
    | false => rw [hv] at h; simp at h
  have hn : okNum n = true := by
    cases hn : okNum n with
    | true => rfl
    | false => rw [hv, hn] at h; simp at h
  unfold checkN checkF lockN
  simp [kOwn, kNum, kTxt, kMost, hv, hn, ByteArray.toList_eq]
  decide

set_option maxHeartbeats 1000000 in
theorem lkBegin_any (ad : Addr) (m : ByteArray) (n ep : Int) (hm : m.size ≤ maxLen) (w : World) : Calls Tryz.prog 49 #[.pointer (some ad), .agg #[.string m, .int .i64 n], .int .i64 ep] w fun o w' => o = .returned (.int .i64 (beginE m n ep)) ∧ Below w.heap.size w w' := by
  have BI := hid (fun w' => birth_any m n hm w')
  have EP := hid (epoch_any ep)
  have HB := hid (show beginE m n ep = if bchk m n ≠ 0 then bchk m n else epochE ep from rfl)
  generalize beginE m n ep = x at *
  generalize bchk m n = b at *
  generalize epochE ep = ee at *
  by_cases hb0 : b = 0
  · have hx := HB.out
    rw [if_neg (by simpa using hb0)] at hx
    subst hx hb0
    go_enter Tryz.func49, Tryz.ntmps49
    go_wp2_with (first | (go_at_call 29; refine (BI.out _).mono ?_; rintro o w2 ⟨rfl, hb⟩; have HB2 := hid hb; clear hb) | (go_at_call 51; refine (EP.out _).mono ?_; rintro o w3 ⟨rfl, rfl⟩))
    go_ret
    exact ⟨rfl, ((Below.refl _ _).alloc (Nat.le_refl _) _).trans (HB2.out.mono (by simp))⟩
  · have hx := HB.out
    rw [if_pos hb0] at hx
    subst hx
    have hbb : (x != 0) = true := by simp [hb0]
    clear hb0 HB
    go_enter Tryz.func49, Tryz.ntmps49
    go_wp2_with (first | (go_at_call 29; refine (BI.out _).mono ?_; rintro o w2 ⟨rfl, hb⟩; have HB2 := hid hb; clear hb))
    go_ret
    exact ⟨rfl, ((Below.refl _ _).alloc (Nat.le_refl _) _).trans (HB2.out.mono (by simp))⟩
theorem lkBegin_nil (b : Value) (ep : Int) (m : ByteArray) (n : Int) (hb : b = .agg #[.string m, .int .i64 n]) (w : World) : Calls Tryz.prog 49 #[.pointer none, b, .int .i64 ep] w fun o w' => o = .returned (.int .i64 1) ∧ Below w.heap.size w w' := by
  subst hb
  go_enter Tryz.func49, Tryz.ntmps49
  go_wp2_with fail
  go_ret
  exact ⟨rfl, (Below.refl _ _).alloc (Nat.le_refl _) _⟩
end Go.Proofs.YtfgecaphhdedcaaGreatDoor
namespace Go.Proofs.YtfgecaphhdedcaaGreatDoor
open Go

namespace M
theorem partsGo_err {k at_ : Nat} {rest : Bs} {e : Int} (hk : k ≤ 8) (he : partE k rest = e) (hne : e ≠ 0) : partsGo (9 - k) k at_ rest = [⟨0, at_, e⟩] := by
  rw [show 9 - k = (8 - k) + 1 by omega, partsGo, he, if_pos hne]
theorem partsGo_end {k at_ : Nat} {rest : Bs} (hk : k ≤ 8) (he : partE k rest = 0) (hr : rest.drop (digs rest).length = []) : partsGo (9 - k) k at_ rest = [⟨numOf (digs rest), at_, 0⟩] := by
  rw [show 9 - k = (8 - k) + 1 by omega, partsGo, he, if_neg (by simp), hr]
theorem partsGo_bad {k at_ : Nat} {rest r : Bs} {c : UInt8} (hk : k ≤ 8) (he : partE k rest = 0) (hr : rest.drop (digs rest).length = c :: r) (hc : c ≠ 46) : partsGo (9 - k) k at_ rest = [⟨numOf (digs rest), at_, 0⟩, ⟨0, (at_ + (digs rest).length : Nat), 6⟩] := by
  rw [show 9 - k = (8 - k) + 1 by omega, partsGo, he, if_neg (by simp), hr]
  simp [hc]
theorem partsGo_more {k at_ : Nat} {rest r : Bs} (hk : k < 8) (he : partE k rest = 0) (hr : rest.drop (digs rest).length = 46 :: r) : partsGo (9 - k) k at_ rest = ⟨numOf (digs rest), at_, 0⟩ :: partsGo (9 - (k + 1)) (k + 1) (at_ + (digs rest).length + 1) r := by
  rw [show 9 - k = (8 - k) + 1 by omega, partsGo, he, if_neg (by simp), hr, show 9 - (k + 1) = 8 - k by omega]
  simp
/-- The number that digits spell. -/
def num : Bs → Nat → Nat
  | [], a => a
  | c :: r, a => num r (10 * a + (c.toNat - 48))
theorem decFrom_num (l : Bs) (h : ∀ c ∈ l, isDig c = true) (acc : Nat) : Lib.decFrom acc l = some (num l acc) := by
  induction l generalizing acc with
  | nil => rfl
  | cons c r ih =>
    have hc := h c (by simp)
    simp only [isDig, Bool.and_eq_true, decide_eq_true_eq] at hc
    simp only [Lib.decFrom, Lib.digitVal, if_pos hc, num]
    rw [ih (fun c hc => h c (by simp [hc]))]
    rw [Nat.mul_comm]
theorem numOf_eq (l : Bs) (h : ∀ c ∈ l, isDig c = true) : numOf l = (num l 0 : Nat) := by
  rw [numOf, decFrom_num l h]; rfl
theorem num_snoc (l : Bs) (c : UInt8) (a : Nat) : num (l ++ [c]) a = 10 * num l a + (c.toNat - 48) := by
  induction l generalizing a with
  | nil => rfl
  | cons d r ih => simp only [List.cons_append, num]; exact ih _
theorem num_lt (l : Bs) (h : ∀ c ∈ l, isDig c = true) : num l 0 < 10 ^ l.length := by
  suffices H : ∀ (l : Bs) a, (∀ c ∈ l, isDig c = true) → num l a < (a + 1) * 10 ^ l.length by simpa using H l 0 h
  intro l
  induction l with
  | nil => intro a _; simp [num]
  | cons c r ih =>
    intro a h
    have hc := h c (by simp)
    simp only [isDig, Bool.and_eq_true, decide_eq_true_eq] at hc
    have := ih (10 * a + (c.toNat - 48)) (fun c hc => h c (by simp [hc]))
    simp only [num, List.length_cons]
    refine Nat.lt_of_lt_of_le this ?_
    rw [Nat.pow_succ, ← Nat.mul_assoc, Nat.mul_right_comm]
    exact Nat.mul_le_mul_right _ (by omega)
theorem digs_get {l : Bs} {j : Nat} (h : j < (digs l).length) (hl : j < l.length) : isDig l[j] = true := (digs_step (by omega) hl).2 h
end M
end Go.Proofs.YtfgecaphhdedcaaGreatDoor
namespace Go.Proofs.YtfgecaphhdedcaaGreatDoor
open Go.RowKit

namespace M
/-- A three-way comparison. -/
structure Cmp3 {α : Type} (f : α → α → Int) : Prop where
  refl : ∀ a, f a a = 0
  eq : ∀ a b, f a b = 0 → a = b
  anti : ∀ a b, f a b < 0 ↔ 0 < f b a
  trans : ∀ a b c, f a b < 0 → f b c < 0 → f a c < 0
theorem cmp_int : Cmp3 Lib.compareInt := by
  refine ⟨fun a => ?_, fun a b => ?_, fun a b => ?_, fun a b c => ?_⟩ <;> unfold Lib.compareInt
  · simp
  · split
    · intro h; omega
    · split
      · intro h; omega
      · intro _; omega
  · repeat' split
    all_goals omega
  · repeat' split
    all_goals omega
theorem cmp_ints : Cmp3 cmpInts := by
  refine ⟨fun a => ?_, fun a => ?_, fun a => ?_, fun a => ?_⟩
  · induction a with
    | nil => rfl
    | cons x r ih => simp [cmpInts, ih]
  · induction a with
    | nil => intro b h; cases b with
      | nil => rfl
      | cons y s => simp [cmpInts] at h
    | cons x r ih => intro b h; cases b with
      | nil => simp [cmpInts] at h
      | cons y s =>
        simp only [cmpInts] at h
        split at h
        · omega
        · split at h
          · omega
          · rw [ih s h, show x = y by omega]
  · induction a with
    | nil => intro b; cases b <;> simp [cmpInts]
    | cons x r ih => intro b; cases b with
      | nil => simp [cmpInts]
      | cons y s =>
        simp only [cmpInts]
        by_cases h1 : x < y
        · rw [if_pos h1, if_neg (by omega), if_pos h1]; omega
        · by_cases h2 : y < x
          · rw [if_neg h1, if_pos h2, if_pos h2]; omega
          · rw [if_neg h1, if_neg h2, if_neg h2, if_neg h1]; exact ih s
  · induction a with
    | nil =>
      intro b c h1 h2
      cases b with
      | nil => simp [cmpInts] at h1
      | cons y s => cases c with
        | nil => simp [cmpInts] at h2
        | cons z t => simp [cmpInts]
    | cons x r ih =>
      intro b c h1 h2
      cases b with
      | nil => simp [cmpInts] at h1
      | cons y s => cases c with
        | nil => simp [cmpInts] at h2
        | cons z t =>
          simp only [cmpInts] at h1 h2 ⊢
          by_cases a1 : x < y
          · by_cases a2 : y < z
            · rw [if_pos (by omega)]; omega
            · rw [if_neg a2] at h2
              by_cases a3 : z < y
              · rw [if_pos a3] at h2; omega
              · rw [if_pos (by omega)]; omega
          · rw [if_neg a1] at h1
            by_cases a4 : y < x
            · rw [if_pos a4] at h1; omega
            · rw [if_neg a4] at h1
              obtain rfl : x = y := by omega
              by_cases a2 : x < z
              · rw [if_pos a2]; omega
              · rw [if_neg a2] at h2 ⊢
                by_cases a3 : z < x
                · rw [if_pos a3] at h2; omega
                · rw [if_neg a3] at h2 ⊢
                  exact ih s t h1 h2
def lex {α β : Type} (f : α → α → Int) (g : β → β → Int) (p q : α × β) : Int := if f p.1 q.1 = 0 then g p.2 q.2 else f p.1 q.1
theorem Cmp3.lex {α β : Type} {f : α → α → Int} {g : β → β → Int} (hf : Cmp3 f) (hg : Cmp3 g) : Cmp3 (lex f g) := by
  refine ⟨fun a => ?_, fun a b h => ?_, fun a b => ?_, fun a b c h1 h2 => ?_⟩
  · simp [M.lex, hf.refl, hg.refl]
  · unfold M.lex at h
    split at h
    · exact Prod.ext (hf.eq _ _ ‹_›) (hg.eq _ _ h)
    · exact absurd h ‹_›
  · unfold M.lex
    by_cases h : f a.1 b.1 = 0
    · have := hf.eq _ _ h
      rw [if_pos h, ← this, if_pos (hf.refl _)]
      exact hg.anti _ _
    · have h' : f b.1 a.1 ≠ 0 := fun e => h (by rw [hf.eq _ _ e]; exact hf.refl _)
      rw [if_neg h, if_neg h']
      exact hf.anti _ _
  · unfold M.lex at *
    by_cases e1 : f a.1 b.1 = 0
    · rw [if_pos e1] at h1
      rw [hf.eq _ _ e1]
      by_cases e2 : f b.1 c.1 = 0
      · rw [if_pos e2] at h2 ⊢
        exact hg.trans _ _ _ h1 h2
      · rw [if_neg e2] at h2 ⊢
        exact h2
    · rw [if_neg e1] at h1
      by_cases e2 : f b.1 c.1 = 0
      · rw [← hf.eq _ _ e2, if_neg e1]
        exact h1
      · rw [if_neg e2] at h2
        have := hf.trans _ _ _ h1 h2
        rw [if_neg (by omega)]
        exact this
def bInts (l : Bs) : List Int := l.map fun c => (c.toNat : Int)
theorem cmpBytes_ints : ∀ l m : Bs, Lib.compareBytes l m = cmpInts (bInts l) (bInts m)
  | [], [] => rfl
  | [], _ :: _ => rfl
  | _ :: _, [] => rfl
  | a :: l, b :: m => by
    have h1 : ((a.toNat : Int) < (b.toNat : Int)) ↔ a < b := by rw [UInt8.lt_iff_toNat_lt]; omega
    have h2 : ((b.toNat : Int) < (a.toNat : Int)) ↔ b < a := by rw [UInt8.lt_iff_toNat_lt]; omega
    have ih := cmpBytes_ints l m
    unfold bInts at ih ⊢
    simp only [Lib.compareBytes, List.map_cons, cmpInts, h1, h2, ih]
theorem bInts_inj : ∀ {l m : Bs}, bInts l = bInts m → l = m
  | [], [], _ => rfl
  | [], _ :: _, h => by simp [bInts] at h
  | _ :: _, [], h => by simp [bInts] at h
  | a :: l, b :: m, h => by
    simp only [bInts, List.map_cons, List.cons.injEq] at h
    have h1 : a.toNat = b.toNat := by omega
    rw [UInt8.toNat_inj.1 h1, bInts_inj (l := l) (m := m) h.2]

/-- Digits without a leading zero are determined by their number. -/
theorem num_ge (l : Bs) (a : Nat) : a ≤ num l a := by
  induction l generalizing a with
  | nil => exact Nat.le_refl _
  | cons c r ih => exact Nat.le_trans (by omega) (ih _)
theorem num_pos {l : Bs} (hd : ∀ c ∈ l, isDig c = true) (h0 : l.head? ≠ some 48) (hne : l ≠ []) : 0 < num l 0 := by
  cases l with
  | nil => exact absurd rfl hne
  | cons c r =>
    have hc := hd c (by simp)
    simp only [isDig, Bool.and_eq_true, decide_eq_true_eq] at hc
    have h1 : c.toNat ≠ 48 := by
      intro e
      apply h0
      rw [List.head?_cons, show c = 48 from UInt8.toNat_inj.1 e]
    have := num_ge r (10 * 0 + (c.toNat - 48))
    rw [num]
    omega
theorem nil_or_snoc (l : Bs) : l = [] ∨ ∃ L b, l = L ++ [b] := by
  rcases List.eq_nil_or_concat l with h | ⟨L, b, h⟩
  · exact .inl h
  · exact .inr ⟨L, b, by rw [h, List.concat_eq_append]⟩
theorem num_inj (k : Nat) : ∀ (l m : Bs), l.length ≤ k → (∀ c ∈ l, isDig c = true) → (∀ c ∈ m, isDig c = true) → l.head? ≠ some 48 → m.head? ≠ some 48 → num l 0 = num m 0 → l = m := by
  induction k with
  | zero =>
    intro l m hk hl hm h0 h1 he
    obtain rfl : l = [] := List.eq_nil_of_length_eq_zero (by omega)
    by_cases hmn : m = []
    · exact hmn.symm
    · have := num_pos hm h1 hmn
      simp [num] at he
      omega
  | succ k ih =>
    intro l m hk hl hm h0 h1 he
    rcases nil_or_snoc l with rfl | ⟨L, b, rfl⟩
    · by_cases hmn : m = []
      · exact hmn.symm
      · have := num_pos hm h1 hmn
        simp [num] at he
        omega
    · rcases nil_or_snoc m with rfl | ⟨R, c, rfl⟩
      · have := num_pos hl h0 (by simp)
        simp only [num] at he
        omega
      · rw [num_snoc, num_snoc] at he
        have hb := hl b (by simp)
        have hc := hm c (by simp)
        simp only [isDig, Bool.and_eq_true, decide_eq_true_eq] at hb hc
        have e1 : num L 0 = num R 0 := by omega
        have e2 : b.toNat = c.toNat := by omega
        have hh : ∀ {X : Bs} {y : UInt8}, (X ++ [y]).head? ≠ some 48 → X.head? ≠ some 48 := by
          intro X y h
          cases X with
          | nil => simp
          | cons z s => simpa using h
        rw [ih L R (by simp at hk; omega) (fun x hx => hl x (by simp [hx])) (fun x hx => hm x (by simp [hx])) (hh h0) (hh h1) e1, UInt8.toNat_inj.1 e2]

theorem collect_err : ∀ (ps : List Part) (acc : List Int), (collect ps acc).2.2 = 0 → (∀ p ∈ ps, p.e = 0) ∧ (collect ps acc).1 = acc ++ ps.map Part.ord
  | [], acc, _ => by simp [collect]
  | p :: r, acc, h => by
    unfold collect at h ⊢
    by_cases he : p.e ≠ 0
    · rw [if_pos he] at h
      exact absurd h he
    · rw [if_neg he] at h ⊢
      obtain ⟨h1, h2⟩ := collect_err r _ h
      refine ⟨fun q hq => ?_, by rw [h2]; simp⟩
      rcases List.mem_cons.1 hq with rfl | hq
      · simpa using he
      · exact h1 q hq
theorem partsGo_ne (f n at_ : Nat) (l : Bs) : partsGo (f + 1) n at_ l ≠ [] := by
  unfold partsGo
  split <;> simp
theorem partE_zero {n : Nat} {l : Bs} (h : partE n l = 0) : n ≠ 8 ∧ digs l ≠ [] ∧ l.head? ≠ some 48 := by
  unfold partE at h
  split at h
  · omega
  · split at h
    · omega
    · split at h
      · omega
      · split at h
        · omega
        · exact ⟨‹_›, ‹_›, ‹_›⟩
theorem digs_head {l : Bs} (h : l.head? ≠ some 48) : (digs l).head? ≠ some 48 := by
  cases l with
  | nil => simp [digs]
  | cons a r =>
    unfold digs
    rw [List.takeWhile_cons]
    split
    · simpa using h
    · simp
theorem go_inj (f : Nat) : ∀ (n at_ at' : Nat) (a b : Bs), f + n = 9 → n ≤ 8 → (∀ p ∈ partsGo f n at_ a, p.e = 0) → (∀ p ∈ partsGo f n at' b, p.e = 0) → (partsGo f n at_ a).map Part.ord = (partsGo f n at' b).map Part.ord → a = b := by
  induction f with
  | zero => intro n at_ at' a b h1 h2; omega
  | succ f ih =>
    intro n at_ at' a b hf hn ha hb he
    have za : partE n a = 0 := by
      by_cases h : partE n a = 0
      · exact h
      · have := ha ⟨0, at_, partE n a⟩ (by rw [partsGo, if_pos h]; simp)
        exact this
    have zb : partE n b = 0 := by
      by_cases h : partE n b = 0
      · exact h
      · have := hb ⟨0, at', partE n b⟩ (by rw [partsGo, if_pos h]; simp)
        exact this
    rw [partsGo, za, if_neg (by simp)] at ha he
    rw [partsGo, zb, if_neg (by simp)] at hb he
    obtain ⟨n8, da, fa⟩ := partE_zero za
    obtain ⟨_, db, fb⟩ := partE_zero zb
    simp only [List.map_cons, List.cons.injEq] at he
    obtain ⟨e1, e2⟩ := he
    have ed : digs a = digs b := by
      rw [numOf_eq _ (fun c hc => digs_dig hc), numOf_eq _ (fun c hc => digs_dig hc)] at e1
      exact num_inj _ _ _ (Nat.le_refl _) (fun c hc => digs_dig hc) (fun c hc => digs_dig hc) (digs_head fa) (digs_head fb) (by omega)
    have sa : a = digs a ++ a.drop (digs a).length := by
      conv => lhs; rw [← List.take_append_drop (digs a).length a, digs_take]
    have sb : b = digs b ++ b.drop (digs b).length := by
      conv => lhs; rw [← List.take_append_drop (digs b).length b, digs_take]
    generalize a.drop (digs a).length = ra at *
    generalize b.drop (digs b).length = rb at *
    have er : ra = rb := by
      cases ra with
      | nil =>
        cases rb with
        | nil => rfl
        | cons c r =>
          exfalso
          simp only [List.map_nil] at e2
          by_cases h46 : c = 46
          · subst h46
            simp only [ne_eq, not_true, if_false] at e2
            cases f with
            | zero => omega
            | succ f => exact partsGo_ne f _ _ _ (List.map_eq_nil_iff.1 e2.symm)
          · simp only [ne_eq, h46, not_false_eq_true, if_true, List.map_cons, List.map_nil] at e2
            cases e2
      | cons c r =>
        have h46 : c = 46 := by
          by_cases h : c = 46
          · exact h
          · have := ha ⟨0, (at_ : Int) + (digs a).length, 6⟩ (by simp [h])
            simp at this
        subst h46
        cases rb with
        | nil =>
          exfalso
          simp only [List.map_nil, ne_eq, not_true, if_false] at e2
          cases f with
          | zero => omega
          | succ f => exact partsGo_ne f _ _ _ (List.map_eq_nil_iff.1 e2)
        | cons c' r' =>
          have h46 : c' = 46 := by
            by_cases h : c' = 46
            · exact h
            · have := hb ⟨0, (at' : Int) + (digs b).length, 6⟩ (by simp [h])
              simp at this
          subst h46
          simp only [ne_eq, not_true, if_false] at e2 ha hb
          rw [ih (n + 1) _ _ r r' (by omega) (by omega) (fun p hp => ha p (List.mem_cons_of_mem _ hp)) (fun p hp => hb p (List.mem_cons_of_mem _ hp)) e2]
    rw [sa, sb, ed, er]
theorem ords_inj {a b : Bs} (ha : valid a = true) (hb : valid b = true) (h : ords a = ords b) : a = b := by
  unfold valid parse at ha hb
  unfold ords parse at h
  rw [beq_iff_eq] at ha hb
  obtain ⟨a1, a2⟩ := collect_err _ _ ha
  obtain ⟨b1, b2⟩ := collect_err _ _ hb
  rw [a2, b2, List.nil_append, List.nil_append] at h
  unfold parts at *
  by_cases ea : a = []
  · rw [if_pos ea] at h
    by_cases eb : b = []
    · rw [ea, eb]
    · rw [if_neg eb] at h
      exact absurd (List.map_eq_nil_iff.1 h.symm) (partsGo_ne _ _ _ _)
  · rw [if_neg ea] at h a1
    by_cases eb : b = []
    · rw [if_pos eb] at h
      exact absurd (List.map_eq_nil_iff.1 h) (partsGo_ne _ _ _ _)
    · rw [if_neg eb] at h b1
      exact go_inj 9 0 0 0 a b rfl (by omega) a1 b1 h
def linKey (l : Bs) : List Int := if valid l then 0 :: ords l else 1 :: bInts l
theorem linKey_inj {a b : Bs} (h : linKey a = linKey b) : a = b := by
  unfold linKey at h
  by_cases ha : valid a = true <;> by_cases hb : valid b = true <;> simp only [ha, hb, if_true, if_false, Bool.false_eq_true, List.cons.injEq, true_and] at h
  · exact ords_inj ha hb h
  · omega
  · omega
  · exact bInts_inj h
end M
open M

theorem cmpLin_key (a b : Bs) : cmpLin a b = M.cmpInts (M.linKey a) (M.linKey b) := by
  unfold cmpLin M.linKey
  cases ha : M.valid a <;> cases hb : M.valid b <;> simp [M.cmpInts, M.cmpBytes_ints]
def keyN (n : Nm) : Int × List Int × Int × Int × List Int := (n.kind, M.linKey n.owner.data.toList, n.number, n.index, M.bInts n.text.data.toList)
def cmpK : (Int × List Int × Int × Int × List Int) → (Int × List Int × Int × Int × List Int) → Int := M.lex Lib.compareInt (M.lex M.cmpInts (M.lex Lib.compareInt (M.lex Lib.compareInt M.cmpInts)))
theorem cmpK_ok : M.Cmp3 cmpK := M.cmp_int.lex (M.cmp_ints.lex (M.cmp_int.lex (M.cmp_int.lex M.cmp_ints)))
theorem cmpN_key (a b : Nm) : cmpN a b = cmpK (keyN a) (keyN b) := by
  unfold cmpN cmpK keyN M.lex
  simp only [cmpLin_key, M.cmpBytes_ints, orI]
  repeat' split
  all_goals first | rfl | omega | simp_all
theorem ba_ext {x y : ByteArray} (h : x.data.toList = y.data.toList) : x = y := by
  obtain ⟨⟨x⟩⟩ := x
  obtain ⟨⟨y⟩⟩ := y
  simp only at h
  rw [h]
theorem keyN_inj {a b : Nm} (h : keyN a = keyN b) : a = b := by
  obtain ⟨k, o, n, i, t⟩ := a
  obtain ⟨k', o', n', i', t'⟩ := b
  simp only [keyN, Prod.mk.injEq] at h
  obtain ⟨h1, h2, h3, h4, h5⟩ := h
  rw [h1, h3, h4, ba_ext (M.linKey_inj h2), ba_ext (M.bInts_inj h5)]
theorem cmpN_refl (a : Nm) : cmpN a a = 0 := by rw [cmpN_key]; exact cmpK_ok.refl _
theorem cmpN_eq {a b : Nm} (h : cmpN a b = 0) : a = b := keyN_inj (cmpK_ok.eq _ _ (by rw [← cmpN_key]; exact h))
theorem cmpN_anti (a b : Nm) : cmpN a b < 0 ↔ 0 < cmpN b a := by rw [cmpN_key, cmpN_key]; exact cmpK_ok.anti _ _
theorem cmpN_trans {a b c : Nm} (h : cmpN a b < 0) (h' : cmpN b c < 0) : cmpN a c < 0 := by
  rw [cmpN_key] at *; exact cmpK_ok.trans _ _ _ h h'
end Go.Proofs.YtfgecaphhdedcaaGreatDoor
namespace Go.Proofs.YtfgecaphhdedcaaGreatDoor
open Go.RowKit

def cl (a b : ByteArray) : Int := cmpLin a.data.toList b.data.toList
theorem cl_refl (a : ByteArray) : cl a a = 0 := by unfold cl; rw [cmpLin_key]; exact M.cmp_ints.refl _
theorem cl_eq {a b : ByteArray} (h : cl a b = 0) : a = b := ba_ext (M.linKey_inj (M.cmp_ints.eq _ _ (by rw [← cmpLin_key]; exact h)))
theorem cl_anti (a b : ByteArray) : cl a b < 0 ↔ 0 < cl b a := by unfold cl; rw [cmpLin_key, cmpLin_key]; exact M.cmp_ints.anti _ _
theorem cl_trans {a b c : ByteArray} (h : cl a b < 0) (h' : cl b c < 0) : cl a c < 0 := by
  unfold cl at *
  rw [cmpLin_key] at *
  exact M.cmp_ints.trans _ _ _ h h'
theorem cl_gt {a b : ByteArray} (h : ¬ cl a b < 0) (hne : a ≠ b) : cl b a < 0 := by
  refine (cl_anti b a).2 ?_
  have h0 : cl a b ≠ 0 := fun e => hne (cl_eq e)
  omega

/-- Strictly ascending. -/
def Asc (l : List ByteArray) : Prop := l.Pairwise (fun a b => cl a b < 0)
theorem hGo_zero : ∀ (l : List ByteArray) (p : Option ByteArray), hGo p l = 0 ↔ (∀ h ∈ l, hbad h = false) ∧ (∀ q, p = some q → ∀ h ∈ l, cl q h < 0) ∧ Asc l
  | [], p => by simp [hGo_nil, Asc]
  | h :: r, p => by
    rw [hGo_cons]
    by_cases hb : hbad h = true
    · rw [if_pos hb]; simp [hb]
    · rw [if_neg hb]
      have hb' : hbad h = false := by simpa using hb
      by_cases hg : geP p h = true
      · rw [if_pos hg]
        cases p with
        | none => simp [geP_none] at hg
        | some q =>
          rw [geP_some] at hg
          constructor
          · intro h; exact absurd h (by decide)
          · rintro ⟨_, h2, _⟩
            have h3 := h2 q rfl h (by simp)
            have hg' : 0 ≤ cl q h := by simpa [cl] using hg
            omega
      · rw [if_neg hg, hGo_zero r (some h)]
        have hq : ∀ q, p = some q → cl q h < 0 := by
          rintro q rfl
          rw [geP_some] at hg
          have h3 : ¬ (0 ≤ cl q h) := by simpa [cl] using hg
          omega
        unfold Asc
        rw [List.pairwise_cons]
        constructor
        · rintro ⟨h1, h2, h3⟩
          have h2' := h2 h rfl
          refine ⟨?_, ?_, h2', h3⟩
          · intro x hx
            rcases List.mem_cons.1 hx with rfl | hx
            · exact hb'
            · exact h1 x hx
          · intro q hq' x hx
            rcases List.mem_cons.1 hx with rfl | hx
            · exact hq q hq'
            · exact cl_trans (hq q hq') (h2' x hx)
        · rintro ⟨h1, h2, h3, h4⟩
          exact ⟨fun x hx => h1 x (by simp [hx]), fun q hq' => by cases hq'; exact h3, h4⟩

/-- A lock that passes the check. -/
structure LkGood (l : Lk) : Prop where
  e0 : 0 ≤ l.epoch
  e1 : l.epoch ≤ 1073741824
  n : l.holders.length ≤ 32
  ok : ∀ h ∈ l.holders, hbad h = false
  asc : Asc l.holders
  one : l.shared = false → l.holders.length ≤ 1
  some_ : l.shared = true → l.holders.length ≠ 0
theorem epochE_zero {e : Int} : epochE e = 0 ↔ 0 ≤ e ∧ e ≤ 1073741824 := by
  unfold epochE
  split
  · constructor
    · intro h; omega
    · intro h; omega
  · constructor
    · intro _; omega
    · intro _; rfl
theorem checkL_good {l : Lk} : checkL l = 0 ↔ LkGood l := by
  have hh := hGo_zero l.holders none
  constructor
  · intro h
    unfold checkL at h
    by_cases h1 : epochE l.epoch ≠ 0
    · rw [if_pos h1] at h; exact absurd h h1
    rw [if_neg h1] at h
    by_cases h2 : 32 < l.holders.length
    · rw [if_pos h2] at h; omega
    rw [if_neg h2] at h
    by_cases h3 : hGo none l.holders ≠ 0
    · rw [if_pos h3] at h; exact absurd h h3
    rw [if_neg h3] at h
    have h1' := epochE_zero.1 (Decidable.not_not.1 h1)
    obtain ⟨a1, -, a3⟩ := hh.1 (Decidable.not_not.1 h3)
    refine ⟨h1'.1, h1'.2, by omega, a1, a3, fun hf => ?_, fun ht h5 => ?_⟩
    · by_cases h4 : 1 < l.holders.length
      · rw [hf] at h; simp [h4] at h
      · omega
    · rw [ht] at h; simp [h5] at h
  · rintro ⟨e0, e1, n, ok, asc, one, some_⟩
    unfold checkL
    rw [if_neg (by rw [epochE_zero.2 ⟨e0, e1⟩]; simp), if_neg (by omega), if_neg (by rw [hh.2 ⟨ok, by simp, asc⟩]; simp)]
    cases hs : l.shared with
    | false =>
      have := one hs
      rw [if_neg (by simp; omega), if_neg (by simp)]
    | true =>
      have := some_ hs
      rw [if_neg (by simp), if_neg (by simpa using this)]

/-- How many holders stand ahead of a process. -/
def posL (hs : List ByteArray) (who : ByteArray) : Nat := hs.countP (fun h => decide (cl h who < 0))
theorem posL_le (hs : List ByteArray) (who : ByteArray) : posL hs who ≤ hs.length := List.countP_le_length
theorem posL_split : ∀ {hs : List ByteArray}, Asc hs → ∀ who, (∀ h ∈ hs.take (posL hs who), cl h who < 0) ∧ (∀ h ∈ hs.drop (posL hs who), ¬ cl h who < 0)
  | [], _, who => by simp
  | h :: r, ha, who => by
    unfold Asc at ha
    rw [List.pairwise_cons] at ha
    by_cases hl : cl h who < 0
    · have e : posL (h :: r) who = posL r who + 1 := by unfold posL; rw [List.countP_cons_of_pos (by simpa using hl)]
      rw [e]
      obtain ⟨i1, i2⟩ := posL_split (hs := r) ha.2 who
      refine ⟨fun x hx => ?_, fun x hx => i2 x (by simpa using hx)⟩
      rw [List.take_succ_cons] at hx
      rcases List.mem_cons.1 hx with rfl | hx
      · exact hl
      · exact i1 x hx
    · have e : posL (h :: r) who = 0 := by
        unfold posL
        rw [List.countP_eq_zero]
        intro x hx
        simp only [decide_eq_true_eq]
        rcases List.mem_cons.1 hx with rfl | hx
        · exact hl
        · intro hx'
          exact hl (cl_trans (ha.1 x hx) hx')
      rw [e]
      refine ⟨by simp, fun x hx => ?_⟩
      simp only [List.drop_zero] at hx
      rcases List.mem_cons.1 hx with rfl | hx
      · exact hl
      · intro hx'
        exact hl (cl_trans (ha.1 x hx) hx')
/-- Whether a process is among the holders. -/
def memL (hs : List ByteArray) (who : ByteArray) : Bool := hs.any (fun h => decide (cl h who = 0))
theorem memL_mem {hs : List ByteArray} {who : ByteArray} : memL hs who = true ↔ who ∈ hs := by
  unfold memL
  rw [List.any_eq_true]
  constructor
  · rintro ⟨x, hx, h⟩
    have e := cl_eq (of_decide_eq_true h)
    subst e
    exact hx
  · intro h
    exact ⟨who, h, by simp [cl_refl]⟩
theorem memL_not {hs : List ByteArray} {who : ByteArray} : memL hs who = false ↔ ¬ who ∈ hs := by
  rw [← memL_mem]; simp
theorem memL_pos {hs : List ByteArray} (ha : Asc hs) {who : ByteArray} (hm : who ∈ hs) : hs[posL hs who]? = some who := by
  obtain ⟨s1, s2⟩ := posL_split ha who
  have hd : who ∈ hs.drop (posL hs who) := by
    rw [← List.take_append_drop (posL hs who) hs] at hm
    rcases List.mem_append.1 hm with h | h
    · have := s1 who h
      rw [cl_refl] at this
      omega
    · exact h
  have hdr : ∃ x r, hs.drop (posL hs who) = x :: r := by
    cases hx : hs.drop (posL hs who) with
    | nil => rw [hx] at hd; simp at hd
    | cons x r => exact ⟨x, r, rfl⟩
  obtain ⟨x, r, hx⟩ := hdr
  have hx0 : hs[posL hs who]? = some x := by
    have := List.getElem?_drop (xs := hs) (i := posL hs who) (j := 0)
    rw [hx] at this
    simpa using this.symm
  rw [hx0]
  rw [hx] at hd
  rcases List.mem_cons.1 hd with rfl | h
  · rfl
  · have hp : Asc (x :: r) := by rw [← hx]; exact ha.sublist (List.drop_sublist _ _)
    unfold Asc at hp
    rw [List.pairwise_cons] at hp
    have h1 := hp.1 who h
    exact absurd h1 (s2 x (by rw [hx]; simp))
theorem memL_iff {hs : List ByteArray} (ha : Asc hs) (who : ByteArray) : memL hs who = (match hs[posL hs who]? with | some x => decide (cl x who = 0) | none => false) := by
  by_cases hm : who ∈ hs
  · rw [memL_pos ha hm, memL_mem.2 hm]
    simp [cl_refl]
  · rw [memL_not.2 hm]
    cases hx : hs[posL hs who]? with
    | none => rfl
    | some x =>
      have hxm : x ∈ hs := List.mem_of_getElem? hx
      have : cl x who ≠ 0 := fun e => hm (by rw [← cl_eq e]; exact hxm)
      simp [this]

/-- The holders with a process, and without it. -/
def insL (hs : List ByteArray) (who : ByteArray) : List ByteArray := hs.take (posL hs who) ++ who :: hs.drop (posL hs who)
def delL (hs : List ByteArray) (who : ByteArray) : List ByteArray := hs.take (posL hs who) ++ hs.drop (posL hs who + 1)
theorem insL_len (hs : List ByteArray) (who : ByteArray) : (insL hs who).length = hs.length + 1 := by
  have := posL_le hs who
  unfold insL
  simp only [List.length_append, List.length_take, List.length_cons, List.length_drop]
  omega
theorem insL_mem (hs : List ByteArray) (who x : ByteArray) : x ∈ insL hs who ↔ x = who ∨ x ∈ hs := by
  unfold insL
  conv => rhs; rw [← List.take_append_drop (posL hs who) hs]
  simp only [List.mem_append, List.mem_cons]
  constructor
  · rintro (h | h | h)
    · exact .inr (.inl h)
    · exact .inl h
    · exact .inr (.inr h)
  · rintro (h | h | h)
    · exact .inr (.inl h)
    · exact .inl h
    · exact .inr (.inr h)
theorem insL_asc {hs : List ByteArray} (ha : Asc hs) {who : ByteArray} (hm : ¬ who ∈ hs) : Asc (insL hs who) := by
  obtain ⟨s1, s2⟩ := posL_split ha who
  unfold Asc insL
  rw [List.pairwise_append, List.pairwise_cons]
  have hd : ∀ x ∈ hs.drop (posL hs who), cl who x < 0 := fun x hx => cl_gt (s2 x hx) (fun e => hm (by rw [← e]; exact List.mem_of_mem_drop hx))
  refine ⟨List.Pairwise.sublist (List.take_sublist _ _) ha, ⟨hd, List.Pairwise.sublist (List.drop_sublist _ _) ha⟩, fun a h1 b h2 => ?_⟩
  rcases List.mem_cons.1 h2 with rfl | h2
  · exact s1 a h1
  · exact cl_trans (s1 a h1) (hd b h2)
theorem delL_asc {hs : List ByteArray} (ha : Asc hs) (who : ByteArray) : Asc (delL hs who) := by
  refine List.Pairwise.sublist ?_ ha
  unfold delL
  conv => rhs; rw [← List.take_append_drop (posL hs who) hs]
  refine List.Sublist.append (List.Sublist.refl _) ?_
  rw [← List.drop_drop]
  exact List.drop_sublist _ _
theorem del_split {hs : List ByteArray} (ha : Asc hs) {who : ByteArray} (hm : who ∈ hs) : hs = hs.take (posL hs who) ++ who :: hs.drop (posL hs who + 1) := by
  have h := memL_pos ha hm
  have hp : posL hs who < hs.length := (List.getElem?_eq_some_iff.1 h).1
  conv => lhs; rw [← List.take_append_drop (posL hs who) hs]
  rw [List.drop_eq_getElem_cons hp]
  rw [List.getElem?_eq_getElem hp] at h
  rw [Option.some.inj h]
theorem delL_len {hs : List ByteArray} (ha : Asc hs) {who : ByteArray} (hm : who ∈ hs) : (delL hs who).length + 1 = hs.length := by
  have e := congrArg List.length (del_split ha hm)
  unfold delL
  simp only [List.length_append, List.length_cons] at e ⊢
  omega
theorem delL_mem {hs : List ByteArray} (ha : Asc hs) {who : ByteArray} (hm : who ∈ hs) (x : ByteArray) : x ∈ delL hs who ↔ x ∈ hs ∧ x ≠ who := by
  have e := del_split ha hm
  obtain ⟨s1, -⟩ := posL_split ha who
  have hd : ∀ y ∈ hs.drop (posL hs who + 1), cl who y < 0 := by
    have h := ha
    rw [e] at h
    unfold Asc at h
    rw [List.pairwise_append, List.pairwise_cons] at h
    exact h.2.1.1
  unfold delL
  conv => rhs; lhs; rw [e]
  simp only [List.mem_append, List.mem_cons]
  constructor
  · rintro (h | h)
    · refine ⟨.inl h, fun hx => ?_⟩
      have := s1 x h
      rw [hx, cl_refl] at this
      omega
    · refine ⟨.inr (.inr h), fun hx => ?_⟩
      have := hd x h
      rw [hx, cl_refl] at this
      omega
  · rintro ⟨h | h | h, hne⟩
    · exact .inl h
    · exact absurd h hne
    · exact .inr h
theorem Asc.nodup {hs : List ByteArray} (ha : Asc hs) : hs.Nodup := List.Pairwise.imp (fun {a b} h e => by rw [e, cl_refl] at h; omega) ha

/-- The lock that is read where a value stands: none where the value is no lock. -/
def emptyLk (ep : Int) : Lk := ⟨ep, false, []⟩
def rdL (o : Option ByteArray) (ep : Int) : Option Lk := match o with
  | none => some (emptyLk ep)
  | some s => if ldOk 16777216 s.data.toList then (if (ldLk 16777216 s.data.toList).epoch = ep then some (ldLk 16777216 s.data.toList) else some (emptyLk ep)) else none
theorem emptyLk_good {ep : Int} (h : epochE ep = 0) : LkGood (emptyLk ep) := by
  have := epochE_zero.1 h
  exact ⟨this.1, this.2, Nat.zero_le _, by simp [emptyLk], List.Pairwise.nil, fun _ => Nat.zero_le _, (fun h => by cases h)⟩
theorem rdL_good {o : Option ByteArray} {ep : Int} {l : Lk} (h : rdL o ep = some l) (he : epochE ep = 0) : LkGood l ∧ l.epoch = ep := by
  unfold rdL at h
  cases o with
  | none => cases h; exact ⟨emptyLk_good he, rfl⟩
  | some s =>
    simp only at h
    split at h
    · next h1 =>
      split at h
      · next h2 => cases h; exact ⟨checkL_good.1 h1.2, h2⟩
      · cases h; exact ⟨emptyLk_good he, rfl⟩
    · cases h
/-- What is read where a lock was written. -/
theorem rdL_enc {l : Lk} (hg : LkGood l) (hz : ∀ h ∈ l.holders, h.size ≤ 1000000) (ep : Int) : rdL (some (strB (encLk l))) ep = some (if l.epoch = ep then l else emptyLk ep) := by
  obtain ⟨h1, h2⟩ := ld_enc (most := 16777216) (checkL_good.2 hg) (fun h hh => by have := hz h hh; omega)
  have e : (strB (encLk l)).data.toList = encLk l := by simp [strB]
  unfold rdL
  simp only [e]
  rw [if_pos h1, h2]
  split <;> rfl

/-- How many others hold a lock. -/
def othersL (l : Lk) (holds : Bool) : Nat := l.holders.length - (if holds then 1 else 0)
/-- What decides about a request. -/
def acqE (l : Lk) (holds sh : Bool) : Int := if l.shared && sh then (if othersL l holds = 32 then 9 else 0) else (if 0 < othersL l holds then 19 else 0)
def acqL (l : Lk) (who : ByteArray) (sh : Bool) : Lk := ⟨l.epoch, sh, if memL l.holders who then l.holders else insL l.holders who⟩
def relL (l : Lk) (who : ByteArray) : Lk := ⟨l.epoch, l.shared && decide (0 < (delL l.holders who).length), delL l.holders who⟩
theorem acqL_good {l : Lk} (hg : LkGood l) {who : ByteArray} (hw : hbad who = false) {sh : Bool} (he : acqE l (memL l.holders who) sh = 0) : LkGood (acqL l who sh) := by
  unfold acqE othersL at he
  unfold acqL
  cases hm : memL l.holders who with
  | true =>
    rw [hm] at he
    have hmm : who ∈ l.holders := memL_mem.1 hm
    have hpos := List.length_pos_of_mem hmm
    refine ⟨hg.e0, hg.e1, by simpa using hg.n, by simpa using hg.ok, by simpa using hg.asc, fun hs => ?_, fun _ => ?_⟩
    · simp only at hs
      subst hs
      simp only [Bool.and_false, if_true] at he
      simp only [if_true]
      rw [if_neg (by simp)] at he
      split at he
      · omega
      · omega
    · simp only [if_true]; omega
  | false =>
    rw [hm] at he
    have hmm : ¬ who ∈ l.holders := memL_not.1 hm
    have hl := insL_len l.holders who
    have hn := hg.n
    refine ⟨hg.e0, hg.e1, ?_, ?_, ?_, fun hs => ?_, fun _ => ?_⟩
    · simp only [Bool.false_eq_true, if_false]
      rw [hl]
      by_cases h1 : (l.shared && sh) = true
      · rw [if_pos h1] at he
        by_cases h2 : l.holders.length - (if false = true then 1 else 0) = 32
        · rw [if_pos h2] at he; omega
        · have h3 : l.holders.length ≠ 32 := by simpa using h2
          omega
      · rw [if_neg h1] at he
        by_cases h2 : 0 < l.holders.length - (if false = true then 1 else 0)
        · rw [if_pos h2] at he; omega
        · have h3 : ¬ 0 < l.holders.length := by simpa using h2
          omega
    · simp only [Bool.false_eq_true, if_false]
      intro h hh
      rcases (insL_mem _ _ _).1 hh with rfl | hh
      · exact hw
      · exact hg.ok h hh
    · simp only [Bool.false_eq_true, if_false]
      exact insL_asc hg.asc hmm
    · simp only at hs
      subst hs
      simp only [Bool.false_eq_true, if_false]
      rw [if_neg (by simp)] at he
      by_cases h2 : 0 < l.holders.length - (if false = true then 1 else 0)
      · rw [if_pos h2] at he; omega
      · have h3 : ¬ 0 < l.holders.length := by simpa using h2
        omega
    · simp only [Bool.false_eq_true, if_false]; omega
theorem relL_good {l : Lk} (hg : LkGood l) {who : ByteArray} (hm : who ∈ l.holders) : LkGood (relL l who) := by
  have hl := delL_len hg.asc hm
  have hn := hg.n
  unfold relL
  refine ⟨hg.e0, hg.e1, by simp only; omega, ?_, delL_asc hg.asc who, fun hs => ?_, fun hs => ?_⟩
  · intro h hh
    exact hg.ok h ((delL_mem hg.asc hm h).1 hh).1
  · simp only at hs ⊢
    cases h2 : l.shared with
    | false => have := hg.one h2; omega
    | true =>
      rw [h2] at hs
      have : ¬ 0 < (delL l.holders who).length := by simpa using hs
      omega
  · simp only at hs ⊢
    have h3 : 0 < (delL l.holders who).length := by
      rw [Bool.and_eq_true] at hs
      simpa using hs.2
    omega
/-- A lock whose holders' names are short has a short value. -/
theorem enc_short {l : Lk} (hg : LkGood l) (hz : ∀ h ∈ l.holders, h.size ≤ 1000) : (encLk l).length ≤ 65536 := by
  have key : ∀ (r : List ByteArray), (∀ h ∈ r, h.size ≤ 1000) → (r.flatMap (fun h => txtL h.data.toList)).length ≤ 1010 * r.length := by
    intro r
    induction r with
    | nil => intro _; simp
    | cons h r ih =>
      intro hs
      have h0 := ih (fun x hx => hs x (by simp [hx]))
      have h1 := hs h (by simp)
      have h2 := ba_size h
      have h3 := natL_ten (u := h.data.toList.length) (by omega)
      rw [List.flatMap_cons, List.length_append, List.length_cons, txtL, List.length_append]
      omega
  have k := key l.holders hz
  have hn := hg.n
  have l0 := natL_ten (u := l.epoch.toNat) (by have := hg.e1; omega)
  have l1 := natL_ten (u := l.holders.length) (by omega)
  unfold encLk
  simp only [List.length_append, List.length_cons]
  omega
end Go.Proofs.YtfgecaphhdedcaaGreatDoor
