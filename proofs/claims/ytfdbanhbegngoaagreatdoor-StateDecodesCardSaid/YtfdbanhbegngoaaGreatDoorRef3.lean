/-
  THE REFERENCE OF LAYER 3, WALKED: Parse, Valid, Compare: they compute what lineage's own functions compute.
-/
import Derived.Test.YtfdbanhbegngoaaGreatDoorNames
import Derived.Deep.CutBlock
import Derived.Deep.CutRange
namespace Go.Proofs.YtfdbanhbegngoaaGreatDoor
open Go.RowKit

namespace M
theorem partsGo_err {k at_ : Nat} {rest : Bs} {e : Int} (hk : k ≤ 8) (he : partE k rest = e) (hne : e ≠ 0) : partsGo (9 - k) k at_ rest = [⟨0, at_, e⟩] := by
  rw [show 9 - k = (8 - k) + 1 by omega, partsGo, he, if_pos hne]
theorem partsGo_end {k at_ : Nat} {rest : Bs} (hk : k ≤ 8) (he : partE k rest = 0) (hr : rest.drop (digs rest).length = []) : partsGo (9 - k) k at_ rest = [⟨numOf (digs rest), at_, 0⟩] := by
  rw [show 9 - k = (8 - k) + 1 by omega, partsGo, he, if_neg (by simp), hr]
theorem partsGo_bad {k at_ : Nat} {rest r : Bs} {c : UInt8} (hk : k ≤ 8) (he : partE k rest = 0) (hr : rest.drop (digs rest).length = c :: r) (hc : c ≠ 46) : partsGo (9 - k) k at_ rest = [⟨numOf (digs rest), at_, 0⟩, ⟨0, (at_ + (digs rest).length : Nat), 6⟩] := by
  rw [show 9 - k = (8 - k) + 1 by omega, partsGo, he, if_neg (by simp), hr]
  simp [hc]
theorem partsGo_more {k at_ : Nat} {rest r : Bs} (hk : k < 8) (he : partE k rest = 0) (hr : rest.drop (digs rest).length = 46 :: r) : partsGo (9 - k) k at_ rest = ⟨numOf (digs rest), at_, 0⟩ :: partsGo (9 - (k + 1)) (k + 1) (at_ + (digs rest).length + 1) r := by
  rw [show 9 - k = (8 - k) + 1 by omega, partsGo, he, if_neg (by simp), hr, show 9 - (k + 1) = 8 - k by omega]
  simp
/-- The number that digits spell. -/
def num : Bs → Nat → Nat
  | [], a => a
  | c :: r, a => num r (10 * a + (c.toNat - 48))
theorem decFrom_num (l : Bs) (h : ∀ c ∈ l, isDig c = true) (acc : Nat) : Lib.decFrom acc l = some (num l acc) := by
  induction l generalizing acc with
  | nil => rfl
  | cons c r ih =>
    have hc := h c (by simp)
    simp only [isDig, Bool.and_eq_true, decide_eq_true_eq] at hc
    simp only [Lib.decFrom, Lib.digitVal, if_pos hc, num]
    rw [ih (fun c hc => h c (by simp [hc]))]
    rw [Nat.mul_comm]
theorem numOf_eq (l : Bs) (h : ∀ c ∈ l, isDig c = true) : numOf l = (num l 0 : Nat) := by
  rw [numOf, decFrom_num l h]; rfl
theorem num_snoc (l : Bs) (c : UInt8) (a : Nat) : num (l ++ [c]) a = 10 * num l a + (c.toNat - 48) := by
  induction l generalizing a with
  | nil => rfl
  | cons d r ih => simp only [List.cons_append, num]; exact ih _
theorem num_lt (l : Bs) (h : ∀ c ∈ l, isDig c = true) : num l 0 < 10 ^ l.length := by
  suffices H : ∀ (l : Bs) a, (∀ c ∈ l, isDig c = true) → num l a < (a + 1) * 10 ^ l.length by simpa using H l 0 h
  intro l
  induction l with
  | nil => intro a _; simp [num]
  | cons c r ih =>
    intro a h
    have hc := h c (by simp)
    simp only [isDig, Bool.and_eq_true, decide_eq_true_eq] at hc
    have := ih (10 * a + (c.toNat - 48)) (fun c hc => h c (by simp [hc]))
    simp only [num, List.length_cons]
    refine Nat.lt_of_lt_of_le this ?_
    rw [Nat.pow_succ, ← Nat.mul_assoc, Nat.mul_right_comm]
    exact Nat.mul_le_mul_right _ (by omega)
theorem digs_get {l : Bs} {j : Nat} (h : j < (digs l).length) (hl : j < l.length) : isDig l[j] = true := (digs_step (by omega) hl).2 h
end M

set_option maxRecDepth 100000 in
set_option maxHeartbeats 3200000 in
theorem refParse_any (s : ByteArray) (hs : s.size ≤ 1000000) (w : World) :
    Calls Tryz.prog 90 #[.string s] w fun e W' => ∃ v, e = .returned (.tuple #[v, .int .i64 (M.parse s.data.toList).2.1, .int .i64 (M.parse s.data.toList).2.2]) ∧
      W'.ownsRow w.heap.size 3 1 v (M.ords s.data.toList).length ((M.ords s.data.toList).map i64v) ∧ Below w.heap.size w W' := by
  obtain ⟨i0, hi, hz0, hz1, hz2⟩ := info_parts Tryz.info_int
  have hfail : ∀ (at_ e : Int) (W' : World), M.parse s.data.toList = ([], at_, e) → Below w.heap.size w W' →
      ∃ v, Ending.returned (.tuple #[.slice none 0 0, .int .i64 at_, .int .i64 e]) = .returned (.tuple #[v, .int .i64 (M.parse s.data.toList).2.1, .int .i64 (M.parse s.data.toList).2.2]) ∧
      W'.ownsRow w.heap.size 3 1 v (M.ords s.data.toList).length ((M.ords s.data.toList).map i64v) ∧ Below w.heap.size w W' := by
    intro at_ e W' h hb
    rw [M.ords, h]
    exact ⟨_, rfl, World.ownsRow_nil _ _ _ _, hb⟩
  have HF := hid hfail
  clear hfail
  by_cases h0 : s.size = 0
  · have he := empty_t h0
    have hp : M.parse s.data.toList = ([], 0, 0) := by rw [M.parse, M.parts, if_pos (empty_n h0)]; rfl
    have HP := hid hp
    clear hp
    go_enter Tryz.func90, Tryz.ntmps90
    go_wp2
    go_ret3
    exact HF.out _ _ _ HP.out (Below.refl _ _)
  · have he := empty_f h0
    have hp : M.parts s.data.toList = [] ++ M.partsGo (9 - 0) 0 0 (s.data.toList.drop 0) := by rw [M.parts, if_neg (empty_nn h0)]; rfl
    have HP := hid hp
    clear hp
    go_enter Tryz.func90, Tryz.ntmps90
    go_wp2
    go_loopw [5, 6] (fun v a wr => ∃ (pre : List M.Part) (at_ : Nat), a = .int .i64 at_ ∧ wr.ownsRow w.heap.size 3 1 v pre.length ((ordsOf pre).map i64v) ∧ pre.length ≤ 8 ∧ at_ ≤ s.size ∧
        M.parts s.data.toList = pre ++ M.partsGo (9 - pre.length) pre.length at_ (s.data.toList.drop at_) ∧ allOk pre ∧ Below w.heap.size w wr) (fun _ a _ => s.size + 1 - (intOf a).toNat)
    case atStart => exact ⟨[], 0, rfl, World.ownsRow_nil _ _ _ _, by simp, by omega, HP.out, (fun p hp => by cases hp), Below.refl _ _⟩
    case round =>
      obtain ⟨pre, at_, rfl, hrow, hpl, hat, hparts, hok, hB⟩ := hrel
      obtain ⟨A, cap, rfl, -⟩ := Sl.of_own hrow
      have HR := hid hrow
      have HPA := hid hparts
      have HOK := hid hok
      clear hrow hparts hok HP
      have herr : ∀ e : Int, M.partE pre.length (s.data.toList.drop at_) = e → e ≠ 0 → M.parse s.data.toList = ([], (at_ : Int), e) := by
        intro e h1 h2
        rw [M.parse, HPA.out, M.partsGo_err hpl h1 h2]
        exact collect_err pre [] ⟨0, at_, e⟩ [] HOK.out h2
      have HE := hid herr
      clear herr
      by_cases h8 : pre.length = 8
      · have h8b : ((pre.length : Int) == 8) = true := by simp [h8]
        have HZ := hid (show M.partE pre.length (s.data.toList.drop at_) = 9 by simp [M.partE, h8])
        clear h8
        go_wp2
        go_ret3
        exact HF.out _ _ _ (HE.out 9 HZ.out (by decide)) hB
      · have h8b : ((pre.length : Int) == 8) = false := by simp; omega
        by_cases hend : at_ = s.size
        · have hendb : ((at_ : Int) == (s.size : Int)) = true := by simp [hend]
          have HZ := hid (show M.partE pre.length (s.data.toList.drop at_) = 4 by
            rw [M.partE, if_neg h8, if_pos (by rw [List.drop_eq_nil_iff, ← ba_size]; omega)])
          clear h8 hend
          go_wp2
          go_ret3
          exact HF.out _ _ _ (HE.out 4 HZ.out (by decide)) hB
        · have hendb : ((at_ : Int) == (s.size : Int)) = false := by simp; omega
          have hlt : at_ < s.size := by omega
          obtain ⟨d, hd⟩ : ∃ d, d = s.data.toList.drop at_ := ⟨_, rfl⟩
          have hdl : d.length = s.size - at_ := by rw [hd, List.length_drop, ← ba_size]
          have hdg : ∀ j (h : at_ + j < s.size) (h' : j < d.length), d[j] = s[at_ + j] := by
            intro j h h'; subst hd; rw [List.getElem_drop]; rfl
          rw [← hd] at HE HPA
          have hne : d ≠ [] := by intro e; rw [e] at hdl; simp at hdl; omega
          have hd0 : d.head? = some s[at_] := by
            have := hdg 0 (by omega) (by omega)
            rw [List.head?_eq_getElem?, List.getElem?_eq_getElem (by omega), this]; rfl
          have hds := M.digs_step (l := d) (k := 0) (Nat.zero_le _) (by omega)
          have h00 : d[0]'(by omega) = s[at_] := hdg 0 (by omega) (by omega)
          rw [h00] at hds
          by_cases hdig : M.isDig s[at_] = true
          · have hdig' := hdig
            simp only [M.isDig, Bool.and_eq_true, decide_eq_true_eq] at hdig'
            obtain ⟨g1, g2⟩ := hdig'
            have g1' : (48 : Int) ≤ (s[at_].toNat : Int) := by omega
            have g2' : (s[at_].toNat : Int) ≤ 57 := by omega
            have hD1 : 0 < (M.digs d).length := hds.1 hdig
            clear hds
            by_cases hz : s[at_] = 48
            · have hzb : ((s[at_].toNat : Int) == 48) = true := by rw [hz]; rfl
              have HZ := hid (show M.partE pre.length d = 3 by
                rw [M.partE, if_neg h8, if_neg hne, if_neg (by intro e; rw [e] at hD1; simp at hD1), if_pos (by rw [hd0, hz])])
              clear h8 hend hz hdig hd0 h00
              go_wp2
              go_ret3
              exact HF.out _ _ _ (HE.out 3 HZ.out (by decide)) hB
            · have hzb : ((s[at_].toNat : Int) == 48) = false := by
                rw [beq_eq_false_iff_ne]; intro e; apply hz; exact UInt8.toNat_inj.1 (by have : (48 : UInt8).toNat = 48 := rfl; omega)
              have hpE : M.partE pre.length d = if 6 < (M.digs d).length then 2 else 0 := by
                rw [M.partE, if_neg h8, if_neg hne, if_neg (by intro e; rw [e] at hD1; simp at hD1), if_neg (by rw [hd0]; simp [hz])]
              have HPE := hid hpE
              have hDl := M.digs_le d
              have hdl7 : ∀ j (h : at_ + j < s.size), j ≤ (M.digs d).length → (M.isDig s[at_ + j] = true ↔ j < (M.digs d).length) := by
                intro j h hj
                have := M.digs_step (l := d) hj (by omega)
                rw [hdg j h (by omega)] at this
                exact this
              have hnum : ∀ j, j ≤ 7 → M.num (d.take j) 0 < 10000000 ∨ (M.digs d).length < j := by
                intro j hj
                by_cases hjD : j ≤ (M.digs d).length
                · left
                  have e : d.take j = (M.digs d).take j := by
                    have := M.digs_take d
                    rw [← this, List.take_take, Nat.min_eq_left hjD]
                  rw [e]
                  refine Nat.lt_of_lt_of_le (M.num_lt _ fun c hc => M.digs_dig (List.mem_of_mem_take hc)) ?_
                  have : ((M.digs d).take j).length ≤ 7 := by rw [List.length_take]; omega
                  exact Nat.pow_le_pow_right (by omega) this
                · right; omega
              have hstep : ∀ j (h : at_ + j < s.size), M.num (d.take (j + 1)) 0 = 10 * M.num (d.take j) 0 + (s[at_ + j].toNat - 48) := by
                intro j h
                rw [List.take_add_one, List.getElem?_eq_getElem (by omega), hdg j h (by omega)]
                exact M.num_snoc _ _ _
              have HN := hid hnum
              have HST := hid hstep
              have H7 := hid hdl7
              have HD := hid (And.intro hd (And.intro hdl (And.intro hdg hne)))
              clear hpE hdl7 hnum hstep h8 hend hz hdig hd0 h00 hdg hd hne
              go_upto_block 2 with fail
              go_cut [7, 8] from 37 to 68 (fun n t wx => n = .int .i64 (M.num (d.take (min (M.digs d).length 7)) 0 : Nat) ∧ t = .int .i64 (at_ + min (M.digs d).length 7 : Nat) ∧ wx = wr)
              case first =>
                go_wp2
                go_loop [7, 8] (fun n t => ∃ j : Nat, n = .int .i64 (M.num (d.take j) 0 : Nat) ∧ t = .int .i64 (at_ + j : Nat) ∧ j ≤ (M.digs d).length ∧ j ≤ 7) (fun _ t => s.size - (intOf t).toNat)
                case atStart => exact ⟨0, by simp [M.num], rfl, Nat.zero_le _, by omega⟩
                case round =>
                  obtain ⟨j, rfl, rfl, hj1, hj2⟩ := hrel
                  have hjs : at_ + j ≤ s.size := by omega
                  by_cases k1 : at_ + j < s.size
                  · have h7 := H7.out j k1 hj1
                    by_cases k2 : M.isDig s[at_ + j] = true
                    · have k2' := k2
                      simp only [M.isDig, Bool.and_eq_true, decide_eq_true_eq] at k2'
                      obtain ⟨m1, m2⟩ := k2'
                      have m1' : (48 : Int) ≤ (s[at_ + j].toNat : Int) := by omega
                      have m2' : (s[at_ + j].toNat : Int) ≤ 57 := by omega
                      have k2D := h7.1 k2
                      have k1' : (at_ : Int) + (j : Int) < (s.size : Int) := by omega
                      by_cases k3 : j < 7
                      · have hn := HN.out j hj2
                        have hn' : (M.num (d.take j) 0 : Int) < 10000000 := by omega
                        have hn0 : (0 : Int) ≤ (M.num (d.take j) 0 : Int) := by omega
                        have hs' : ((M.num (d.take (j + 1)) 0 : Nat) : Int) = 10 * (M.num (d.take j) 0 : Int) + ((s[at_ + j].toNat : Int) - 48) := by
                          rw [HST.out j k1]; omega
                        have HS := hid hs'
                        have k3' : (at_ : Int) + (j : Int) < (at_ : Int) + 7 := by omega
                        clear hs' hn h7 k2
                        generalize ((M.num (d.take j) 0 : Nat) : Int) = N at *
                        go_wp2
                        go_round
                        case rel =>
                          refine ⟨j + 1, ?_, by go_num, by omega, by omega⟩
                          rw [HS.out]
                          congr 1
                          omega
                        case measure => simp [intOf]; omega
                      · obtain rfl : j = 7 := by omega
                        clear h7 k2
                        go_wp2
                        go_meet
                        case rel => exact ⟨by rw [Nat.min_eq_right hj1], by rw [Nat.min_eq_right hj1]; go_num, rfl⟩
                    · have k2D : ¬ j < (M.digs d).length := fun h => k2 (h7.2 h)
                      have hjD : j = (M.digs d).length := by omega
                      have hmin : min (M.digs d).length 7 = j := by omega
                      have HM := hid hmin
                      simp only [M.isDig, Bool.and_eq_true, decide_eq_true_eq] at k2
                      have k1' : (at_ : Int) + (j : Int) < (s.size : Int) := by omega
                      have h3 : ((s[at_ + j].toNat : Int) < 48) ∨ ((48 : Int) ≤ (s[at_ + j].toNat : Int) ∧ (57 : Int) < (s[at_ + j].toNat : Int)) := by omega
                      clear h7 k2 hmin hjD
                      rcases h3 with h3 | ⟨h3, h4⟩
                      · go_wp2
                        go_meet
                        case rel => exact ⟨by rw [HM.out], by rw [HM.out]; go_num, rfl⟩
                      · go_wp2
                        go_meet
                        case rel => exact ⟨by rw [HM.out], by rw [HM.out]; go_num, rfl⟩
                  · have hDl' : (M.digs d).length ≤ s.size - at_ := by rw [← HD.out.2.1]; exact hDl
                    have hmin : min (M.digs d).length 7 = j := by omega
                    have HM := hid hmin
                    clear hmin
                    go_wp2
                    go_meet
                    case rel => exact ⟨by rw [HM.out], by rw [HM.out]; go_num, rfl⟩
              case rest =>
                obtain ⟨rfl, rfl, rfl⟩ := hcut
                obtain ⟨m, hm⟩ : ∃ m, m = min (M.digs d).length 7 := ⟨_, rfl⟩
                rw [← hm]
                have hm7 : m ≤ 7 := by omega
                by_cases hD7 : 7 ≤ (M.digs d).length
                · have hmb : ((at_ : Int) + (m : Int) == (at_ : Int) + 7) = true := by simp; omega
                  have HZ := hid (show M.partE pre.length d = 2 by rw [HPE.out, if_pos (by omega)])
                  clear hm
                  go_wp2
                  go_ret3
                  exact HF.out _ _ _ (HE.out 2 HZ.out (by decide)) hB
                · have hmD : m = (M.digs d).length := by omega
                  have hmb : ((at_ : Int) + (m : Int) == (at_ : Int) + 7) = false := by simp; omega
                  have hpz : M.partE pre.length d = 0 := by rw [HPE.out, if_neg (by omega)]
                  have hdig2 : (M.numOf (M.digs d)) = (M.num (d.take m) 0 : Nat) := by
                    rw [M.numOf_eq _ (fun c hc => M.digs_dig hc), hmD, M.digs_take]
                  have HG := hid (And.intro hpz (And.intro hdig2 hmD))
                  have hdrop : d.drop (M.digs d).length = s.data.toList.drop (at_ + m) := by rw [HD.out.1, hmD, List.drop_drop, HD.out.1]
                  have hms : at_ + m ≤ s.size := by omega
                  have hdl2 := HD.out.2.1
                  have hok2 : allOk (pre ++ [⟨M.numOf (M.digs d), at_, 0⟩]) := by
                    intro p hp
                    rcases List.mem_append.1 hp with hp | hp
                    · exact HOK.out p hp
                    · rw [List.mem_singleton.1 hp]
                  have hcells : (ordsOf pre).map i64v ++ [.int .i64 (M.num (d.take m) 0 : Nat)] = (ordsOf (pre ++ [⟨M.numOf (M.digs d), at_, 0⟩])).map i64v := by
                    simp [ordsOf, i64v, hdig2]
                  have HOK2 := hid hok2
                  have HCE := hid hcells
                  clear hm hpz hdig2 hmD hok2 hcells
                  generalize ((M.num (d.take m) 0 : Nat) : Int) = N at *
                  by_cases hend2 : at_ + m = s.size
                  · have heb : ((at_ : Int) + (m : Int) == (s.size : Int)) = true := by simp; omega
                    have hparts2 : M.parse s.data.toList = (ordsOf (pre ++ [⟨M.numOf (M.digs d), at_, 0⟩]), 0, 0) := by
                      rw [M.parse, HPA.out, M.partsGo_end hpl HG.out.1 (by rw [hdrop, List.drop_eq_nil_iff, ← ba_size]; omega)]
                      rw [collect_ok _ _ HOK2.out]; simp
                    have HP2 := hid hparts2
                    clear hparts2 hdrop hend2
                    go_wp2_with (at_builtin; refine wpList_append_own _ rfl (.tmp 74) (.tmp 76) _ rfl w.heap.size 3 i0 (.int .i64 0) 1 8 Tryz.underlying142 hi hz0 hz1 hz2 rfl (by decide) _ _ _ rfl (HR.out.alloc _) ⟨wc.heap.size, 0, none⟩ 1 1 [.int .i64 N] rfl rfl (cell_one_new _ _ _) (by simp [Value.oneCell']) (by unfold maxLen; omega) (by omega) (by have := hB.size; simp; omega) ?_; intro v' w1 hown' hgrow _)
                    go_ret3
                    have hB2 : Below w.heap.size w w1 := hB.trans (((Below.refl w.heap.size wc).alloc hB.size _).grown hgrow (by have := hB.size; simp; omega) fun j ej => (HR.out.lt j ej).1)
                    refine ⟨v', by rw [HP2.out]; rfl, ?_, hB2⟩
                    rw [M.ords, HP2.out]
                    have hh := hown'
                    rw [HCE.out] at hh
                    simpa [ordsOf] using hh
                  · have heb : ((at_ : Int) + (m : Int) == (s.size : Int)) = false := by simp; omega
                    have hms2 : at_ + m < s.size := by omega
                    have hms3 : (at_ : Int) + (m : Int) < (s.size : Int) := by omega
                    have hdrop2 : d.drop (M.digs d).length = s[at_ + m] :: s.data.toList.drop (at_ + m + 1) := by
                      rw [hdrop, List.drop_eq_getElem_cons (by rw [← ba_size]; exact hms2)]; rfl
                    by_cases h46 : s[at_ + m] = 46
                    · have hcb : ((s[at_ + m].toNat : Int) != 46) = false := by rw [h46]; rfl
                      have hplen : pre.length < 8 := by have h := h8b; simp at h; omega
                      have hnext : M.parts s.data.toList = (pre ++ [⟨M.numOf (M.digs d), at_, 0⟩]) ++ M.partsGo (9 - (pre.length + 1)) (pre.length + 1) (at_ + m + 1) (s.data.toList.drop (at_ + m + 1)) := by
                        rw [HPA.out, M.partsGo_more hplen HG.out.1 (by rw [hdrop2, h46]), ← HG.out.2.2, List.append_assoc]; rfl
                      have HNX := hid hnext
                      clear hnext hdrop hdrop2 hend2 h46
                      go_wp2_with (at_builtin; refine wpList_append_own _ rfl (.tmp 74) (.tmp 76) _ rfl w.heap.size 3 i0 (.int .i64 0) 1 8 Tryz.underlying142 hi hz0 hz1 hz2 rfl (by decide) _ _ _ rfl (HR.out.alloc _) ⟨wc.heap.size, 0, none⟩ 1 1 [.int .i64 N] rfl rfl (cell_one_new _ _ _) (by simp [Value.oneCell']) (by unfold maxLen; omega) (by omega) (by have := hB.size; simp; omega) ?_; intro v' w1 hown' hgrow _)
                      have hB2 : Below w.heap.size w w1 := hB.trans (((Below.refl w.heap.size wc).alloc hB.size _).grown hgrow (by have := hB.size; simp; omega) fun j ej => (HR.out.lt j ej).1)
                      go_roundw
                      case rel =>
                        refine ⟨pre ++ [⟨M.numOf (M.digs d), at_, 0⟩], at_ + m + 1, by go_num, ?_, by simp; omega, by omega, ?_, HOK2.out, hB2⟩
                        · have hh := hown'
                          rw [HCE.out] at hh
                          simpa [ordsOf] using hh
                        · rw [HNX.out]; simp
                      case measure => simp [intOf]; omega
                    · have hcb : ((s[at_ + m].toNat : Int) != 46) = true := by
                        rw [bne_iff_ne]; intro e; apply h46; exact UInt8.toNat_inj.1 (by have : (46 : UInt8).toNat = 46 := rfl; omega)
                      have hbad : M.parse s.data.toList = ([], (at_ : Int) + (m : Int), 6) := by
                        rw [M.parse, HPA.out, M.partsGo_bad hpl HG.out.1 hdrop2 h46]
                        have := collect_err (pre ++ [⟨M.numOf (M.digs d), at_, 0⟩]) [] ⟨0, ((at_ + (M.digs d).length : Nat) : Int), 6⟩ [] HOK2.out (by simp)
                        rw [List.append_assoc] at this
                        rw [show ((at_ : Int) + (m : Int)) = ((at_ + (M.digs d).length : Nat) : Int) by rw [← HG.out.2.2]; omega]
                        exact this
                      have HBAD := hid hbad
                      clear hbad hdrop hdrop2 hend2 h46
                      go_wp2_with (at_builtin; refine wpList_append_own _ rfl (.tmp 74) (.tmp 76) _ rfl w.heap.size 3 i0 (.int .i64 0) 1 8 Tryz.underlying142 hi hz0 hz1 hz2 rfl (by decide) _ _ _ rfl (HR.out.alloc _) ⟨wc.heap.size, 0, none⟩ 1 1 [.int .i64 N] rfl rfl (cell_one_new _ _ _) (by simp [Value.oneCell']) (by unfold maxLen; omega) (by omega) (by have := hB.size; simp; omega) ?_; intro v' w1 hown' hgrow _)
                      have hB2 : Below w.heap.size w w1 := hB.trans (((Below.refl w.heap.size wc).alloc hB.size _).grown hgrow (by have := hB.size; simp; omega) fun j ej => (HR.out.lt j ej).1)
                      go_ret3
                      exact HF.out _ _ _ HBAD.out hB2
          · have hD0 : M.digs d = [] := by
              have : ¬ 0 < (M.digs d).length := fun h => hdig (hds.2 h)
              exact List.eq_nil_of_length_eq_zero (by omega)
            have HZ := hid (show M.partE pre.length d = 6 by rw [M.partE, if_neg h8, if_neg hne, if_pos hD0])
            simp only [M.isDig, Bool.and_eq_true, decide_eq_true_eq] at hdig
            have h3 : ((s[at_].toNat : Int) < 48) ∨ ((48 : Int) ≤ (s[at_].toNat : Int) ∧ (57 : Int) < (s[at_].toNat : Int)) := by omega
            clear hds h00 hd0
            clear h8 hend hdg hd hne hdig hD0
            rcases h3 with h3 | ⟨h3, h4⟩
            · go_wp2
              go_ret3
              exact HF.out _ _ _ (HE.out 6 HZ.out (by decide)) hB
            · go_wp2
              go_ret3
              exact HF.out _ _ _ (HE.out 6 HZ.out (by decide)) hB

set_option maxHeartbeats 400000 in
theorem refValid_any (s : ByteArray) (hs : s.size ≤ 1000000) (w : World) :
    Calls Tryz.prog 106 #[.string s] w fun e W' => e = .returned (.bool (M.valid s.data.toList)) ∧ Below w.heap.size w W' := by
  go_enter Tryz.func106, Tryz.ntmps106
  go_wp2_with (go_at_call 90; refine (refParse_any s hs _).mono ?_; rintro e w' ⟨v, rfl, hown, hb⟩)
  go_ret
  exact ⟨rfl, hb⟩
end Go.Proofs.YtfdbanhbegngoaaGreatDoor
