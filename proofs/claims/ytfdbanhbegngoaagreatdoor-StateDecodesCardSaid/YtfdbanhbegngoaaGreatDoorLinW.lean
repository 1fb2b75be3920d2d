/-
  LAYER 3, WALKED: lineage.parts, its iterator, parse, Valid, Ordinals: they compute what XLin says.
-/
import Derived.RangeFuncNested
import Derived.RangeFuncBound
import Derived.RangeFuncCalls
import Derived.RangeFuncLeaves
import Derived.RangeFuncBox
import Derived.Shelf.Abstract
import Derived.Shelf.RegionOpen
import Derived.OwnWalkIn
import Derived.TacticsInMore
import Derived.LoopNIn
import Derived.LoopIn
import Derived.Sort.CutIn
import Derived.Deep.CutRange
import Derived.Lib.Strings
import Derived.Test.YtfdbanhbegngoaaGreatDoorVoc
import Derived.Test.YtfdbanhbegngoaaGreatDoorLin
namespace Go.Proofs.YtfdbanhbegngoaaGreatDoor
open Go.RowKit Go.Shelf

attribute [local go_sem] Oper.semAt_some

def partV (p : M.Part) : Value := .agg #[.int .i64 p.ord, .int .i64 p.at_, .int .i64 p.e]

/-- What a round keeps: blocks of parts and of strings. -/
def KpL (W W' : World) : Prop := ∀ (k : Nat) (cs : Array Value) (t : TypeId) (fz : Nat × Nat), (t = 166 ∨ t = 9) → W.heap[k]? = some (Obj.cells cs t fz) → W'.heap[k]? = some (Obj.cells cs t fz)
theorem KpL.trans {A B C : World} (h : KpL A B) (k : KpL B C) : KpL A C := fun i cs t fz ht hi => k i cs t fz ht (h i cs t fz ht hi)
theorem KpL.refl (A : World) : KpL A A := fun _ _ _ _ _ h => h

/-- strconv.Atoi at a row of digits. -/
def AtoiOk : Prop := ∀ (s : ByteArray) (n : Int) (w : World), s.size ≤ 18 → Lib.atoi s.data.toList = some n →
  Calls Tryz.prog 111 #[.string s] w fun e w' => e = .returned (.tuple #[.int .i64 n, .nilIface]) ∧ Below w.heap.size w w'

set_option maxHeartbeats 1000000 in
theorem parts_in (s : ByteArray) (n : Nat) (w : World) :
    CallsIn Fence.wide n Tryz.prog 108 #[.string s] w fun e w' => e = .returned (.func (.func 110) #[] #[.pointer (some ⟨w.heap.size, 0, none⟩)]) ∧ w' = w.alloc (.cells #[.string s] 9) := by
  refine callsIn_of_wp Tryz.func108 rfl trivial ?_ rfl
  simp only [Tryz.ntmps108, List.size_toArray, List.length_cons, List.length_nil, Nat.reduceAdd, Nat.reduceSub, Array.replicate_succ, Array.replicate_zero, List.push_toArray, List.append_toArray, List.nil_append, List.cons_append]
  gi_wp2
  go_ret
  exact ⟨rfl, rfl⟩

set_option maxRecDepth 100000 in
set_option maxHeartbeats 2000000 in
/-- The iterator. -/
theorem parts1_in (hAt : AtoiOk) (n : Nat) (hn : 1 ≤ n) (l Bn : Nat) (s : ByteArray) (hs : s.size ≤ maxLen) (J Jx : List M.Part → World → Prop)
    (hJ : ∀ pre W W', J pre W → Below W.heap.size W W' → J pre W')
    (hY : ∀ pre p W, J pre W → pre.length < 10 → YieldAt Fence.wide (n - 1) Tryz.prog l #[partV p] W fun e W' =>
      (e = .returned (.bool true) ∧ J (pre ++ [p]) W' ∧ KpL W W') ∨ (e = .returned (.bool false) ∧ Jx (pre ++ [p]) W'))
    (W : World) (hBn : W.heap[Bn]? = some (.cells #[.string s] 9)) (h0 : J [] W) :
    CallsIn Fence.wide n Tryz.prog 110 #[.func (.yield l) #[] #[], .pointer (some ⟨Bn, 0, none⟩)] W fun e W' => (∃ v, e = .returned v) ∧
      ((∃ ys, ys = M.parts s.data.toList ∧ J ys W') ∨ (∃ pre, pre <+: M.parts s.data.toList ∧ Jx pre W')) := by
  unfold maxLen at hs
  refine callsIn_of_wp Tryz.func110 rfl trivial ?_ rfl
  simp only [Tryz.ntmps110, List.size_toArray, List.length_cons, List.length_nil, Nat.reduceAdd, Nat.reduceSub, Array.replicate_succ, Array.replicate_zero, List.push_toArray, List.append_toArray, List.nil_append, List.cons_append]
  gi_wp2
  gi_loopw [3, 4] (fun a i wr => ∃ (pre : List M.Part) (at_ k : Nat), a = .int .i64 at_ ∧ i = .int .i64 k ∧ k ≤ 8 ∧ at_ ≤ s.size ∧ (s.size = 0 → at_ = 0) ∧ pre.length = k ∧
      M.parts s.data.toList = pre ++ (if s.data.toList = [] then [] else M.partsGo (9 - k) k at_ (s.data.toList.drop at_)) ∧ J pre wr ∧ wr.heap[Bn]? = some (.cells #[.string s] 9))
    (fun _ i _ => 8 - (intOf i).toNat)
  case atStart =>
    exact ⟨[], 0, 0, rfl, rfl, by omega, by omega, by omega, rfl, rfl, h0, hBn⟩
  case round =>
    obtain ⟨pre, at_, k, rfl, rfl, hk, hat, hz, hpl, hp, hJs, hB⟩ := hrel
    have hc := cell_of_one hB
    have hBlt := lt_of_block hB
    have HP := hid hp; clear hp
    have HB := hid hB; clear hB
    by_cases he : s.size = 0
    · have hl := empty_t he
      gi_wp2
      go_end0
      have hq := HP.out
      rw [if_pos (empty_n he), List.append_nil] at hq
      exact ⟨⟨_, rfl⟩, .inl ⟨pre, hq.symm, hJs⟩⟩
    · have hl := empty_f he
      have HE := hid he; clear he
      have hDl := M.digs_le (s.data.toList.drop at_)
      rw [List.length_drop, ← ba_size] at hDl
      gi_upto_region 5 with fail
      iterate 8 gi_step
      gi_cut [6] from 13 (fun d wx => d = .int .i64 (M.digs (s.data.toList.drop at_)).length ∧ wx = wr.alloc (.cells #[.int .i64 0, .int .i64 at_, .int .i64 0] 166))
      case first =>
        gi_step
        gi_loop [6] (fun d => ∃ c : Nat, d = .int .i64 c ∧ c ≤ (M.digs (s.data.toList.drop at_)).length) (fun d => s.size - (intOf d).toNat)
        case atStart => exact ⟨0, rfl, Nat.zero_le _⟩
        case round =>
          obtain ⟨c, rfl, hcd⟩ := hrel
          by_cases h1 : at_ + c < s.size
          · have hds := M.digs_step (l := s.data.toList.drop at_) hcd (by rw [List.length_drop, ← ba_size]; omega)
            by_cases h2 : M.isDig s[at_ + c] = true
            · have h3 := h2
              simp only [M.isDig, Bool.and_eq_true, decide_eq_true_eq] at h3
              obtain ⟨h3a, h3b⟩ := h3
              have h3a' : (48 : Int) ≤ (s[at_ + c].toNat : Int) := by omega
              have h3b' : (s[at_ + c].toNat : Int) ≤ 57 := by omega
              have HD : Hid (c < (M.digs (s.data.toList.drop at_)).length) := hid (by rw [← hds]; rw [List.getElem_drop]; exact h2)
              clear hds h2
              gi_wp2
              go_round
              case rel => exact ⟨c + 1, by go_num, HD.out⟩
              case measure => simp [intOf]; omega
            · have hcD : c = (M.digs (s.data.toList.drop at_)).length := by
                have : ¬ c < (M.digs (s.data.toList.drop at_)).length := by rw [← hds, List.getElem_drop]; exact h2
                omega
              have HC := hid hcD; clear hcD hds
              simp only [M.isDig, Bool.and_eq_true, decide_eq_true_eq] at h2
              have h3 : ((s[at_ + c].toNat : Int) < 48) ∨ ((48 : Int) ≤ (s[at_ + c].toNat : Int) ∧ (57 : Int) < (s[at_ + c].toNat : Int)) := by omega
              rcases h3 with h3 | ⟨h3, h4⟩
              all_goals
                clear h2
                gi_wp2
                gi_meet
                case rel => exact ⟨by rw [← HC.out], rfl⟩
          · have hcD : c = (M.digs (s.data.toList.drop at_)).length := by omega
            have HC := hid hcD; clear hcD
            gi_wp2
            gi_meet
            case rel => exact ⟨by rw [← HC.out], rfl⟩
      case rest =>
        obtain ⟨rfl, rfl⟩ := hcut
        have hlen : (s.data.toList.drop at_).length = s.size - at_ := by rw [List.length_drop, ← ba_size]
        by_cases k8 : k = 8
        · have k8b : ((k : Int) == 8) = true := by simp [k8]
          have hE : M.partE k (s.data.toList.drop at_) = 9 := by simp [M.partE, k8]
          have hfin : M.parts s.data.toList = pre ++ [⟨0, at_, 9⟩] := by
            rw [HP.out, if_neg (empty_nn HE.out), show 9 - k = (8 - k) + 1 from by omega, M.partsGo, hE]; simp
          have HF := hid hfin; clear hfin hE
          obtain ⟨fn, tmps, assign, body, hy, hR⟩ := hY pre ⟨0, at_, 9⟩ (wr.alloc (.cells #[.int .i64 0, .int .i64 at_, .int .i64 9] 166)) (hJ _ _ _ hJs ((Below.refl _ _).alloc (Nat.le_refl _) _)) (by omega)
          simp only [partV] at hy
          gi_wp2
          refine hR.mono ?_
          rintro e W3 (⟨rfl, hJ3, hk3⟩ | ⟨rfl, hJx3⟩)
          · have h3 := hk3 wr.heap.size _ _ _ (.inl rfl) (heap_alloc_new wr _)
            have hc3 : W3.cell? ⟨wr.heap.size, 2, none⟩ = some (.int .i64 9) := cell_of_row W3 _ _ _ _ _ h3
            gi_wp2
            refine bodyPost_ret (results_none rfl _ _ _) rfl ?_
            exact ⟨⟨_, rfl⟩, .inl ⟨_, HF.out.symm, hJ3⟩⟩
          · gi_wp2
            refine bodyPost_ret (results_none rfl _ _ _) rfl ?_
            exact ⟨⟨_, rfl⟩, .inr ⟨_, by rw [HF.out]; exact List.prefix_refl _, hJx3⟩⟩
        have k8b : ((k : Int) == 8) = false := by rw [beq_eq_false_iff_ne]; omega
        by_cases hend : at_ = s.size
        · have hendb : ((at_ : Int) == (s.size : Int)) = true := by simp [hend]
          have HEND := hid hend; clear hend
          have hE : M.partE k (s.data.toList.drop at_) = 4 := by rw [M.partE, if_neg k8, if_pos (List.eq_nil_of_length_eq_zero (by rw [hlen]; have := HEND.out; omega))]
          have hfin : M.parts s.data.toList = pre ++ [⟨0, at_, 4⟩] := by
            rw [HP.out, if_neg (empty_nn HE.out), show 9 - k = (8 - k) + 1 from by omega, M.partsGo, hE]; simp
          have HF := hid hfin; clear hfin hE
          obtain ⟨fn, tmps, assign, body, hy, hR⟩ := hY pre ⟨0, at_, 4⟩ (wr.alloc (.cells #[.int .i64 0, .int .i64 at_, .int .i64 4] 166)) (hJ _ _ _ hJs ((Below.refl _ _).alloc (Nat.le_refl _) _)) (by omega)
          simp only [partV] at hy
          gi_wp2
          refine hR.mono ?_
          rintro e W3 (⟨rfl, hJ3, hk3⟩ | ⟨rfl, hJx3⟩)
          · have h3 := hk3 wr.heap.size _ _ _ (.inl rfl) (heap_alloc_new wr _)
            have hc3 : W3.cell? ⟨wr.heap.size, 2, none⟩ = some (.int .i64 4) := cell_of_row W3 _ _ _ _ _ h3
            gi_wp2
            refine bodyPost_ret (results_none rfl _ _ _) rfl ?_
            exact ⟨⟨_, rfl⟩, .inl ⟨_, HF.out.symm, hJ3⟩⟩
          · gi_wp2
            refine bodyPost_ret (results_none rfl _ _ _) rfl ?_
            exact ⟨⟨_, rfl⟩, .inr ⟨_, by rw [HF.out]; exact List.prefix_refl _, hJx3⟩⟩
        have hendb : ((at_ : Int) == (s.size : Int)) = false := by rw [beq_eq_false_iff_ne]; omega
        have hlt : at_ < s.size := by omega
        have hrne : s.data.toList.drop at_ ≠ [] := by intro e; rw [e] at hlen; simp at hlen; omega
        obtain ⟨D, hD⟩ : ∃ D, D = (M.digs (s.data.toList.drop at_)).length := ⟨_, rfl⟩
        rw [← hD] at hDl ⊢
        have HD := hid hD; clear hD
        by_cases hd0 : D = 0
        · have hd0b : ((D : Int) == 0) = true := by simp [hd0]
          have HD0 := hid hd0; clear hd0
          have hE : M.partE k (s.data.toList.drop at_) = 6 := by rw [M.partE, if_neg k8, if_neg hrne, if_pos (List.eq_nil_of_length_eq_zero (by rw [← HD.out]; exact HD0.out))]
          have hfin : M.parts s.data.toList = pre ++ [⟨0, at_, 6⟩] := by
            rw [HP.out, if_neg (empty_nn HE.out), show 9 - k = (8 - k) + 1 from by omega, M.partsGo, hE]; simp
          have HF := hid hfin; clear hfin hE
          obtain ⟨fn, tmps, assign, body, hy, hR⟩ := hY pre ⟨0, at_, 6⟩ (wr.alloc (.cells #[.int .i64 0, .int .i64 at_, .int .i64 6] 166)) (hJ _ _ _ hJs ((Below.refl _ _).alloc (Nat.le_refl _) _)) (by omega)
          simp only [partV] at hy
          gi_wp2
          refine hR.mono ?_
          rintro e W3 (⟨rfl, hJ3, hk3⟩ | ⟨rfl, hJx3⟩)
          · have h3 := hk3 wr.heap.size _ _ _ (.inl rfl) (heap_alloc_new wr _)
            have hc3 : W3.cell? ⟨wr.heap.size, 2, none⟩ = some (.int .i64 6) := cell_of_row W3 _ _ _ _ _ h3
            gi_wp2
            refine bodyPost_ret (results_none rfl _ _ _) rfl ?_
            exact ⟨⟨_, rfl⟩, .inl ⟨_, HF.out.symm, hJ3⟩⟩
          · gi_wp2
            refine bodyPost_ret (results_none rfl _ _ _) rfl ?_
            exact ⟨⟨_, rfl⟩, .inr ⟨_, by rw [HF.out]; exact List.prefix_refl _, hJx3⟩⟩
        have hd0b : ((D : Int) == 0) = false := by rw [beq_eq_false_iff_ne]; omega
        have hdne : M.digs (s.data.toList.drop at_) ≠ [] := by intro e; apply hd0; rw [HD.out, e]; rfl
        have hhd : (s.data.toList.drop at_).head? = some s[at_] := by rw [List.head?_drop, ba_get s at_ hlt]
        by_cases h48 : s[at_].toNat = 48
        · have h48b : (((s[at_].toNat : Nat) : Int) == 48) = true := by simp [h48]
          have h48c : s[at_] = 48 := UInt8.toNat_inj.1 h48
          have H48 := hid h48c; clear h48 h48c
          have hE : M.partE k (s.data.toList.drop at_) = 3 := by rw [M.partE, if_neg k8, if_neg hrne, if_neg hdne, if_pos (by rw [hhd, H48.out])]
          have hfin : M.parts s.data.toList = pre ++ [⟨0, at_, 3⟩] := by
            rw [HP.out, if_neg (empty_nn HE.out), show 9 - k = (8 - k) + 1 from by omega, M.partsGo, hE]; simp
          have HF := hid hfin; clear hfin hE
          obtain ⟨fn, tmps, assign, body, hy, hR⟩ := hY pre ⟨0, at_, 3⟩ (wr.alloc (.cells #[.int .i64 0, .int .i64 at_, .int .i64 3] 166)) (hJ _ _ _ hJs ((Below.refl _ _).alloc (Nat.le_refl _) _)) (by omega)
          simp only [partV] at hy
          gi_wp2
          refine hR.mono ?_
          rintro e W3 (⟨rfl, hJ3, hk3⟩ | ⟨rfl, hJx3⟩)
          · have h3 := hk3 wr.heap.size _ _ _ (.inl rfl) (heap_alloc_new wr _)
            have hc3 : W3.cell? ⟨wr.heap.size, 2, none⟩ = some (.int .i64 3) := cell_of_row W3 _ _ _ _ _ h3
            gi_wp2
            refine bodyPost_ret (results_none rfl _ _ _) rfl ?_
            exact ⟨⟨_, rfl⟩, .inl ⟨_, HF.out.symm, hJ3⟩⟩
          · gi_wp2
            refine bodyPost_ret (results_none rfl _ _ _) rfl ?_
            exact ⟨⟨_, rfl⟩, .inr ⟨_, by rw [HF.out]; exact List.prefix_refl _, hJx3⟩⟩
        have h48b : (((s[at_].toNat : Nat) : Int) == 48) = false := by rw [beq_eq_false_iff_ne]; omega
        have h48c : ¬ (s.data.toList.drop at_).head? = some 48 := by rw [hhd]; intro e; apply h48; injection e with e; rw [e]; rfl
        by_cases hd6 : 6 < D
        · have hd6b : (6 : Int) < (D : Int) := by omega
          have hE : M.partE k (s.data.toList.drop at_) = 2 := by rw [M.partE, if_neg k8, if_neg hrne, if_neg hdne, if_neg h48c, if_pos (by rw [← HD.out]; exact hd6)]
          have hfin : M.parts s.data.toList = pre ++ [⟨0, at_, 2⟩] := by
            rw [HP.out, if_neg (empty_nn HE.out), show 9 - k = (8 - k) + 1 from by omega, M.partsGo, hE]; simp
          have HF := hid hfin; clear hfin hE
          obtain ⟨fn, tmps, assign, body, hy, hR⟩ := hY pre ⟨0, at_, 2⟩ (wr.alloc (.cells #[.int .i64 0, .int .i64 at_, .int .i64 2] 166)) (hJ _ _ _ hJs ((Below.refl _ _).alloc (Nat.le_refl _) _)) (by omega)
          simp only [partV] at hy
          gi_wp2
          refine hR.mono ?_
          rintro e W3 (⟨rfl, hJ3, hk3⟩ | ⟨rfl, hJx3⟩)
          · have h3 := hk3 wr.heap.size _ _ _ (.inl rfl) (heap_alloc_new wr _)
            have hc3 : W3.cell? ⟨wr.heap.size, 2, none⟩ = some (.int .i64 2) := cell_of_row W3 _ _ _ _ _ h3
            gi_wp2
            refine bodyPost_ret (results_none rfl _ _ _) rfl ?_
            exact ⟨⟨_, rfl⟩, .inl ⟨_, HF.out.symm, hJ3⟩⟩
          · gi_wp2
            refine bodyPost_ret (results_none rfl _ _ _) rfl ?_
            exact ⟨⟨_, rfl⟩, .inr ⟨_, by rw [HF.out]; exact List.prefix_refl _, hJx3⟩⟩
        have hd6b : ¬ (6 : Int) < (D : Int) := by omega
        have hE : M.partE k (s.data.toList.drop at_) = 0 := by rw [M.partE, if_neg k8, if_neg hrne, if_neg hdne, if_neg h48c, if_neg (by rw [← HD.out]; exact hd6)]
        have hex : (s.extract at_ (at_ + D)).data.toList = M.digs (s.data.toList.drop at_) := by
          rw [Lib.extract_data, show at_ + D - at_ = D from by omega, HD.out, M.digs_take]
        have hatoi := M.atoi_digs _ (fun c hc => M.digs_dig hc) hdne
        have hesz : (s.extract at_ (at_ + D)).size ≤ 18 := by rw [ba_size, hex, ← HD.out]; omega
        rw [← hex] at hatoi
        have HAT := fun w => hAt _ _ w hesz hatoi
        obtain ⟨N, hN⟩ : ∃ N, N = M.numOf (s.extract at_ (at_ + D)).data.toList := ⟨_, rfl⟩
        rw [← hN] at HAT
        have HN : Hid (N = M.numOf (M.digs (s.data.toList.drop at_))) := hid (by rw [hN, hex])
        clear hN hatoi hesz hex hdne hhd h48c hrne
        have HEE := hid hE; clear hE
        have hgo : M.parts s.data.toList = pre ++ ⟨N, at_, 0⟩ ::
            (match (s.data.toList.drop at_).drop D with
            | [] => []
            | c :: r => if c ≠ 46 then [⟨0, at_ + D, 6⟩] else M.partsGo (9 - (k + 1)) (k + 1) (at_ + D + 1) r) := by
          rw [HP.out, if_neg (empty_nn HE.out), show 9 - k = (8 - k) + 1 from by omega, M.partsGo, if_neg (by rw [HEE.out]; simp), ← HD.out, ← HN.out, show 9 - (k + 1) = 8 - k from by omega]; rfl
        have HGO := hid hgo; clear hgo
        have HATH := hid HAT; clear HAT
        have hadd : (at_ : Int) + (D : Int) ≤ s.size := by omega
        gi_wp2_with (refine ⟨trivial, ?_⟩; gi_at_call 111; refine (callsIn_wide.2 (HATH.out _)).mono ?_; rintro e w1 ⟨rfl, hb⟩; have hp1 : Blk w1 wr.heap.size 166 #[.int .i64 0, .int .i64 at_, .int .i64 0] := (Blk.new wr _ _).below hb (by simp); have hcp0 : w1.cell? ⟨wr.heap.size, 0, none⟩ = some (.int .i64 0) := hp1.cell 0; have hcp1 : w1.cell? ⟨wr.heap.size, 1, none⟩ = some (.int .i64 at_) := hp1.cell 1; have hcp2 : w1.cell? ⟨wr.heap.size, 2, none⟩ = some (.int .i64 0) := hp1.cell 2; have hfp := hp1.frozen 0; obtain ⟨fn, tmps, assign, body, hy, hR⟩ := hY pre ⟨N, at_, 0⟩ (w1.setCell ⟨wr.heap.size, 0, none⟩ (.int .i64 N)) (hJ _ _ _ hJs ((((Below.refl _ _).alloc (Nat.le_refl _) _).trans (hb.mono (by simp))).setCell (p := ⟨wr.heap.size, 0, none⟩) (Nat.le_refl _) _)) (by omega); simp only [partV] at hy)
        have hP1 := hid hp1; clear hp1
        refine hR.mono ?_
        rintro e W3 (⟨rfl, hJ3, hk3⟩ | ⟨rfl, hJx3⟩)
        · have h3 := hk3 wr.heap.size _ _ _ (.inl rfl) (hP1.out.set_ 0 _)
          have hc3 : W3.cell? ⟨wr.heap.size, 2, none⟩ = some (.int .i64 0) := by rw [cell_of_row W3 _ _ _ _ _ h3]; rfl
          have hb3 := hk3 Bn _ _ _ (.inr rfl) ((Below.heap_setCell w1 _ _ Bn (by show Bn ≠ wr.heap.size; omega)).trans ((hb.block Bn (by simp; omega)).trans ((Below.heap_alloc wr _ Bn hBlt).trans HB.out)))
          have hcb3 := cell_of_one hb3
          have HB3 := hid hb3; clear hb3 h3
          clear hR hy
          by_cases hfe : at_ + D = s.size
          · have hfeb : (((at_ : Int) + (D : Int)) == (s.size : Int)) = true := by rw [beq_iff_eq]; omega
            have hr0 : (s.data.toList.drop at_).drop D = [] := by rw [List.drop_drop]; exact List.drop_of_length_le (by rw [← ba_size]; omega)
            have HR0 := hid hr0; clear hr0 hfe
            gi_wp2
            refine bodyPost_ret (results_none rfl _ _ _) rfl ?_
            exact ⟨⟨_, rfl⟩, .inl ⟨_, by rw [HGO.out, HR0.out], hJ3⟩⟩
          · have hfeb : (((at_ : Int) + (D : Int)) == (s.size : Int)) = false := by rw [beq_eq_false_iff_ne]; omega
            have hlt2 : at_ + D < s.size := by omega
            have hr0 : (s.data.toList.drop at_).drop D = s[at_ + D] :: s.data.toList.drop (at_ + D + 1) := by
              rw [List.drop_drop, List.drop_eq_getElem_cons (by rw [← ba_size]; exact hlt2)]; rfl
            have HR0 := hid hr0; clear hr0 hfe
            by_cases h46 : s[at_ + D].toNat = 46
            · have h46b : (((s[at_ + D].toNat : Nat) : Int) != 46) = false := by simp [h46]
              have h46c : s[at_ + D] = 46 := UInt8.toNat_inj.1 h46
              have H46 := hid h46c; clear h46 h46c
              gi_wp2
              go_roundw
              case rel => exact ⟨pre ++ [⟨N, at_, 0⟩], at_ + D + 1, k + 1, by go_num, by go_num, by omega, by omega, by omega, by simp [hpl], by rw [HGO.out, HR0.out, if_neg (empty_nn HE.out)]; simp only [H46.out, ne_eq, not_true_eq_false, if_false, List.append_assoc, List.cons_append, List.nil_append], hJ3, HB3.out⟩
              case measure => simp [intOf]; omega
            · have h46b : (((s[at_ + D].toNat : Nat) : Int) != 46) = true := by rw [bne_iff_ne]; omega
              have h46c : s[at_ + D] ≠ 46 := by intro e; apply h46; rw [e]; rfl
              have H46 := hid h46c; clear h46 h46c
              obtain ⟨fn2, tmps2, assign2, body2, hy2, hR2⟩ := hY (pre ++ [⟨N, at_, 0⟩]) ⟨0, at_ + D, 6⟩ W3 hJ3 (by simp; omega)
              simp only [partV] at hy2
              have hfin : M.parts s.data.toList = pre ++ [⟨N, at_, 0⟩] ++ [⟨0, at_ + D, 6⟩] := by
                rw [HGO.out, HR0.out]; simp only [ne_eq, H46.out, not_false_eq_true, if_true, List.append_assoc, List.cons_append, List.nil_append]
              have HF := hid hfin; clear hfin
              gi_wp2
              refine hR2.mono ?_
              rintro e W4 (⟨rfl, hJ4, hk4⟩ | ⟨rfl, hJx4⟩)
              · gi_wp2
                refine bodyPost_ret (results_none rfl _ _ _) rfl ?_
                exact ⟨⟨_, rfl⟩, .inl ⟨_, HF.out.symm, hJ4⟩⟩
              · gi_wp2
                refine bodyPost_ret (results_none rfl _ _ _) rfl ?_
                exact ⟨⟨_, rfl⟩, .inr ⟨_, by rw [HF.out]; exact List.prefix_refl _, hJx4⟩⟩
        · gi_wp2
          refine bodyPost_ret (results_none rfl _ _ _) rfl ?_
          exact ⟨⟨_, rfl⟩, .inr ⟨_, by rw [HGO.out]; simp, hJx3⟩⟩
end Go.Proofs.YtfdbanhbegngoaaGreatDoor
