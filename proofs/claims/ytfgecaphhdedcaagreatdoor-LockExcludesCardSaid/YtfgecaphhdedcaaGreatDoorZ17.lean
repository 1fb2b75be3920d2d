/-
  PLAIN LAWS OF LAYER 34: what stands in a view after any operations; counting the holders. No function of the program is walked here.
  THE LAW LockExcludes, WALKED.
  THE ARGUMENTS OF THE LOCK'S LAWS, OPENED: slices of operations. No function of the program is walked here.
-/
import Derived.Test.YtfgecaphhdedcaaGreatDoorZ16
import Derived.Test.YtfgecaphhdedcaaGreatDoorZ13
import Derived.Deep.DeepMust
import Derived.Deep.RegionHeld3
import Derived.Deep.CutRange
import Derived.Test.YtfgecaphhdedcaaGreatDoorZ14
namespace Go.Proofs.YtfgecaphhdedcaaGreatDoor
open Go.RowKit

/-- All holders are among the forty. -/
def In40 (l : Lk) : Prop := ∀ x ∈ l.holders, ∃ k, k < 40 ∧ x = nm40 k
theorem In40.short {l : Lk} (h : In40 l) : ∀ x ∈ l.holders, x.size ≤ 1000 := fun x hx => by
  obtain ⟨k, -, rfl⟩ := h x hx
  exact nm40_short k
/-- What stands at the locks of the three births. -/
def ExInv (f : NF) : Prop := ∀ r : Nat, r < 3 → curV .nil f (lockN b1 r) = none ∨ ∃ l, curV .nil f (lockN b1 r) = some (strB (encLk l)) ∧ LkGood l ∧ In40 l
theorem ExInv.start : ExInv noF := fun _ _ => .inl (noF_cur _)
theorem begin3 (r : Nat) (hr : r < 3) (e : Nat) (he : e < 2) : beginE b1 (r : Nat) (e : Nat) = 0 := by
  obtain rfl | rfl | rfl : r = 0 ∨ r = 1 ∨ r = 2 := by omega
  all_goals
    obtain rfl | rfl : e = 0 ∨ e = 1 := by omega
    all_goals decide +kernel
theorem ExInv.lat {f : NF} (h : ExInv f) {r e : Nat} (hr : r < 3) (he : e < 2) : ∃ l, LAt .nil f b1 r e l ∧ In40 l := by
  have hb := begin3 r hr e he
  have hemp : In40 (emptyLk e) := fun x hx => by simp [emptyLk] at hx
  rcases h r hr with h0 | ⟨l, h1, h2, h3⟩
  · exact ⟨emptyLk e, ⟨by rw [h0]; rfl, (fun s hs => by rw [h0] at hs; cases hs), hb, fun x hx => by simp [emptyLk] at hx⟩, hemp⟩
  · have hz := h3.short
    have hs : ∀ s, curV .nil f (lockN b1 r) = some s → s.size ≤ 1000000 := fun s hs => by
      rw [h1] at hs
      cases hs
      have := enc_short h2 hz
      rw [strB_size]
      omega
    have hr' := rdL_enc h2 (fun x hx => by have := hz x hx; omega) (e : Int)
    by_cases hep : l.epoch = e
    · rw [if_pos hep] at hr'
      exact ⟨l, ⟨by rw [h1]; exact hr', hs, hb, hz⟩, h3⟩
    · rw [if_neg hep] at hr'
      exact ⟨emptyLk e, ⟨by rw [h1]; exact hr', hs, hb, fun x hx => by simp [emptyLk] at hx⟩, hemp⟩
theorem lockN_ne {r r' : Nat} (h : r' ≠ r) : lockN b1 r' ≠ lockN b1 r := fun e => by
  have := congrArg Nm.number e
  unfold lockN at this
  simp only at this
  omega
theorem ExInv.next {f f' : NF} (h : ExInv f) {r e : Nat} (hr : r < 3) {l l' : Lk} (hn : LNext .nil f f' b1 r e l l') (hi : In40 l') : ExInv f' := by
  rcases hn.set_ with ⟨rfl, -⟩ | ⟨rfl, hg⟩
  · exact h
  · intro r' hr'
    by_cases hrr : r' = r
    · subst hrr
      exact .inr ⟨l', curV_set (lockN_check (begin_zero hn.at_.b).1) _, hg, hi⟩
    · rw [curV_other (lockN_ne hrr)]
      exact h r' hr'
theorem In40.acq {l : Lk} (h : In40 l) (n : Nat) (sh : Bool) : In40 (acqN l (nm40 n) sh) := by
  unfold acqN
  split
  · exact h
  · unfold acqL
    intro x hx
    dsimp only at hx
    split at hx
    · exact h x hx
    · rcases (insL_mem _ _ _).1 hx with rfl | hx
      · exact ⟨n % 40, Nat.mod_lt _ (by omega), (nm40_mod n).symm⟩
      · exact h x hx
theorem In40.rel {l : Lk} (h : In40 l) (n : Nat) : In40 (relN l (nm40 n)) := by
  unfold relN
  split
  · intro x hx
    refine h x ?_
    rcases List.mem_append.1 hx with h1 | h1
    · exact List.mem_of_mem_take h1
    · exact List.mem_of_mem_drop h1
  · exact h

/-- How many of the first k names are among some. -/
def cnt40 (hs : List ByteArray) (k : Nat) : Nat := (List.range k).countP (fun j => memL hs (nm40 j))
theorem cnt40_succ (hs : List ByteArray) (k : Nat) : cnt40 hs (k + 1) = cnt40 hs k + (if memL hs (nm40 k) then 1 else 0) := by
  unfold cnt40
  rw [List.range_succ, List.countP_append, List.countP_cons, List.countP_nil]
  simp
theorem cnt40_le (hs : List ByteArray) (k : Nat) : cnt40 hs k ≤ k := by
  have := List.countP_le_length (p := fun j => memL hs (nm40 j)) (l := List.range k)
  simpa [cnt40] using this
theorem one40 : (List.range 40).all (fun k0 => (List.range 40).countP (fun k => k == k0) == 1) = true := by decide +kernel
theorem cnt40_all : ∀ (hs : List ByteArray), hs.Nodup → (∀ x ∈ hs, ∃ k, k < 40 ∧ x = nm40 k) → cnt40 hs 40 = hs.length
  | [], _, _ => by unfold cnt40 memL; simp
  | x :: r, hn, hi => by
    rw [List.nodup_cons] at hn
    have ih := cnt40_all r hn.2 (fun y hy => hi y (by simp [hy]))
    obtain ⟨k0, hk0, rfl⟩ := hi x (by simp)
    have h1 : (List.range 40).countP (fun k => k == k0) = 1 := by
      have := List.all_eq_true.1 one40 k0 (List.mem_range.2 hk0)
      simpa using this
    have key : ∀ L : List Nat, (∀ k ∈ L, k < 40) → L.countP (fun j => memL (nm40 k0 :: r) (nm40 j)) = L.countP (fun j => memL r (nm40 j)) + L.countP (fun k => k == k0) := by
      intro L
      induction L with
      | nil => intro _; rfl
      | cons j L ihL =>
        intro hL
        rw [List.countP_cons, List.countP_cons, List.countP_cons, ihL (fun k hk => hL k (by simp [hk]))]
        have hj := hL j (by simp)
        by_cases hjk : j = k0
        · subst hjk
          have e1 : memL (nm40 j :: r) (nm40 j) = true := memL_mem.2 (by simp)
          have e2 : memL r (nm40 j) = false := memL_not.2 hn.1
          rw [e1, e2]
          simp
          omega
        · have e1 : memL (nm40 k0 :: r) (nm40 j) = memL r (nm40 j) := by
            rw [Bool.eq_iff_iff, memL_mem, memL_mem, List.mem_cons]
            constructor
            · rintro (h | h)
              · exact absurd (nm40_inj hj hk0 h) hjk
              · exact h
            · exact fun h => .inr h
          rw [e1]
          have e3 : (j == k0) = false := by simpa using hjk
          rw [e3]
          simp
          omega
    unfold cnt40 at ih ⊢
    rw [key _ (fun k hk => List.mem_range.1 hk), ih, h1]
    rfl
end Go.Proofs.YtfgecaphhdedcaaGreatDoor
namespace Go.Proofs.YtfgecaphhdedcaaGreatDoor
open Go.RowKit

/-- An operation. -/
structure LOp where
  kind : Nat
  file : Nat
  epoch : Nat
  who : Nat
def opCells (o : LOp) : List Value := [.int .u8 o.kind, .int .u8 o.file, .int .u8 o.epoch, .int .u8 o.who]
theorem opCells_len (o : LOp) : (opCells o).length = 4 := rfl
def LOp.Ok (o : LOp) : Prop := o.kind < 256 ∧ o.file < 256 ∧ o.epoch < 256 ∧ o.who < 256

theorem Below.via {w0 w' w3 : World} (h : Below w0.heap.size w0 w') (hb : Below w'.heap.size w' w3) : Below w0.heap.size w0 w3 := h.trans (hb.mono h.size)
theorem Below.alloc_ {w0 w' : World} (h : Below w0.heap.size w0 w') (o : Obj) : Below w0.heap.size w0 (w'.alloc o) := h.alloc h.size o
theorem cells2 {w : World} {g : Nat} {t : TypeId} {u v : Value} (h : Blk w g t #[u, v]) : w.cell? ⟨g, 0, none⟩ = some u ∧ w.cell? ⟨g, 1, none⟩ = some v := ⟨h.cell 0, h.cell 1⟩
theorem frozens2 {w : World} {g : Nat} {t : TypeId} {u v : Value} (h : Blk w g t #[u, v]) : w.frozen? ⟨g, 0, none⟩ = false ∧ w.frozen? ⟨g, 1, none⟩ = false := ⟨h.frozen 0, h.frozen 1⟩
macro "bel" : tactic => `(tactic| repeat (first | assumption | exact Below.refl _ _ | apply Below.drew | apply Below.alloc_ | apply Below.setCell | exact Nat.le_refl _))

set_option maxRecDepth 100000 in
set_option maxHeartbeats 3200000 in
theorem lawLkExcludes_any (A : Option Addr) (n c : Nat) (l : List LOp) (hok : ∀ o ∈ l, o.Ok) (w : World) (hsl : Sl w w.heap.size 4 A n c (l.flatMap opCells)) :
    Calls Tryz.prog 4 #[.slice A n c] w fun e w' => e = .returned (.bool true) ∧ Below w.heap.size w w' := by
  obtain ⟨hnl, hmx, hel⟩ := hsl.elem opCells_len (by decide)
  have hcn := hsl.2.1
  have hcm := hsl.2.2.1
  unfold maxLen at hcm hmx
  have HEL := hid hel
  have HOK := hid hok
  have KN := hid known34_any
  have hm1 : b1.size ≤ maxLen := by decide +kernel
  clear hsl hel hok
  by_cases h40 : 40 < n
  · have h40i : (40 : Int) < (n : Int) := by omega
    clear h40 hnl
    go_enter Tryz.func4, Tryz.ntmps4
    go_wp2_with fail
    refine (KN.out _).mono ?_
    rintro o w0 ⟨rfl, hb0⟩
    have HB0 := hid hb0
    clear hb0
    go_wp2_with fail
    refine (KN.out _).mono ?_
    rintro o w1 ⟨rfl, hb1⟩
    have HB1 := hid (HB0.out.trans (hb1.mono HB0.out.size))
    clear hb1
    go_wp2_with fail
    go_ret
    exact ⟨rfl, HB1.out⟩
  · have h40i : ¬ (40 : Int) < (n : Int) := by omega
    have HNL := hid hnl
    clear hnl
    go_enter Tryz.func4, Tryz.ntmps4
    go_wp2_with (first
      | (go_at_call 11; refine (KN.out _).mono ?_; rintro o w0 ⟨rfl, hb0⟩; have HB0 := hid hb0; clear hb0)
      | (go_at_call 15; refine (new_any _).mono ?_; rintro o w1 ⟨p0, rfl, hst, hb1⟩; have HST := hid hst; have HB1 := hid (HB0.out.trans (hb1.mono HB0.out.size)); clear hst hb1)
      | (go_at_call 14; refine (vnew_any _ _ _ HST.out trivial).mono ?_; rintro o w2 ⟨vb, rfl, hv2, hb2⟩; have HV2 := hid hv2; have HB2 := hid hb2; clear hv2 hb2))
    obtain ⟨lo, hlo⟩ : ∃ lo, lo = w1.heap.size := ⟨_, rfl⟩
    rw [← hlo] at HV2
    have HB2' := hid (show Below lo w1 w2 from by rw [hlo]; exact HB2.out)
    have HWL := hid (show w.heap.size ≤ lo from by rw [hlo]; exact HB1.out.size)
    have HB2w := hid (HB1.out.trans (HB2'.out.mono HWL.out))
    clear hlo HB2 HB2'
    go_loopw [4] (fun iv wr => ∃ (i : Nat) (f : NF), iv = .int .i64 i ∧ i ≤ n ∧ ExInv f ∧ IsView wr lo vb (43 * i) .nil f ∧ Below w.heap.size w wr) (fun iv _ => n - (intOf iv).toNat)
    case atStart => exact ⟨0, noF, rfl, Nat.zero_le _, ExInv.start, HV2.out, HB2w.out⟩
    case round =>
      obtain ⟨i, f, rfl, hin, hex, hv, hb⟩ := hrel
      have HEX := hid hex
      have HV := hid hv
      have HB := hid hb
      clear hex hv hb
      by_cases hlt : i < n
      · have h1i : (i : Int) < (n : Int) := by omega
        have h0i : (0 : Int) ≤ (i : Int) := by omega
        have hil : i < l.length := by have := HNL.out; omega
        obtain ⟨bb, off, rfl, hbb, hc⟩ : ∃ b off, A = some ⟨b, off, none⟩ ∧ b < w.heap.size ∧ ∀ k j u (hk : k < l.length), j < 4 → (opCells l[k])[j]? = some u → w.cell? ⟨b, off + k * 4 + j, none⟩ = some u := by
          rcases HEL.out with h | h
          · rw [h] at hil; simp at hil
          · exact h
        obtain ⟨o1, o2, o3, o4⟩ := HOK.out l[i] (List.getElem_mem hil)
        have c0 : wr.cell? ⟨bb, off + i * 4, none⟩ = some (.int .u8 l[i].kind) := ((bcell HB.out).1 _ _ hbb).trans (hc i 0 _ hil (by decide) rfl)
        have c1 : wr.cell? ⟨bb, off + i * 4 + 1, none⟩ = some (.int .u8 l[i].file) := ((bcell HB.out).1 _ _ hbb).trans (hc i 1 _ hil (by decide) rfl)
        have c2 : wr.cell? ⟨bb, off + i * 4 + 2, none⟩ = some (.int .u8 l[i].epoch) := ((bcell HB.out).1 _ _ hbb).trans (hc i 2 _ hil (by decide) rfl)
        have c3 : wr.cell? ⟨bb, off + i * 4 + 3, none⟩ = some (.int .u8 l[i].who) := ((bcell HB.out).1 _ _ hbb).trans (hc i 3 _ hil (by decide) rfl)
        obtain ⟨kd, fi, ec, wh, hop⟩ : ∃ kd fi ec wh, l[i] = ⟨kd, fi, ec, wh⟩ := ⟨_, _, _, _, rfl⟩
        rw [hop] at o1 o2 o3 o4 c0 c1 c2 c3
        dsimp only at o1 o2 o3 o4 c0 c1 c2 c3
        clear hop hc hil
        have k0 : (0 : Int) ≤ (kd : Int) := by omega
        have k1 : (kd : Int) < 256 := by omega
        have f0 : (0 : Int) ≤ (fi : Int) := by omega
        have f1 : (fi : Int) < 256 := by omega
        have g0 : (0 : Int) ≤ (ec : Int) := by omega
        have g1 : (ec : Int) < 256 := by omega
        have n0 : (0 : Int) ≤ (wh : Int) := by omega
        have n1 : (wh : Int) < 256 := by omega
        obtain ⟨R, hR⟩ : ∃ R, fi % 3 = R := ⟨_, rfl⟩
        obtain ⟨E, hE⟩ : ∃ E, ec % 2 = E := ⟨_, rfl⟩
        have hR3 : R < 3 := by omega
        have hE2 : E < 2 := by omega
        have hEi : (ec : Int) % 2 = (E : Int) := by omega
        have HEI := hid hEi
        have BI := hid (fun w' => show Calls Tryz.prog 16 #[.int .u8 fi] w' fun o w2 => o = .returned (.agg #[.string b1, .int .i64 R]) ∧ Below w'.heap.size w' w2 from by
          have := birth34_any fi o2 w'
          rwa [hR] at this)
        have NI := hid (fun w' => name34_any wh o4 w')
        clear hR hE hEi
        obtain ⟨ob, hob⟩ : ∃ x, x = wr.heap.size := ⟨_, rfl⟩
        obtain ⟨W1, hW1⟩ : ∃ x, wr.alloc (.cells #[.int .u8 kd, .int .u8 fi, .int .u8 ec, .int .u8 wh] 41) = x := ⟨_, rfl⟩
        have bo : Blk W1 ob 41 #[.int .u8 kd, .int .u8 fi, .int .u8 ec, .int .u8 wh] := by rw [← hW1, hob]; exact Blk.new _ _ _
        have BO := hid bo
        have HBW := hid (show Below wr.heap.size wr W1 from by rw [← hW1]; exact (Below.refl _ _).alloc (Nat.le_refl _) _)
        have HV1 := hid (HV.out.below HBW.out)
        have HLT := hid HV.out.lt
        have HBL := hid (HB.out.trans (HBW.out.mono HB.out.size))
        clear bo
        go_upto_region 8 with fail
        rw [← hob]
        clear c0 c1 c2 c3 hW1 hob
        go_cut [6, 7] from 22 to 109 (fun p q wx => ∃ gb, p = .pointer (some ⟨gb, 0, none⟩) ∧ q = .string (nm40 wh) ∧ Blk wx gb 44 #[.string b1, .int .i64 R] ∧ Below W1.heap.size W1 wx)
        case first =>
          have q0 := BO.out.cell 0
          have q1 := BO.out.cell 1
          have q2 := BO.out.cell 2
          have q3 := BO.out.cell 3
          have KO := hid (show ∀ w', Below W1.heap.size W1 w' → w'.cell? ⟨ob, 1, none⟩ = some (.int .u8 fi) ∧ w'.cell? ⟨ob, 3, none⟩ = some (.int .u8 wh) from fun w' hb => ⟨(BO.out.below hb BO.out.lt).cell 1, (BO.out.below hb BO.out.lt).cell 3⟩)
          go_region_held3 (fun w' => w'.cell? ⟨ob, 1, none⟩ = some (.int .u8 fi) ∧ w'.cell? ⟨ob, 3, none⟩ = some (.int .u8 wh))
            (first | go_keep | exact KO.out _ (by bel))
            (first
            | (go_at_call 16; refine (BI.out _).mono ?_; rintro o w3 ⟨rfl, hb3⟩; have hc3 : Below W1.heap.size W1 w3 := Below.via (by bel) hb3; have hs3 := hc3.size; (first | (have zz3 : Blk w3 _ 44 #[.string ⟨#[]⟩, .int .i64 0] := Blk.below (Blk.drew (Blk.new _ _ _)) hb3 (Blk.drew (Blk.new _ _ _)).lt; have za := cells2 zz3; have zb := frozens2 zz3; obtain ⟨za1, za2⟩ := za; obtain ⟨zb1, zb2⟩ := zb) | (have zz3 : Blk w3 _ 44 #[.string ⟨#[]⟩, .int .i64 0] := Blk.below (Blk.new _ _ _) hb3 (Blk.new _ _ _).lt; have za := cells2 zz3; have zb := frozens2 zz3; obtain ⟨za1, za2⟩ := za; obtain ⟨zb1, zb2⟩ := zb) | (have zz3 : Blk w3 _ 44 #[.string ⟨#[]⟩, .int .i64 0] := Blk.below zz4 hb3 zz4.lt; have za := cells2 zz3; have zb := frozens2 zz3; obtain ⟨za1, za2⟩ := za; obtain ⟨zb1, zb2⟩ := zb) | skip))
            | (go_at_call 17; refine (NI.out _).mono ?_; rintro o w4 ⟨rfl, hb4⟩; have hc4 : Below W1.heap.size W1 w4 := Below.via (by bel) hb4; have hs4 := hc4.size; (first | (have zz4 : Blk w4 _ 44 #[.string ⟨#[]⟩, .int .i64 0] := Blk.below (Blk.drew (Blk.new _ _ _)) hb4 (Blk.drew (Blk.new _ _ _)).lt; have za := cells2 zz4; have zb := frozens2 zz4; obtain ⟨za1, za2⟩ := za; obtain ⟨zb1, zb2⟩ := zb) | (have zz4 : Blk w4 _ 44 #[.string ⟨#[]⟩, .int .i64 0] := Blk.below (Blk.new _ _ _) hb4 (Blk.new _ _ _).lt; have za := cells2 zz4; have zb := frozens2 zz4; obtain ⟨za1, za2⟩ := za; obtain ⟨zb1, zb2⟩ := zb) | (have zz4 : Blk w4 _ 44 #[.string ⟨#[]⟩, .int .i64 0] := Blk.below zz3 hb4 zz3.lt; have za := cells2 zz4; have zb := frozens2 zz4; obtain ⟨za1, za2⟩ := za; obtain ⟨zb1, zb2⟩ := zb) | skip)))
          all_goals go_wp2_with fail
          all_goals go_meet
          all_goals
            refine ⟨_, rfl, rfl, ?_, ?_⟩
            · first
                | exact (zz4.set_ 0 _).set_ 1 _
                | exact (zz3.set_ 0 _).set_ 1 _
                | exact Blk.below (Blk.new _ _ _) hb4 (Blk.new _ _ _).lt
                | exact Blk.new _ _ _
                | exact Blk.drew (Blk.new _ _ _)
            · bel
        case rest =>
          obtain ⟨gb, rfl, rfl, hg, hbx⟩ := hcut
          have HG := hid hg
          have HBX := hid (HBL.out.trans (hbx.mono HBL.out.size))
          have HVX := hid (HV1.out.below hbx)
          have HOX := hid (BO.out.below hbx BO.out.lt)
          have hne : gb ≠ ob := Blk.ne_ HG.out HOX.out (by decide)
          have q0 := HOX.out.cell 0
          have q1 := HOX.out.cell 2
          have y0 := HG.out.cell 0
          have y1 := HG.out.cell 1
          clear hg hbx
          obtain ⟨l, hat, hi40⟩ := HEX.out.lat hR3 hE2
          rw [← HEI.out] at hat
          have HAT := hid hat
          have HI4 := hid hi40
          have i40 : i ≤ 40 := by omega
          clear hat hi40
          go_upto_if 41 with fail
          go_cut [] from 22 to 109 (fun wx => ∃ f' l', ExInv f' ∧ LAt .nil f' b1 R ((ec : Int) % 2) l' ∧ In40 l' ∧ IsView wx lo vb (43 * i + 2) .nil f' ∧ Below w.heap.size w wx ∧ Blk wx gb 44 #[.string b1, .int .i64 R] ∧ Blk wx ob 41 #[.int .u8 kd, .int .u8 fi, .int .u8 ec, .int .u8 wh])
          case first =>
            by_cases hk2 : (kd : Int) % 3 = 2
            · have hk2b : ((kd : Int) % 3 == 2) = true := by rw [beq_iff_eq]; exact hk2
              go_wp2_with (go_at_call 18; refine (rel_at lo vb (43 * i) hm1 HAT.out (nm40_ok _) (nm40_short _) (by omega) _ HVX.out).mono ?_; rintro o w5 ⟨f5, rfl, hn5, hv5, hb5, hk5⟩; have HN5 := hid hn5; have HV5 := hid hv5; have HB5 := hid hb5; have HK5 := hid hk5; clear hn5 hv5 hb5 hk5)
              go_meet
              exact ⟨f5, _, HEX.out.next hR3 (by have := HN5.out; rw [HEI.out] at this; exact this) (HI4.out.rel _), HN5.out.at_, HI4.out.rel _, HV5.out, HBX.out.trans (HB5.out.mono HWL.out), HK5.out.blk HG.out (by decide), HK5.out.blk HOX.out (by decide)⟩
            · have hk2b : ((kd : Int) % 3 == 2) = false := by rw [beq_eq_false_iff_ne]; exact hk2
              go_wp2_with (go_at_call 19; refine (acq_at lo vb (43 * i) hm1 HAT.out (nm40_ok _) (nm40_short _) _ (by omega) _ HVX.out).mono ?_; rintro o w5 ⟨f5, rfl, hn5, hv5, hb5, hk5⟩; have HN5 := hid hn5; have HV5 := hid hv5; have HB5 := hid hb5; have HK5 := hid hk5; clear hn5 hv5 hb5 hk5)
              go_meet
              exact ⟨f5, _, HEX.out.next hR3 (by have := HN5.out; rw [HEI.out] at this; exact this) (HI4.out.acq _ _), HN5.out.at_, HI4.out.acq _ _, HV5.out, HBX.out.trans (HB5.out.mono HWL.out), HK5.out.blk HG.out (by decide), HK5.out.blk HOX.out (by decide)⟩
          case rest =>
            clear HEX HV HV1 HVX HBX HG HOX HAT HI4 HB HBW HBL BO q0 q1 y0 y1 HLT
            obtain ⟨f', l', he', hl', hi', hv', hb', hg', ho'⟩ := hcut
            have HEX := hid he'
            have HAT := hid hl'
            have HI4 := hid hi'
            have HV := hid hv'
            have HB := hid hb'
            have HG := hid hg'
            have HO := hid ho'
            have q1 := HO.out.cell 2
            have y0 := HG.out.cell 0
            have y1 := HG.out.cell 1
            clear he' hl' hi' hv' hb' hg' ho'
            obtain ⟨ep', sh', hs⟩ := l'
            have hgo := HAT.out.good
            have hep : ep' = (ec : Int) % 2 := hgo.2
            subst hep
            have HGO := hid hgo.1
            have hsz : ∀ h ∈ hs, h.size ≤ maxLen := fun x hx => by have := HI4.out.short x hx; unfold maxLen; omega
            have GE := hid (fun w' h' => get_at lo vb (43 * i + 2) hm1 HAT.out (by omega) w' h')
            have CK := hid (fun A' c' w' h' => lkCheck_any ⟨(ec : Int) % 2, sh', hs⟩ A' c' hsz w' h')
            rw [show checkL ⟨(ec : Int) % 2, sh', hs⟩ = 0 from checkL_good.2 HGO.out] at CK
            unfold lkCells at GE CK
            dsimp only at GE CK
            clear hgo hsz
            go_upto_region 13 with (go_at_call 20; refine (GE.out _ HV.out).mono ?_; rintro o w7 ⟨A7, c7, rfl, ho7, hv7, hb7, hk7⟩; have HO7 := hid ho7; have HV7 := hid hv7; have HB7 := hid (HB.out.trans (hb7.mono HWL.out)); have HG7 := hid (hk7.blk HG.out (by decide)); have HOB7 := hid (hk7.blk HO.out (by decide)); clear ho7 hv7 hb7 hk7)
            obtain ⟨gl, hgl⟩ : ∃ x, x = w7.heap.size := ⟨_, rfl⟩
            obtain ⟨W8, hW8⟩ : ∃ x, w7.alloc (.cells #[.int .i64 ((ec : Int) % 2), .bool sh', .slice A7 hs.length c7] 24) = x := ⟨_, rfl⟩
            have hal : Below w7.heap.size w7 W8 := by rw [← hW8]; exact (Below.refl _ _).alloc (Nat.le_refl _) _
            have GL := hid (show Blk W8 gl 24 #[.int .i64 ((ec : Int) % 2), .bool sh', .slice A7 hs.length c7] by rw [← hW8, hgl]; exact Blk.new _ _ _)
            have HR8 := hid ((rowN_own HO7.out).below hal)
            have HV8 := hid (HV7.out.below hal)
            have HB8 := hid (HB7.out.trans (hal.mono HB7.out.size))
            have HG8 := hid (HG7.out.below hal HG7.out.lt)
            have HO8 := hid (HOB7.out.below hal HOB7.out.lt)
            rw [hW8, ← hgl]
            clear hal hW8 hgl HO7 HV7 HB7 HG7 HOB7 HV HB HG HO q1 y0 y1 GE
            go_cut [89] from 72 to 109 (fun g wx => g = .bool false ∧ Below W8.heap.size W8 wx)
            case first =>
              have x1 := GL.out.cell 1
              have KG := hid (show ∀ w', Below W8.heap.size W8 w' → w'.cell? ⟨gl, 1, none⟩ = some (.bool sh') ∧ w'.cell? ⟨gl, 2, none⟩ = some (.slice A7 hs.length c7) from fun w' hb => ⟨(GL.out.below hb GL.out.lt).cell 1, (GL.out.below hb GL.out.lt).cell 2⟩)
              have z0 := GL.out.cell 0
              have z2 := GL.out.cell 2
              cases sh' with
              | true =>
                go_wp2_with (go_at_call 21; refine (CK.out A7 c7 _ HR8.out).mono ?_; rintro o w8 ⟨rfl, hb8⟩; have HB8' := hid hb8; obtain ⟨v1, v2⟩ := KG.out _ hb8; clear hb8)
                go_meet
                exact ⟨by simp, HB8'.out⟩
              | false =>
                have h1l := HGO.out.one rfl
                have h1i : ¬ (1 : Int) < (hs.length : Int) := by dsimp only at h1l; omega
                clear h1l
                go_wp2_with (go_at_call 21; refine (CK.out A7 c7 _ HR8.out).mono ?_; rintro o w8 ⟨rfl, hb8⟩; have HB8' := hid hb8; obtain ⟨v1, v2⟩ := KG.out _ hb8; clear hb8)
                go_meet
                exact ⟨by simp; omega, HB8'.out⟩
            case rest =>
              obtain ⟨rfl, hbx⟩ := hcut
              have HV := hid (HV8.out.below hbx)
              have HB := hid (HB8.out.trans (hbx.mono HB8.out.size))
              have HG := hid (HG8.out.below hbx HG8.out.lt)
              have HO := hid (HO8.out.below hbx HO8.out.lt)
              have HL := hid (GL.out.below hbx GL.out.lt)
              clear HV8 HB8 HG8 HO8 GL HR8 hbx CK
              go_wp2_with fail
              go_loopw [11, 10] (fun kv cv wr => ∃ (k : Nat), kv = .int .u8 k ∧ cv = .int .i64 (cnt40 hs k : Nat) ∧ k ≤ 40 ∧ IsView wr lo vb (43 * i + 3 + k) .nil f' ∧ Below w.heap.size w wr ∧ Blk wr gb 44 #[.string b1, .int .i64 R] ∧ Blk wr ob 41 #[.int .u8 kd, .int .u8 fi, .int .u8 ec, .int .u8 wh] ∧ Blk wr gl 24 #[.int .i64 ((ec : Int) % 2), .bool sh', .slice A7 hs.length c7]) (fun kv _ _ => 40 - (intOf kv).toNat)
              case atStart => exact ⟨0, rfl, rfl, Nat.zero_le _, HV.out, HB.out, HG.out, HO.out, HL.out⟩
              case round =>
                clear HV HB HG HO HL
                obtain ⟨k, rfl, rfl, hk, hv, hb, hg, ho, hl⟩ := hrel
                have HV := hid hv
                have HB := hid hb
                have HG := hid hg
                have HO := hid ho
                have HL := hid hl
                clear hv hb hg ho hl
                obtain ⟨C, hC⟩ : ∃ C, C = cnt40 hs k := ⟨_, rfl⟩
                rw [← hC]
                have hC0 : (0 : Int) ≤ (C : Int) := by omega
                have hC1 : (C : Int) ≤ 40 := by have := cnt40_le hs k; omega
                by_cases hlk : k < 40
                · have h1k : (k : Int) < 40 := by omega
                  have h0k : (0 : Int) ≤ (k : Int) := by omega
                  have NK := hid (fun w' => name34_any k (by omega) w')
                  have hwt : IntKind.i64.wrap ((ec : Int).tmod 2) = (ec : Int) % 2 := by rw [Int.tmod_eq_emod_of_nonneg g0]; simp [IntKind.wrap, IntKind.signed, IntKind.bits]; omega
                  have y0 : wr.cell? ⟨gb, 0, none⟩ = some (.string b1) := HG.out.cell 0
                  have y1 : wr.cell? ⟨gb, 1, none⟩ = some (.int .i64 R) := HG.out.cell 1
                  have q2 : wr.cell? ⟨ob, 2, none⟩ = some (.int .u8 ec) := HO.out.cell 2
                  have hs0 : wr.cell? ⟨gb, 0, none⟩ = some (.string b1) ∧ wr.cell? ⟨gb, 1, none⟩ = some (.int .i64 R) ∧ wr.cell? ⟨ob, 2, none⟩ = some (.int .u8 ec) := ⟨y0, y1, q2⟩
                  have hcs := cnt40_succ hs k
                  rw [← hC] at hcs
                  cases hmm : memL hs (nm40 k) with
                  | true =>
                    have HOL := hid (fun w' h' => holds_at lo vb (43 * i + 3 + k) hm1 HAT.out (nm40_ok k) (nm40_short k) (by omega) w' h')
                    dsimp only at HOL
                    rw [hmm] at HOL hcs
                    have HCS := hid hcs
                    clear hcs hmm hC
                    go_upto_region 19 with fail
                    go_region_held3 (fun w' => w'.cell? ⟨gb, 0, none⟩ = some (.string b1) ∧ w'.cell? ⟨gb, 1, none⟩ = some (.int .i64 R) ∧ w'.cell? ⟨ob, 2, none⟩ = some (.int .u8 ec))
                      (first | exact hs0 | exact hs5 | exact hs4)
                      (first
                      | (go_at_call 17; refine (NK.out _).mono ?_; rintro o w4 ⟨rfl, hb4⟩; have hc4 : Below wr.heap.size wr w4 := Below.via (by bel) hb4; have hs4 : w4.cell? ⟨gb, 0, none⟩ = some (.string b1) ∧ w4.cell? ⟨gb, 1, none⟩ = some (.int .i64 R) ∧ w4.cell? ⟨ob, 2, none⟩ = some (.int .u8 ec) := ⟨(HG.out.below hc4 HG.out.lt).cell 0, (HG.out.below hc4 HG.out.lt).cell 1, (HO.out.below hc4 HO.out.lt).cell 2⟩)
                      | (go_at_call 22; refine (HOL.out _ (HV.out.below hc4)).mono ?_; rintro o w5 ⟨rfl, hv5, hb5, hk5⟩; have hg5 := hk5.blk (HG.out.below hc4 HG.out.lt) (by decide); have ho5 := hk5.blk (HO.out.below hc4 HO.out.lt) (by decide); have hl5 := hk5.blk (HL.out.below hc4 HL.out.lt) (by decide); have hb6 := (HB.out.trans (hc4.mono HB.out.size)).trans (hb5.mono HWL.out); have hs5 : w5.cell? ⟨gb, 0, none⟩ = some (.string b1) ∧ w5.cell? ⟨gb, 1, none⟩ = some (.int .i64 R) ∧ w5.cell? ⟨ob, 2, none⟩ = some (.int .u8 ec) := ⟨hg5.cell 0, hg5.cell 1, ho5.cell 2⟩))
                    all_goals
                      go_wp2_with fail
                      go_roundw
                      case rel => exact ⟨k + 1, by go_num, by rw [HCS.out]; go_num, by omega, hv5, hb6, hg5, ho5, hl5⟩
                      case measure => simp [intOf]; omega
                  | false =>
                    have HOL := hid (fun w' h' => holds_at lo vb (43 * i + 3 + k) hm1 HAT.out (nm40_ok k) (nm40_short k) (by omega) w' h')
                    dsimp only at HOL
                    rw [hmm] at HOL hcs
                    have HCS := hid hcs
                    clear hcs hmm hC
                    go_upto_region 19 with fail
                    go_region_held3 (fun w' => w'.cell? ⟨gb, 0, none⟩ = some (.string b1) ∧ w'.cell? ⟨gb, 1, none⟩ = some (.int .i64 R) ∧ w'.cell? ⟨ob, 2, none⟩ = some (.int .u8 ec))
                      (first | exact hs0 | exact hs5 | exact hs4)
                      (first
                      | (go_at_call 17; refine (NK.out _).mono ?_; rintro o w4 ⟨rfl, hb4⟩; have hc4 : Below wr.heap.size wr w4 := Below.via (by bel) hb4; have hs4 : w4.cell? ⟨gb, 0, none⟩ = some (.string b1) ∧ w4.cell? ⟨gb, 1, none⟩ = some (.int .i64 R) ∧ w4.cell? ⟨ob, 2, none⟩ = some (.int .u8 ec) := ⟨(HG.out.below hc4 HG.out.lt).cell 0, (HG.out.below hc4 HG.out.lt).cell 1, (HO.out.below hc4 HO.out.lt).cell 2⟩)
                      | (go_at_call 22; refine (HOL.out _ (HV.out.below hc4)).mono ?_; rintro o w5 ⟨rfl, hv5, hb5, hk5⟩; have hg5 := hk5.blk (HG.out.below hc4 HG.out.lt) (by decide); have ho5 := hk5.blk (HO.out.below hc4 HO.out.lt) (by decide); have hl5 := hk5.blk (HL.out.below hc4 HL.out.lt) (by decide); have hb6 := (HB.out.trans (hc4.mono HB.out.size)).trans (hb5.mono HWL.out); have hs5 : w5.cell? ⟨gb, 0, none⟩ = some (.string b1) ∧ w5.cell? ⟨gb, 1, none⟩ = some (.int .i64 R) ∧ w5.cell? ⟨ob, 2, none⟩ = some (.int .u8 ec) := ⟨hg5.cell 0, hg5.cell 1, ho5.cell 2⟩))
                    all_goals
                      go_wp2_with fail
                      go_roundw
                      case rel => exact ⟨k + 1, by go_num, by rw [HCS.out]; go_num, by omega, hv5, hb6, hg5, ho5, hl5⟩
                      case measure => simp [intOf]; omega
                · obtain rfl : k = 40 := by omega
                  have x2 := HL.out.cell 2
                  have hall := cnt40_all hs HGO.out.asc.nodup HI4.out
                  rw [← hC] at hall
                  subst hall
                  clear hC hlk hk
                  go_wp2_with fail
                  go_roundw
                  case rel => exact ⟨i + 1, f', by go_num, by omega, HEX.out, HV.out, HB.out⟩
                  case measure => simp [intOf]; omega
      · obtain rfl : i = n := by omega
        have h1i : ¬ (i : Int) < (i : Int) := by omega
        go_wp2_with fail
        go_ret
        exact ⟨rfl, HB.out⟩
end Go.Proofs.YtfgecaphhdedcaaGreatDoor
namespace Go.Proofs.YtfgecaphhdedcaaGreatDoor
open Go.ChangeShapes Go.WideShapes Go.ChangeAt Go.RowKit Go.Deep
set_option maxRecDepth 100000

theorem open_Op {H : Type} {enc : TypeId × Value → H} {W : World} {base : Nat} {spare : Nat → Bool} {held : Bool} {n : Nat} {cs : List Value} {x : DataW H × List MemPlace} (h : DataW.trod enc Tryz.prog W base spare held n 41 cs = some x) : ∃ c : LOp, cs = opCells c ∧ c.Ok := by
  obtain ⟨xs, k, _, _, hl, hxl, hf⟩ := DataW.trod_struct Tryz.underlying41 h
  have hC : Tryz.prog.cellsOf 41 = 4 := by kernel_rfl
  have c1 : Tryz.prog.cellsOf 5 = 1 := by kernel_rfl
  rw [hC] at hl
  match cs, hl with
  | [a, b, c, d], _ =>
    match xs, hxl with
    | [x0, x1, x2, x3], _ =>
      have g0 : DataW.trod enc Tryz.prog W base spare held k 5 ((([a, b, c, d] : List Value).drop 0).take (Tryz.prog.cellsOf 5)) = some x0 := hf 0 _ rfl
      have g1 : DataW.trod enc Tryz.prog W base spare held k 5 ((([a, b, c, d] : List Value).drop 1).take (Tryz.prog.cellsOf 5)) = some x1 := hf 1 _ rfl
      have g2 : DataW.trod enc Tryz.prog W base spare held k 5 ((([a, b, c, d] : List Value).drop 2).take (Tryz.prog.cellsOf 5)) = some x2 := hf 2 _ rfl
      have g3 : DataW.trod enc Tryz.prog W base spare held k 5 ((([a, b, c, d] : List Value).drop 3).take (Tryz.prog.cellsOf 5)) = some x3 := hf 3 _ rfl
      rw [c1] at g0 g1 g2 g3
      obtain ⟨z0, e0, _, w0⟩ := DataW.trod_int Tryz.underlying5 g0
      obtain ⟨z1, e1, _, w1⟩ := DataW.trod_int Tryz.underlying5 g1
      obtain ⟨z2, e2, _, w2⟩ := DataW.trod_int Tryz.underlying5 g2
      obtain ⟨z3, e3, _, w3⟩ := DataW.trod_int Tryz.underlying5 g3
      simp at e0 e1 e2 e3
      subst e0 e1 e2 e3
      have b0 := bounds_u8 w0
      have b1 := bounds_u8 w1
      have b2 := bounds_u8 w2
      have b3 := bounds_u8 w3
      refine ⟨⟨z0.toNat, z1.toNat, z2.toNat, z3.toNat⟩, ?_, ?_⟩
      · unfold opCells
        dsimp only
        rw [Int.toNat_of_nonneg b0.1, Int.toNat_of_nonneg b1.1, Int.toNat_of_nonneg b2.1, Int.toNat_of_nonneg b3.1]
      · unfold LOp.Ok
        dsimp only
        omega
/-- An argument that is a slice of operations. -/
theorem open_Ops {H : Type} {enc : TypeId × Value → H} {W : World} {base b0 : Nat} {r : Reach} {v : Value} {d : DataW H} {p : List MemPlace} (hv : Value.okWide Tryz.prog W r b0 35 v) (h : DataW.Trod enc Tryz.prog W base (fun _ => true) true 35 v d p) :
    ∃ (A : Option Addr) (n c : Nat) (l : List LOp), v = .slice A n c ∧ Sl W W.heap.size 4 A n c (l.flatMap opCells) ∧ ∀ o ∈ l, o.Ok := by
  obtain ⟨k, hk⟩ := h
  have hC : Tryz.prog.cellsOf 41 = 4 := by kernel_rfl
  obtain ⟨A, n, c, rfl⟩ : ∃ A n c, v = .slice A n c := okWide_slice Tryz.underlying35 hv
  rcases open_slice Tryz.underlying35 hk with ⟨h0, _⟩ | ⟨a, len, cap, m, k', D, Pl, h0, hb, hl, hm, hmm, _, hi⟩
  · simp [Value.cells] at h0
    obtain ⟨rfl, rfl, rfl⟩ := h0
    exact ⟨none, 0, 0, [], rfl, Sl.nil _ _ _, fun x hx => by cases hx⟩
  · simp [Value.cells] at h0
    obtain ⟨rfl, rfl, rfl⟩ := h0
    have hlen : n ≤ m := by rw [hmm]; simpa using hl
    have H0 : ∀ q, q ≤ n → ∃ l : List LOp, l.length = q ∧ (∀ o ∈ l, o.Ok) ∧ ∀ i j u, (hi' : i < l.length) → (opCells l[i])[j]? = some u → W.cell? ((a.add (i * 4)).add j) = some u := by
      intro q
      induction q with
      | zero => exact fun _ => ⟨[], rfl, (fun x hx => by cases hx), fun i j u hi' => by simp at hi'⟩
      | succ q ih =>
        intro hq
        obtain ⟨l, e1, e2, e3⟩ := ih (by omega)
        obtain ⟨cs', hc', ht'⟩ := hi q (by omega)
        rw [hC] at hc'
        obtain ⟨ch, e4, l1⟩ := open_Op ht'
        obtain ⟨_, hcl, hat⟩ := World.cells?_some hc'
        refine ⟨l ++ [ch], by simp [e1], ?_, ?_⟩
        · intro x hx
          rcases List.mem_append.1 hx with hx | hx
          · exact e2 x hx
          · simp only [List.mem_cons, List.not_mem_nil, or_false] at hx
            subst hx
            exact l1
        · intro i j u hi' hu
          by_cases hiq : i < l.length
          · rw [List.getElem_append_left hiq] at hu
            exact e3 i j u hiq hu
          · have : i = q := by simp at hi'; omega
            subst this
            rw [List.getElem_append_right (by omega)] at hu
            simp only [e1, Nat.sub_self, List.getElem_cons_zero] at hu
            have hj : j < 4 := by have := (List.getElem?_eq_some_iff.1 hu).1; rw [opCells_len] at this; exact this
            rw [hat j hj, e4]
            exact hu
    obtain ⟨l, e1, e2, e3⟩ := H0 n (Nat.le_refl _)
    refine ⟨some a, n, c, l, rfl, ⟨by rw [flat_len opCells 4 opCells_len, e1], hl, hm, ?_⟩, e2⟩
    by_cases hz : n = 0
    · exact .inl hz
    · right
      have hfirst := e3 0 0 (.int .u8 (l[0]'(by omega)).kind) (by omega) rfl
      rw [Nat.zero_mul] at hfirst
      have ha0 : (a.add 0).add 0 = a := rfl
      rw [ha0] at hfirst
      have hsp := spot_of_cell hfirst
      refine ⟨a.block, a.off, by rw [← hsp], block_lt_of_cell hfirst, fun j u hu => ?_⟩
      have hj : j < n * 4 := by
        have := (List.getElem?_eq_some_iff.1 hu).1
        rw [flat_len opCells 4 opCells_len, e1] at this
        exact this
      have hq : j / 4 < l.length := by omega
      have hjj : j = j / 4 * 4 + j % 4 := by omega
      rw [hjj, flat_get opCells 4 opCells_len l (j / 4) (j % 4) (by omega) hq] at hu
      have := e3 (j / 4) (j % 4) u hq hu
      rw [hsp, addr_add', addr_add'] at this
      rw [hjj, ← Nat.add_assoc]
      exact this
end Go.Proofs.YtfgecaphhdedcaaGreatDoor
