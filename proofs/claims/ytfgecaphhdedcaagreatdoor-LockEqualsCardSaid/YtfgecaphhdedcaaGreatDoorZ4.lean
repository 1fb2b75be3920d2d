/-
  PLAIN LAWS OF LAYER 1's ENCODING: reading is the inverse of writing. No function of the program is walked here.
  LAYER 1 (codec), WALKED: the Writer's texts.
  LAYER 1 (codec), WALKED: flags, read and written; their plain laws.
  LAYER 34 (lock), WALKED: checkEpoch, checkHolder, Lock.Check.
  LAYER 34 (lock), WALKED: Lock.Check.
  LAYER 34 (lock), WALKED: Encode.
  PLAIN LAWS OF LAYER 34's ENCODING: what lock.Decode answers for any text; decoding is the inverse of encoding. No function of the program is walked here.
-/
import Derived.Test.YtfgecaphhdedcaaGreatDoorZ3
namespace Go.Proofs.YtfgecaphhdedcaaGreatDoor
open Go.RowKit

theorem natL_ne (u : Nat) : 0 < (natL u).length := by
  by_cases h : u < 128
  · rw [natL_lo h]; simp
  · rw [natL_hi (by omega)]; simp
theorem natL_nine {u : Nat} (h : u < 9223372036854775808) : (natL u).length ≤ 9 := natL_len 8 u (by omega)

/-- A number that was written is read. -/
theorem grp_natL (most : Nat) (r : Bs) : ∀ (u i acc : Nat), i + (natL u).length ≤ most → (0 < u ∨ i = 0) → grp most (natL u ++ r) i acc = (acc + u * 128 ^ i, i + (natL u).length, 0) := by
  intro u
  induction u using Nat.strongRecOn with
  | _ u ih =>
    intro i acc hm h0
    by_cases h : u < 128
    · rw [natL_lo h] at hm ⊢
      have hc : (UInt8.ofNat u).toNat = u := by rw [UInt8.toNat_ofNat', Nat.mod_eq_of_lt (by omega)]
      simp only [List.length_cons, List.length_nil] at hm
      rw [List.cons_append, grp_cons, hc, if_neg (by omega), if_pos h, if_neg (by omega), Nat.mod_eq_of_lt h]
      rfl
    · rw [natL_hi (by omega)] at hm ⊢
      have hc : (UInt8.ofNat (u % 128 + 128)).toNat = u % 128 + 128 := by rw [UInt8.toNat_ofNat', Nat.mod_eq_of_lt (by omega)]
      simp only [List.length_cons] at hm ⊢
      rw [List.cons_append, grp_cons, hc, if_neg (by omega), if_neg (by omega), ih (u / 128) (by omega) (i + 1) _ (by omega) (.inl (by omega))]
      refine Prod.ext ?_ (Prod.ext ?_ rfl)
      · show acc + (u % 128 + 128) % 128 * 128 ^ i + u / 128 * 128 ^ (i + 1) = acc + u * 128 ^ i
        have e : (u % 128 + 128) % 128 = u % 128 := by omega
        have e2 : u * 128 ^ i = (u % 128) * 128 ^ i + u / 128 * 128 ^ (i + 1) := by
          rw [Nat.pow_succ, ← Nat.mul_assoc, Nat.mul_right_comm, ← Nat.add_mul]
          congr 1
          omega
        rw [e, e2, Nat.add_assoc]
      · show i + 1 + _ = i + (_ + 1)
        omega
theorem prs_natL (u : Nat) (h : u < 9223372036854775808) (r : Bs) : prs (natL u ++ r) = (u, (natL u).length, 0) := by
  have hl := natL_nine h
  unfold prs
  rw [grp_natL 9 r u 0 0 (by omega) (.inr rfl)]
  simp

/-- A number that is read was written. -/
theorem grp_inv (most : Nat) : ∀ (l : Bs) (i acc : Nat), (grp most l i acc).2.2 = 0 → ∃ u, (grp most l i acc).1 = acc + u * 128 ^ i ∧ (grp most l i acc).2.1 = i + (natL u).length ∧ l = natL u ++ l.drop (natL u).length ∧ (0 < i → 0 < u)
  | [], i, acc, h => by
    rw [grp_nil] at h
    split at h <;> simp at h
  | c :: r, i, acc, h => by
    have hc := UInt8.toNat_lt c
    rw [grp_cons] at h ⊢
    split at h
    · simp at h
    · next hi =>
      rw [if_neg hi]
      split at h
      · next h1 =>
        split at h
        · simp at h
        · next h2 =>
          rw [if_pos h1, if_neg h2]
          refine ⟨c.toNat, by simp [Nat.mod_eq_of_lt h1], by rw [natL_lo h1]; rfl, ?_, fun h3 => by omega⟩
          rw [natL_lo h1]
          simp
      · next h1 =>
        rw [if_neg h1]
        obtain ⟨u, e1, e2, e3, e4⟩ := grp_inv most r (i + 1) _ h
        have hu := e4 (by omega)
        have d1 : (c.toNat % 128 + 128 * u) / 128 = u := by omega
        have d2 : (c.toNat % 128 + 128 * u) % 128 + 128 = c.toNat := by omega
        have hn : natL (c.toNat % 128 + 128 * u) = c :: natL u := by
          rw [natL_hi (by omega), d1, d2]
          congr 1
          simp
        refine ⟨c.toNat % 128 + 128 * u, ?_, ?_, ?_, fun _ => by omega⟩
        · rw [e1, Nat.pow_succ, Nat.add_mul, Nat.add_assoc]
          congr 2
          rw [Nat.mul_comm 128 u, Nat.mul_assoc, Nat.mul_comm 128]
        · rw [e2, hn, List.length_cons]; omega
        · rw [hn, List.length_cons, List.cons_append, List.drop_succ_cons, ← e3]
theorem prs_inv {l : Bs} (h : (prs l).2.2 = 0) : l = natL (prs l).1 ++ l.drop (prs l).2.1 ∧ (prs l).2.1 = (natL (prs l).1).length := by
  obtain ⟨u, e1, e2, e3, -⟩ := grp_inv 9 l 0 0 h
  have : (prs l).1 = u := by unfold prs; rw [e1]; simp
  have h2 : (prs l).2.1 = (natL u).length := by unfold prs; rw [e2]; simp
  rw [this, h2]
  exact ⟨e3, rfl⟩

/-- A text as it is written. -/
def txtL (x : Bs) : Bs := natL x.length ++ x
theorem txtP_enc (most : Int) (x r : Bs) (h : (x.length : Int) ≤ min most 16777216) : txtP most (txtL x ++ r) = (x, (txtL x).length, 0) := by
  have hp : prs (txtL x ++ r) = (x.length, (natL x.length).length, 0) := by
    unfold txtL
    rw [List.append_assoc]
    exact prs_natL _ (by omega) _
  unfold txtP
  rw [hp, if_neg (by simp), if_neg (by simp only; omega), if_neg (by simp only [txtL, List.length_append]; omega)]
  simp only [txtL, List.append_assoc, List.drop_left, List.take_left, List.length_append]
theorem txtP_inv {most : Int} {l : Bs} (h : (txtP most l).2.2 = 0) : l = txtL (txtP most l).1 ++ l.drop (txtP most l).2.1 ∧ (txtP most l).2.1 = (txtL (txtP most l).1).length ∧ ((txtP most l).1.length : Int) ≤ min most 16777216 := by
  unfold txtP at h ⊢
  split at h
  · next h1 => exact absurd h h1
  · next h1 =>
    split at h
    · simp at h
    · next h2 =>
      split at h
      · simp at h
      · next h3 =>
        rw [if_neg h1, if_neg h2, if_neg h3]
        obtain ⟨e1, e2⟩ := prs_inv (l := l) (by omega)
        have hl := prs_le l
        have hx : ((l.drop (prs l).2.1).take (prs l).1).length = (prs l).1 := by rw [List.length_take, List.length_drop]; omega
        simp only
        refine ⟨?_, ?_, ?_⟩
        · unfold txtL
          rw [hx, ← List.drop_drop, List.append_assoc, List.take_append_drop]
          exact e1
        · unfold txtL
          rw [List.length_append, hx, ← e2]
        · rw [hx]; omega
theorem numP_enc (most : Int) (u : Nat) (r : Bs) (h : u < 9223372036854775808) (hm : (u : Int) ≤ most) : numP most (natL u ++ r) = (u, (natL u).length, 0) := by
  unfold numP
  rw [prs_natL u h, if_neg (by simp only; omega)]
theorem numP_inv {most : Int} {l : Bs} (h : (numP most l).2.2 = 0) : l = natL (numP most l).1 ++ l.drop (numP most l).2.1 ∧ (numP most l).2.1 = (natL (numP most l).1).length ∧ ((numP most l).1 : Int) ≤ most ∧ (numP most l).1 < 9223372036854775808 := by
  unfold numP at h ⊢
  split at h
  · simp at h
  · next h1 =>
    rw [if_neg h1]
    obtain ⟨e1, e2⟩ := prs_inv h
    exact ⟨e1, e2, by omega, prs_lt l⟩

/-- What a reader has read: p lies between two offsets. -/
structure Got (b : Bs) (a a' : Nat) (p : Bs) : Prop where
  le : a' ≤ b.length
  len : a' = a + p.length
  eq : b.drop a = p ++ b.drop a'
theorem Got.nil {b : Bs} {a : Nat} (h : a ≤ b.length) : Got b a a [] := ⟨h, by simp, by simp⟩
theorem Got.app {b : Bs} {a a' a'' : Nat} {p q : Bs} (h : Got b a a' p) (h' : Got b a' a'' q) : Got b a a'' (p ++ q) :=
  ⟨h'.le, by rw [List.length_append, h'.len, h.len]; omega, by rw [h.eq, h'.eq, List.append_assoc]⟩
theorem Got.of {b p r : Bs} {a : Nat} (ha : a ≤ b.length) (h : b.drop a = p ++ r) : Got b a (a + p.length) p ∧ b.drop (a + p.length) = r := by
  have e : b.drop (a + p.length) = r := by rw [← List.drop_drop, h, List.drop_left]
  refine ⟨⟨?_, rfl, by rw [e, h]⟩, e⟩
  have := congrArg List.length h
  rw [List.length_drop, List.length_append] at this
  omega

theorem rdNum_err (most : Int) (b : Bs) (a : Nat) {e : Int} (h : e ≠ 0) : rdNum most b a e = (0, a, e) := by unfold rdNum; rw [if_pos h]
theorem rdTxt_err (most : Int) (b : Bs) (a : Nat) {e : Int} (h : e ≠ 0) : rdTxt most b a e = ([], a, e) := by unfold rdTxt; rw [if_pos h]
theorem rdNum_inv {most : Int} {b : Bs} {a : Nat} {e : Int} (ha : a ≤ b.length) (h : (rdNum most b a e).2.2 = 0) :
    e = 0 ∧ Got b a (rdNum most b a e).2.1 (natL (rdNum most b a e).1) ∧ ((rdNum most b a e).1 : Int) ≤ most := by
  unfold rdNum at h ⊢
  split at h
  · next h0 => exact absurd h h0
  · next h0 =>
    rw [if_neg h0]
    split at h
    · next h1 => exact absurd h h1
    · next h1 =>
      rw [if_neg h1]
      obtain ⟨e1, e2, e3, -⟩ := numP_inv (most := most) (l := b.drop a) (by omega)
      have hle := numP_le most (b.drop a)
      rw [List.length_drop] at hle
      refine ⟨by omega, ⟨?_, ?_, ?_⟩, e3⟩
      · show a + _ ≤ _
        omega
      · show a + _ = _
        rw [e2]
      · show b.drop a = _ ++ b.drop (a + _)
        rw [← List.drop_drop]
        exact e1
theorem rdTxt_inv {most : Int} {b : Bs} {a : Nat} {e : Int} (ha : a ≤ b.length) (h : (rdTxt most b a e).2.2 = 0) :
    e = 0 ∧ Got b a (rdTxt most b a e).2.1 (txtL (rdTxt most b a e).1) ∧ ((rdTxt most b a e).1.length : Int) ≤ min most 16777216 := by
  unfold rdTxt at h ⊢
  split at h
  · next h0 => exact absurd h h0
  · next h0 =>
    rw [if_neg h0]
    split at h
    · next h1 => exact absurd h h1
    · next h1 =>
      rw [if_neg h1]
      obtain ⟨e1, e2, e3⟩ := txtP_inv (most := most) (l := b.drop a) (by omega)
      have hle := txtP_le most (b.drop a)
      rw [List.length_drop] at hle
      refine ⟨by omega, ⟨?_, ?_, ?_⟩, e3⟩
      · show a + _ ≤ _
        omega
      · show a + _ = _
        rw [e2]
      · show b.drop a = _ ++ b.drop (a + _)
        rw [← List.drop_drop]
        exact e1
theorem rdNum_enc {most : Int} {b r : Bs} {a u : Nat} (ha : b.drop a = natL u ++ r) (h : u < 9223372036854775808) (hm : (u : Int) ≤ most) : rdNum most b a 0 = (u, a + (natL u).length, 0) := by
  unfold rdNum
  rw [ha, numP_enc most u r h hm]
  simp
theorem rdTxt_enc {most : Int} {b r x : Bs} {a : Nat} (ha : b.drop a = txtL x ++ r) (h : (x.length : Int) ≤ min most 16777216) : rdTxt most b a 0 = (x, a + (txtL x).length, 0) := by
  unfold rdTxt
  rw [ha, txtP_enc most x r h]
  simp
theorem rdNum_le {most : Int} {b : Bs} {a : Nat} {e : Int} (ha : a ≤ b.length) : (rdNum most b a e).2.1 ≤ b.length := by
  have := numP_le most (b.drop a)
  rw [List.length_drop] at this
  unfold rdNum
  split
  · exact ha
  · split
    · exact ha
    · simp only; omega
theorem rdTxt_le {most : Int} {b : Bs} {a : Nat} {e : Int} (ha : a ≤ b.length) : (rdTxt most b a e).2.1 ≤ b.length := by
  have := txtP_le most (b.drop a)
  rw [List.length_drop] at this
  unfold rdTxt
  split
  · exact ha
  · split
    · exact ha
    · simp only; omega
theorem rdEnd_zero {b : Bs} {a : Nat} {e : Int} (ha : a ≤ b.length) (h : rdEnd b a e = 0) : e = 0 ∧ a = b.length := by
  unfold rdEnd at h
  split at h
  · split at h
    · simp at h
    · omega
  · omega
theorem strB_toList (l : Bs) : (strB l).data.toList = l := rfl
theorem strB_of (s : ByteArray) : strB s.data.toList = s := by cases s; rfl
theorem strB_size (l : Bs) : (strB l).size = l.length := rfl
end Go.Proofs.YtfgecaphhdedcaaGreatDoor
namespace Go.Proofs.YtfgecaphhdedcaaGreatDoor
open Go.RowKit

theorem Sl.ofStr (w : World) (s : ByteArray) (cap : Nat) (h1 : s.size ≤ cap) (h2 : cap ≤ maxLen) (fr : Nat × Nat) :
    Sl (w.alloc (.cells (bytesRow s cap) 5 fr)) (w.heap.size + 1) 1 (some ⟨w.heap.size, 0, none⟩) s.size cap (s.data.toList.map u8v) := by
  refine ⟨by rw [List.length_map, Nat.mul_one, ba_size], h1, h2, .inr ⟨_, 0, rfl, by omega, fun j u hu => ?_⟩⟩
  have hj : j < s.data.size := by
    have := (List.getElem?_eq_some_iff.1 hu).1
    simpa using this
  have hh := heap_alloc_new w (.cells (bytesRow s cap) 5 fr)
  rw [Nat.zero_add, cell_of_row _ _ _ _ _ _ hh, bytesRow_at s cap j hj]
  simp only [List.getElem?_map, Array.getElem?_toList, Array.getElem?_eq_getElem hj, Option.map_some] at hu
  exact hu

theorem wwrite_many (B g : Nat) (b : Bs) (e : Int) (vs : List (Value × Bs)) (w0 W : World) (h : Wr w0 B g b e) (hBw : B ≤ w0.heap.size) (hB : Below w0.heap.size w0 W) (pb : Nat) (hpb : Blk W pb 54 (vs.map (·.1)).toArray)
    (hv : ∀ v0 n0 xs0, w0.ownsRow B 5 1 v0 n0 xs0 → ∀ i (h : i < vs.length), PartOk W v0 vs[i].1 vs[i].2) (hlen : b.length + (vs.flatMap (·.2)).length ≤ 1000000000) (hvl : vs.length ≤ 1000) :
    Calls Tryz.prog 71 #[.pointer (some ⟨g, 0, none⟩), .int .i64 0, .slice (some ⟨pb, 0, none⟩) vs.length vs.length] W fun o w' => o = .returned (.tuple #[]) ∧ Wr w' B g (if e = 0 then b ++ vs.flatMap (·.2) else b) e ∧ Below B w0 w' ∧ KeepT w0 w' := by
  obtain ⟨hBg, v0, hk, ho⟩ := h
  have hk2 : Blk W g 121 #[v0, .int .i64 e] := (hB.block g hk.lt).trans hk
  have ho2 : W.ownsRow B 5 1 v0 b.length (b.map u8v) := ho.kept (gb_below hB (some w0.heap.size)) (.inr (fun h => by have := (ho.lt _ h).2; omega))
  by_cases h0 : e = 0
  · subst h0
    refine (wwrite_ok B g b hBg v0 pb vs W hk2 ho2 (by have := hB.size; omega) ⟨_, hpb⟩ (fun i h => ?_) (hv v0 _ _ ho) hlen hvl).mono ?_
    · rw [hpb.cell i]
      simp [h]
    · rintro o w' ⟨rfl, h1, h2, h3⟩
      exact ⟨rfl, by simpa using h1, (hB.mono hBw).trans h2, (KeepT.below hB).trans h3⟩
  · refine (wwrite_skip B g b e 0 h0 _ W ⟨hBg, v0, hk2, ho2⟩).mono ?_
    rintro o w' ⟨rfl, rfl⟩
    rw [if_neg h0]
    exact ⟨rfl, ⟨hBg, v0, hk2, ho2⟩, hB.mono hBw, KeepT.below hB⟩

/-- The two parts of a text: its length, freshly written; its bytes, freshly made of a string. -/
theorem wtext_write (B g : Nat) (b : Bs) (e : Int) (s : ByteArray) (hs : s.size ≤ 16777216) (hb : b.length ≤ 900000000) (w w1 : World) (hBw : B ≤ w.heap.size) (h : Wr w B g b e) (hB1 : Below w.heap.size w w1) (v : Value)
    (hown : w1.ownsRow w.heap.size 5 1 v (natL s.size).length ((natL s.size).map u8v)) (cap : Nat) (h1 : s.size ≤ cap) (h2 : cap ≤ maxLen) (fr : Nat × Nat) :
    Calls Tryz.prog 71 #[.pointer (some ⟨g, 0, none⟩), .int .i64 0, .slice (some ⟨w1.heap.size + 1, 0, none⟩) 2 2] ((w1.alloc (.cells (bytesRow s cap) 5 fr)).alloc (.cells #[v, .slice (some ⟨w1.heap.size, 0, none⟩) s.size cap] 54)).drew
      fun o w' => o = .returned (.tuple #[]) ∧ Wr w' B g (if e = 0 then b ++ txtL s.data.toList else b) e ∧ Below B w w' ∧ KeepT w w' := by
  have hls : s.data.toList.length = s.size := (ba_size s).symm
  have hT : txtL s.data.toList = natL s.size ++ s.data.toList := by unfold txtL; rw [hls]
  have hl := natL_ten (u := s.size) (by omega)
  have hsz := hB1.size
  have b2 : Below w1.heap.size w1 ((w1.alloc (.cells (bytesRow s cap) 5 fr)).alloc (.cells #[v, .slice (some ⟨w1.heap.size, 0, none⟩) s.size cap] 54)).drew := (((Below.refl _ _).alloc (Nat.le_refl _) _).alloc (by simp) _).drew
  have b3 : Below (w1.heap.size + 1) (w1.alloc (.cells (bytesRow s cap) 5 fr)) ((w1.alloc (.cells (bytesRow s cap) 5 fr)).alloc (.cells #[v, .slice (some ⟨w1.heap.size, 0, none⟩) s.size cap] 54)).drew := ((Below.refl _ _).alloc (by simp) _).drew
  have key := wwrite_many B g b e [(v, natL s.size), (.slice (some ⟨w1.heap.size, 0, none⟩) s.size cap, s.data.toList)] w _ h hBw (hB1.trans (b2.mono hsz)) (w1.heap.size + 1) (Blk.drew (Blk.new_ _ _ _ (by simp)))
    (fun v0 n0 xs0 ho i hi => by
      rcases i with _ | _ | i
      · exact PartOk.fresh ho (hown.kept (gb_below b2 (some w1.heap.size)) (.inr (fun h => by have := (hown.lt _ h).2; omega)))
      · refine ⟨some ⟨w1.heap.size, 0, none⟩, s.size, cap, rfl, ((Sl.ofStr w1 s cap h1 h2 fr).below b3).more (by simp), (fun h => by cases h), fun ad ha => ?_⟩
        cases ha
        refine ⟨⟨bytesRow s cap, fr, ?_⟩, fun hx => ?_⟩
        · exact (b3.block w1.heap.size (by omega)).trans (heap_alloc_new w1 _)
        · have : w1.heap.size < w.heap.size := (ho.lt _ hx).2
          omega
      · simp at hi; omega) (by simp; omega) (by simp)
  simp only [List.flatMap_cons, List.flatMap_nil, List.append_nil, ← hT] at key
  exact key

set_option maxRecDepth 100000 in
set_option maxHeartbeats 1000000 in
theorem wtextK (B g : Nat) (b : Bs) (e : Int) (s : ByteArray) (hs : s.size ≤ 16777216) (hb : b.length ≤ 900000000) (w : World) (hBw : B ≤ w.heap.size) (h : Wr w B g b e) :
    Calls Tryz.prog 40 #[.pointer (some ⟨g, 0, none⟩), .string s] w fun o w' => o = .returned (.tuple #[]) ∧ Wr w' B g (if e = 0 then b ++ txtL s.data.toList else b) e ∧ Below B w w' ∧ KeepT w w' := by
  have hw : IntKind.u64.wrap (s.size : Int) = (s.size : Int) := wrap_u64 s.size (by omega)
  have HN := hid (natural_any s.size (by omega) w)
  have hcv2 := fun w s => run_bytes_of_string (P := Tryz.prog) w 9 54 5 s Tryz.underlying9 Tryz.underlying54 Tryz.underlying5
  have hu0 : ¬ ((16777216 : Int) < (s.size : Int)) := by omega
  have hl := natL_ten (u := s.size) (by omega)
  have HWW := hid (fun w1 v hB1 hown cap h1 h2 fr => wtext_write B g b e s hs hb w w1 hBw h hB1 v hown cap h1 h2 fr)
  clear h
  generalize (if e = 0 then b ++ txtL s.data.toList else b) = R at *
  go_enter Tryz.func40, Tryz.ntmps40
  go_wp2_with (first | (go_at_call 72; refine HN.out.mono ?_; rintro o w1 ⟨v, rfl, hown, hB1⟩; obtain ⟨A, c, rfl, hs, hA⟩ := own_shape hown; have HS := hid hs; have HOW := hid hown; have HB1 := hid hB1; clear hs hown hB1 hA) | (go_at_call 71; refine (HWW.out _ _ HB1.out HOW.out _ (grownCap_ge _ _ _ _) (grownCap_le_maxLen _ _ _ _ (by unfold maxLen; omega)) _).mono ?_; rintro o w2 ⟨rfl, hr1, hr2⟩; have HR1 := hid hr1; have HR2 := hid hr2; clear hr1 hr2))
  go_end0
  exact ⟨rfl, HR1.out, HR2.out⟩
theorem wtext_any (B g : Nat) (b : Bs) (e : Int) (s : ByteArray) (hs : s.size ≤ 16777216) (hb : b.length ≤ 900000000) (w : World) (hBw : B ≤ w.heap.size) (h : Wr w B g b e) :
    Calls Tryz.prog 40 #[.pointer (some ⟨g, 0, none⟩), .string s] w fun o w' => o = .returned (.tuple #[]) ∧ Wr w' B g (if e = 0 then b ++ txtL s.data.toList else b) e ∧ Below B w w' :=
  (wtextK B g b e s hs hb w hBw h).mono fun _ _ ⟨h1, h2, h3, _⟩ => ⟨h1, h2, h3⟩
end Go.Proofs.YtfgecaphhdedcaaGreatDoor
namespace Go.Proofs.YtfgecaphhdedcaaGreatDoor
open Go.RowKit

/-- A flag at the beginning of bytes. -/
def flagP : Bs → Bool × Nat × Int
  | [] => (false, 0, 28)
  | c :: _ => if 1 < c.toNat then (false, 0, 3) else (decide (c.toNat = 1), 1, 0)
theorem flagP_cons (c : UInt8) (r : Bs) : flagP (c :: r) = if 1 < c.toNat then (false, 0, 3) else (decide (c.toNat = 1), 1, 0) := rfl
def flagB (s : Bool) : UInt8 := if s then 1 else 0
theorem flagP_le (l : Bs) : (flagP l).2.1 ≤ l.length := by
  cases l with
  | nil => exact Nat.le_refl _
  | cons c r => rw [flagP_cons]; split <;> simp
theorem flagP_enc (s : Bool) (r : Bs) : flagP (flagB s :: r) = (s, 1, 0) := by cases s <;> rfl
theorem flagP_inv {l : Bs} (h : (flagP l).2.2 = 0) : l = flagB (flagP l).1 :: l.drop 1 ∧ (flagP l).2.1 = 1 := by
  cases l with
  | nil => simp [flagP] at h
  | cons c r =>
    rw [flagP_cons] at h ⊢
    split at h
    · simp at h
    · next h1 =>
      rw [if_neg h1]
      refine ⟨?_, rfl⟩
      have hc : c = 0 ∨ c = 1 := by
        have h2 : c.toNat = 0 ∨ c.toNat = 1 := by omega
        rcases h2 with h2 | h2
        · exact .inl (UInt8.toNat_inj.1 h2)
        · exact .inr (UInt8.toNat_inj.1 h2)
      rcases hc with rfl | rfl <;> rfl
/-- What Flag makes of a reader's offset and error. -/
def rdFlag (b : Bs) (a : Nat) (e : Int) : Bool × Nat × Int :=
  if e ≠ 0 then (false, a, e) else if (flagP (b.drop a)).2.2 ≠ 0 then (false, a, (flagP (b.drop a)).2.2) else ((flagP (b.drop a)).1, a + (flagP (b.drop a)).2.1, 0)
theorem rdFlag_err (b : Bs) (a : Nat) {e : Int} (h : e ≠ 0) : rdFlag b a e = (false, a, e) := by unfold rdFlag; rw [if_pos h]
theorem rdFlag_inv {b : Bs} {a : Nat} {e : Int} (ha : a ≤ b.length) (h : (rdFlag b a e).2.2 = 0) : e = 0 ∧ Got b a (rdFlag b a e).2.1 [flagB (rdFlag b a e).1] := by
  unfold rdFlag at h ⊢
  split at h
  · next h0 => exact absurd h h0
  · next h0 =>
    rw [if_neg h0]
    split at h
    · next h1 => exact absurd h h1
    · next h1 =>
      rw [if_neg h1]
      obtain ⟨e1, e2⟩ := flagP_inv (l := b.drop a) (by omega)
      have hle := flagP_le (b.drop a)
      rw [List.length_drop] at hle
      refine ⟨by omega, ⟨?_, ?_, ?_⟩⟩
      · show a + _ ≤ _
        omega
      · show a + _ = _
        rw [e2]; rfl
      · show b.drop a = _ ++ b.drop (a + _)
        rw [← List.drop_drop, e2]
        exact e1
theorem rdFlag_enc {b r : Bs} {a : Nat} {s : Bool} (ha : b.drop a = flagB s :: r) : rdFlag b a 0 = (s, a + 1, 0) := by
  unfold rdFlag
  rw [ha, flagP_enc]
  simp
theorem rdFlag_le {b : Bs} {a : Nat} {e : Int} (ha : a ≤ b.length) : (rdFlag b a e).2.1 ≤ b.length := by
  have := flagP_le (b.drop a)
  rw [List.length_drop] at this
  unfold rdFlag
  split
  · exact ha
  · split
    · exact ha
    · simp only; omega

set_option maxRecDepth 100000 in
set_option maxHeartbeats 1000000 in
theorem flag1_any (A : Option Addr) (n c : Nat) (l : Bs) (w : World) (hs : Sl w w.heap.size 1 A n c (l.map u8v)) :
    Calls Tryz.prog 67 #[.slice A n c] w fun e w' => e = .returned (.tuple #[.bool (flagP l).1, .int .i64 (flagP l).2.1, .int .i64 (flagP l).2.2]) ∧ w = w' := by
  obtain ⟨hx1, hx2, hx3, hx4⟩ := hs
  simp only [List.length_map, Nat.mul_one] at hx1
  unfold maxLen at hx3
  cases l with
  | nil =>
    have hn : n = 0 := by simpa using hx1.symm
    subst hn
    go_enter Tryz.func67, Tryz.ntmps67
    go_wp2_with fail
    go_ret3
    exact ⟨rfl, rfl⟩
  | cons x r =>
    have hn : 0 < n := by rw [← hx1]; simp
    have hni : (0 : Int) < (n : Int) := by omega
    have hnb : ((n : Int) == 0) = false := by simp; omega
    rcases hx4 with h0 | ⟨b, off, rfl, hb, hc⟩
    · omega
    have hc0 := hc 0 (u8v x) rfl
    unfold u8v at hc0
    rw [Nat.add_zero] at hc0
    have HR := hid (show flagP (x :: r) = if 1 < x.toNat then (false, 0, 3) else (decide (x.toNat = 1), 1, 0) from rfl)
    have hl := UInt8.toNat_lt x
    generalize flagP (x :: r) = R at *
    clear hc hx1
    generalize x.toNat = y at *
    by_cases h1 : 1 < y
    · have h1i : (1 : Int) < (y : Int) := by omega
      have HE := hid (show R = (false, 0, 3) by rw [HR.out, if_pos h1])
      go_enter Tryz.func67, Tryz.ntmps67
      go_wp2_with fail
      go_ret3
      exact ⟨ret_tup3 (by rw [HE.out]; rfl) (by rw [HE.out]; rfl) (by rw [HE.out]; rfl), rfl⟩
    · have h1i : ¬ ((1 : Int) < (y : Int)) := by omega
      have HE := hid (show R = (decide (y = 1), 1, 0) by rw [HR.out, if_neg h1])
      go_enter Tryz.func67, Tryz.ntmps67
      go_wp2_with fail
      all_goals go_ret3
      all_goals
        refine ⟨ret_tup3 ?_ (by rw [HE.out]; rfl) (by rw [HE.out]; rfl), rfl⟩
        rw [HE.out]
        show Value.bool _ = Value.bool _
        congr 1
        rw [Bool.eq_iff_iff]
        simp <;> omega

set_option maxRecDepth 100000 in
set_option maxHeartbeats 1000000 in
theorem readBool_any (g : Nat) (b : Bs) (a : Nat) (e : Int) (w : World) (h : Rd w g b a e) :
    Calls Tryz.prog 66 #[.pointer (some ⟨g, 0, none⟩), .func (.func 67) #[] #[]] w fun o w' =>
      o = .returned (.bool (rdFlag b a e).1) ∧ Rd w' g b (rdFlag b a e).2.1 (rdFlag b a e).2.2 ∧ w.grownBy w' (some g) := by
  have H := hid h
  obtain ⟨A, n, c, hk, hsl, ha, -⟩ := h
  have c0 : w.cell? ⟨g, 0, none⟩ = some (.slice A n c) := hk.cell 0
  have c1 : w.cell? ⟨g, 1, none⟩ = some (.int .i64 a) := hk.cell 1
  have c2 : w.cell? ⟨g, 2, none⟩ = some (.int .i64 e) := hk.cell 2
  have f1 := hk.frozen 1
  have f2 := hk.frozen 2
  by_cases h0 : e = 0
  · subst h0
    have hn : b.length = n := by have := hsl.1; simpa using this
    have hc := hsl.2.1
    have hm := hsl.2.2.1
    have hai : (a : Int) ≤ (n : Int) := by omega
    unfold maxLen at hm
    have HS := hsl.from_ a (by omega)
    rw [← List.map_drop] at HS
    have HK := hid (fun m : Nat => flag1_any _ _ _ (b.drop a) (w.drewN m) (HS.keep (fun _ _ _ => rfl)))
    have hle := flagP_le (b.drop a)
    rw [List.length_drop] at hle
    have hrd := hid (show rdFlag b a 0 = if (flagP (b.drop a)).2.2 ≠ 0 then (false, a, (flagP (b.drop a)).2.2) else ((flagP (b.drop a)).1, a + (flagP (b.drop a)).2.1, 0) from rfl)
    generalize rdFlag b a 0 = R at *
    generalize (flagP (b.drop a)).1 = v at *
    generalize (flagP (b.drop a)).2.1 = k at *
    generalize (flagP (b.drop a)).2.2 = d at *
    clear hsl HS
    by_cases h1 : d = 0
    · subst h1
      have HR := hid (show R = (v, a + k, 0) by rw [hrd.out, if_neg (by simp)])
      go_enter Tryz.func66, Tryz.ntmps66
      go_wp2_with fail
      go_quiet (first | (go_at_call 67; refine Calls.quiet_of_same ((HK.out _).mono fun _ _ h => ⟨h.1, h.2.symm⟩)))
      go_wp2_with fail
      all_goals go_ret
      all_goals
        refine ⟨by rw [HR.out]; rfl, ?_, gb_trans (gb_below (dN (Below.refl _ _) nq) _) (gb_set _ _ _ _)⟩
        rw [HR.out, ← Int.natCast_add]
        exact (H.out.keep (dN (Below.refl _ _) nq)).off (a + k) (by omega)
    · have h1b : (d != 0) = true := by simp [h1]
      have HR := hid (show R = (false, a, d) by rw [hrd.out, if_pos h1])
      clear h1
      go_enter Tryz.func66, Tryz.ntmps66
      go_wp2_with fail
      go_quiet (first | (go_at_call 67; refine Calls.quiet_of_same ((HK.out _).mono fun _ _ h => ⟨h.1, h.2.symm⟩)))
      go_wp2_with fail
      all_goals go_ret
      all_goals
        refine ⟨by rw [HR.out]; rfl, ?_, gb_trans (gb_below (dN (Below.refl _ _) nq) _) (gb_set _ _ _ _)⟩
        rw [HR.out]
        exact (H.out.keep (dN (Below.refl _ _) nq)).err d
  · have heb : (e != 0) = true := by simp [h0]
    have HR := hid (show rdFlag b a e = (false, a, e) by rw [rdFlag, if_pos h0])
    clear h0
    generalize rdFlag b a e = R at *
    go_enter Tryz.func66, Tryz.ntmps66
    go_wp2_with fail
    go_ret
    exact ⟨by rw [HR.out]; rfl, by rw [HR.out]; exact H.out, gb_refl _ _⟩

set_option maxRecDepth 100000 in
set_option maxHeartbeats 1000000 in
theorem rflag_any (g : Nat) (b : Bs) (a : Nat) (e : Int) (w : World) (h : Rd w g b a e) :
    Calls Tryz.prog 34 #[.pointer (some ⟨g, 0, none⟩)] w fun o w' =>
      o = .returned (.bool (rdFlag b a e).1) ∧ Rd w' g b (rdFlag b a e).2.1 (rdFlag b a e).2.2 ∧ w.grownBy w' (some g) := by
  have HK := hid (readBool_any g b a e w h)
  go_enter Tryz.func34, Tryz.ntmps34
  go_wp2_with (go_at_call 66; refine HK.out.mono ?_; rintro o w' ⟨rfl, hr, hg⟩)
  go_ret
  exact ⟨rfl, hr, hg⟩

set_option maxRecDepth 100000 in
set_option maxHeartbeats 1000000 in
theorem wflagK (B g : Nat) (b : Bs) (e : Int) (s : Bool) (hb : b.length ≤ 999999000) (w : World) (hBw : B ≤ w.heap.size) (h : Wr w B g b e) :
    Calls Tryz.prog 39 #[.pointer (some ⟨g, 0, none⟩), .bool s] w fun o w' => o = .returned (.tuple #[]) ∧ Wr w' B g (if e = 0 then b ++ [flagB s] else b) e ∧ Below B w w' ∧ KeepT w w' := by
  have HWW := hid (fun (W : World) hB pb v hpb hown => wwrite_one B g b e [flagB s] w W h hBw hB pb v hpb hown (by simp; omega))
  clear h
  generalize hR : (if e = 0 then b ++ [flagB s] else b) = R at *
  cases s with
  | true =>
    have hown : ((w.alloc (.cells #[.int .u8 1] 5)).alloc (.cells #[.slice (some ⟨w.heap.size, 0, none⟩) 1 1] 54)).ownsRow w.heap.size 5 1 (.slice (some ⟨w.heap.size, 0, none⟩) 1 1) 1 [.int .u8 1] := (World.ownsRow_lit w #[.int .u8 1] 1 (Nat.le_refl _) (by unfold maxLen; omega) rfl).alloc _
    have HO := hid hown
    clear hR hown
    go_enter Tryz.func39, Tryz.ntmps39
    go_wp2_with (go_at_call 71; refine (HWW.out _ (((Below.refl _ _).alloc (Nat.le_refl _) _).alloc (by simp) _) (w.heap.size + 1) _ (Blk.new_ _ _ _ (by simp)) HO.out).mono ?_; rintro o w2 ⟨rfl, hr1, hr2, hr3⟩; have HR1 := hid hr1; have HR2 := hid hr2; have HR3 := hid hr3; clear hr1 hr2 hr3)
    go_end0
    exact ⟨rfl, HR1.out, HR2.out, HR3.out⟩
  | false =>
    have hown : ((w.alloc (.cells #[.int .u8 0] 5)).alloc (.cells #[.slice (some ⟨w.heap.size, 0, none⟩) 1 1] 54)).ownsRow w.heap.size 5 1 (.slice (some ⟨w.heap.size, 0, none⟩) 1 1) 1 [.int .u8 0] := (World.ownsRow_lit w #[.int .u8 0] 1 (Nat.le_refl _) (by unfold maxLen; omega) rfl).alloc _
    have HO := hid hown
    clear hR hown
    go_enter Tryz.func39, Tryz.ntmps39
    go_wp2_with (go_at_call 71; refine (HWW.out _ (((Below.refl _ _).alloc (Nat.le_refl _) _).alloc (by simp) _) (w.heap.size + 1) _ (Blk.new_ _ _ _ (by simp)) HO.out).mono ?_; rintro o w2 ⟨rfl, hr1, hr2, hr3⟩; have HR1 := hid hr1; have HR2 := hid hr2; have HR3 := hid hr3; clear hr1 hr2 hr3)
    go_end0
    exact ⟨rfl, HR1.out, HR2.out, HR3.out⟩
end Go.Proofs.YtfgecaphhdedcaaGreatDoor
namespace Go.Proofs.YtfgecaphhdedcaaGreatDoor
open Go.RowKit

/-- A slice value that reads as a list of strings. -/
structure RowN (w : World) (A : Option Addr) (n c : Nat) (l : List ByteArray) : Prop where
  s : Sl w w.heap.size 1 A n c (l.map (.string ·))
  z : A = none → c = 0
  ty : ∀ ad, A = some ad → ∃ cs, w.heap[ad.block]? = some (.cells cs 42 (0, 0))
theorem RowN.below {w w' : World} {A : Option Addr} {n c : Nat} {l : List ByteArray} (h : RowN w A n c l) (hb : Below w.heap.size w w') : RowN w' A n c l :=
  ⟨(h.1.below hb).more hb.size, h.2, fun ad e => by
    obtain ⟨cs, hc⟩ := h.3 ad e
    exact ⟨cs, (hb.block _ (Array.getElem?_eq_some_iff.1 hc).1).trans hc⟩⟩
theorem RowN.len {w : World} {A : Option Addr} {n c : Nat} {l : List ByteArray} (h : RowN w A n c l) : l.length = n := by have := h.1.1; simpa using this
theorem RowN.nil (w : World) : RowN w none 0 0 [] := ⟨Sl.nil _ _ _, fun _ => rfl, fun _ h => by cases h⟩
/-- The cells of a row that is not empty. -/
theorem RowN.at {w : World} {A : Option Addr} {n c : Nat} {l : List ByteArray} (h : RowN w A n c l) (hn : 0 < n) : ∃ b off, A = some ⟨b, off, none⟩ ∧ b < w.heap.size ∧ ∀ w', Below w.heap.size w w' → ∀ j (hj : j < l.length), w'.cell? ⟨b, off + j, none⟩ = some (.string l[j]) := by
  rcases h.1.2.2.2 with h0 | ⟨b, off, hA, hb, hc⟩
  · omega
  · exact ⟨b, off, hA, hb, fun w' hw j hj => ((bcell hw).1 _ _ hb).trans (hc j (.string l[j]) (by simp [hj]))⟩

/-- A lock. -/
structure Lk where
  epoch : Int
  shared : Bool
  holders : List ByteArray
def lkCells (l : Lk) (A : Option Addr) (c : Nat) : Array Value := #[.int .i64 l.epoch, .bool l.shared, .slice A l.holders.length c]
def epochE (e : Int) : Int := if e < 0 ∨ 1073741824 < e then 2 else 0
def hbad (h : ByteArray) : Bool := h.toList.isEmpty || !(M.valid h.data.toList)
/-- Whether a holder is not greater than the one ahead of it. -/
def geP (p : Option ByteArray) (h : ByteArray) : Bool := match p with
  | some q => decide (0 ≤ cmpLin q.data.toList h.data.toList)
  | none => false
theorem geP_some (q h : ByteArray) : geP (some q) h = decide (0 ≤ cmpLin q.data.toList h.data.toList) := rfl
theorem geP_none (h : ByteArray) : geP none h = false := rfl
/-- The error of the holders, one being ahead of them. -/
def hGo : Option ByteArray → List ByteArray → Int
  | _, [] => 0
  | p, h :: r => if hbad h then 12 else if geP p h then 32 else hGo (some h) r
def checkL (l : Lk) : Int :=
  if epochE l.epoch ≠ 0 then epochE l.epoch else if 32 < l.holders.length then 9 else if hGo none l.holders ≠ 0 then hGo none l.holders
  else if !l.shared && decide (1 < l.holders.length) then 10 else if l.shared && decide (l.holders.length = 0) then 3 else 0
/-- The holder ahead of the k-th. -/
def prevH (l : List ByteArray) (k : Nat) : Option ByteArray := if k = 0 then none else l[k - 1]?
theorem hGo_nil (p : Option ByteArray) : hGo p [] = 0 := by cases p <;> rfl
theorem hGo_cons (p : Option ByteArray) (h : ByteArray) (r : List ByteArray) : hGo p (h :: r) = if hbad h then 12 else if geP p h then 32 else hGo (some h) r := by cases p <;> rfl
theorem prevH_succ (l : List ByteArray) (k : Nat) (h : k < l.length) : prevH l (k + 1) = some l[k] := by
  unfold prevH
  rw [if_neg (by omega), Nat.add_sub_cancel, List.getElem?_eq_getElem h]

set_option maxHeartbeats 1000000 in
theorem epoch_any (e : Int) (w : World) : Calls Tryz.prog 51 #[.int .i64 e] w fun o w' => o = .returned (.int .i64 (epochE e)) ∧ w = w' := by
  have HE := hid (show epochE e = if e < 0 ∨ 1073741824 < e then 2 else 0 from rfl)
  generalize epochE e = x at *
  by_cases h1 : e < 0
  · have hx := HE.out
    rw [if_pos (.inl h1)] at hx
    subst hx
    go_enter Tryz.func51, Tryz.ntmps51
    go_wp2_with fail
    go_ret
    exact ⟨rfl, rfl⟩
  · by_cases h2 : 1073741824 < e
    · have hx := HE.out
      rw [if_pos (.inr h2)] at hx
      subst hx
      go_enter Tryz.func51, Tryz.ntmps51
      go_wp2_with fail
      go_ret
      exact ⟨rfl, rfl⟩
    · have hx := HE.out
      rw [if_neg (by omega)] at hx
      subst hx
      go_enter Tryz.func51, Tryz.ntmps51
      go_wp2_with fail
      go_ret
      exact ⟨rfl, rfl⟩

set_option maxHeartbeats 1000000 in
theorem holder_any (h : ByteArray) (hs : h.size ≤ maxLen) (w : World) : Calls Tryz.prog 52 #[.string h] w fun o w' => o = .returned (.int .i64 (if hbad h then 12 else 0)) ∧ Below w.heap.size w w' := by
  have VA := hid (valid_any h hs)
  have HB := hid (show hbad h = (h.toList.isEmpty || !(M.valid h.data.toList)) from rfl)
  generalize hbad h = x at *
  generalize M.valid h.data.toList = v at *
  cases he : h.toList.isEmpty with
  | true =>
    have hx := HB.out
    rw [he] at hx
    simp only [Bool.true_or] at hx
    subst hx
    go_enter Tryz.func52, Tryz.ntmps52
    go_wp2_with fail
    go_ret
    exact ⟨rfl, Below.refl _ _⟩
  | false =>
    have hx := HB.out
    rw [he] at hx
    simp only [Bool.false_or] at hx
    subst hx
    cases v <;>
    · go_enter Tryz.func52, Tryz.ntmps52
      go_wp2_with (go_at_call 30; refine (VA.out _).mono ?_; rintro o w' ⟨rfl, hb⟩)
      go_ret
      exact ⟨rfl, hb⟩
end Go.Proofs.YtfgecaphhdedcaaGreatDoor
namespace Go.Proofs.YtfgecaphhdedcaaGreatDoor
open Go.RowKit

set_option maxRecDepth 100000 in
set_option maxHeartbeats 3200000 in
theorem lkCheck_any (l : Lk) (A : Option Addr) (c : Nat) (hsz : ∀ h ∈ l.holders, h.size ≤ maxLen) (w : World) (hr : RowN w A l.holders.length c l.holders) :
    Calls Tryz.prog 21 #[.agg (lkCells l A c)] w fun o w' => o = .returned (.int .i64 (checkL l)) ∧ Below w.heap.size w w' := by
  have hX : checkL l = if epochE l.epoch ≠ 0 then epochE l.epoch else if 32 < l.holders.length then 9 else if hGo none l.holders ≠ 0 then hGo none l.holders else if !l.shared && decide (1 < l.holders.length) then 10 else if l.shared && decide (l.holders.length = 0) then 3 else 0 := rfl
  obtain ⟨ep, sh, hs⟩ := l
  dsimp only at hX hsz hr
  unfold lkCells
  dsimp only
  generalize checkL ⟨ep, sh, hs⟩ = X at *
  have EP := hid (epoch_any ep)
  have hcap := hr.1.2.1
  have hmx := hr.1.2.2.1
  unfold maxLen at hmx
  generalize epochE ep = ee at *
  by_cases he : ee = 0
  · rw [if_neg (by simp [he])] at hX
    subst he
    by_cases hl : 32 < hs.length
    · have hli : (32 : Int) < (hs.length : Int) := by omega
      rw [if_pos hl] at hX
      subst hX
      go_enter Tryz.func21, Tryz.ntmps21
      go_wp2_with (go_at_call 51; refine (EP.out _).mono ?_; rintro o w' ⟨rfl, rfl⟩)
      go_ret
      exact ⟨rfl, (Below.refl _ _).alloc (Nat.le_refl _) _⟩
    · have hli : ¬ ((32 : Int) < (hs.length : Int)) := by omega
      rw [if_neg hl] at hX
      have HX := hid hX
      have HSZ := hid hsz
      obtain ⟨W0, hW0⟩ : ∃ x, w.alloc (.cells #[.int .i64 ep, .bool sh, .slice A hs.length c] 24) = x := ⟨_, rfl⟩
      have b0 : Blk W0 w.heap.size 24 #[.int .i64 ep, .bool sh, .slice A hs.length c] := by rw [← hW0]; exact Blk.new _ _ _
      have hB0 : Below w.heap.size w W0 := by rw [← hW0]; exact (Below.refl _ _).alloc (Nat.le_refl _) _
      have z0 : W0.cell? ⟨w.heap.size, 0, none⟩ = some (.int .i64 ep) := b0.cell 0
      have z2 : W0.cell? ⟨w.heap.size, 2, none⟩ = some (.slice A hs.length c) := b0.cell 2
      have KK := hid (show ∀ w', Below W0.heap.size W0 w' → w'.cell? ⟨w.heap.size, 1, none⟩ = some (.bool sh) ∧ w'.cell? ⟨w.heap.size, 2, none⟩ = some (.slice A hs.length c) from fun w' hb => by
        have h1 := b0.below hb b0.lt
        exact ⟨h1.cell 1, h1.cell 2⟩)
      have HR := hid (hr.below hB0)
      have HB0 := hid hB0
      clear hX hsz hr b0 hB0 hl
      go_enter Tryz.func21, Tryz.ntmps21
      go_wp2_with (go_at_call 51; refine (EP.out _).mono ?_; rintro o w' ⟨rfl, rfl⟩)
      clear hW0
      go_loopw [20] (fun iv wr => ∃ k : Nat, iv = .int .i64 k ∧ k ≤ hs.length ∧ hGo none hs = hGo (prevH hs k) (hs.drop k) ∧ Below W0.heap.size W0 wr) (fun iv _ => hs.length - (intOf iv).toNat)
      case atStart => exact ⟨0, rfl, Nat.zero_le _, rfl, Below.refl _ _⟩
      case round =>
        obtain ⟨k, rfl, hk, hg, hB⟩ := hrel
        have HB := hid hB
        have HG := hid hg
        obtain ⟨x1, x2⟩ := KK.out _ hB
        clear hB hg
        by_cases hkl : k < hs.length
        · have h1i : (k : Int) < (hs.length : Int) := by omega
          obtain ⟨bb, off, rfl, hbb, hc⟩ := HR.out.at (by omega)
          have hck := hc _ HB.out k hkl
          have HC := hid hc
          have hg := HG.out
          rw [List.drop_eq_getElem_cons hkl, hGo_cons, ← prevH_succ hs k hkl] at hg
          have hsk := HSZ.out hs[k] (List.getElem_mem hkl)
          have HH := hid (holder_any hs[k] hsk)
          have HSK := hid hsk
          clear hc hsk
          by_cases hbd : hbad hs[k] = true
          · rw [if_pos hbd] at hg HH
            have hX := HX.out
            rw [hg, if_pos (by decide)] at hX
            subst hX
            clear hbd hg
            go_wp2_with (go_at_call 52; refine (HH.out _).mono ?_; rintro o w1 ⟨rfl, hb1⟩)
            go_ret
            exact ⟨rfl, HB0.out.trans ((HB.out.trans (hb1.mono HB.out.size)).mono HB0.out.size)⟩
          · rw [if_neg hbd] at hg HH
            clear hbd
            by_cases hk0 : 0 < k
            · obtain ⟨j, hjk⟩ : ∃ j, k = j + 1 := ⟨k - 1, by omega⟩
              have hj : j < hs.length := by omega
              have hp : prevH hs k = some hs[j] := by rw [hjk]; exact prevH_succ hs j hj
              rw [hp, geP_some] at hg
              have hsj := HSZ.out hs[j] (List.getElem_mem hj)
              have CM := hid (cmpLin_any hs[j] hs[k] hsj HSK.out)
              have HCJ := hid (show ∀ w', Below W0.heap.size W0 w' → w'.cell? ⟨bb, off + j, none⟩ = some (.string hs[j]) ∧ w'.cell? ⟨w.heap.size, 2, none⟩ = some (.slice (some ⟨bb, off, none⟩) hs.length c) from fun w' h => ⟨HC.out w' h j hj, (KK.out w' h).2⟩)
              have hsub : (k : Int) - 1 = (j : Int) := by omega
              have hsub2 : IntKind.i64.wrap ((k : Int) - 1) = (k : Int) - 1 := by simp [IntKind.wrap, IntKind.signed, IntKind.bits]; omega
              have hsub3 : IntKind.i64.wrap (j : Int) = (j : Int) := by simp [IntKind.wrap, IntKind.signed, IntKind.bits]; omega
              have h0k : (0 : Int) < (k : Int) := by omega
              have hj0 : (0 : Int) ≤ (j : Int) := by omega
              have hji : (j : Int) < (hs.length : Int) := by omega
              have HGG := hid hg
              clear hg hp hsj hjk hk0
              generalize hs[j] = hj' at *
              generalize hs[k] = hk' at *
              obtain ⟨c', hc'⟩ : ∃ x, x = cmpLin hj'.data.toList hk'.data.toList := ⟨_, rfl⟩
              rw [← hc'] at CM HGG
              clear hc'
              by_cases hc0 : 0 ≤ c'
              · have hg := HGG.out
                rw [if_pos (by simp [hc0])] at hg
                have hX := HX.out
                rw [hg, if_pos (by decide)] at hX
                subst hX
                clear hg
                go_wp2_with (first
                  | (go_at_call 52; refine (HH.out _).mono ?_; rintro o w1 ⟨rfl, hb1⟩; have HB1 := hid (HB.out.trans (hb1.mono HB.out.size)); obtain ⟨y1, y2⟩ := HCJ.out _ HB1.out; clear hb1)
                  | (go_at_call 53; refine (CM.out _).mono ?_; rintro o w2 ⟨rfl, hb2⟩; have HB2 := hid (HB1.out.trans (hb2.mono HB1.out.size)); clear hb2))
                go_ret
                exact ⟨rfl, HB0.out.trans (HB2.out.mono HB0.out.size)⟩
              · have hg := HGG.out
                rw [if_neg (by simp [hc0])] at hg
                have HGN := hid hg
                clear hg
                go_wp2_with (first
                  | (go_at_call 52; refine (HH.out _).mono ?_; rintro o w1 ⟨rfl, hb1⟩; have HB1 := hid (HB.out.trans (hb1.mono HB.out.size)); obtain ⟨y1, y2⟩ := HCJ.out _ HB1.out; clear hb1)
                  | (go_at_call 53; refine (CM.out _).mono ?_; rintro o w2 ⟨rfl, hb2⟩; have HB2 := hid (HB1.out.trans (hb2.mono HB1.out.size)); clear hb2))
                go_roundw
                case rel => exact ⟨k + 1, by go_num, by omega, HGN.out, HB2.out⟩
                case measure => simp [intOf]; omega
            · obtain rfl : k = 0 := by omega
              have hck0 : wr.cell? ⟨bb, off, none⟩ = some (.string hs[0]) := hck
              rw [if_neg (by simp [prevH, geP_none])] at hg
              have HGN := hid hg
              clear hg
              go_wp2_with (go_at_call 52; refine (HH.out _).mono ?_; rintro o w1 ⟨rfl, hb1⟩; have HB1 := hid (HB.out.trans (hb1.mono HB.out.size)); clear hb1)
              go_roundw
              case rel => exact ⟨1, by go_num, by omega, HGN.out, HB1.out⟩
              case measure => simp [intOf]; omega
        · obtain rfl : k = hs.length := by omega
          have h1i : ¬ ((hs.length : Int) < (hs.length : Int)) := by omega
          have hg := HG.out
          rw [List.drop_length, hGo_nil] at hg
          have hX := HX.out
          rw [hg, if_neg (by simp)] at hX
          clear hg HG HX hk
          cases sh with
          | true =>
            rw [if_neg (by simp)] at hX
            by_cases h0 : hs.length = 0
            · have h0b : ((hs.length : Int) == 0) = true := by simp [h0]
              have h0d : ((hs.length : Int) = 0) := by omega
              rw [if_pos (by simp [h0])] at hX
              subst hX
              go_wp2_with fail
              go_ret
              exact ⟨rfl, HB0.out.trans (HB.out.mono HB0.out.size)⟩
            · have h0b : ((hs.length : Int) == 0) = false := by rw [beq_eq_false_iff_ne]; omega
              have h0d : ¬ ((hs.length : Int) = 0) := by omega
              rw [if_neg (by simp [h0])] at hX
              subst hX
              clear h0
              go_wp2_with fail
              go_ret
              exact ⟨rfl, HB0.out.trans (HB.out.mono HB0.out.size)⟩
          | false =>
            by_cases h1 : 1 < hs.length
            · have h1d : (1 : Int) < (hs.length : Int) := by omega
              rw [if_pos (by simp [h1])] at hX
              subst hX
              clear h1
              go_wp2_with fail
              go_ret
              exact ⟨rfl, HB0.out.trans (HB.out.mono HB0.out.size)⟩
            · have h1d : ¬ ((1 : Int) < (hs.length : Int)) := by omega
              rw [if_neg (by simp [h1]), if_neg (by simp)] at hX
              subst hX
              clear h1
              go_wp2_with fail
              go_ret
              exact ⟨rfl, HB0.out.trans (HB.out.mono HB0.out.size)⟩
  · have heb : (ee != 0) = true := by simp [he]
    rw [if_pos he] at hX
    subst hX
    clear he
    go_enter Tryz.func21, Tryz.ntmps21
    go_wp2_with (go_at_call 51; refine (EP.out _).mono ?_; rintro o w' ⟨rfl, rfl⟩)
    go_ret
    exact ⟨rfl, (Below.refl _ _).alloc (Nat.le_refl _) _⟩
end Go.Proofs.YtfgecaphhdedcaaGreatDoor
namespace Go.Proofs.YtfgecaphhdedcaaGreatDoor
open Go.RowKit

/-- The value of a lock. -/
def encLk (l : Lk) : Bs := natL l.epoch.toNat ++ flagB l.shared :: (natL l.holders.length ++ l.holders.flatMap (fun h => txtL h.data.toList))
theorem flat_txt : ∀ (l : List ByteArray), (∀ h ∈ l, h.size ≤ 1000000) → (l.flatMap (fun h => txtL h.data.toList)).length ≤ 1000010 * l.length
  | [], _ => by simp
  | h :: r, hs => by
    have ih := flat_txt r (fun x hx => hs x (by simp [hx]))
    have h1 := hs h (by simp)
    have h2 := ba_size h
    have h3 := natL_ten (u := h.data.toList.length) (by omega)
    rw [List.flatMap_cons, List.length_append, List.length_cons, txtL, List.length_append]
    omega
theorem take_flat (l : List ByteArray) (k : Nat) (h : k < l.length) : (l.take (k + 1)).flatMap (fun h => txtL h.data.toList) = (l.take k).flatMap (fun h => txtL h.data.toList) ++ txtL l[k].data.toList := by
  rw [List.take_add_one, List.getElem?_eq_getElem h, List.flatMap_append]
  simp
theorem checkL_zero {l : Lk} (h : checkL l = 0) : 0 ≤ l.epoch ∧ l.epoch ≤ 1073741824 ∧ l.holders.length ≤ 32 := by
  unfold checkL at h
  split at h
  · next h1 => exact absurd h h1
  · next h1 =>
    unfold epochE at h1
    split at h
    · simp at h
    · refine ⟨?_, ?_, by omega⟩ <;> · split at h1 <;> simp at h1; omega

set_option maxRecDepth 100000 in
set_option maxHeartbeats 3200000 in
theorem lkEncode_any (l : Lk) (A : Option Addr) (c : Nat) (hsz : ∀ h ∈ l.holders, h.size ≤ 1000000) (w : World) (hr : RowN w A l.holders.length c l.holders) :
    Calls Tryz.prog 13 #[.agg (lkCells l A c)] w fun o w' => o = .returned (.tuple #[.string (strB (if checkL l = 0 then encLk l else [])), .int .i64 (checkL l)]) ∧ Below w.heap.size w w' := by
  have CK := hid (fun w' (h : RowN w' A l.holders.length c l.holders) => lkCheck_any l A c (fun x hx => by have := hsz x hx; unfold maxLen; omega) w' h)
  unfold lkCells at *
  by_cases hc : checkL l = 0
  · obtain ⟨p1, p2, p3⟩ := checkL_zero hc
    rw [if_pos hc, hc]
    rw [hc] at CK
    have hE : encLk l = natL l.epoch.toNat ++ flagB l.shared :: (natL l.holders.length ++ l.holders.flatMap (fun h => txtL h.data.toList)) := rfl
    generalize encLk l = enc at *
    clear hc
    obtain ⟨ep, sh, hs⟩ := l
    dsimp only at *
    obtain ⟨k0, rfl⟩ : ∃ k : Nat, ep = k := ⟨ep.toNat, by omega⟩
    rw [Int.toNat_natCast] at hE
    have hcap := hr.1.2.1
    have hmx := hr.1.2.2.1
    unfold maxLen at hmx
    obtain ⟨W0, hW0⟩ : ∃ x, w.alloc (.cells #[.int .i64 k0, .bool sh, .slice A hs.length c] 24) = x := ⟨_, rfl⟩
    have b0 : Blk W0 w.heap.size 24 #[.int .i64 k0, .bool sh, .slice A hs.length c] := by rw [← hW0]; exact Blk.new _ _ _
    have hB0 : Below w.heap.size w W0 := by rw [← hW0]; exact (Below.refl _ _).alloc (Nat.le_refl _) _
    have z0 : W0.cell? ⟨w.heap.size, 0, none⟩ = some (.int .i64 k0) := b0.cell 0
    have z1 : W0.cell? ⟨w.heap.size, 1, none⟩ = some (.bool sh) := b0.cell 1
    have z2 : W0.cell? ⟨w.heap.size, 2, none⟩ = some (.slice A hs.length c) := b0.cell 2
    have HR0 := hid (hr.below hB0)
    have HB0 := hid hB0
    have HBX := hid b0
    have HE := hid hE
    have HSZ := hid hsz
    have hft := flat_txt hs hsz
    have l0 := natL_ten (u := k0) (by omega)
    have l1 := natL_ten (u := hs.length) (by omega)
    have WN := hid (fun B g b (u : Nat) (hu : u < 9223372036854775808) (hb : b.length ≤ 999999000) w' (hBw : B ≤ w'.heap.size) (h : Wr w' B g b 0) => wnumber_any B g b 0 u hu hb w' hBw h)
    have WT := hid (fun B g b (s : ByteArray) (hs : s.size ≤ 16777216) (hb : b.length ≤ 900000000) w' (hBw : B ≤ w'.heap.size) (h : Wr w' B g b 0) => wtext_any B g b 0 s hs hb w' hBw h)
    have WF := hid (fun B g b s (hb : b.length ≤ 999999000) w' (hBw : B ≤ w'.heap.size) (h : Wr w' B g b 0) => wflagK B g b 0 s hb w' hBw h)
    simp only [if_pos] at WN WT WF
    have WB := hid (fun B g b (hb : b.length ≤ 1000000000) w' (h : Wr w' B g b 0) => wbytes_any B g b hb w' h)
    have NW := hid newWriter_any
    clear hE hsz b0 hB0 hr
    go_enter Tryz.func13, Tryz.ntmps13
    go_upto_region 6 with (first
      | (go_at_call 21; refine (CK.out _ HR0.out).mono ?_; rintro o w1 ⟨rfl, hb1⟩; have HB1 := hid hb1; have HX1 := hid (HBX.out.below hb1 HBX.out.lt); have HR1 := hid (HR0.out.below hb1); clear hb1)
      | (go_at_call 37; refine (NW.out _).mono ?_; rintro o w2 ⟨rfl, hr2, hb2⟩; have HW2 := hid hr2; have UU := hid (show ∀ w', Below w1.heap.size w1 w' → w'.cell? ⟨w.heap.size, 0, none⟩ = some (.int .i64 k0) ∧ w'.cell? ⟨w.heap.size, 1, none⟩ = some (.bool sh) ∧ w'.cell? ⟨w.heap.size, 2, none⟩ = some (.slice A hs.length c) from fun w' h => ⟨(HX1.out.below h HX1.out.lt).cell 0, (HX1.out.below h HX1.out.lt).cell 1, (HX1.out.below h HX1.out.lt).cell 2⟩); obtain ⟨y0, y1, y2⟩ := UU.out _ hb2; have HB2 := hid hb2; clear hr2 hb2)
      | (go_at_call 38; refine (WN.out _ _ [] k0 (by omega) (by simp) _ HB2.out.size HW2.out).mono ?_; rintro o w3 ⟨rfl, hr3, hb3⟩; have HW3 := hid hr3; have HB3 := hid (HB2.out.trans hb3); obtain ⟨x0, x1, x2⟩ := UU.out _ HB3.out; clear hr3 hb3))
    go_upto_region 7 with (go_at_call 39; refine (WF.out _ _ _ sh (by simp; omega) _ HB3.out.size HW3.out).mono ?_; rintro o w4 ⟨rfl, hr4, hb4, -⟩; have HW4 := hid hr4; have HB4 := hid (HB3.out.trans hb4); obtain ⟨v0, v1, v2⟩ := UU.out _ HB4.out; clear hr4 hb4)
    go_wp2_with (go_at_call 38; refine (WN.out _ _ _ hs.length (by omega) (by simp; omega) _ HB4.out.size HW4.out).mono ?_; rintro o w5 ⟨rfl, hr5, hb5⟩; have HW5 := hid hr5; have HB5 := hid (HB4.out.trans hb5); obtain ⟨u0, u1', u2'⟩ := UU.out _ HB5.out; clear hr5 hb5)
    have hacc : [] ++ natL k0 ++ [flagB sh] ++ natL hs.length = natL k0 ++ flagB sh :: natL hs.length := by simp
    rw [hacc] at HW5
    obtain ⟨acc0, ha0⟩ : ∃ x, x = natL k0 ++ flagB sh :: natL hs.length := ⟨_, rfl⟩
    rw [← ha0] at HW5
    have hal : acc0.length ≤ 30 := by rw [ha0]; simp; omega
    have HA0 := hid ha0
    clear ha0 hacc hW0
    go_loopw [32] (fun iv wr => ∃ k : Nat, iv = .int .i64 k ∧ k ≤ hs.length ∧ Wr wr w1.heap.size w1.heap.size (acc0 ++ (hs.take k).flatMap (fun h => txtL h.data.toList)) 0 ∧ Below w1.heap.size w1 wr) (fun iv _ => hs.length - (intOf iv).toNat)
    case atStart => exact ⟨0, rfl, Nat.zero_le _, by simpa using HW5.out, HB5.out⟩
    case round =>
      obtain ⟨k, rfl, hk, hwr, hbr⟩ := hrel
      have HWR := hid hwr; have HBR := hid hbr
      clear hwr hbr
      by_cases hkl : k < hs.length
      · have h1i : (k : Int) < (hs.length : Int) := by omega
        obtain ⟨bb, off, rfl, hbb, hc⟩ := HR1.out.at (by omega)
        have hck := hc _ HBR.out k hkl
        have hsk := HSZ.out hs[k] (List.getElem_mem hkl)
        have htk := take_flat hs k hkl
        have hfk := flat_txt (hs.take k) (fun x hx => HSZ.out x (List.mem_of_mem_take hx))
        rw [List.length_take] at hfk
        have HTK := hid htk
        clear hc htk
        go_wp2_with (go_at_call 40; refine (WT.out _ _ _ hs[k] (by omega) (by rw [List.length_append]; omega) _ HBR.out.size HWR.out).mono ?_; rintro o w6 ⟨rfl, hr6, hb6⟩; have HW6 := hid hr6; have HB6 := hid (HBR.out.trans hb6); clear hr6 hb6)
        go_roundw
        case rel => exact ⟨k + 1, by go_num, by omega, by rw [HTK.out, ← List.append_assoc]; exact HW6.out, HB6.out⟩
        case measure => simp [intOf]; omega
      · obtain rfl : k = hs.length := by omega
        have h1i : ¬ ((hs.length : Int) < (hs.length : Int)) := by omega
        have hfin : acc0 ++ (hs.take hs.length).flatMap (fun h => txtL h.data.toList) = enc := by rw [List.take_length, HA0.out, HE.out]; simp
        have hle : enc.length ≤ 1000000000 := by rw [← hfin, List.take_length, List.length_append]; omega
        rw [hfin] at HWR
        clear hfin
        go_wp2_with (go_at_call 41; refine (WB.out _ _ _ hle _ HWR.out).mono ?_; rintro o w7 ⟨v, rfl, ho, hb7⟩; obtain ⟨A7, c7, rfl, hs7, -⟩ := own_shape ho; have hcv := hs7.str; have HB7 := hid (HBR.out.trans (hb7.mono HBR.out.size)); clear ho hs7 hb7)
        all_goals go_ret2
        have HB01 := HB0.out.trans (HB1.out.mono HB0.out.size)
        exact ⟨rfl, HB01.trans (HB7.out.mono HB01.size)⟩
  · have hcb : (checkL l != 0) = true := by simp [hc]
    rw [if_neg hc]
    clear hc
    generalize checkL l = e at *
    have HR0 := hid (hr.below ((Below.refl w.heap.size w).alloc (Nat.le_refl _) (.cells #[.int .i64 l.epoch, .bool l.shared, .slice A l.holders.length c] 24)))
    go_enter Tryz.func13, Tryz.ntmps13
    go_wp2_with (go_at_call 21; refine (CK.out _ HR0.out).mono ?_; rintro o w1 ⟨rfl, hb1⟩)
    go_ret2
    exact ⟨rfl, ((Below.refl _ _).alloc (Nat.le_refl _) _).trans (hb1.mono (by simp))⟩
end Go.Proofs.YtfgecaphhdedcaaGreatDoor
namespace Go.Proofs.YtfgecaphhdedcaaGreatDoor
open Go.RowKit

theorem drop_app2 {b p r : Bs} {a : Nat} (h : b.drop a = p ++ r) : b.drop (a + p.length) = r := by rw [← List.drop_drop, h, List.drop_left]
/-- Texts that are read one after the other. -/
def lkGo (most : Int) (s : Bs) : Nat → Nat → Int → List ByteArray → List ByteArray × Nat × Int
  | 0, a, e, acc => (acc, a, e)
  | m + 1, a, e, acc => lkGo most s m (rdTxt most s a e).2.1 (rdTxt most s a e).2.2 (acc ++ [strB (rdTxt most s a e).1])
def ldE (s : Bs) : Nat × Nat × Int := rdNum 1073741824 s 0 0
def ldF (s : Bs) : Bool × Nat × Int := rdFlag s (ldE s).2.1 (ldE s).2.2
def ldN (s : Bs) : Nat × Nat × Int := rdNum 32 s (ldF s).2.1 (ldF s).2.2
def ldH (most : Int) (s : Bs) : List ByteArray × Nat × Int := lkGo most s (ldN s).1 (ldN s).2.1 (ldN s).2.2 []
def ldLk (most : Int) (s : Bs) : Lk := ⟨(ldE s).1, (ldF s).1, (ldH most s).1⟩
def ldOk (most : Int) (s : Bs) : Prop := rdEnd s (ldH most s).2.1 (ldH most s).2.2 = 0 ∧ checkL (ldLk most s) = 0
instance (most : Int) (s : Bs) : Decidable (ldOk most s) := by unfold ldOk; infer_instance

theorem lkGo_zero (most : Int) (s : Bs) (a : Nat) (e : Int) (acc : List ByteArray) : lkGo most s 0 a e acc = (acc, a, e) := rfl
theorem lkGo_succ (most : Int) (s : Bs) (m a : Nat) (e : Int) (acc : List ByteArray) : lkGo most s (m + 1) a e acc = lkGo most s m (rdTxt most s a e).2.1 (rdTxt most s a e).2.2 (acc ++ [strB (rdTxt most s a e).1]) := rfl
theorem lkGo_le {most : Int} {s : Bs} : ∀ (m a : Nat) (e : Int) (acc : List ByteArray), a ≤ s.length → (lkGo most s m a e acc).2.1 ≤ s.length
  | 0, _, _, _, h => h
  | m + 1, _, _, _, h => lkGo_le m _ _ _ (rdTxt_le h)
theorem lkGo_len {most : Int} {s : Bs} : ∀ (m a : Nat) (e : Int) (acc : List ByteArray), (lkGo most s m a e acc).1.length = acc.length + m
  | 0, _, _, _ => rfl
  | m + 1, a, e, acc => by rw [lkGo_succ, lkGo_len m, List.length_append]; simp; omega
theorem lkGo_size {most : Int} {s : Bs} {B : Nat} (hB : s.length ≤ B) : ∀ (m a : Nat) (e : Int) (acc : List ByteArray), (∀ h ∈ acc, h.size ≤ B) → ∀ h ∈ (lkGo most s m a e acc).1, h.size ≤ B
  | 0, _, _, _, h => h
  | m + 1, a, e, acc, h => lkGo_size hB m _ _ _ (fun x hx => by
      rcases List.mem_append.1 hx with h1 | h1
      · exact h x h1
      · obtain rfl : x = strB (rdTxt most s a e).1 := by simpa using h1
        have : (rdTxt most s a e).1.length ≤ s.length := by
          unfold rdTxt
          split
          · simp
          · split
            · simp
            · unfold txtP
              split
              · simp
              · split
                · simp
                · split
                  · simp
                  · simp only [List.length_take, List.length_drop]; omega
        rw [strB_size]
        omega)
/-- What was read without an error was written. -/
theorem lkGo_inv {most : Int} {s : Bs} : ∀ (m a : Nat) (e : Int) (acc : List ByteArray), a ≤ s.length → (lkGo most s m a e acc).2.2 = 0 →
    e = 0 ∧ ∃ hs, (lkGo most s m a e acc).1 = acc ++ hs ∧ Got s a (lkGo most s m a e acc).2.1 (hs.flatMap (fun h => txtL h.data.toList))
  | 0, a, e, acc, ha, h => ⟨h, [], by simp [lkGo_zero], Got.nil ha⟩
  | m + 1, a, e, acc, ha, h => by
    rw [lkGo_succ] at h ⊢
    obtain ⟨h1, hs, h2, h3⟩ := lkGo_inv m _ _ _ (rdTxt_le ha) h
    obtain ⟨g1, g2, -⟩ := rdTxt_inv ha h1
    refine ⟨g1, strB (rdTxt most s a e).1 :: hs, by rw [h2, List.append_assoc]; rfl, ?_⟩
    rw [List.flatMap_cons]
    exact g2.app h3
/-- What was written is read. -/
theorem lkGo_enc {most : Int} {s : Bs} : ∀ (hs : List ByteArray) (a : Nat) (r : Bs) (acc : List ByteArray), s.drop a = hs.flatMap (fun h => txtL h.data.toList) ++ r → (∀ h ∈ hs, (h.size : Int) ≤ min most 16777216) →
    lkGo most s hs.length a 0 acc = (acc ++ hs, a + (hs.flatMap (fun h => txtL h.data.toList)).length, 0)
  | [], a, r, acc, _, _ => by simp [lkGo_zero]
  | h :: t, a, r, acc, hd, hz => by
    rw [List.flatMap_cons, List.append_assoc] at hd
    have h1 := hz h (by simp)
    have e := rdTxt_enc (most := most) hd (by rw [← ba_size]; exact h1)
    rw [List.length_cons, lkGo_succ, e]
    simp only
    rw [lkGo_enc t _ r _ (drop_app2 hd) (fun x hx => hz x (by simp [hx])), strB_of]
    simp [Nat.add_assoc]

theorem ldE_le (s : Bs) : (ldE s).2.1 ≤ s.length := rdNum_le (Nat.zero_le _)
theorem ldF_le (s : Bs) : (ldF s).2.1 ≤ s.length := rdFlag_le (ldE_le s)
theorem ldN_le (s : Bs) : (ldN s).2.1 ≤ s.length := rdNum_le (ldF_le s)
theorem ldH_le (most : Int) (s : Bs) : (ldH most s).2.1 ≤ s.length := lkGo_le _ _ _ _ (ldN_le s)

/-- What is decoded was encoded. -/
theorem ld_inv {most : Int} {s : Bs} (h : ldOk most s) : encLk (ldLk most s) = s := by
  obtain ⟨h1, -⟩ := h
  obtain ⟨eH, eL⟩ := rdEnd_zero (ldH_le most s) h1
  obtain ⟨e1, hs, e2, e3⟩ := lkGo_inv _ _ _ _ (ldN_le s) eH
  obtain ⟨f1, g3, -⟩ := rdNum_inv (ldF_le s) e1
  obtain ⟨f2, g2⟩ := rdFlag_inv (ldE_le s) f1
  obtain ⟨-, g1, -⟩ := rdNum_inv (most := 1073741824) (b := s) (Nat.zero_le _) f2
  have G := (((g1.app g2).app g3).app e3).eq
  rw [List.drop_zero, show (lkGo most s (ldN s).1 (ldN s).2.1 (ldN s).2.2 []).2.1 = s.length from eL, List.drop_length, List.append_nil] at G
  have hl : (ldH most s).1.length = (ldN s).1 := by
    have := lkGo_len (most := most) (s := s) (ldN s).1 (ldN s).2.1 (ldN s).2.2 []
    simpa [ldH] using this
  have hh : (ldH most s).1 = hs := by have := e2; simpa [ldH] using this
  unfold encLk ldLk
  simp only [Int.toNat_natCast]
  rw [hl, hh]
  refine Eq.trans ?_ G.symm
  simp only [List.append_assoc, List.cons_append, List.nil_append]
  rfl
/-- What is encoded is decoded. -/
theorem ld_enc {most : Int} {l : Lk} (hc : checkL l = 0) (hz : ∀ h ∈ l.holders, (h.size : Int) ≤ min most 16777216) : ldOk most (encLk l) ∧ ldLk most (encLk l) = l := by
  obtain ⟨p1, p2, p3⟩ := checkL_zero hc
  obtain ⟨ep, sh, hs⟩ := l
  dsimp only at p1 p2 p3 hz
  obtain ⟨k, rfl⟩ : ∃ k : Nat, ep = k := ⟨ep.toNat, by omega⟩
  have hE : encLk ⟨(k : Int), sh, hs⟩ = natL k ++ flagB sh :: (natL hs.length ++ hs.flatMap (fun h => txtL h.data.toList)) := by unfold encLk; simp
  generalize hS : encLk ⟨(k : Int), sh, hs⟩ = s at *
  have d0 : s.drop 0 = natL k ++ flagB sh :: (natL hs.length ++ hs.flatMap (fun h => txtL h.data.toList)) := by rw [List.drop_zero]; exact hE
  have eE : ldE s = (k, 0 + (natL k).length, 0) := rdNum_enc d0 (by omega) (by omega)
  have d1 := drop_app2 d0
  have eF : ldF s = (sh, 0 + (natL k).length + 1, 0) := by unfold ldF; rw [eE]; exact rdFlag_enc d1
  have d2 : s.drop (0 + (natL k).length + 1) = natL hs.length ++ hs.flatMap (fun h => txtL h.data.toList) := by rw [← List.drop_drop, d1]; rfl
  have eN : ldN s = (hs.length, 0 + (natL k).length + 1 + (natL hs.length).length, 0) := by unfold ldN; rw [eF]; exact rdNum_enc d2 (by omega) (by omega)
  have d3 := drop_app2 d2
  have eH : ldH most s = (hs, 0 + (natL k).length + 1 + (natL hs.length).length + (hs.flatMap (fun h => txtL h.data.toList)).length, 0) := by
    unfold ldH
    rw [eN]
    have := lkGo_enc (most := most) hs _ [] [] (by rw [List.append_nil]; exact d3) hz
    simpa using this
  have eL : ldLk most s = ⟨(k : Int), sh, hs⟩ := by unfold ldLk; rw [eE, eF, eH]
  refine ⟨⟨?_, by rw [eL]; exact hc⟩, eL⟩
  have hL := congrArg List.length hE
  simp only [List.length_append, List.length_cons] at hL
  have e1 : (ldH most s).2.1 = s.length := by rw [eH]; simp only; omega
  have e2 : (ldH most s).2.2 = 0 := by rw [eH]
  unfold rdEnd
  rw [e1, e2, if_pos rfl, if_neg (by omega)]
/-- The two limits of a text accept the same short texts. -/
theorem ld_most {most most' : Int} {s : Bs} (hs : (s.length : Int) ≤ min most' 16777216) (h : ldOk most s) : ldOk most' s ∧ ldLk most' s = ldLk most s := by
  have e := ld_inv h
  have key := ld_enc (most := most') h.2 (fun x hx => by
    have h1 : x.size ≤ s.length := lkGo_size (Nat.le_refl _) _ _ _ _ (fun _ h => by simp at h) x hx
    omega)
  rw [e] at key
  exact key
end Go.Proofs.YtfgecaphhdedcaaGreatDoor
