/-
  THE REFERENCE OF LAYER 5, WALKED: With. (Written by the program gen_refwith.py.)
-/
import Derived.Test.YtnbgfalhmnbefaaGreatDoorLaw
namespace Go.Proofs.YtnbgfalhmnbefaaGreatDoor
open Go.RowKit

theorem below2 {B : Nat} {w w' : World} (h : Below B w w') (hB : B ≤ w'.heap.size) (o o' : Obj) : Below B w ((w'.alloc o).alloc o') := (h.alloc hB o).alloc (by simp; omega) o'
theorem RowE.cutA {w W' : World} {A : Option Addr} {n c : Nat} {l : EL} (h : RowE w A n c l) (hb : Below w.heap.size w W') (k : Nat) (hk : k ≤ l.length) :
    ∀ ad, A.map (fun x => x.add (k * 6)) = some ad → ∀ j u, ((l.drop k).flatMap eCells)[j]? = some u → W'.cell? (ad.add j) = some u := by
  intro ad had j u hu
  obtain ⟨_, _, hel⟩ := h.1.elem eCells_len (by decide)
  rcases hel with rfl | ⟨b, off, rfl, _, _⟩
  · simp at hu
  · simp only [Option.map_some, Option.some.injEq] at had
    subst had
    rw [addr_add]
    exact h.cut hb k (l.length - k) (by omega) j u (by rw [List.take_of_length_le (by rw [List.length_drop]; omega)]; exact hu)
theorem RowE.cutB {w W' : World} {A : Option Addr} {n c : Nat} {l : EL} (h : RowE w A n c l) (hb : Below w.heap.size w W') (k : Nat) (hk : k ≤ l.length) (hc : l.length ≤ c) :
    ∀ ad, (if c = k then A else A.map (fun x => x.add (k * 6))) = some ad → ∀ j u, ((l.drop k).flatMap eCells)[j]? = some u → W'.cell? (ad.add j) = some u := by
  intro ad had j u hu
  split at had
  · rw [List.drop_of_length_le (by omega)] at hu
    simp at hu
  · exact h.cutA hb k hk ad had j u hu
theorem mapA_none {A : Option Addr} {f : Addr → Addr} (h : A.map f = none) : A = none := by cases A <;> simp_all
theorem ifA_none {A : Option Addr} {f : Addr → Addr} {p : Prop} [Decidable p] (h : (if p then A else A.map f) = none) : A = none := by
  split at h
  · exact h
  · exact mapA_none h
theorem own_fresh {w : World} {base g : Nat} {e : TypeId} {size : Nat} (h : Blk w g e #[]) (hb : base ≤ g) : w.ownsRow base e size (.slice (some ⟨g, 0, none⟩) 0 0) 0 [] :=
  ⟨by simp, .inr ⟨g, 0, #[], rfl, hb, h, Nat.le_refl _, by unfold maxLen; omega, by simp, by simp⟩⟩
theorem cells_blk {w : World} {g : Nat} {t : TypeId} {cs : Array Value} (h : Blk w g t cs) : ∀ j u, cs.toList[j]? = some u → w.cell? ((⟨g, 0, none⟩ : Addr).add j) = some u := by
  intro j u hu
  rw [addr_add, Nat.zero_add, h.cell, ← Array.getElem?_toList]; exact hu

set_option maxRecDepth 100000 in
set_option maxHeartbeats 3200000 in
theorem refWith_any (A : Option Addr) (n c : Nat) (l : EL) (nm : Nm) (v : ByteArray) (hl : smallE l) (hn : nm.owner.size ≤ 1000000) (ht : nm.text.size ≤ 1000000) (hlen : l.length ≤ 1000000) (w : World) (hs : RowE w A n c l) :
    Calls Tryz.prog 54 #[.slice A n c, nmV nm, .string v] w (RPost w (withRE l nm v) (withL l nm v)) := by
  obtain ⟨rfl, -, hel⟩ := hs.1.elem eCells_len (by decide)
  have hF := fun w' (hb : Below w.heap.size w w') => find_any A l.length c l nm hl hn w' ((hs.below hb).1)
  have hC := fun w' => refCheck_any nm hn ht w'
  have hk : findL l nm ≤ l.length := findL_le l nm
  have hki' : isL l nm = true → findL l nm < l.length := by
    intro h
    by_cases h' : findL l nm < l.length
    · exact h'
    · rw [isL, List.getElem?_eq_none (by omega)] at h; cases h
  have HE := hid (show withRE l nm v = if checkN nm ≠ 0 then 12 else if 65536 < v.size then 5 else if isL l nm = false ∧ 65536 ≤ l.length then 9 else 0 from rfl)
  have HL := hid (show withL l nm v = l.take (findL l nm) ++ (nm, v) :: (if isL l nm then l.drop (findL l nm + 1) else l.drop (findL l nm)) from rfl)
  unfold nmV at hF hC
  generalize findL l nm = k at *
  generalize isL l nm = is at *
  generalize checkN nm = ce at *
  generalize withRE l nm v = E at *
  generalize withL l nm v = WL at *
  have HF := hid hF; have HC := hid hC; have HS := hid hs
  have hcap : l.length ≤ c := hs.1.2.1
  have hcm : c ≤ maxLen := hs.1.2.2.1
  clear hF hC hs
  unfold nmV
  go_enter Tryz.func54, Tryz.ntmps54
  go_upto_region 1 with fail
  generalize hW : w.alloc (.cells #[.int .i64 nm.kind, .string nm.owner, .int .i64 nm.number, .int .i64 nm.index, .string nm.text] 24) = W
  have b0 : Blk W w.heap.size 24 #[.int .i64 nm.kind, .string nm.owner, .int .i64 nm.number, .int .i64 nm.index, .string nm.text] := by rw [← hW]; exact Blk.new _ _ _
  have hB0 : Below w.heap.size w W := by rw [← hW]; exact (Below.refl _ _).alloc (Nat.le_refl _) _
  have lW := b0.lt
  clear hW
  have KK : ∀ w', Below W.heap.size W w' → w'.cell? ⟨w.heap.size, 0, none⟩ = some (.int .i64 nm.kind) ∧ w'.cell? ⟨w.heap.size, 1, none⟩ = some (.string nm.owner) ∧ w'.cell? ⟨w.heap.size, 2, none⟩ = some (.int .i64 nm.number) ∧ w'.cell? ⟨w.heap.size, 3, none⟩ = some (.int .i64 nm.index) ∧ w'.cell? ⟨w.heap.size, 4, none⟩ = some (.string nm.text) := by
    intro w' hb'
    have cc := b0.below hb' lW
    exact ⟨cc.cell 0, cc.cell 1, cc.cell 2, cc.cell 3, cc.cell 4⟩
  have K := hid KK
  obtain ⟨q0, q1, q2, q3, q4⟩ := KK W (Below.refl _ _)
  clear KK b0
  by_cases hc : ce = 0
  · subst hc
    by_cases hv : 65536 < v.size
    · have hv' : (65536 : Int) < (v.size : Int) := by omega
      have HZ := hid (show E = 5 by rw [HE.out, if_neg (by simp), if_pos hv])
      clear hv hlen hki' hk hcap hcm hel
      go_wp2_with (first
        | (go_at_call 45; refine (HF.out _ hB0).mono ?_; rintro e w1 ⟨rfl, hb1⟩; have hB1 := hB0.trans (hb1.mono hB0.size); obtain ⟨r0, r1, r2, r3, r4⟩ := K.out _ (hb1.mono (by omega)))
        | (go_at_call 102; refine (HC.out _).mono ?_; rintro e w2 ⟨rfl, hb2⟩; have hB2 := hB1.trans (hb2.mono hB1.size)))
      all_goals go_ret2
      all_goals exact ⟨none, 0, 0, by rw [HZ.out]; rfl, fun _ => ⟨rfl, rfl, rfl⟩, fun h => absurd (HZ.out.symm.trans h) (by decide), hB2⟩
    · have hv' : (v.size : Int) ≤ 65536 := by omega
      by_cases hf : is = false ∧ 65536 ≤ l.length
      · have HZ := hid (show E = 9 by rw [HE.out, if_neg (by simp), if_neg hv, if_pos hf])
        obtain ⟨rfl, hf2⟩ := hf
        have hf3 : (65536 : Int) ≤ (l.length : Int) := by omega
        clear hv hlen hki' hk hcap hcm hel hf2
        go_wp2_with (first
          | (go_at_call 45; refine (HF.out _ hB0).mono ?_; rintro e w1 ⟨rfl, hb1⟩; have hB1 := hB0.trans (hb1.mono hB0.size); obtain ⟨r0, r1, r2, r3, r4⟩ := K.out _ (hb1.mono (by omega)))
          | (go_at_call 102; refine (HC.out _).mono ?_; rintro e w2 ⟨rfl, hb2⟩; have hB2 := hB1.trans (hb2.mono hB1.size)))
        all_goals go_ret2
        all_goals exact ⟨none, 0, 0, by rw [HZ.out]; rfl, fun _ => ⟨rfl, rfl, rfl⟩, fun h => absurd (HZ.out.symm.trans h) (by decide), hB2⟩
      · have HZ := hid (show E = 0 by rw [HE.out, if_neg (by simp), if_neg hv, if_neg hf])
        cases is with
        | true =>
          have hkl := hki' rfl
          clear hf hki'
          go_upto_region 8 with (first | (go_at_call 45; refine (HF.out _ hB0).mono ?_; rintro e w1 ⟨rfl, hb1⟩; have hB1 := hB0.trans (hb1.mono hB0.size); obtain ⟨r0, r1, r2, r3, r4⟩ := K.out _ (hb1.mono (by omega))) | (go_at_call 102; refine (HC.out _).mono ?_; rintro e w2 ⟨rfl, hb2⟩; have hB2 := hB1.trans (hb2.mono hB1.size); obtain ⟨s0, s1, s2, s3, s4⟩ := K.out _ ((hb1.mono (by omega)).trans (hb2.mono (by have := hb1.size; omega)))))
          obtain ⟨i0, hi, hz0, hz1, hz2⟩ := info_parts Tryz.info_E
          have hkc : k ≤ c := by omega
          have NEWS := hid (show ∀ w', Below w.heap.size w w' → ∀ ad, A = some ad → ∀ j u, ((l.take k).flatMap eCells)[j]? = some u → w'.cell? (ad.add j) = some u from by
            intro w' hb' ad had j u hu
            rcases hel with rfl | ⟨b, off, rfl, -, -⟩
            · simp at hu
            · cases had
              have := HS.out.cut hb' 0 k (by omega) j u (by rw [List.drop_zero]; exact hu)
              simpa using this)
          have HAN := hid (show A = none → k = 0 ∧ c = 0 from fun e => ⟨by have := HS.out.2 e; omega, HS.out.2 e⟩)
          have hBW : Below W.heap.size W w2 := (hb1.mono (by omega)).trans (hb2.mono (by have := hb1.size; omega))
          have hsz2 : W.heap.size ≤ w2.heap.size := hBW.size
          have hlt2 : w.heap.size < w2.heap.size := by omega
          have hBW0 := hB0.size
          go_region_held3 (fun w' => w'.cell? ⟨w.heap.size, 0, none⟩ = some (.int .i64 nm.kind) ∧ w'.cell? ⟨w.heap.size, 1, none⟩ = some (.string nm.owner) ∧ w'.cell? ⟨w.heap.size, 2, none⟩ = some (.int .i64 nm.number) ∧ w'.cell? ⟨w.heap.size, 3, none⟩ = some (.int .i64 nm.index) ∧ w'.cell? ⟨w.heap.size, 4, none⟩ = some (.string nm.text)) (first | go_keep | exact K.out _ hB9 | exact K.out _ hB4 | (refine K.out _ ?_; (first | exact hB4 | exact hB4.alloc hB4.size _ | exact (hB4.alloc hB4.size _).drew | exact (hBW.alloc hsz2 _).drew | exact (below2 hBW hsz2 _ _).drew)) | (refine K.out _ ?_; (first | exact (hBW.alloc hsz2 _).drew | exact (below2 hBW hsz2 _ _).drew | exact hBW.alloc hsz2 _ | exact below2 hBW hsz2 _ _))) (first | (refine step_append_gen _ ?_ (.tmp 33) (.tmp 36) 27 ?_ W.heap.size 40 i0 (.agg #[.int .i64 0, .string ⟨#[]⟩, .int .i64 0, .int .i64 0, .string ⟨#[]⟩, .string ⟨#[]⟩]) 6 72 Tryz.underlying27 hi hz0 hz1 hz2 ?_ (by decide) (.slice (some ⟨w2.heap.size, 0, none⟩) 0 0) 0 [] ?_ ?_ A k c ((l.take k).flatMap eCells) ?_ ?_ HAN.out ?_ (eCells_one _) ?_ ?_ ?_ ?_; (focus (rfl; done)); (focus (rfl; done)); (focus (rfl; done)); (focus (rfl; done)); (focus (refine own_fresh ?_ ?_; (focus ((first | exact Blk.new _ _ _ | exact (Blk.new _ _ _).drew | exact (Blk.new _ _ _).alloc _ | exact ((Blk.new _ _ _).alloc _).drew | exact Blk.new_ _ _ _ (by simp) | exact (Blk.new_ _ _ _ (by simp)).drew); done)); omega; done)); (focus (rfl; done)); (focus (rw [flat_len eCells 6 eCells_len, List.length_take]; omega; done)); (focus (refine NEWS.out _ (hB0.trans (Below.mono ?_ hB0.size)); (first | exact (hBW.alloc hsz2 _).drew | exact (below2 hBW hsz2 _ _).drew | exact hBW.alloc hsz2 _ | exact below2 hBW hsz2 _ _); done)); (focus (unfold maxLen; omega; done)); (focus (omega; done)); (focus (simp <;> omega; done)); intro v4 w4 hown4 hgrow4; have hB4 : Below W.heap.size W w4 := by (refine Below.grown ?_ hgrow4 ?_ ?_; (focus ((first | exact (hBW.alloc hsz2 _).drew | exact (below2 hBW hsz2 _ _).drew | exact hBW.alloc hsz2 _ | exact below2 hBW hsz2 _ _); done)); (focus (simp <;> omega; done)); exact (fun j ej => (by have h7 : w2.heap.size = j := (by simpa [Value.ownBlock] using ej); omega)))) | (refine step_append_gen _ ?_ (.tmp 33) (.tmp 36) 27 ?_ W.heap.size 40 i0 (.agg #[.int .i64 0, .string ⟨#[]⟩, .int .i64 0, .int .i64 0, .string ⟨#[]⟩, .string ⟨#[]⟩]) 6 72 Tryz.underlying27 hi hz0 hz1 hz2 ?_ (by decide) (.slice (some ⟨w2.heap.size + 1, 0, none⟩) 0 0) 0 [] ?_ ?_ A k c ((l.take k).flatMap eCells) ?_ ?_ HAN.out ?_ (eCells_one _) ?_ ?_ ?_ ?_; (focus (rfl; done)); (focus (rfl; done)); (focus (rfl; done)); (focus (rfl; done)); (focus (refine own_fresh ?_ ?_; (focus ((first | exact Blk.new _ _ _ | exact (Blk.new _ _ _).drew | exact (Blk.new _ _ _).alloc _ | exact ((Blk.new _ _ _).alloc _).drew | exact Blk.new_ _ _ _ (by simp) | exact (Blk.new_ _ _ _ (by simp)).drew); done)); omega; done)); (focus (rfl; done)); (focus (rw [flat_len eCells 6 eCells_len, List.length_take]; omega; done)); (focus (refine NEWS.out _ (hB0.trans (Below.mono ?_ hB0.size)); (first | exact (hBW.alloc hsz2 _).drew | exact (below2 hBW hsz2 _ _).drew | exact hBW.alloc hsz2 _ | exact below2 hBW hsz2 _ _); done)); (focus (unfold maxLen; omega; done)); (focus (omega; done)); (focus (simp <;> omega; done)); intro v4 w4 hown4 hgrow4; have hB4 : Below W.heap.size W w4 := by (refine Below.grown ?_ hgrow4 ?_ ?_; (focus ((first | exact (hBW.alloc hsz2 _).drew | exact (below2 hBW hsz2 _ _).drew | exact hBW.alloc hsz2 _ | exact below2 hBW hsz2 _ _); done)); (focus (simp <;> omega; done)); exact (fun j ej => (by have h7 : w2.heap.size + 1 = j := (by simpa [Value.ownBlock] using ej); omega)))) | (refine step_append_gen _ ?_ (.tmp 37) (.tmp 41) 27 ?_ W.heap.size 40 i0 (.agg #[.int .i64 0, .string ⟨#[]⟩, .int .i64 0, .int .i64 0, .string ⟨#[]⟩, .string ⟨#[]⟩]) 6 72 Tryz.underlying27 hi hz0 hz1 hz2 ?_ (by decide) v4 (0 + k) ([] ++ (l.take k).flatMap eCells) ?_ (hown4.alloc _) (some ⟨w4.heap.size, 0, none⟩) 1 1 (eCells (nm, v)) ?_ ?_ (fun e => nomatch e) ?_ (by simp [eCells, nmCells, Value.oneCell']) ?_ ?_ ?_ ?_; (focus (rfl; done)); (focus (rfl; done)); (focus (rfl; done)); (focus (rfl; done)); (focus (rfl; done)); (focus (rfl; done)); (focus (intro ad e; cases e; first | exact cells_new _ #[.int .i64 nm.kind, .string nm.owner, .int .i64 nm.number, .int .i64 nm.index, .string nm.text, .string v] _ | (refine cells_blk (Blk.grown (cs := #[.int .i64 nm.kind, .string nm.owner, .int .i64 nm.number, .int .i64 nm.index, .string nm.text, .string v]) (t := 40) ?_ hgrow4 ?_); (focus ((first | exact Blk.new _ _ _ | exact (Blk.new _ _ _).drew | exact (Blk.new _ _ _).alloc _ | exact ((Blk.new _ _ _).alloc _).drew | exact Blk.new_ _ _ _ (by simp) | exact (Blk.new_ _ _ _ (by simp)).drew); done)); simp [Value.ownBlock]); done)); (focus (unfold maxLen; omega; done)); (focus (omega; done)); (focus (have := hB4.size; (simp <;> omega); done)); intro v9 w9 hown9 hgrow9; have hB9 : Below W.heap.size W w9 := by (refine Below.grown ?_ hgrow9 ?_ ?_; (focus ((first | exact hB4 | exact hB4.alloc hB4.size _ | exact (hB4.alloc hB4.size _).drew | exact (hBW.alloc hsz2 _).drew | exact (below2 hBW hsz2 _ _).drew); done)); (focus (have := hB4.size; (simp <;> omega); done)); exact (fun j ej => (hown4.lt j ej).1))) | (refine step_append_gen _ ?_ (.tmp 37) (.tmp 41) 27 ?_ W.heap.size 40 i0 (.agg #[.int .i64 0, .string ⟨#[]⟩, .int .i64 0, .int .i64 0, .string ⟨#[]⟩, .string ⟨#[]⟩]) 6 72 Tryz.underlying27 hi hz0 hz1 hz2 ?_ (by decide) v4 (0 + k) ([] ++ (l.take k).flatMap eCells) ?_ hown4 (some ⟨w2.heap.size + 1, 0, none⟩) 1 1 (eCells (nm, v)) ?_ ?_ (fun e => nomatch e) ?_ (by simp [eCells, nmCells, Value.oneCell']) ?_ ?_ ?_ ?_; (focus (rfl; done)); (focus (rfl; done)); (focus (rfl; done)); (focus (rfl; done)); (focus (rfl; done)); (focus (rfl; done)); (focus (intro ad e; cases e; first | exact cells_new _ #[.int .i64 nm.kind, .string nm.owner, .int .i64 nm.number, .int .i64 nm.index, .string nm.text, .string v] _ | (refine cells_blk (Blk.grown (cs := #[.int .i64 nm.kind, .string nm.owner, .int .i64 nm.number, .int .i64 nm.index, .string nm.text, .string v]) (t := 40) ?_ hgrow4 ?_); (focus ((first | exact Blk.new _ _ _ | exact (Blk.new _ _ _).drew | exact (Blk.new _ _ _).alloc _ | exact ((Blk.new _ _ _).alloc _).drew | exact Blk.new_ _ _ _ (by simp) | exact (Blk.new_ _ _ _ (by simp)).drew); done)); simp [Value.ownBlock]); done)); (focus (unfold maxLen; omega; done)); (focus (omega; done)); (focus (have := hB4.size; (simp <;> omega); done)); intro v9 w9 hown9 hgrow9; have hB9 : Below W.heap.size W w9 := by (refine Below.grown ?_ hgrow9 ?_ ?_; (focus ((first | exact hB4 | exact hB4.alloc hB4.size _ | exact (hB4.alloc hB4.size _).drew | exact (hBW.alloc hsz2 _).drew | exact (below2 hBW hsz2 _ _).drew); done)); (focus (have := hB4.size; (simp <;> omega); done)); exact (fun j ej => (hown4.lt j ej).1))) | (refine step_append_gen _ ?_ (.tmp 37) (.tmp 41) 27 ?_ W.heap.size 40 i0 (.agg #[.int .i64 0, .string ⟨#[]⟩, .int .i64 0, .int .i64 0, .string ⟨#[]⟩, .string ⟨#[]⟩]) 6 72 Tryz.underlying27 hi hz0 hz1 hz2 ?_ (by decide) v4 (0 + k) ([] ++ (l.take k).flatMap eCells) ?_ hown4 (some ⟨w2.heap.size, 0, none⟩) 1 1 (eCells (nm, v)) ?_ ?_ (fun e => nomatch e) ?_ (by simp [eCells, nmCells, Value.oneCell']) ?_ ?_ ?_ ?_; (focus (rfl; done)); (focus (rfl; done)); (focus (rfl; done)); (focus (rfl; done)); (focus (rfl; done)); (focus (rfl; done)); (focus (intro ad e; cases e; first | exact cells_new _ #[.int .i64 nm.kind, .string nm.owner, .int .i64 nm.number, .int .i64 nm.index, .string nm.text, .string v] _ | (refine cells_blk (Blk.grown (cs := #[.int .i64 nm.kind, .string nm.owner, .int .i64 nm.number, .int .i64 nm.index, .string nm.text, .string v]) (t := 40) ?_ hgrow4 ?_); (focus ((first | exact Blk.new _ _ _ | exact (Blk.new _ _ _).drew | exact (Blk.new _ _ _).alloc _ | exact ((Blk.new _ _ _).alloc _).drew | exact Blk.new_ _ _ _ (by simp) | exact (Blk.new_ _ _ _ (by simp)).drew); done)); simp [Value.ownBlock]); done)); (focus (unfold maxLen; omega; done)); (focus (omega; done)); (focus (have := hB4.size; (simp <;> omega); done)); intro v9 w9 hown9 hgrow9; have hB9 : Below W.heap.size W w9 := by (refine Below.grown ?_ hgrow9 ?_ ?_; (focus ((first | exact hB4 | exact hB4.alloc hB4.size _ | exact (hB4.alloc hB4.size _).drew | exact (hBW.alloc hsz2 _).drew | exact (below2 hBW hsz2 _ _).drew); done)); (focus (have := hB4.size; (simp <;> omega); done)); exact (fun j ej => (hown4.lt j ej).1))))
          all_goals have hBw9 := hB0.trans (hB9.mono hB0.size)
          all_goals simp only [Nat.zero_add, List.nil_append] at hown9
          all_goals have H9 := hid hown9
          all_goals clear hown9 hgrow9 hown4 hgrow4 hB4
          all_goals have hk1 : IntKind.i64.wrap ((k : Int) + 1) = (k : Int) + 1 := IntWalk.i64_in _ (by omega)
          all_goals have hk2 : ((k : Int) + 1).toNat = k + 1 := by omega
          all_goals have hk3 : (k : Int) + 1 ≤ (l.length : Int) := by omega
          all_goals have hk4 : (0 : Int) ≤ (k : Int) + 1 := by omega
          all_goals have HAN2 := hid (show A = none → l.length - (k + 1) = 0 ∧ c - (k + 1) = 0 from fun e => by have := HS.out.2 e; omega)
          all_goals go_upto_region 11 with fail
          all_goals go_wp2_with (first | (at_builtin; refine wpList_append_gen _ ?_ (.tmp 46) (.tmp 49) 27 ?_ W.heap.size 40 i0 (.agg #[.int .i64 0, .string ⟨#[]⟩, .int .i64 0, .int .i64 0, .string ⟨#[]⟩, .string ⟨#[]⟩]) 6 72 Tryz.underlying27 hi hz0 hz1 hz2 ?_ (by decide) v9 (k + 1) ((l.take k).flatMap eCells ++ eCells (nm, v)) ?_ H9.out (if c = (k + 1) then A else A.map (fun x => x.add ((k + 1) * 6))) (l.length - (k + 1)) (c - (k + 1)) ((l.drop (k + 1)).flatMap eCells) ?_ ?_ ?_ ?_ (eCells_one _) ?_ ?_ ?_ ?_; (focus (rfl; done)); (focus (rfl; done)); (focus (rfl; done)); (focus (rfl; done)); (focus (rfl; done)); (focus (rw [flat_len eCells 6 eCells_len, List.length_drop]; done)); (focus (intro e; first | exact HAN2.out (ifA_none e) | exact HAN2.out (mapA_none e) | exact HAN2.out e; done)); (focus (exact RowE.cutB HS.out hBw9 (k + 1) (by omega) hcap; done)); (focus (unfold maxLen; omega; done)); (focus (omega; done)); (focus (exact hB9.size; done)); intro v7 w7 hown7 hgrow7) | (at_builtin; refine wpList_append_gen _ ?_ (.tmp 46) (.tmp 49) 27 ?_ W.heap.size 40 i0 (.agg #[.int .i64 0, .string ⟨#[]⟩, .int .i64 0, .int .i64 0, .string ⟨#[]⟩, .string ⟨#[]⟩]) 6 72 Tryz.underlying27 hi hz0 hz1 hz2 ?_ (by decide) v9 (k + 1) ((l.take k).flatMap eCells ++ eCells (nm, v)) ?_ H9.out (A.map (fun x => x.add ((k + 1) * 6))) (l.length - (k + 1)) (c - (k + 1)) ((l.drop (k + 1)).flatMap eCells) ?_ ?_ ?_ ?_ (eCells_one _) ?_ ?_ ?_ ?_; (focus (rfl; done)); (focus (rfl; done)); (focus (rfl; done)); (focus (rfl; done)); (focus (rfl; done)); (focus (rw [flat_len eCells 6 eCells_len, List.length_drop]; done)); (focus (intro e; first | exact HAN2.out (ifA_none e) | exact HAN2.out (mapA_none e) | exact HAN2.out e; done)); (focus (exact RowE.cutA HS.out hBw9 (k + 1) (by omega); done)); (focus (unfold maxLen; omega; done)); (focus (omega; done)); (focus (exact hB9.size; done)); intro v7 w7 hown7 hgrow7) | (at_builtin; refine wpList_append_gen _ ?_ (.tmp 46) (.tmp 49) 27 ?_ W.heap.size 40 i0 (.agg #[.int .i64 0, .string ⟨#[]⟩, .int .i64 0, .int .i64 0, .string ⟨#[]⟩, .string ⟨#[]⟩]) 6 72 Tryz.underlying27 hi hz0 hz1 hz2 ?_ (by decide) v9 (k + 1) ((l.take k).flatMap eCells ++ eCells (nm, v)) ?_ H9.out (A) (l.length - (k + 1)) (c - (k + 1)) ((l.drop (k + 1)).flatMap eCells) ?_ ?_ ?_ ?_ (eCells_one _) ?_ ?_ ?_ ?_; (focus (rfl; done)); (focus (rfl; done)); (focus (rfl; done)); (focus (rfl; done)); (focus (rfl; done)); (focus (rw [flat_len eCells 6 eCells_len, List.length_drop]; done)); (focus (intro e; first | exact HAN2.out (ifA_none e) | exact HAN2.out (mapA_none e) | exact HAN2.out e; done)); (focus ((intro ad _ j u hu; rw [List.drop_of_length_le (by omega)] at hu; simp at hu); done)); (focus (unfold maxLen; omega; done)); (focus (omega; done)); (focus (exact hB9.size; done)); intro v7 w7 hown7 hgrow7))
          all_goals have hrows : ((l.take k).flatMap eCells ++ eCells (nm, v)) ++ (l.drop (k + 1)).flatMap eCells = WL.flatMap eCells := by rw [HL.out]; simp
          all_goals rw [hrows] at hown7
          all_goals obtain ⟨A7, c7, rfl, hr7⟩ := RowE.of_own hown7
          all_goals have hB7 := hB0.trans (Below.mono (Below.grown hB9 hgrow7 hB9.size (fun j ej => (H9.out.lt j ej).1)) hB0.size)
          all_goals clear hown7 hrows hgrow7
          all_goals go_wp2_with fail
          all_goals go_ret2
          all_goals exact ⟨A7, _, c7, by rw [HZ.out]; rfl, fun h => absurd HZ.out h, fun _ => hr7, hB7⟩
        | false =>
          have hf3 : decide ((65536 : Int) ≤ (l.length : Int)) = false := by have : ¬ 65536 ≤ l.length := fun h => hf ⟨rfl, h⟩; rw [decide_eq_false_iff_not]; omega
          clear hf hki'
          go_upto_region 8 with (first | (go_at_call 45; refine (HF.out _ hB0).mono ?_; rintro e w1 ⟨rfl, hb1⟩; have hB1 := hB0.trans (hb1.mono hB0.size); obtain ⟨r0, r1, r2, r3, r4⟩ := K.out _ (hb1.mono (by omega))) | (go_at_call 102; refine (HC.out _).mono ?_; rintro e w2 ⟨rfl, hb2⟩; have hB2 := hB1.trans (hb2.mono hB1.size); obtain ⟨s0, s1, s2, s3, s4⟩ := K.out _ ((hb1.mono (by omega)).trans (hb2.mono (by have := hb1.size; omega)))))
          obtain ⟨i0, hi, hz0, hz1, hz2⟩ := info_parts Tryz.info_E
          have hkc : k ≤ c := by omega
          have NEWS := hid (show ∀ w', Below w.heap.size w w' → ∀ ad, A = some ad → ∀ j u, ((l.take k).flatMap eCells)[j]? = some u → w'.cell? (ad.add j) = some u from by
            intro w' hb' ad had j u hu
            rcases hel with rfl | ⟨b, off, rfl, -, -⟩
            · simp at hu
            · cases had
              have := HS.out.cut hb' 0 k (by omega) j u (by rw [List.drop_zero]; exact hu)
              simpa using this)
          have HAN := hid (show A = none → k = 0 ∧ c = 0 from fun e => ⟨by have := HS.out.2 e; omega, HS.out.2 e⟩)
          have hBW : Below W.heap.size W w2 := (hb1.mono (by omega)).trans (hb2.mono (by have := hb1.size; omega))
          have hsz2 : W.heap.size ≤ w2.heap.size := hBW.size
          have hlt2 : w.heap.size < w2.heap.size := by omega
          have hBW0 := hB0.size
          go_region_held3 (fun w' => w'.cell? ⟨w.heap.size, 0, none⟩ = some (.int .i64 nm.kind) ∧ w'.cell? ⟨w.heap.size, 1, none⟩ = some (.string nm.owner) ∧ w'.cell? ⟨w.heap.size, 2, none⟩ = some (.int .i64 nm.number) ∧ w'.cell? ⟨w.heap.size, 3, none⟩ = some (.int .i64 nm.index) ∧ w'.cell? ⟨w.heap.size, 4, none⟩ = some (.string nm.text)) (first | go_keep | exact K.out _ hB9 | exact K.out _ hB4 | (refine K.out _ ?_; (first | exact hB4 | exact hB4.alloc hB4.size _ | exact (hB4.alloc hB4.size _).drew | exact (hBW.alloc hsz2 _).drew | exact (below2 hBW hsz2 _ _).drew)) | (refine K.out _ ?_; (first | exact (hBW.alloc hsz2 _).drew | exact (below2 hBW hsz2 _ _).drew | exact hBW.alloc hsz2 _ | exact below2 hBW hsz2 _ _))) (first | (refine step_append_gen _ ?_ (.tmp 33) (.tmp 36) 27 ?_ W.heap.size 40 i0 (.agg #[.int .i64 0, .string ⟨#[]⟩, .int .i64 0, .int .i64 0, .string ⟨#[]⟩, .string ⟨#[]⟩]) 6 72 Tryz.underlying27 hi hz0 hz1 hz2 ?_ (by decide) (.slice (some ⟨w2.heap.size, 0, none⟩) 0 0) 0 [] ?_ ?_ A k c ((l.take k).flatMap eCells) ?_ ?_ HAN.out ?_ (eCells_one _) ?_ ?_ ?_ ?_; (focus (rfl; done)); (focus (rfl; done)); (focus (rfl; done)); (focus (rfl; done)); (focus (refine own_fresh ?_ ?_; (focus ((first | exact Blk.new _ _ _ | exact (Blk.new _ _ _).drew | exact (Blk.new _ _ _).alloc _ | exact ((Blk.new _ _ _).alloc _).drew | exact Blk.new_ _ _ _ (by simp) | exact (Blk.new_ _ _ _ (by simp)).drew); done)); omega; done)); (focus (rfl; done)); (focus (rw [flat_len eCells 6 eCells_len, List.length_take]; omega; done)); (focus (refine NEWS.out _ (hB0.trans (Below.mono ?_ hB0.size)); (first | exact (hBW.alloc hsz2 _).drew | exact (below2 hBW hsz2 _ _).drew | exact hBW.alloc hsz2 _ | exact below2 hBW hsz2 _ _); done)); (focus (unfold maxLen; omega; done)); (focus (omega; done)); (focus (simp <;> omega; done)); intro v4 w4 hown4 hgrow4; have hB4 : Below W.heap.size W w4 := by (refine Below.grown ?_ hgrow4 ?_ ?_; (focus ((first | exact (hBW.alloc hsz2 _).drew | exact (below2 hBW hsz2 _ _).drew | exact hBW.alloc hsz2 _ | exact below2 hBW hsz2 _ _); done)); (focus (simp <;> omega; done)); exact (fun j ej => (by have h7 : w2.heap.size = j := (by simpa [Value.ownBlock] using ej); omega)))) | (refine step_append_gen _ ?_ (.tmp 33) (.tmp 36) 27 ?_ W.heap.size 40 i0 (.agg #[.int .i64 0, .string ⟨#[]⟩, .int .i64 0, .int .i64 0, .string ⟨#[]⟩, .string ⟨#[]⟩]) 6 72 Tryz.underlying27 hi hz0 hz1 hz2 ?_ (by decide) (.slice (some ⟨w2.heap.size + 1, 0, none⟩) 0 0) 0 [] ?_ ?_ A k c ((l.take k).flatMap eCells) ?_ ?_ HAN.out ?_ (eCells_one _) ?_ ?_ ?_ ?_; (focus (rfl; done)); (focus (rfl; done)); (focus (rfl; done)); (focus (rfl; done)); (focus (refine own_fresh ?_ ?_; (focus ((first | exact Blk.new _ _ _ | exact (Blk.new _ _ _).drew | exact (Blk.new _ _ _).alloc _ | exact ((Blk.new _ _ _).alloc _).drew | exact Blk.new_ _ _ _ (by simp) | exact (Blk.new_ _ _ _ (by simp)).drew); done)); omega; done)); (focus (rfl; done)); (focus (rw [flat_len eCells 6 eCells_len, List.length_take]; omega; done)); (focus (refine NEWS.out _ (hB0.trans (Below.mono ?_ hB0.size)); (first | exact (hBW.alloc hsz2 _).drew | exact (below2 hBW hsz2 _ _).drew | exact hBW.alloc hsz2 _ | exact below2 hBW hsz2 _ _); done)); (focus (unfold maxLen; omega; done)); (focus (omega; done)); (focus (simp <;> omega; done)); intro v4 w4 hown4 hgrow4; have hB4 : Below W.heap.size W w4 := by (refine Below.grown ?_ hgrow4 ?_ ?_; (focus ((first | exact (hBW.alloc hsz2 _).drew | exact (below2 hBW hsz2 _ _).drew | exact hBW.alloc hsz2 _ | exact below2 hBW hsz2 _ _); done)); (focus (simp <;> omega; done)); exact (fun j ej => (by have h7 : w2.heap.size + 1 = j := (by simpa [Value.ownBlock] using ej); omega)))) | (refine step_append_gen _ ?_ (.tmp 37) (.tmp 41) 27 ?_ W.heap.size 40 i0 (.agg #[.int .i64 0, .string ⟨#[]⟩, .int .i64 0, .int .i64 0, .string ⟨#[]⟩, .string ⟨#[]⟩]) 6 72 Tryz.underlying27 hi hz0 hz1 hz2 ?_ (by decide) v4 (0 + k) ([] ++ (l.take k).flatMap eCells) ?_ (hown4.alloc _) (some ⟨w4.heap.size, 0, none⟩) 1 1 (eCells (nm, v)) ?_ ?_ (fun e => nomatch e) ?_ (by simp [eCells, nmCells, Value.oneCell']) ?_ ?_ ?_ ?_; (focus (rfl; done)); (focus (rfl; done)); (focus (rfl; done)); (focus (rfl; done)); (focus (rfl; done)); (focus (rfl; done)); (focus (intro ad e; cases e; first | exact cells_new _ #[.int .i64 nm.kind, .string nm.owner, .int .i64 nm.number, .int .i64 nm.index, .string nm.text, .string v] _ | (refine cells_blk (Blk.grown (cs := #[.int .i64 nm.kind, .string nm.owner, .int .i64 nm.number, .int .i64 nm.index, .string nm.text, .string v]) (t := 40) ?_ hgrow4 ?_); (focus ((first | exact Blk.new _ _ _ | exact (Blk.new _ _ _).drew | exact (Blk.new _ _ _).alloc _ | exact ((Blk.new _ _ _).alloc _).drew | exact Blk.new_ _ _ _ (by simp) | exact (Blk.new_ _ _ _ (by simp)).drew); done)); simp [Value.ownBlock]); done)); (focus (unfold maxLen; omega; done)); (focus (omega; done)); (focus (have := hB4.size; (simp <;> omega); done)); intro v9 w9 hown9 hgrow9; have hB9 : Below W.heap.size W w9 := by (refine Below.grown ?_ hgrow9 ?_ ?_; (focus ((first | exact hB4 | exact hB4.alloc hB4.size _ | exact (hB4.alloc hB4.size _).drew | exact (hBW.alloc hsz2 _).drew | exact (below2 hBW hsz2 _ _).drew); done)); (focus (have := hB4.size; (simp <;> omega); done)); exact (fun j ej => (hown4.lt j ej).1))) | (refine step_append_gen _ ?_ (.tmp 37) (.tmp 41) 27 ?_ W.heap.size 40 i0 (.agg #[.int .i64 0, .string ⟨#[]⟩, .int .i64 0, .int .i64 0, .string ⟨#[]⟩, .string ⟨#[]⟩]) 6 72 Tryz.underlying27 hi hz0 hz1 hz2 ?_ (by decide) v4 (0 + k) ([] ++ (l.take k).flatMap eCells) ?_ hown4 (some ⟨w2.heap.size + 1, 0, none⟩) 1 1 (eCells (nm, v)) ?_ ?_ (fun e => nomatch e) ?_ (by simp [eCells, nmCells, Value.oneCell']) ?_ ?_ ?_ ?_; (focus (rfl; done)); (focus (rfl; done)); (focus (rfl; done)); (focus (rfl; done)); (focus (rfl; done)); (focus (rfl; done)); (focus (intro ad e; cases e; first | exact cells_new _ #[.int .i64 nm.kind, .string nm.owner, .int .i64 nm.number, .int .i64 nm.index, .string nm.text, .string v] _ | (refine cells_blk (Blk.grown (cs := #[.int .i64 nm.kind, .string nm.owner, .int .i64 nm.number, .int .i64 nm.index, .string nm.text, .string v]) (t := 40) ?_ hgrow4 ?_); (focus ((first | exact Blk.new _ _ _ | exact (Blk.new _ _ _).drew | exact (Blk.new _ _ _).alloc _ | exact ((Blk.new _ _ _).alloc _).drew | exact Blk.new_ _ _ _ (by simp) | exact (Blk.new_ _ _ _ (by simp)).drew); done)); simp [Value.ownBlock]); done)); (focus (unfold maxLen; omega; done)); (focus (omega; done)); (focus (have := hB4.size; (simp <;> omega); done)); intro v9 w9 hown9 hgrow9; have hB9 : Below W.heap.size W w9 := by (refine Below.grown ?_ hgrow9 ?_ ?_; (focus ((first | exact hB4 | exact hB4.alloc hB4.size _ | exact (hB4.alloc hB4.size _).drew | exact (hBW.alloc hsz2 _).drew | exact (below2 hBW hsz2 _ _).drew); done)); (focus (have := hB4.size; (simp <;> omega); done)); exact (fun j ej => (hown4.lt j ej).1))) | (refine step_append_gen _ ?_ (.tmp 37) (.tmp 41) 27 ?_ W.heap.size 40 i0 (.agg #[.int .i64 0, .string ⟨#[]⟩, .int .i64 0, .int .i64 0, .string ⟨#[]⟩, .string ⟨#[]⟩]) 6 72 Tryz.underlying27 hi hz0 hz1 hz2 ?_ (by decide) v4 (0 + k) ([] ++ (l.take k).flatMap eCells) ?_ hown4 (some ⟨w2.heap.size, 0, none⟩) 1 1 (eCells (nm, v)) ?_ ?_ (fun e => nomatch e) ?_ (by simp [eCells, nmCells, Value.oneCell']) ?_ ?_ ?_ ?_; (focus (rfl; done)); (focus (rfl; done)); (focus (rfl; done)); (focus (rfl; done)); (focus (rfl; done)); (focus (rfl; done)); (focus (intro ad e; cases e; first | exact cells_new _ #[.int .i64 nm.kind, .string nm.owner, .int .i64 nm.number, .int .i64 nm.index, .string nm.text, .string v] _ | (refine cells_blk (Blk.grown (cs := #[.int .i64 nm.kind, .string nm.owner, .int .i64 nm.number, .int .i64 nm.index, .string nm.text, .string v]) (t := 40) ?_ hgrow4 ?_); (focus ((first | exact Blk.new _ _ _ | exact (Blk.new _ _ _).drew | exact (Blk.new _ _ _).alloc _ | exact ((Blk.new _ _ _).alloc _).drew | exact Blk.new_ _ _ _ (by simp) | exact (Blk.new_ _ _ _ (by simp)).drew); done)); simp [Value.ownBlock]); done)); (focus (unfold maxLen; omega; done)); (focus (omega; done)); (focus (have := hB4.size; (simp <;> omega); done)); intro v9 w9 hown9 hgrow9; have hB9 : Below W.heap.size W w9 := by (refine Below.grown ?_ hgrow9 ?_ ?_; (focus ((first | exact hB4 | exact hB4.alloc hB4.size _ | exact (hB4.alloc hB4.size _).drew | exact (hBW.alloc hsz2 _).drew | exact (below2 hBW hsz2 _ _).drew); done)); (focus (have := hB4.size; (simp <;> omega); done)); exact (fun j ej => (hown4.lt j ej).1))))
          all_goals have hBw9 := hB0.trans (hB9.mono hB0.size)
          all_goals simp only [Nat.zero_add, List.nil_append] at hown9
          all_goals have H9 := hid hown9
          all_goals clear hown9 hgrow9 hown4 hgrow4 hB4
          all_goals have HAN2 := hid (show A = none → l.length - k = 0 ∧ c - k = 0 from fun e => by have := HS.out.2 e; omega)
          all_goals go_upto_region 11 with fail
          all_goals go_wp2_with (first | (at_builtin; refine wpList_append_gen _ ?_ (.tmp 46) (.tmp 49) 27 ?_ W.heap.size 40 i0 (.agg #[.int .i64 0, .string ⟨#[]⟩, .int .i64 0, .int .i64 0, .string ⟨#[]⟩, .string ⟨#[]⟩]) 6 72 Tryz.underlying27 hi hz0 hz1 hz2 ?_ (by decide) v9 (k + 1) ((l.take k).flatMap eCells ++ eCells (nm, v)) ?_ H9.out (if c = k then A else A.map (fun x => x.add (k * 6))) (l.length - k) (c - k) ((l.drop k).flatMap eCells) ?_ ?_ ?_ ?_ (eCells_one _) ?_ ?_ ?_ ?_; (focus (rfl; done)); (focus (rfl; done)); (focus (rfl; done)); (focus (rfl; done)); (focus (rfl; done)); (focus (rw [flat_len eCells 6 eCells_len, List.length_drop]; done)); (focus (intro e; first | exact HAN2.out (ifA_none e) | exact HAN2.out (mapA_none e) | exact HAN2.out e; done)); (focus (exact RowE.cutB HS.out hBw9 k (by omega) hcap; done)); (focus (unfold maxLen; omega; done)); (focus (omega; done)); (focus (exact hB9.size; done)); intro v7 w7 hown7 hgrow7) | (at_builtin; refine wpList_append_gen _ ?_ (.tmp 46) (.tmp 49) 27 ?_ W.heap.size 40 i0 (.agg #[.int .i64 0, .string ⟨#[]⟩, .int .i64 0, .int .i64 0, .string ⟨#[]⟩, .string ⟨#[]⟩]) 6 72 Tryz.underlying27 hi hz0 hz1 hz2 ?_ (by decide) v9 (k + 1) ((l.take k).flatMap eCells ++ eCells (nm, v)) ?_ H9.out (A.map (fun x => x.add (k * 6))) (l.length - k) (c - k) ((l.drop k).flatMap eCells) ?_ ?_ ?_ ?_ (eCells_one _) ?_ ?_ ?_ ?_; (focus (rfl; done)); (focus (rfl; done)); (focus (rfl; done)); (focus (rfl; done)); (focus (rfl; done)); (focus (rw [flat_len eCells 6 eCells_len, List.length_drop]; done)); (focus (intro e; first | exact HAN2.out (ifA_none e) | exact HAN2.out (mapA_none e) | exact HAN2.out e; done)); (focus (exact RowE.cutA HS.out hBw9 k (by omega); done)); (focus (unfold maxLen; omega; done)); (focus (omega; done)); (focus (exact hB9.size; done)); intro v7 w7 hown7 hgrow7) | (at_builtin; refine wpList_append_gen _ ?_ (.tmp 46) (.tmp 49) 27 ?_ W.heap.size 40 i0 (.agg #[.int .i64 0, .string ⟨#[]⟩, .int .i64 0, .int .i64 0, .string ⟨#[]⟩, .string ⟨#[]⟩]) 6 72 Tryz.underlying27 hi hz0 hz1 hz2 ?_ (by decide) v9 (k + 1) ((l.take k).flatMap eCells ++ eCells (nm, v)) ?_ H9.out (A) (l.length - k) (c - k) ((l.drop k).flatMap eCells) ?_ ?_ ?_ ?_ (eCells_one _) ?_ ?_ ?_ ?_; (focus (rfl; done)); (focus (rfl; done)); (focus (rfl; done)); (focus (rfl; done)); (focus (rfl; done)); (focus (rw [flat_len eCells 6 eCells_len, List.length_drop]; done)); (focus (intro e; first | exact HAN2.out (ifA_none e) | exact HAN2.out (mapA_none e) | exact HAN2.out e; done)); (focus ((intro ad _ j u hu; rw [List.drop_of_length_le (by omega)] at hu; simp at hu); done)); (focus (unfold maxLen; omega; done)); (focus (omega; done)); (focus (exact hB9.size; done)); intro v7 w7 hown7 hgrow7))
          all_goals have hrows : ((l.take k).flatMap eCells ++ eCells (nm, v)) ++ (l.drop k).flatMap eCells = WL.flatMap eCells := by rw [HL.out]; simp
          all_goals rw [hrows] at hown7
          all_goals obtain ⟨A7, c7, rfl, hr7⟩ := RowE.of_own hown7
          all_goals have hB7 := hB0.trans (Below.mono (Below.grown hB9 hgrow7 hB9.size (fun j ej => (H9.out.lt j ej).1)) hB0.size)
          all_goals clear hown7 hrows hgrow7
          all_goals go_wp2_with fail
          all_goals go_ret2
          all_goals exact ⟨A7, _, c7, by rw [HZ.out]; rfl, fun h => absurd HZ.out h, fun _ => hr7, hB7⟩
  · have hcb := checkN_ne hc
    have HZ := hid (show E = 12 by rw [HE.out, if_pos hc])
    clear hc hlen hki' hk hcap hcm hel
    go_wp2_with (first
      | (go_at_call 45; refine (HF.out _ hB0).mono ?_; rintro e w1 ⟨rfl, hb1⟩; have hB1 := hB0.trans (hb1.mono hB0.size); obtain ⟨r0, r1, r2, r3, r4⟩ := K.out _ (hb1.mono (by omega)))
      | (go_at_call 102; refine (HC.out _).mono ?_; rintro e w2 ⟨rfl, hb2⟩; have hB2 := hB1.trans (hb2.mono hB1.size)))
    all_goals go_ret2
    all_goals exact ⟨none, 0, 0, by rw [HZ.out]; rfl, fun _ => ⟨rfl, rfl, rfl⟩, fun h => absurd (HZ.out.symm.trans h) (by decide), hB2⟩
end Go.Proofs.YtnbgfalhmnbefaaGreatDoor
