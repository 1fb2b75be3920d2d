/-
  LAYER 1 (codec), WALKED: the Reader's texts.
  LAYER 1 (codec), WALKED: NewReader, Rest, Close.
  LAYER 1 (codec), WALKED: NewReader.
  A READER BESIDE OTHER DATA: what reading leaves alone, by the types of the blocks. No function of the program is walked here.
-/
import Derived.Test.YtfdbanhbegngoaaGreatDoorRd
import Derived.Laws.BytesArg
import Derived.Laws.IdiomStrings
import Derived.Test.YtfdbanhbegngoaaGreatDoorRow
namespace Go.Proofs.YtfdbanhbegngoaaGreatDoor
open Go.RowKit

/-- Bytes as a string. -/
def strB (l : Bs) : ByteArray := ⟨l.toArray⟩
theorem Sl.take_ {w : World} {B n cap : Nat} {A : Option Addr} {xs : List Value} (h : Sl w B 1 A n cap xs) (m : Nat) (hm : m ≤ n) : Sl w B 1 A m cap (xs.take m) := by
  obtain ⟨h1, h2, h3, h4⟩ := h
  refine ⟨by rw [List.length_take]; omega, by omega, h3, ?_⟩
  rcases h4 with rfl | ⟨b, off, rfl, hb, hc⟩
  · exact .inl (by omega)
  · refine .inr ⟨b, off, rfl, hb, fun j u hu => hc j u ?_⟩
    rw [List.getElem?_take] at hu
    split at hu
    · exact hu
    · cases hu
theorem Sl.str {w : World} {B n cap : Nat} {A : Option Addr} {l : Bs} (h : Sl w B 1 A n cap (l.map u8v)) :
    (convert 22 9 (.slice A n cap)).run Tryz.prog w = .ok (.string (strB l)) w := by
  obtain ⟨h1, -, -, h4⟩ := h
  obtain rfl : l.length = n := by simpa using h1
  cases A with
  | none =>
    rcases h4 with h0 | ⟨b, off, h, -⟩
    · obtain rfl := List.eq_nil_of_length_eq_zero h0
      exact run_convert_bytes_nil w _ _ Tryz.underlying22 Tryz.underlying5 _ _ _ Tryz.underlying9
    · cases h
  | some a =>
    refine run_convert_bytes_back w _ _ _ a cap l Tryz.underlying22 Tryz.underlying5 Tryz.underlying9 fun j hj => ?_
    rcases h4 with h0 | ⟨b, off, h, -, hc⟩
    · omega
    · cases h
      have := hc j (u8v l[j]) (by simp [hj])
      have hp : (⟨b, off, none⟩ : Addr).add j = ⟨b, off + j, none⟩ := by unfold Addr.add; split <;> simp_all
      rw [hp]
      exact this

/-- A text at the beginning of bytes, at most so long. -/
def txtP (most : Int) (l : Bs) : Bs × Nat × Int :=
  if (prs l).2.2 ≠ 0 then ([], 0, (prs l).2.2)
  else if min most 16777216 < ((prs l).1 : Int) then ([], 0, 5)
  else if (l.length : Int) - ((prs l).2.1 : Int) < ((prs l).1 : Int) then ([], 0, 28)
  else ((l.drop (prs l).2.1).take (prs l).1, (prs l).2.1 + (prs l).1, 0)
theorem prs_le (l : Bs) : (prs l).2.1 ≤ l.length := by
  have := grp_le 9 l 0 0
  unfold prs
  omega
theorem txtP_le (most : Int) (l : Bs) : (txtP most l).2.1 ≤ l.length := by
  have := prs_le l
  unfold txtP
  split
  · simp
  · split
    · simp
    · split
      · simp
      · simp only
        omega

set_option maxRecDepth 100000 in
set_option maxHeartbeats 1000000 in
theorem text1_any (A : Option Addr) (n c : Nat) (l : Bs) (q : Nat) (most : Int) (w : World) (hs : Sl w w.heap.size 1 A n c (l.map u8v)) (hq : w.cell? ⟨q, 0, none⟩ = some (.int .i64 most)) :
    Calls Tryz.prog 46 #[.slice A n c, .pointer (some ⟨q, 0, none⟩)] w fun e w' => e = .returned (.tuple #[.string (strB (txtP most l).1), .int .i64 (txtP most l).2.1, .int .i64 (txtP most l).2.2]) ∧ w = w' := by
  have HG := hid (cparse_any A n c l w hs)
  have hle := prs_le l
  have hlt := prs_lt l
  have hn : l.length = n := by have := hs.1; simpa using this
  have hc := hs.2.1
  have hm := hs.2.2.1
  unfold maxLen at hm
  have HT := hid (show txtP most l = if (prs l).2.2 ≠ 0 then ([], 0, (prs l).2.2) else if min most 16777216 < ((prs l).1 : Int) then ([], 0, 5) else if (n : Int) - ((prs l).2.1 : Int) < ((prs l).1 : Int) then ([], 0, 28) else ((l.drop (prs l).2.1).take (prs l).1, (prs l).2.1 + (prs l).1, 0) by rw [← hn]; rfl)
  have HS := hid hs
  generalize txtP most l = R at *
  generalize (prs l).1 = v at *
  generalize (prs l).2.1 = k at *
  generalize (prs l).2.2 = d at *
  rw [hn] at hle
  clear hs
  by_cases h1 : d = 0
  · subst h1
    have h1b : ((0 : Int) != 0) = false := rfl
    by_cases h2 : min most 16777216 < (v : Int)
    · have HR := hid (show R = ([], 0, 5) by rw [HT.out, if_neg (by simp), if_pos h2])
      go_enter Tryz.func46, Tryz.ntmps46
      go_wp2_with (go_at_call 44; refine HG.out.mono ?_; rintro e w' ⟨rfl, rfl⟩)
      go_ret3
      exact ⟨ret_tup3 (by rw [HR.out]; rfl) (by rw [HR.out]; rfl) (by rw [HR.out]; rfl), rfl⟩
    · have h2i : (v : Int) ≤ min most 16777216 := by omega
      by_cases h3 : (n : Int) - (k : Int) < (v : Int)
      · have HR := hid (show R = ([], 0, 28) by rw [HT.out, if_neg (by simp), if_neg h2, if_pos h3])
        go_enter Tryz.func46, Tryz.ntmps46
        go_wp2_with (go_at_call 44; refine HG.out.mono ?_; rintro e w' ⟨rfl, rfl⟩)
        go_ret3
        exact ⟨ret_tup3 (by rw [HR.out]; rfl) (by rw [HR.out]; rfl) (by rw [HR.out]; rfl), rfl⟩
      · have HR := hid (show R = ((l.drop k).take v, k + v, 0) by rw [HT.out, if_neg (by simp), if_neg h2, if_neg h3])
        have h5 : k + v ≤ n := by omega
        have h6 : (k : Int) + (v : Int) ≤ (c : Int) := by omega
        have hcv := ((HS.out.from_ k hle).take_ v (by omega))
        rw [← List.map_drop, ← List.map_take] at hcv
        have hcv := hcv.str
        generalize (l.drop k).take v = tx at *
        by_cases h4 : c = k
        · rw [if_pos h4] at hcv
          subst h4
          obtain rfl : v = 0 := by omega
          rw [Nat.sub_self] at hcv
          go_enter Tryz.func46, Tryz.ntmps46
          go_wp2_with (go_at_call 44; refine HG.out.mono ?_; rintro e w' ⟨rfl, rfl⟩)
          go_ret3
          exact ⟨ret_tup3 (by rw [HR.out]; rfl) (by rw [HR.out]; go_num) (by rw [HR.out]; rfl), rfl⟩
        · rw [if_neg h4] at hcv
          go_enter Tryz.func46, Tryz.ntmps46
          go_wp2_with (go_at_call 44; refine HG.out.mono ?_; rintro e w' ⟨rfl, rfl⟩)
          go_ret3
          exact ⟨ret_tup3 (by rw [HR.out]; rfl) (by rw [HR.out]; go_num) (by rw [HR.out]; rfl), rfl⟩
  · have h1b : (d != 0) = true := by simp [h1]
    have HR := hid (show R = ([], 0, d) by rw [HT.out, if_pos h1])
    clear h1
    go_enter Tryz.func46, Tryz.ntmps46
    go_wp2_with (go_at_call 44; refine HG.out.mono ?_; rintro e w' ⟨rfl, rfl⟩)
    go_ret3
    exact ⟨ret_tup3 (by rw [HR.out]; rfl) (by rw [HR.out]; rfl) (by rw [HR.out]; rfl), rfl⟩

/-- What Text makes of a reader's offset and error. -/
def rdTxt (most : Int) (b : Bs) (a : Nat) (e : Int) : Bs × Nat × Int :=
  if e ≠ 0 then ([], a, e) else if (txtP most (b.drop a)).2.2 ≠ 0 then ([], a, (txtP most (b.drop a)).2.2) else ((txtP most (b.drop a)).1, a + (txtP most (b.drop a)).2.1, 0)

set_option maxRecDepth 100000 in
set_option maxHeartbeats 1000000 in
theorem readStr_any (g : Nat) (b : Bs) (a : Nat) (e : Int) (q : Nat) (most : Int) (w : World) (h : Rd w g b a e) (hq : w.cell? ⟨q, 0, none⟩ = some (.int .i64 most)) :
    Calls Tryz.prog 45 #[.pointer (some ⟨g, 0, none⟩), .func (.func 46) #[] #[.pointer (some ⟨q, 0, none⟩)]] w fun o w' =>
      o = .returned (.string (strB (rdTxt most b a e).1)) ∧ Rd w' g b (rdTxt most b a e).2.1 (rdTxt most b a e).2.2 ∧ w.grownBy w' (some g) := by
  have H := hid h
  obtain ⟨A, n, c, hk, hsl, ha, -⟩ := h
  have c0 : w.cell? ⟨g, 0, none⟩ = some (.slice A n c) := hk.cell 0
  have c1 : w.cell? ⟨g, 1, none⟩ = some (.int .i64 a) := hk.cell 1
  have c2 : w.cell? ⟨g, 2, none⟩ = some (.int .i64 e) := hk.cell 2
  have f1 := hk.frozen 1
  have f2 := hk.frozen 2
  by_cases h0 : e = 0
  · subst h0
    have hn : b.length = n := by have := hsl.1; simpa using this
    have hc := hsl.2.1
    have hm := hsl.2.2.1
    have hai : (a : Int) ≤ (n : Int) := by omega
    unfold maxLen at hm
    have HS := hsl.from_ a (by omega)
    rw [← List.map_drop] at HS
    have HK := hid (fun m : Nat => text1_any _ _ _ (b.drop a) q most (w.drewN m) (HS.keep (fun _ _ _ => rfl)) hq)
    have hle := txtP_le most (b.drop a)
    rw [List.length_drop] at hle
    have hrd := hid (show rdTxt most b a 0 = if (txtP most (b.drop a)).2.2 ≠ 0 then ([], a, (txtP most (b.drop a)).2.2) else ((txtP most (b.drop a)).1, a + (txtP most (b.drop a)).2.1, 0) from rfl)
    generalize rdTxt most b a 0 = R at *
    generalize (txtP most (b.drop a)).1 = v at *
    generalize (txtP most (b.drop a)).2.1 = k at *
    generalize (txtP most (b.drop a)).2.2 = d at *
    clear hsl HS
    by_cases h1 : d = 0
    · subst h1
      have HR := hid (show R = (v, a + k, 0) by rw [hrd.out, if_neg (by simp)])
      go_enter Tryz.func45, Tryz.ntmps45
      go_wp2_with fail
      go_quiet (first | (go_at_call 46; refine Calls.quiet_of_same ((HK.out _).mono fun _ _ h => ⟨h.1, h.2.symm⟩)))
      go_wp2_with fail
      all_goals go_ret
      all_goals
        refine ⟨by rw [HR.out]; rfl, ?_, gb_trans (gb_below (dN (Below.refl _ _) nq) _) (gb_set _ _ _ _)⟩
        rw [HR.out, ← Int.natCast_add]
        exact (H.out.keep (dN (Below.refl _ _) nq)).off (a + k) (by omega)
    · have h1b : (d != 0) = true := by simp [h1]
      have HR := hid (show R = ([], a, d) by rw [hrd.out, if_pos h1])
      clear h1
      go_enter Tryz.func45, Tryz.ntmps45
      go_wp2_with fail
      go_quiet (first | (go_at_call 46; refine Calls.quiet_of_same ((HK.out _).mono fun _ _ h => ⟨h.1, h.2.symm⟩)))
      go_wp2_with fail
      all_goals go_ret
      all_goals
        refine ⟨by rw [HR.out]; rfl, ?_, gb_trans (gb_below (dN (Below.refl _ _) nq) _) (gb_set _ _ _ _)⟩
        rw [HR.out]
        exact (H.out.keep (dN (Below.refl _ _) nq)).err d
  · have heb : (e != 0) = true := by simp [h0]
    have HR := hid (show rdTxt most b a e = ([], a, e) by rw [rdTxt, if_pos h0])
    clear h0
    generalize rdTxt most b a e = R at *
    go_enter Tryz.func45, Tryz.ntmps45
    go_wp2_with fail
    go_ret
    exact ⟨by rw [HR.out]; rfl, by rw [HR.out]; exact H.out, gb_refl _ _⟩

set_option maxRecDepth 100000 in
set_option maxHeartbeats 1000000 in
theorem rtext_any (g : Nat) (b : Bs) (a : Nat) (e : Int) (most : Int) (w : World) (h : Rd w g b a e) :
    Calls Tryz.prog 17 #[.pointer (some ⟨g, 0, none⟩), .int .i64 most] w fun o w' =>
      o = .returned (.string (strB (rdTxt most b a e).1)) ∧ Rd w' g b (rdTxt most b a e).2.1 (rdTxt most b a e).2.2 ∧ w.grownBy w' (some g) := by
  have hB : Below w.heap.size w (w.alloc (.cells #[.int .i64 most] 3)) := (Below.refl _ _).alloc (Nat.le_refl _) _
  have HK := hid (readStr_any g b a e w.heap.size most (w.alloc (.cells #[.int .i64 most] 3)) (h.keep hB) (by simp))
  go_enter Tryz.func17, Tryz.ntmps17
  go_wp2_with (go_at_call 45; refine HK.out.mono ?_; rintro o w' ⟨rfl, hr, hg⟩)
  go_ret
  exact ⟨rfl, hr, gb_trans (gb_below hB _) hg⟩

end Go.Proofs.YtfdbanhbegngoaaGreatDoor
namespace Go.Proofs.YtfdbanhbegngoaaGreatDoor
open Go.RowKit

set_option maxRecDepth 100000 in
set_option maxHeartbeats 1000000 in
theorem rrest_any (g : Nat) (b : Bs) (a : Nat) (e : Int) (w : World) (h : Rd w g b a e) :
    Calls Tryz.prog 54 #[.pointer (some ⟨g, 0, none⟩)] w fun o w' => o = .returned (.int .i64 ((b.length - a : Nat) : Int)) ∧ ∃ n, w' = w.drewN n := by
  obtain ⟨A, n, c, hk, hsl, ha, -⟩ := h
  have c0 : w.cell? ⟨g, 0, none⟩ = some (.slice A n c) := hk.cell 0
  have c1 : w.cell? ⟨g, 1, none⟩ = some (.int .i64 a) := hk.cell 1
  obtain rfl : b.length = n := by have := hsl.1; simpa using this
  have hc := hsl.2.1
  have hm := hsl.2.2.1
  unfold maxLen at hm
  have hw : IntKind.i64.wrap ((b.length : Int) - (a : Int)) = ((b.length - a : Nat) : Int) := by simp [IntKind.wrap, IntKind.signed, IntKind.bits]; omega
  have HS := hid hsl
  clear hsl
  go_enter Tryz.func54, Tryz.ntmps54
  go_wp2_with fail
  go_quiet (fail)
  go_wp2_with fail
  all_goals go_ret
  all_goals exact ⟨by first | rfl | (simp; omega), _, rfl⟩

/-- What Close says. -/
def rdEnd (b : Bs) (a : Nat) (e : Int) : Int := if e = 0 then (if a < b.length then 5 else 0) else e
set_option maxRecDepth 100000 in
set_option maxHeartbeats 1000000 in
theorem rclose_any (g : Nat) (b : Bs) (a : Nat) (e : Int) (w : World) (h : Rd w g b a e) :
    Calls Tryz.prog 22 #[.pointer (some ⟨g, 0, none⟩)] w fun o w' => o = .returned (.int .i64 (rdEnd b a e)) ∧ ∃ n, w' = w.drewN n := by
  have HR := hid (rrest_any g b a e w h)
  obtain ⟨A, n, c, hk, hsl, ha, -⟩ := h
  have c2 : w.cell? ⟨g, 2, none⟩ = some (.int .i64 e) := hk.cell 2
  by_cases h0 : e = 0
  · subst h0
    by_cases h1 : a < b.length
    · have h2 : (0 : Int) < ((b.length - a : Nat) : Int) := by omega
      rw [show rdEnd b a 0 = 5 by simp [rdEnd, h1]]
      go_enter Tryz.func22, Tryz.ntmps22
      go_wp2_with (go_at_call 54; refine HR.out.mono ?_; rintro o w' ⟨rfl, nn, rfl⟩)
      go_ret
      exact ⟨rfl, _, rfl⟩
    · have h2 : ((b.length - a : Nat) : Int) = 0 := by omega
      rw [h2] at HR
      rw [show rdEnd b a 0 = 0 by simp [rdEnd, h1]]
      clear h1 h2
      go_enter Tryz.func22, Tryz.ntmps22
      go_wp2_with (go_at_call 54; refine HR.out.mono ?_; rintro o w' ⟨rfl, nn, rfl⟩)
      go_ret
      exact ⟨rfl, _, rfl⟩
  · have heb : (e == 0) = false := by simp [h0]
    rw [show rdEnd b a e = e by simp [rdEnd, h0]]
    clear h0
    go_enter Tryz.func22, Tryz.ntmps22
    go_wp2_with fail
    go_ret
    exact ⟨rfl, 0, rfl⟩
end Go.Proofs.YtfdbanhbegngoaaGreatDoor
namespace Go.Proofs.YtfdbanhbegngoaaGreatDoor
open Go.RowKit

theorem own_shape {w : World} {base size n : Nat} {e : TypeId} {v : Value} {xs : List Value} (h : w.ownsRow base e size v n xs) :
    ∃ A cap, v = .slice A n cap ∧ Sl w w.heap.size size A n cap xs ∧ ∀ ad, A = some ad → ∃ cs, w.heap[ad.block]? = some (.cells cs e (0, 0)) := by
  obtain ⟨A, cap, rfl, hs⟩ := Sl.of_own h
  refine ⟨A, cap, rfl, hs, fun ad ha => ?_⟩
  rcases h.2 with ⟨h1, h2⟩ | ⟨g, cap', cur, h1, hb, hh, -⟩
  · cases h1; cases ha
  · cases h1; cases ha; exact ⟨cur, hh⟩

set_option maxRecDepth 100000 in
set_option maxHeartbeats 1000000 in
theorem newReader_any (A : Option Addr) (n c : Nat) (b : Bs) (hb : b.length ≤ 1000000000) (hA : A = none → n = 0 ∧ c = 0) (w : World) (hs : Sl w w.heap.size 1 A n c (b.map u8v)) :
    Calls Tryz.prog 15 #[.slice A n c] w fun o w' => ∃ g, o = .returned (.pointer (some ⟨g, 0, none⟩)) ∧ Rd w' g b 0 0 ∧ w.heap.size ≤ g ∧ Below w.heap.size w w' := by
  obtain ⟨i0, hi, hz0, hz1, hz2⟩ := info_parts Tryz.info_u8
  have HS := hid hs
  have hn : b.length = n := by have := hs.1; simpa using this
  have hN := hid (show (b.map u8v).length = n * 1 by simp [hn])
  have hB : Below w.heap.size w (w.alloc (.cells #[] 5)) := (Below.refl _ _).alloc (Nat.le_refl _) _
  have hbb : Blk (w.alloc (.cells #[] 5)) w.heap.size 5 #[] := Blk.new _ _ _
  have hown : (w.alloc (.cells #[] 5)).ownsRow w.heap.size 5 1 (.slice (some ⟨w.heap.size, 0, none⟩) 0 0) 0 [] := World.ownsRow_lit w #[] 0 (Nat.le_refl _) (by unfold maxLen; omega) rfl
  have HO := hid hown
  have hcel : ∀ ad, A = some ad → ∀ j u, (b.map u8v)[j]? = some u → (w.alloc (.cells #[] 5)).cell? (ad.add j) = some u := by
    rintro ad rfl j u hu
    rcases (hs.below hB).2.2.2 with h0 | ⟨bb, off, h, -, hc⟩
    · rw [show b = [] from List.eq_nil_of_length_eq_zero (by omega)] at hu
      simp at hu
    · cases h
      have hp : (⟨bb, off, none⟩ : Addr).add j = ⟨bb, off + j, none⟩ := by unfold Addr.add; split <;> simp_all
      rw [hp]
      exact hc j u hu
  have HC := hid hcel
  clear hs hown hcel
  go_enter Tryz.func15, Tryz.ntmps15
  go_wp2_with (at_builtin; refine wpList_append_gen _ rfl (.tmp 3) (.tmp 4) _ rfl w.heap.size 5 i0 (.int .u8 0) 1 1 Tryz.underlying22 hi hz0 hz1 hz2 rfl (by decide) (.slice (some ⟨w.heap.size, 0, none⟩) 0 0) 0 [] rfl HO.out A n c (b.map u8v) rfl hN.out hA HC.out (by simp [u8v, Value.oneCell']) (by unfold maxLen; omega) (by omega) (by simp) ?_; intro v1 w1 ho hg; obtain ⟨A1, c1, rfl, hs1, hA1⟩ := own_shape ho; have HS1 := hid hs1; have HA1 := hid hA1; have HG := hid hg; clear hs1 hA1 hg ho)
  have hB1 : Below w.heap.size w w1 := Below.grown hB HG.out (by simp) (fun j e => (HO.out.lt j e).1)
  have hB2 := (Below.refl w1.heap.size w1).alloc (Nat.le_refl _) (.cells #[.slice A1 n c1, .int .i64 0, .int .i64 0] 92)
  have hs2 := HS1.out
  rw [Nat.zero_add, List.nil_append] at hs2
  go_ret
  refine ⟨w1.heap.size, rfl, ⟨A1, n, c1, Blk.new _ _ _, (hs2.below hB2).more hB2.size, Nat.zero_le _, fun ad h => ?_⟩, hB1.size, hB1.alloc hB1.size _⟩
  obtain ⟨cs, hcs⟩ := HA1.out ad h
  exact ⟨cs, (hB2.block _ (Array.getElem?_eq_some_iff.1 hcs).1).trans hcs⟩
end Go.Proofs.YtfdbanhbegngoaaGreatDoor
namespace Go.Proofs.YtfdbanhbegngoaaGreatDoor
open Go.RowKit

theorem Blk.beside {w w' : World} {g g' : Nat} {t t' : TypeId} {cs cs' : Array Value} (h : Blk w g' t' cs') (hk : Blk w g t cs) (hne : t' ≠ t) (hg : w.grownBy w' (some g)) : Blk w' g' t' cs' :=
  h.grown hg (fun e => by cases e; exact Blk.ne_ h hk hne rfl)
theorem Rd.blk {w : World} {g : Nat} {b : Bs} {a : Nat} {e : Int} (h : Rd w g b a e) : ∃ cs, Blk w g 92 cs := by
  obtain ⟨A, n, c, hk, -⟩ := h
  exact ⟨_, hk⟩
theorem Rd.le {w : World} {g : Nat} {b : Bs} {a : Nat} {e : Int} (h : Rd w g b a e) : a ≤ b.length := by
  obtain ⟨A, n, c, -, -, h, -⟩ := h
  exact h
theorem Rd.keeps {w w' : World} {g g' : Nat} {b : Bs} {a : Nat} {e : Int} {t' : TypeId} {cs' : Array Value} (h : Rd w g b a e) (hk : Blk w g' t' cs') (hne : t' ≠ 92) (hg : w.grownBy w' (some g)) : Blk w' g' t' cs' := by
  obtain ⟨cs, hb⟩ := h.blk
  exact hk.beside hb hne hg
/-- A store into another block. -/
theorem Rd.far {w : World} {g g' : Nat} {b : Bs} {a : Nat} {e : Int} {t' : TypeId} {cs' : Array Value} (h : Rd w g b a e) (hk : Blk w g' t' cs') (h1 : t' ≠ 92) (h2 : t' ≠ 5) (i : Nat) (v : Value) : Rd (w.setCell ⟨g', i, none⟩ v) g b a e := by
  obtain ⟨A, n, c, hb, hsl, ha, hA⟩ := h
  have hne : ∀ ad, A = some ad → ad.block ≠ g' := by
    rintro ad h rfl
    obtain ⟨cs, hcs⟩ := hA ad h
    exact Blk.ne_ hk hcs h2 rfl
  refine ⟨A, n, c, hb.far (fun e => Blk.ne_ hk hb h1 e.symm) v, ?_, ha, fun ad h => ?_⟩
  · obtain ⟨h1, h2, h3, h4⟩ := hsl
    refine ⟨h1, h2, h3, h4.imp_right ?_⟩
    rintro ⟨bb, off, rfl, hbb, hc⟩
    refine ⟨bb, off, rfl, by simpa [World.setCell] using hbb, fun j u hu => ?_⟩
    rw [← hc j u hu]
    have := heap_setCell_other w ⟨g', i, none⟩ bb v (hne _ rfl)
    simp only [World.cell?, this]
  · obtain ⟨cs, hcs⟩ := hA ad h
    exact ⟨cs, (heap_setCell_other w ⟨g', i, none⟩ _ v (hne ad h)).trans hcs⟩
theorem below_rd {B : Nat} {w0 w w' : World} {g : Nat} (h : Below B w0 w) (hg : w.grownBy w' (some g)) (hBg : B ≤ g) (hBw : B ≤ w.heap.size) : Below B w0 w' :=
  Below.grown h hg hBw (fun j e => by cases e; exact hBg)
end Go.Proofs.YtfdbanhbegngoaaGreatDoor
