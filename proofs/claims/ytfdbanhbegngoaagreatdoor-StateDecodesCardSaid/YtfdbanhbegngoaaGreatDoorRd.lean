/-
  LAYER 1 (codec), WALKED: the Reader.
-/
import Derived.Test.YtfdbanhbegngoaaGreatDoorGrp
import Derived.Test.YtfdbanhbegngoaaGreatDoorVoc
import Derived.Test.YtfdbanhbegngoaaGreatDoorEl
import Derived.BigQuiet
import Derived.BigRegion
import Derived.Deep.RegionHeld3
import Derived.Deep.RegionLaw
import Derived.Deep.AppendLies
import Derived.Deep.DeepCutAuto
namespace Go.Proofs.YtfdbanhbegngoaaGreatDoor
open Go.RowKit

theorem gb_refl (w : World) (row : Option Nat) : w.grownBy w row := ⟨rfl, rfl, rfl, Nat.le_refl _, fun _ _ _ => rfl⟩
theorem gb_trans {a b c : World} {row : Option Nat} (h : a.grownBy b row) (h' : b.grownBy c row) : a.grownBy c row :=
  ⟨h'.os.trans h.os, h'.tape.trans h.tape, h'.output.trans h.output, Nat.le_trans h.size h'.size, fun k hk hr => (h'.block k (Nat.lt_of_lt_of_le hk h.size) hr).trans (h.block k hk hr)⟩
theorem gb_below {w w' : World} (hb : Below w.heap.size w w') (row : Option Nat) : w.grownBy w' row := ⟨hb.1, hb.2, hb.3, hb.size, fun k hk _ => hb.block k hk⟩
theorem gb_set (w : World) (g i : Nat) (v : Value) : w.grownBy (w.setCell ⟨g, i, none⟩ v) (some g) :=
  ⟨rfl, rfl, rfl, by simp [World.setCell], fun k _ hr => heap_setCell_other w ⟨g, i, none⟩ k v (fun e => hr (by rw [e]))⟩

/-- A reader of bytes, at an offset, with an error. -/
def Rd (w : World) (g : Nat) (b : Bs) (at_ : Nat) (e : Int) : Prop :=
  ∃ A n c, Blk w g 92 #[.slice A n c, .int .i64 at_, .int .i64 e] ∧ Sl w w.heap.size 1 A n c (b.map u8v) ∧ at_ ≤ b.length ∧ ∀ ad, A = some ad → ∃ cs, w.heap[ad.block]? = some (.cells cs 5 (0, 0))

theorem Rd.set {w : World} {g : Nat} {b : Bs} {a a' : Nat} {e e' : Int} (h : Rd w g b a e) {w' : World} (hs : w'.heap.size = w.heap.size) (ho : ∀ k, k ≠ g → w'.heap[k]? = w.heap[k]?) (ha : a' ≤ b.length)
    (hk : ∀ A n c, Blk w g 92 #[.slice A n c, .int .i64 a, .int .i64 e] → Blk w' g 92 #[.slice A n c, .int .i64 a', .int .i64 e']) : Rd w' g b a' e' := by
  obtain ⟨A, n, c, hb, hsl, -, hA⟩ := h
  have hne : ∀ ad, A = some ad → ad.block ≠ g := by
    rintro ad h rfl
    obtain ⟨cs, hcs⟩ := hA ad h
    rw [hb] at hcs
    simp at hcs
  refine ⟨A, n, c, hk A n c hb, ?_, ha, fun ad h => ?_⟩
  · obtain ⟨h1, h2, h3, h4⟩ := hsl
    refine ⟨h1, h2, h3, h4.imp_right ?_⟩
    rintro ⟨bb, off, rfl, hbb, hc⟩
    refine ⟨bb, off, rfl, by omega, fun j u hu => ?_⟩
    rw [← hc j u hu]
    have := ho bb (hne _ rfl)
    simp only [World.cell?, this]
  · obtain ⟨cs, hcs⟩ := hA ad h
    exact ⟨cs, (ho _ (hne ad h)).trans hcs⟩
theorem Rd.keep {w w' : World} {g : Nat} {b : Bs} {a : Nat} {e : Int} (h : Rd w g b a e) (hb : Below w.heap.size w w') : Rd w' g b a e := by
  obtain ⟨A, n, c, hk, hsl, ha, hA⟩ := h
  refine ⟨A, n, c, (hb.block g hk.lt).trans hk, (hsl.below hb).more hb.size, ha, fun ad h => ?_⟩
  obtain ⟨cs, hcs⟩ := hA ad h
  exact ⟨cs, (hb.block _ (Array.getElem?_eq_some_iff.1 hcs).1).trans hcs⟩
theorem Rd.off {w : World} {g : Nat} {b : Bs} {a : Nat} {e : Int} (h : Rd w g b a e) (a' : Nat) (ha : a' ≤ b.length) : Rd (w.setCell ⟨g, 1, none⟩ (.int .i64 a')) g b a' e :=
  h.set (by simp [World.setCell]) (fun k hk => heap_setCell_other w ⟨g, 1, none⟩ k _ hk) ha (fun A n c hb => hb.set_ 1 _)
theorem Rd.err {w : World} {g : Nat} {b : Bs} {a : Nat} {e : Int} (h : Rd w g b a e) (e' : Int) : Rd (w.setCell ⟨g, 2, none⟩ (.int .i64 e')) g b a e' :=
  have ha : a ≤ b.length := by obtain ⟨_, _, _, _, _, ha, _⟩ := h; exact ha
  h.set (by simp [World.setCell]) (fun k hk => heap_setCell_other w ⟨g, 2, none⟩ k _ hk) ha (fun A n c hb => hb.set_ 2 _)
theorem Sl.from_ {w : World} {B n cap : Nat} {A : Option Addr} {xs : List Value} (h : Sl w B 1 A n cap xs) (l : Nat) (hl : l ≤ n) : Sl w B 1 (if cap = l then A else A.map (·.add l)) (n - l) (cap - l) (xs.drop l) := by
  obtain ⟨h1, h2, h3, h4⟩ := h
  refine ⟨by rw [List.length_drop]; omega, by omega, by omega, ?_⟩
  rcases h4 with rfl | ⟨b, off, rfl, hb, hc⟩
  · exact .inl (by omega)
  · by_cases hcl : cap = l
    · exact .inl (by omega)
    · rw [if_neg hcl]
      refine .inr ⟨b, off + l, by simp [Addr.add], hb, fun j u hu => ?_⟩
      rw [List.getElem?_drop] at hu
      have := hc _ _ hu
      rw [← this]
      congr 2
      omega

/-- A number at the beginning of bytes, at most so great. -/
def numP (most : Int) (l : Bs) : Nat × Nat × Int := if (prs l).2.2 = 0 ∧ most < (prs l).1 then (0, 0, 2) else prs l
set_option maxRecDepth 100000 in
set_option maxHeartbeats 1000000 in
theorem num1_any (A : Option Addr) (n c : Nat) (l : Bs) (q : Nat) (most : Int) (w : World) (hs : Sl w w.heap.size 1 A n c (l.map u8v)) (hq : w.cell? ⟨q, 0, none⟩ = some (.int .i64 most)) :
    Calls Tryz.prog 43 #[.slice A n c, .pointer (some ⟨q, 0, none⟩)] w fun e w' => e = .returned (.tuple #[.int .i64 (numP most l).1, .int .i64 (numP most l).2.1, .int .i64 (numP most l).2.2]) ∧ w = w' := by
  have HG := hid (cparse_any A n c l w hs)
  have hnp := hid (show numP most l = if (prs l).2.2 = 0 ∧ most < ((prs l).1 : Int) then (0, 0, 2) else ((prs l).1, (prs l).2.1, (prs l).2.2) from rfl)
  generalize numP most l = R at *
  generalize (prs l).1 = a at *
  generalize (prs l).2.1 = b at *
  generalize (prs l).2.2 = d at *
  clear hs
  by_cases h1 : d = 0
  · subst h1
    by_cases h2 : most < (a : Int)
    · have HR := hid (show R = (0, 0, 2) by rw [hnp.out, if_pos ⟨rfl, h2⟩])
      go_enter Tryz.func43, Tryz.ntmps43
      go_wp2_with (go_at_call 44; refine HG.out.mono ?_; rintro e w' ⟨rfl, rfl⟩)
      go_ret3
      exact ⟨ret_tup3 (by rw [HR.out]; rfl) (by rw [HR.out]; rfl) (by rw [HR.out]; rfl), rfl⟩
    · have HR := hid (show R = (a, b, 0) by rw [hnp.out, if_neg (fun h => h2 h.2)])
      go_enter Tryz.func43, Tryz.ntmps43
      go_wp2_with (go_at_call 44; refine HG.out.mono ?_; rintro e w' ⟨rfl, rfl⟩)
      go_ret3
      exact ⟨ret_tup3 (by rw [HR.out]; rfl) (by rw [HR.out]; rfl) (by rw [HR.out]; rfl), rfl⟩
  · have h1b : (d == 0) = false := by simp [h1]
    have HR := hid (show R = (a, b, d) by rw [hnp.out, if_neg (fun h => h1 h.1)])
    clear h1
    go_enter Tryz.func43, Tryz.ntmps43
    go_wp2_with (go_at_call 44; refine HG.out.mono ?_; rintro e w' ⟨rfl, rfl⟩)
    go_ret3
    exact ⟨ret_tup3 (by rw [HR.out]; rfl) (by rw [HR.out]; rfl) (by rw [HR.out]; rfl), rfl⟩

theorem grp_le (most : Nat) : ∀ (l : Bs) (k u : Nat), (grp most l k u).2.1 ≤ k + l.length
  | [], k, u => by rw [grp_nil]; simp
  | c :: r, k, u => by
    have h := grp_le most r (k + 1) (u + c.toNat % 128 * 128 ^ k)
    rw [grp_cons]
    split
    · simp
    · split
      · split
        · simp
        · simp
      · rw [List.length_cons]; omega
theorem numP_le (most : Int) (l : Bs) : (numP most l).2.1 ≤ l.length := by
  unfold numP
  split
  · simp
  · have := grp_le 9 l 0 0
    unfold prs
    omega
/-- What Number makes of a reader's offset and error. -/
def rdNum (most : Int) (b : Bs) (a : Nat) (e : Int) : Nat × Nat × Int :=
  if e ≠ 0 then (0, a, e) else if (numP most (b.drop a)).2.2 ≠ 0 then (0, a, (numP most (b.drop a)).2.2) else ((numP most (b.drop a)).1, a + (numP most (b.drop a)).2.1, 0)

set_option maxRecDepth 100000 in
set_option maxHeartbeats 1000000 in
theorem readInt_any (g : Nat) (b : Bs) (a : Nat) (e : Int) (q : Nat) (most : Int) (w : World) (h : Rd w g b a e) (hq : w.cell? ⟨q, 0, none⟩ = some (.int .i64 most)) :
    Calls Tryz.prog 42 #[.pointer (some ⟨g, 0, none⟩), .func (.func 43) #[] #[.pointer (some ⟨q, 0, none⟩)]] w fun o w' =>
      o = .returned (.int .i64 (rdNum most b a e).1) ∧ Rd w' g b (rdNum most b a e).2.1 (rdNum most b a e).2.2 ∧ w.grownBy w' (some g) := by
  have H := hid h
  obtain ⟨A, n, c, hk, hsl, ha, -⟩ := h
  have c0 : w.cell? ⟨g, 0, none⟩ = some (.slice A n c) := hk.cell 0
  have c1 : w.cell? ⟨g, 1, none⟩ = some (.int .i64 a) := hk.cell 1
  have c2 : w.cell? ⟨g, 2, none⟩ = some (.int .i64 e) := hk.cell 2
  have f1 := hk.frozen 1
  have f2 := hk.frozen 2
  by_cases h0 : e = 0
  · subst h0
    have hn : b.length = n := by have := hsl.1; simpa using this
    have hc := hsl.2.1
    have hm := hsl.2.2.1
    have hai : (a : Int) ≤ (n : Int) := by omega
    unfold maxLen at hm
    have HS := hsl.from_ a (by omega)
    rw [← List.map_drop] at HS
    have HK := hid (fun m : Nat => num1_any _ _ _ (b.drop a) q most (w.drewN m) (HS.keep (fun _ _ _ => rfl)) hq)
    have hle := numP_le most (b.drop a)
    rw [List.length_drop] at hle
    have hrd := hid (show rdNum most b a 0 = if (numP most (b.drop a)).2.2 ≠ 0 then (0, a, (numP most (b.drop a)).2.2) else ((numP most (b.drop a)).1, a + (numP most (b.drop a)).2.1, 0) from rfl)
    generalize rdNum most b a 0 = R at *
    generalize (numP most (b.drop a)).1 = v at *
    generalize (numP most (b.drop a)).2.1 = k at *
    generalize (numP most (b.drop a)).2.2 = d at *
    clear hsl HS
    by_cases h1 : d = 0
    · subst h1
      have HR := hid (show R = (v, a + k, 0) by rw [hrd.out, if_neg (by simp)])
      go_enter Tryz.func42, Tryz.ntmps42
      go_wp2_with fail
      go_quiet (first | (go_at_call 43; refine Calls.quiet_of_same ((HK.out _).mono fun _ _ h => ⟨h.1, h.2.symm⟩)))
      go_wp2_with fail
      all_goals go_ret
      all_goals
        refine ⟨by rw [HR.out]; rfl, ?_, gb_trans (gb_below (dN (Below.refl _ _) nq) _) (gb_set _ _ _ _)⟩
        rw [HR.out, ← Int.natCast_add]
        exact (H.out.keep (dN (Below.refl _ _) nq)).off (a + k) (by omega)
    · have h1b : (d != 0) = true := by simp [h1]
      have HR := hid (show R = (0, a, d) by rw [hrd.out, if_pos h1])
      clear h1
      go_enter Tryz.func42, Tryz.ntmps42
      go_wp2_with fail
      go_quiet (first | (go_at_call 43; refine Calls.quiet_of_same ((HK.out _).mono fun _ _ h => ⟨h.1, h.2.symm⟩)))
      go_wp2_with fail
      all_goals go_ret
      all_goals
        refine ⟨by rw [HR.out]; rfl, ?_, gb_trans (gb_below (dN (Below.refl _ _) nq) _) (gb_set _ _ _ _)⟩
        rw [HR.out]
        exact (H.out.keep (dN (Below.refl _ _) nq)).err d
  · have heb : (e != 0) = true := by simp [h0]
    have HR := hid (show rdNum most b a e = (0, a, e) by rw [rdNum, if_pos h0])
    clear h0
    generalize rdNum most b a e = R at *
    go_enter Tryz.func42, Tryz.ntmps42
    go_wp2_with fail
    go_ret
    exact ⟨by rw [HR.out]; rfl, by rw [HR.out]; exact H.out, gb_refl _ _⟩

set_option maxRecDepth 100000 in
set_option maxHeartbeats 1000000 in
theorem rnumber_any (g : Nat) (b : Bs) (a : Nat) (e : Int) (most : Int) (w : World) (h : Rd w g b a e) :
    Calls Tryz.prog 16 #[.pointer (some ⟨g, 0, none⟩), .int .i64 most] w fun o w' =>
      o = .returned (.int .i64 (rdNum most b a e).1) ∧ Rd w' g b (rdNum most b a e).2.1 (rdNum most b a e).2.2 ∧ w.grownBy w' (some g) := by
  have hB : Below w.heap.size w (w.alloc (.cells #[.int .i64 most] 3)) := (Below.refl _ _).alloc (Nat.le_refl _) _
  have HK := hid (readInt_any g b a e w.heap.size most (w.alloc (.cells #[.int .i64 most] 3)) (h.keep hB) (by simp))
  go_enter Tryz.func16, Tryz.ntmps16
  go_wp2_with (go_at_call 42; refine HK.out.mono ?_; rintro o w' ⟨rfl, hr, hg⟩)
  go_ret
  exact ⟨rfl, hr, gb_trans (gb_below hB _) hg⟩

set_option maxRecDepth 100000 in
set_option maxHeartbeats 1000000 in
theorem rfailed_any (g : Nat) (b : Bs) (at_ : Nat) (e : Int) (w : World) (h : Rd w g b at_ e) :
    Calls Tryz.prog 18 #[.pointer (some ⟨g, 0, none⟩)] w fun o w' => o = .returned (.tuple #[.int .i64 (if e = 0 then 0 else at_ : Int), .int .i64 e]) ∧ Below w.heap.size w w' := by
  obtain ⟨A, n, c, hk, -, -, -⟩ := h
  have c1 : w.cell? ⟨g, 1, none⟩ = some (.int .i64 at_) := hk.cell 1
  have c2 : w.cell? ⟨g, 2, none⟩ = some (.int .i64 e) := hk.cell 2
  by_cases h0 : e = 0
  · rw [if_pos h0]
    subst h0
    go_enter Tryz.func18, Tryz.ntmps18
    go_wp2_with fail
    go_ret2
    exact ⟨rfl, Below.refl _ _⟩
  · rw [if_neg h0]
    have heb : (e == 0) = false := by simp [h0]
    clear h0
    go_enter Tryz.func18, Tryz.ntmps18
    go_wp2_with fail
    go_quiet (fail)
    go_wp2_with fail
    go_ret2
    exact ⟨rfl, dN (Below.refl _ _) _⟩
end Go.Proofs.YtfdbanhbegngoaaGreatDoor
