/-
  LISTS OF OBJECTS WITH VALUES, AND THE CELLS OF A ROW OF STRUCTS. No function of the program is walked here.
  LAYER 1 (codec), WALKED: the Reader.
  LAYER 1 (codec), WALKED: the Reader's texts.
  LAYER 1 (codec), WALKED: NewReader, Rest, Close.
  APPEND OF A CUT OF A ROW OF STRUCTS ONTO A ROW OF ONE'S OWN, in a region that draws its order. No function of the program is walked here.
  LAYER 1 (codec), WALKED: NewReader.
  LAYER 1 (codec), WALKED: the Writer.
  LAYER 1 (codec), WALKED: the Writer's numbers.
  LAYER 1 (codec), WALKED: the Writer's bytes.
-/
import Derived.Test.YtfgecaphhdedcaaGreatDoorZ1
import Derived.Test.YtfgecaphhdedcaaGreatDoorZ2
import Derived.BigQuiet
import Derived.BigRegion
import Derived.Deep.RegionHeld3
import Derived.Deep.RegionLaw
import Derived.Deep.AppendLies
import Derived.Deep.DeepCutAuto
import Derived.Laws.BytesArg
import Derived.Laws.IdiomStrings
namespace Go.Proofs.YtfgecaphhdedcaaGreatDoor
open Go.RowKit

abbrev EL := List (Nm × ByteArray)
def eCells (x : Nm × ByteArray) : List Value := nmCells x.1 ++ [.string x.2]
theorem eCells_len (x : Nm × ByteArray) : (eCells x).length = 6 := rfl
theorem flat_get {α : Type} (f : α → List Value) (m : Nat) (hf : ∀ x, (f x).length = m) : ∀ (l : List α) (k j : Nat) (_ : j < m) (hk : k < l.length), (l.flatMap f)[k * m + j]? = (f l[k])[j]?
  | [], k, j, _, hk => by simp at hk
  | x :: r, 0, j, hj, _ => by
    rw [List.flatMap_cons, Nat.zero_mul, Nat.zero_add, List.getElem?_append_left (by rw [hf]; exact hj)]; rfl
  | x :: r, k + 1, j, hj, hk => by
    rw [List.flatMap_cons, List.getElem?_append_right (by rw [hf, Nat.succ_mul]; omega), hf, show (k + 1) * m + j - m = k * m + j by rw [Nat.succ_mul]; omega]
    exact flat_get f m hf r k j hj (by simpa using hk)
theorem flat_len {α : Type} (f : α → List Value) (m : Nat) (hf : ∀ x, (f x).length = m) (l : List α) : (l.flatMap f).length = l.length * m := by
  induction l with
  | nil => simp
  | cons x r ih => rw [List.flatMap_cons, List.length_append, hf, ih, List.length_cons, Nat.succ_mul]; omega
/-- The cells of an element. -/
theorem Sl.elem {α : Type} {w : World} {B m n c : Nat} {A : Option Addr} {f : α → List Value} {l : List α} (h : Sl w B m A n c (l.flatMap f)) (hf : ∀ x, (f x).length = m) (hm : 0 < m) :
    n = l.length ∧ n ≤ maxLen ∧ (l = [] ∨ ∃ b off, A = some ⟨b, off, none⟩ ∧ b < B ∧ ∀ k j u (hk : k < l.length), j < m → (f l[k])[j]? = some u → w.cell? ⟨b, off + k * m + j, none⟩ = some u) := by
  obtain ⟨h1, h2, h3, h4⟩ := h
  rw [flat_len f m hf] at h1
  have hn : n = l.length := Nat.eq_of_mul_eq_mul_right hm h1.symm
  refine ⟨hn, by omega, ?_⟩
  rcases h4 with h4 | ⟨b, off, hA, hb, hc⟩
  · left; exact List.eq_nil_of_length_eq_zero (by omega)
  · right
    refine ⟨b, off, hA, hb, fun k j u hk hj hu => ?_⟩
    have := hc (k * m + j) u (by rw [flat_get f m hf l k j hj hk]; exact hu)
    rw [← Nat.add_assoc] at this
    exact this

def findL : EL → Nm → Nat
  | [], _ => 0
  | x :: r, n => if cmpN x.1 n < 0 then findL r n + 1 else 0
theorem findL_le (l : EL) (n : Nm) : findL l n ≤ l.length := by
  induction l with
  | nil => exact Nat.le_refl _
  | cons x r ih => unfold findL; split <;> simp <;> omega
theorem findL_drop (l : EL) (n : Nm) (k : Nat) (hk : k < l.length) : findL (l.drop k) n = if cmpN l[k].1 n < 0 then findL (l.drop (k + 1)) n + 1 else 0 := by
  rw [List.drop_eq_getElem_cons hk, findL]
/-- Whether the element there is the one. -/
def isL (l : EL) (n : Nm) : Bool := match l[findL l n]? with | some x => eqN x.1 n | none => false
def smallE (l : EL) : Prop := ∀ x ∈ l, x.1.owner.size ≤ 1000000
/-- The value found. -/
def getL (l : EL) (n : Nm) : Option ByteArray := if isL l n then (l[findL l n]?).map (·.2) else none
end Go.Proofs.YtfgecaphhdedcaaGreatDoor
namespace Go.Proofs.YtfgecaphhdedcaaGreatDoor
open Go.RowKit

theorem gb_refl (w : World) (row : Option Nat) : w.grownBy w row := ⟨rfl, rfl, rfl, Nat.le_refl _, fun _ _ _ => rfl⟩
theorem gb_trans {a b c : World} {row : Option Nat} (h : a.grownBy b row) (h' : b.grownBy c row) : a.grownBy c row :=
  ⟨h'.os.trans h.os, h'.tape.trans h.tape, h'.output.trans h.output, Nat.le_trans h.size h'.size, fun k hk hr => (h'.block k (Nat.lt_of_lt_of_le hk h.size) hr).trans (h.block k hk hr)⟩
theorem gb_below {w w' : World} (hb : Below w.heap.size w w') (row : Option Nat) : w.grownBy w' row := ⟨hb.1, hb.2, hb.3, hb.size, fun k hk _ => hb.block k hk⟩
theorem gb_set (w : World) (g i : Nat) (v : Value) : w.grownBy (w.setCell ⟨g, i, none⟩ v) (some g) :=
  ⟨rfl, rfl, rfl, by simp [World.setCell], fun k _ hr => heap_setCell_other w ⟨g, i, none⟩ k v (fun e => hr (by rw [e]))⟩

/-- A reader of bytes, at an offset, with an error. -/
def Rd (w : World) (g : Nat) (b : Bs) (at_ : Nat) (e : Int) : Prop :=
  ∃ A n c, Blk w g 112 #[.slice A n c, .int .i64 at_, .int .i64 e] ∧ Sl w w.heap.size 1 A n c (b.map u8v) ∧ at_ ≤ b.length ∧ ∀ ad, A = some ad → ∃ cs, w.heap[ad.block]? = some (.cells cs 5 (0, 0))

theorem Rd.set {w : World} {g : Nat} {b : Bs} {a a' : Nat} {e e' : Int} (h : Rd w g b a e) {w' : World} (hs : w'.heap.size = w.heap.size) (ho : ∀ k, k ≠ g → w'.heap[k]? = w.heap[k]?) (ha : a' ≤ b.length)
    (hk : ∀ A n c, Blk w g 112 #[.slice A n c, .int .i64 a, .int .i64 e] → Blk w' g 112 #[.slice A n c, .int .i64 a', .int .i64 e']) : Rd w' g b a' e' := by
  obtain ⟨A, n, c, hb, hsl, -, hA⟩ := h
  have hne : ∀ ad, A = some ad → ad.block ≠ g := by
    rintro ad h rfl
    obtain ⟨cs, hcs⟩ := hA ad h
    rw [hb] at hcs
    simp at hcs
  refine ⟨A, n, c, hk A n c hb, ?_, ha, fun ad h => ?_⟩
  · obtain ⟨h1, h2, h3, h4⟩ := hsl
    refine ⟨h1, h2, h3, h4.imp_right ?_⟩
    rintro ⟨bb, off, rfl, hbb, hc⟩
    refine ⟨bb, off, rfl, by omega, fun j u hu => ?_⟩
    rw [← hc j u hu]
    have := ho bb (hne _ rfl)
    simp only [World.cell?, this]
  · obtain ⟨cs, hcs⟩ := hA ad h
    exact ⟨cs, (ho _ (hne ad h)).trans hcs⟩
theorem Rd.keep {w w' : World} {g : Nat} {b : Bs} {a : Nat} {e : Int} (h : Rd w g b a e) (hb : Below w.heap.size w w') : Rd w' g b a e := by
  obtain ⟨A, n, c, hk, hsl, ha, hA⟩ := h
  refine ⟨A, n, c, (hb.block g hk.lt).trans hk, (hsl.below hb).more hb.size, ha, fun ad h => ?_⟩
  obtain ⟨cs, hcs⟩ := hA ad h
  exact ⟨cs, (hb.block _ (Array.getElem?_eq_some_iff.1 hcs).1).trans hcs⟩
theorem Rd.off {w : World} {g : Nat} {b : Bs} {a : Nat} {e : Int} (h : Rd w g b a e) (a' : Nat) (ha : a' ≤ b.length) : Rd (w.setCell ⟨g, 1, none⟩ (.int .i64 a')) g b a' e :=
  h.set (by simp [World.setCell]) (fun k hk => heap_setCell_other w ⟨g, 1, none⟩ k _ hk) ha (fun A n c hb => hb.set_ 1 _)
theorem Rd.err {w : World} {g : Nat} {b : Bs} {a : Nat} {e : Int} (h : Rd w g b a e) (e' : Int) : Rd (w.setCell ⟨g, 2, none⟩ (.int .i64 e')) g b a e' :=
  have ha : a ≤ b.length := by obtain ⟨_, _, _, _, _, ha, _⟩ := h; exact ha
  h.set (by simp [World.setCell]) (fun k hk => heap_setCell_other w ⟨g, 2, none⟩ k _ hk) ha (fun A n c hb => hb.set_ 2 _)
theorem Sl.from_ {w : World} {B n cap : Nat} {A : Option Addr} {xs : List Value} (h : Sl w B 1 A n cap xs) (l : Nat) (hl : l ≤ n) : Sl w B 1 (if cap = l then A else A.map (·.add l)) (n - l) (cap - l) (xs.drop l) := by
  obtain ⟨h1, h2, h3, h4⟩ := h
  refine ⟨by rw [List.length_drop]; omega, by omega, by omega, ?_⟩
  rcases h4 with rfl | ⟨b, off, rfl, hb, hc⟩
  · exact .inl (by omega)
  · by_cases hcl : cap = l
    · exact .inl (by omega)
    · rw [if_neg hcl]
      refine .inr ⟨b, off + l, by simp [Addr.add], hb, fun j u hu => ?_⟩
      rw [List.getElem?_drop] at hu
      have := hc _ _ hu
      rw [← this]
      congr 2
      omega

/-- A number at the beginning of bytes, at most so great. -/
def numP (most : Int) (l : Bs) : Nat × Nat × Int := if (prs l).2.2 = 0 ∧ most < (prs l).1 then (0, 0, 2) else prs l
set_option maxRecDepth 100000 in
set_option maxHeartbeats 1000000 in
theorem num1_any (A : Option Addr) (n c : Nat) (l : Bs) (q : Nat) (most : Int) (w : World) (hs : Sl w w.heap.size 1 A n c (l.map u8v)) (hq : w.cell? ⟨q, 0, none⟩ = some (.int .i64 most)) :
    Calls Tryz.prog 64 #[.slice A n c, .pointer (some ⟨q, 0, none⟩)] w fun e w' => e = .returned (.tuple #[.int .i64 (numP most l).1, .int .i64 (numP most l).2.1, .int .i64 (numP most l).2.2]) ∧ w = w' := by
  have HG := hid (cparse_any A n c l w hs)
  have hnp := hid (show numP most l = if (prs l).2.2 = 0 ∧ most < ((prs l).1 : Int) then (0, 0, 2) else ((prs l).1, (prs l).2.1, (prs l).2.2) from rfl)
  generalize numP most l = R at *
  generalize (prs l).1 = a at *
  generalize (prs l).2.1 = b at *
  generalize (prs l).2.2 = d at *
  clear hs
  by_cases h1 : d = 0
  · subst h1
    by_cases h2 : most < (a : Int)
    · have HR := hid (show R = (0, 0, 2) by rw [hnp.out, if_pos ⟨rfl, h2⟩])
      go_enter Tryz.func64, Tryz.ntmps64
      go_wp2_with (go_at_call 65; refine HG.out.mono ?_; rintro e w' ⟨rfl, rfl⟩)
      go_ret3
      exact ⟨ret_tup3 (by rw [HR.out]; rfl) (by rw [HR.out]; rfl) (by rw [HR.out]; rfl), rfl⟩
    · have HR := hid (show R = (a, b, 0) by rw [hnp.out, if_neg (fun h => h2 h.2)])
      go_enter Tryz.func64, Tryz.ntmps64
      go_wp2_with (go_at_call 65; refine HG.out.mono ?_; rintro e w' ⟨rfl, rfl⟩)
      go_ret3
      exact ⟨ret_tup3 (by rw [HR.out]; rfl) (by rw [HR.out]; rfl) (by rw [HR.out]; rfl), rfl⟩
  · have h1b : (d == 0) = false := by simp [h1]
    have HR := hid (show R = (a, b, d) by rw [hnp.out, if_neg (fun h => h1 h.1)])
    clear h1
    go_enter Tryz.func64, Tryz.ntmps64
    go_wp2_with (go_at_call 65; refine HG.out.mono ?_; rintro e w' ⟨rfl, rfl⟩)
    go_ret3
    exact ⟨ret_tup3 (by rw [HR.out]; rfl) (by rw [HR.out]; rfl) (by rw [HR.out]; rfl), rfl⟩

theorem grp_le (most : Nat) : ∀ (l : Bs) (k u : Nat), (grp most l k u).2.1 ≤ k + l.length
  | [], k, u => by rw [grp_nil]; simp
  | c :: r, k, u => by
    have h := grp_le most r (k + 1) (u + c.toNat % 128 * 128 ^ k)
    rw [grp_cons]
    split
    · simp
    · split
      · split
        · simp
        · simp
      · rw [List.length_cons]; omega
theorem numP_le (most : Int) (l : Bs) : (numP most l).2.1 ≤ l.length := by
  unfold numP
  split
  · simp
  · have := grp_le 9 l 0 0
    unfold prs
    omega
/-- What Number makes of a reader's offset and error. -/
def rdNum (most : Int) (b : Bs) (a : Nat) (e : Int) : Nat × Nat × Int :=
  if e ≠ 0 then (0, a, e) else if (numP most (b.drop a)).2.2 ≠ 0 then (0, a, (numP most (b.drop a)).2.2) else ((numP most (b.drop a)).1, a + (numP most (b.drop a)).2.1, 0)

set_option maxRecDepth 100000 in
set_option maxHeartbeats 1000000 in
theorem readInt_any (g : Nat) (b : Bs) (a : Nat) (e : Int) (q : Nat) (most : Int) (w : World) (h : Rd w g b a e) (hq : w.cell? ⟨q, 0, none⟩ = some (.int .i64 most)) :
    Calls Tryz.prog 63 #[.pointer (some ⟨g, 0, none⟩), .func (.func 64) #[] #[.pointer (some ⟨q, 0, none⟩)]] w fun o w' =>
      o = .returned (.int .i64 (rdNum most b a e).1) ∧ Rd w' g b (rdNum most b a e).2.1 (rdNum most b a e).2.2 ∧ w.grownBy w' (some g) := by
  have H := hid h
  obtain ⟨A, n, c, hk, hsl, ha, -⟩ := h
  have c0 : w.cell? ⟨g, 0, none⟩ = some (.slice A n c) := hk.cell 0
  have c1 : w.cell? ⟨g, 1, none⟩ = some (.int .i64 a) := hk.cell 1
  have c2 : w.cell? ⟨g, 2, none⟩ = some (.int .i64 e) := hk.cell 2
  have f1 := hk.frozen 1
  have f2 := hk.frozen 2
  by_cases h0 : e = 0
  · subst h0
    have hn : b.length = n := by have := hsl.1; simpa using this
    have hc := hsl.2.1
    have hm := hsl.2.2.1
    have hai : (a : Int) ≤ (n : Int) := by omega
    unfold maxLen at hm
    have HS := hsl.from_ a (by omega)
    rw [← List.map_drop] at HS
    have HK := hid (fun m : Nat => num1_any _ _ _ (b.drop a) q most (w.drewN m) (HS.keep (fun _ _ _ => rfl)) hq)
    have hle := numP_le most (b.drop a)
    rw [List.length_drop] at hle
    have hrd := hid (show rdNum most b a 0 = if (numP most (b.drop a)).2.2 ≠ 0 then (0, a, (numP most (b.drop a)).2.2) else ((numP most (b.drop a)).1, a + (numP most (b.drop a)).2.1, 0) from rfl)
    generalize rdNum most b a 0 = R at *
    generalize (numP most (b.drop a)).1 = v at *
    generalize (numP most (b.drop a)).2.1 = k at *
    generalize (numP most (b.drop a)).2.2 = d at *
    clear hsl HS
    by_cases h1 : d = 0
    · subst h1
      have HR := hid (show R = (v, a + k, 0) by rw [hrd.out, if_neg (by simp)])
      go_enter Tryz.func63, Tryz.ntmps63
      go_wp2_with fail
      go_quiet (first | (go_at_call 64; refine Calls.quiet_of_same ((HK.out _).mono fun _ _ h => ⟨h.1, h.2.symm⟩)))
      go_wp2_with fail
      all_goals go_ret
      all_goals
        refine ⟨by rw [HR.out]; rfl, ?_, gb_trans (gb_below (dN (Below.refl _ _) nq) _) (gb_set _ _ _ _)⟩
        rw [HR.out, ← Int.natCast_add]
        exact (H.out.keep (dN (Below.refl _ _) nq)).off (a + k) (by omega)
    · have h1b : (d != 0) = true := by simp [h1]
      have HR := hid (show R = (0, a, d) by rw [hrd.out, if_pos h1])
      clear h1
      go_enter Tryz.func63, Tryz.ntmps63
      go_wp2_with fail
      go_quiet (first | (go_at_call 64; refine Calls.quiet_of_same ((HK.out _).mono fun _ _ h => ⟨h.1, h.2.symm⟩)))
      go_wp2_with fail
      all_goals go_ret
      all_goals
        refine ⟨by rw [HR.out]; rfl, ?_, gb_trans (gb_below (dN (Below.refl _ _) nq) _) (gb_set _ _ _ _)⟩
        rw [HR.out]
        exact (H.out.keep (dN (Below.refl _ _) nq)).err d
  · have heb : (e != 0) = true := by simp [h0]
    have HR := hid (show rdNum most b a e = (0, a, e) by rw [rdNum, if_pos h0])
    clear h0
    generalize rdNum most b a e = R at *
    go_enter Tryz.func63, Tryz.ntmps63
    go_wp2_with fail
    go_ret
    exact ⟨by rw [HR.out]; rfl, by rw [HR.out]; exact H.out, gb_refl _ _⟩

set_option maxRecDepth 100000 in
set_option maxHeartbeats 1000000 in
theorem rnumber_any (g : Nat) (b : Bs) (a : Nat) (e : Int) (most : Int) (w : World) (h : Rd w g b a e) :
    Calls Tryz.prog 33 #[.pointer (some ⟨g, 0, none⟩), .int .i64 most] w fun o w' =>
      o = .returned (.int .i64 (rdNum most b a e).1) ∧ Rd w' g b (rdNum most b a e).2.1 (rdNum most b a e).2.2 ∧ w.grownBy w' (some g) := by
  have hB : Below w.heap.size w (w.alloc (.cells #[.int .i64 most] 3)) := (Below.refl _ _).alloc (Nat.le_refl _) _
  have HK := hid (readInt_any g b a e w.heap.size most (w.alloc (.cells #[.int .i64 most] 3)) (h.keep hB) (by simp))
  go_enter Tryz.func33, Tryz.ntmps33
  go_wp2_with (go_at_call 63; refine HK.out.mono ?_; rintro o w' ⟨rfl, hr, hg⟩)
  go_ret
  exact ⟨rfl, hr, gb_trans (gb_below hB _) hg⟩

end Go.Proofs.YtfgecaphhdedcaaGreatDoor
namespace Go.Proofs.YtfgecaphhdedcaaGreatDoor
open Go.RowKit

/-- Bytes as a string. -/
def strB (l : Bs) : ByteArray := ⟨l.toArray⟩
theorem Sl.take_ {w : World} {B n cap : Nat} {A : Option Addr} {xs : List Value} (h : Sl w B 1 A n cap xs) (m : Nat) (hm : m ≤ n) : Sl w B 1 A m cap (xs.take m) := by
  obtain ⟨h1, h2, h3, h4⟩ := h
  refine ⟨by rw [List.length_take]; omega, by omega, h3, ?_⟩
  rcases h4 with rfl | ⟨b, off, rfl, hb, hc⟩
  · exact .inl (by omega)
  · refine .inr ⟨b, off, rfl, hb, fun j u hu => hc j u ?_⟩
    rw [List.getElem?_take] at hu
    split at hu
    · exact hu
    · cases hu
theorem Sl.str {w : World} {B n cap : Nat} {A : Option Addr} {l : Bs} (h : Sl w B 1 A n cap (l.map u8v)) :
    (convert 54 9 (.slice A n cap)).run Tryz.prog w = .ok (.string (strB l)) w := by
  obtain ⟨h1, -, -, h4⟩ := h
  obtain rfl : l.length = n := by simpa using h1
  cases A with
  | none =>
    rcases h4 with h0 | ⟨b, off, h, -⟩
    · obtain rfl := List.eq_nil_of_length_eq_zero h0
      exact run_convert_bytes_nil w _ _ Tryz.underlying54 Tryz.underlying5 _ _ _ Tryz.underlying9
    · cases h
  | some a =>
    refine run_convert_bytes_back w _ _ _ a cap l Tryz.underlying54 Tryz.underlying5 Tryz.underlying9 fun j hj => ?_
    rcases h4 with h0 | ⟨b, off, h, -, hc⟩
    · omega
    · cases h
      have := hc j (u8v l[j]) (by simp [hj])
      have hp : (⟨b, off, none⟩ : Addr).add j = ⟨b, off + j, none⟩ := by unfold Addr.add; split <;> simp_all
      rw [hp]
      exact this

/-- A text at the beginning of bytes, at most so long. -/
def txtP (most : Int) (l : Bs) : Bs × Nat × Int :=
  if (prs l).2.2 ≠ 0 then ([], 0, (prs l).2.2)
  else if min most 16777216 < ((prs l).1 : Int) then ([], 0, 5)
  else if (l.length : Int) - ((prs l).2.1 : Int) < ((prs l).1 : Int) then ([], 0, 28)
  else ((l.drop (prs l).2.1).take (prs l).1, (prs l).2.1 + (prs l).1, 0)
theorem prs_le (l : Bs) : (prs l).2.1 ≤ l.length := by
  have := grp_le 9 l 0 0
  unfold prs
  omega
theorem txtP_le (most : Int) (l : Bs) : (txtP most l).2.1 ≤ l.length := by
  have := prs_le l
  unfold txtP
  split
  · simp
  · split
    · simp
    · split
      · simp
      · simp only
        omega

set_option maxRecDepth 100000 in
set_option maxHeartbeats 1000000 in
theorem text1_any (A : Option Addr) (n c : Nat) (l : Bs) (q : Nat) (most : Int) (w : World) (hs : Sl w w.heap.size 1 A n c (l.map u8v)) (hq : w.cell? ⟨q, 0, none⟩ = some (.int .i64 most)) :
    Calls Tryz.prog 69 #[.slice A n c, .pointer (some ⟨q, 0, none⟩)] w fun e w' => e = .returned (.tuple #[.string (strB (txtP most l).1), .int .i64 (txtP most l).2.1, .int .i64 (txtP most l).2.2]) ∧ w = w' := by
  have HG := hid (cparse_any A n c l w hs)
  have hle := prs_le l
  have hlt := prs_lt l
  have hn : l.length = n := by have := hs.1; simpa using this
  have hc := hs.2.1
  have hm := hs.2.2.1
  unfold maxLen at hm
  have HT := hid (show txtP most l = if (prs l).2.2 ≠ 0 then ([], 0, (prs l).2.2) else if min most 16777216 < ((prs l).1 : Int) then ([], 0, 5) else if (n : Int) - ((prs l).2.1 : Int) < ((prs l).1 : Int) then ([], 0, 28) else ((l.drop (prs l).2.1).take (prs l).1, (prs l).2.1 + (prs l).1, 0) by rw [← hn]; rfl)
  have HS := hid hs
  generalize txtP most l = R at *
  generalize (prs l).1 = v at *
  generalize (prs l).2.1 = k at *
  generalize (prs l).2.2 = d at *
  rw [hn] at hle
  clear hs
  by_cases h1 : d = 0
  · subst h1
    have h1b : ((0 : Int) != 0) = false := rfl
    by_cases h2 : min most 16777216 < (v : Int)
    · have HR := hid (show R = ([], 0, 5) by rw [HT.out, if_neg (by simp), if_pos h2])
      go_enter Tryz.func69, Tryz.ntmps69
      go_wp2_with (go_at_call 65; refine HG.out.mono ?_; rintro e w' ⟨rfl, rfl⟩)
      go_ret3
      exact ⟨ret_tup3 (by rw [HR.out]; rfl) (by rw [HR.out]; rfl) (by rw [HR.out]; rfl), rfl⟩
    · have h2i : (v : Int) ≤ min most 16777216 := by omega
      by_cases h3 : (n : Int) - (k : Int) < (v : Int)
      · have HR := hid (show R = ([], 0, 28) by rw [HT.out, if_neg (by simp), if_neg h2, if_pos h3])
        go_enter Tryz.func69, Tryz.ntmps69
        go_wp2_with (go_at_call 65; refine HG.out.mono ?_; rintro e w' ⟨rfl, rfl⟩)
        go_ret3
        exact ⟨ret_tup3 (by rw [HR.out]; rfl) (by rw [HR.out]; rfl) (by rw [HR.out]; rfl), rfl⟩
      · have HR := hid (show R = ((l.drop k).take v, k + v, 0) by rw [HT.out, if_neg (by simp), if_neg h2, if_neg h3])
        have h5 : k + v ≤ n := by omega
        have h6 : (k : Int) + (v : Int) ≤ (c : Int) := by omega
        have hcv := ((HS.out.from_ k hle).take_ v (by omega))
        rw [← List.map_drop, ← List.map_take] at hcv
        have hcv := hcv.str
        generalize (l.drop k).take v = tx at *
        by_cases h4 : c = k
        · rw [if_pos h4] at hcv
          subst h4
          obtain rfl : v = 0 := by omega
          rw [Nat.sub_self] at hcv
          go_enter Tryz.func69, Tryz.ntmps69
          go_wp2_with (go_at_call 65; refine HG.out.mono ?_; rintro e w' ⟨rfl, rfl⟩)
          go_ret3
          exact ⟨ret_tup3 (by rw [HR.out]; rfl) (by rw [HR.out]; go_num) (by rw [HR.out]; rfl), rfl⟩
        · rw [if_neg h4] at hcv
          go_enter Tryz.func69, Tryz.ntmps69
          go_wp2_with (go_at_call 65; refine HG.out.mono ?_; rintro e w' ⟨rfl, rfl⟩)
          go_ret3
          exact ⟨ret_tup3 (by rw [HR.out]; rfl) (by rw [HR.out]; go_num) (by rw [HR.out]; rfl), rfl⟩
  · have h1b : (d != 0) = true := by simp [h1]
    have HR := hid (show R = ([], 0, d) by rw [HT.out, if_pos h1])
    clear h1
    go_enter Tryz.func69, Tryz.ntmps69
    go_wp2_with (go_at_call 65; refine HG.out.mono ?_; rintro e w' ⟨rfl, rfl⟩)
    go_ret3
    exact ⟨ret_tup3 (by rw [HR.out]; rfl) (by rw [HR.out]; rfl) (by rw [HR.out]; rfl), rfl⟩

/-- What Text makes of a reader's offset and error. -/
def rdTxt (most : Int) (b : Bs) (a : Nat) (e : Int) : Bs × Nat × Int :=
  if e ≠ 0 then ([], a, e) else if (txtP most (b.drop a)).2.2 ≠ 0 then ([], a, (txtP most (b.drop a)).2.2) else ((txtP most (b.drop a)).1, a + (txtP most (b.drop a)).2.1, 0)

set_option maxRecDepth 100000 in
set_option maxHeartbeats 1000000 in
theorem readStr_any (g : Nat) (b : Bs) (a : Nat) (e : Int) (q : Nat) (most : Int) (w : World) (h : Rd w g b a e) (hq : w.cell? ⟨q, 0, none⟩ = some (.int .i64 most)) :
    Calls Tryz.prog 68 #[.pointer (some ⟨g, 0, none⟩), .func (.func 69) #[] #[.pointer (some ⟨q, 0, none⟩)]] w fun o w' =>
      o = .returned (.string (strB (rdTxt most b a e).1)) ∧ Rd w' g b (rdTxt most b a e).2.1 (rdTxt most b a e).2.2 ∧ w.grownBy w' (some g) := by
  have H := hid h
  obtain ⟨A, n, c, hk, hsl, ha, -⟩ := h
  have c0 : w.cell? ⟨g, 0, none⟩ = some (.slice A n c) := hk.cell 0
  have c1 : w.cell? ⟨g, 1, none⟩ = some (.int .i64 a) := hk.cell 1
  have c2 : w.cell? ⟨g, 2, none⟩ = some (.int .i64 e) := hk.cell 2
  have f1 := hk.frozen 1
  have f2 := hk.frozen 2
  by_cases h0 : e = 0
  · subst h0
    have hn : b.length = n := by have := hsl.1; simpa using this
    have hc := hsl.2.1
    have hm := hsl.2.2.1
    have hai : (a : Int) ≤ (n : Int) := by omega
    unfold maxLen at hm
    have HS := hsl.from_ a (by omega)
    rw [← List.map_drop] at HS
    have HK := hid (fun m : Nat => text1_any _ _ _ (b.drop a) q most (w.drewN m) (HS.keep (fun _ _ _ => rfl)) hq)
    have hle := txtP_le most (b.drop a)
    rw [List.length_drop] at hle
    have hrd := hid (show rdTxt most b a 0 = if (txtP most (b.drop a)).2.2 ≠ 0 then ([], a, (txtP most (b.drop a)).2.2) else ((txtP most (b.drop a)).1, a + (txtP most (b.drop a)).2.1, 0) from rfl)
    generalize rdTxt most b a 0 = R at *
    generalize (txtP most (b.drop a)).1 = v at *
    generalize (txtP most (b.drop a)).2.1 = k at *
    generalize (txtP most (b.drop a)).2.2 = d at *
    clear hsl HS
    by_cases h1 : d = 0
    · subst h1
      have HR := hid (show R = (v, a + k, 0) by rw [hrd.out, if_neg (by simp)])
      go_enter Tryz.func68, Tryz.ntmps68
      go_wp2_with fail
      go_quiet (first | (go_at_call 69; refine Calls.quiet_of_same ((HK.out _).mono fun _ _ h => ⟨h.1, h.2.symm⟩)))
      go_wp2_with fail
      all_goals go_ret
      all_goals
        refine ⟨by rw [HR.out]; rfl, ?_, gb_trans (gb_below (dN (Below.refl _ _) nq) _) (gb_set _ _ _ _)⟩
        rw [HR.out, ← Int.natCast_add]
        exact (H.out.keep (dN (Below.refl _ _) nq)).off (a + k) (by omega)
    · have h1b : (d != 0) = true := by simp [h1]
      have HR := hid (show R = ([], a, d) by rw [hrd.out, if_pos h1])
      clear h1
      go_enter Tryz.func68, Tryz.ntmps68
      go_wp2_with fail
      go_quiet (first | (go_at_call 69; refine Calls.quiet_of_same ((HK.out _).mono fun _ _ h => ⟨h.1, h.2.symm⟩)))
      go_wp2_with fail
      all_goals go_ret
      all_goals
        refine ⟨by rw [HR.out]; rfl, ?_, gb_trans (gb_below (dN (Below.refl _ _) nq) _) (gb_set _ _ _ _)⟩
        rw [HR.out]
        exact (H.out.keep (dN (Below.refl _ _) nq)).err d
  · have heb : (e != 0) = true := by simp [h0]
    have HR := hid (show rdTxt most b a e = ([], a, e) by rw [rdTxt, if_pos h0])
    clear h0
    generalize rdTxt most b a e = R at *
    go_enter Tryz.func68, Tryz.ntmps68
    go_wp2_with fail
    go_ret
    exact ⟨by rw [HR.out]; rfl, by rw [HR.out]; exact H.out, gb_refl _ _⟩

set_option maxRecDepth 100000 in
set_option maxHeartbeats 1000000 in
theorem rtext_any (g : Nat) (b : Bs) (a : Nat) (e : Int) (most : Int) (w : World) (h : Rd w g b a e) :
    Calls Tryz.prog 35 #[.pointer (some ⟨g, 0, none⟩), .int .i64 most] w fun o w' =>
      o = .returned (.string (strB (rdTxt most b a e).1)) ∧ Rd w' g b (rdTxt most b a e).2.1 (rdTxt most b a e).2.2 ∧ w.grownBy w' (some g) := by
  have hB : Below w.heap.size w (w.alloc (.cells #[.int .i64 most] 3)) := (Below.refl _ _).alloc (Nat.le_refl _) _
  have HK := hid (readStr_any g b a e w.heap.size most (w.alloc (.cells #[.int .i64 most] 3)) (h.keep hB) (by simp))
  go_enter Tryz.func35, Tryz.ntmps35
  go_wp2_with (go_at_call 68; refine HK.out.mono ?_; rintro o w' ⟨rfl, hr, hg⟩)
  go_ret
  exact ⟨rfl, hr, gb_trans (gb_below hB _) hg⟩

end Go.Proofs.YtfgecaphhdedcaaGreatDoor
namespace Go.Proofs.YtfgecaphhdedcaaGreatDoor
open Go.RowKit

set_option maxRecDepth 100000 in
set_option maxHeartbeats 1000000 in
theorem rrest_any (g : Nat) (b : Bs) (a : Nat) (e : Int) (w : World) (h : Rd w g b a e) :
    Calls Tryz.prog 70 #[.pointer (some ⟨g, 0, none⟩)] w fun o w' => o = .returned (.int .i64 ((b.length - a : Nat) : Int)) ∧ ∃ n, w' = w.drewN n := by
  obtain ⟨A, n, c, hk, hsl, ha, -⟩ := h
  have c0 : w.cell? ⟨g, 0, none⟩ = some (.slice A n c) := hk.cell 0
  have c1 : w.cell? ⟨g, 1, none⟩ = some (.int .i64 a) := hk.cell 1
  obtain rfl : b.length = n := by have := hsl.1; simpa using this
  have hc := hsl.2.1
  have hm := hsl.2.2.1
  unfold maxLen at hm
  have hw : IntKind.i64.wrap ((b.length : Int) - (a : Int)) = ((b.length - a : Nat) : Int) := by simp [IntKind.wrap, IntKind.signed, IntKind.bits]; omega
  have HS := hid hsl
  clear hsl
  go_enter Tryz.func70, Tryz.ntmps70
  go_wp2_with fail
  go_quiet (fail)
  go_wp2_with fail
  all_goals go_ret
  all_goals exact ⟨by first | rfl | (simp; omega), _, rfl⟩

/-- What Close says. -/
def rdEnd (b : Bs) (a : Nat) (e : Int) : Int := if e = 0 then (if a < b.length then 5 else 0) else e
set_option maxRecDepth 100000 in
set_option maxHeartbeats 1000000 in
theorem rclose_any (g : Nat) (b : Bs) (a : Nat) (e : Int) (w : World) (h : Rd w g b a e) :
    Calls Tryz.prog 36 #[.pointer (some ⟨g, 0, none⟩)] w fun o w' => o = .returned (.int .i64 (rdEnd b a e)) ∧ ∃ n, w' = w.drewN n := by
  have HR := hid (rrest_any g b a e w h)
  obtain ⟨A, n, c, hk, hsl, ha, -⟩ := h
  have c2 : w.cell? ⟨g, 2, none⟩ = some (.int .i64 e) := hk.cell 2
  by_cases h0 : e = 0
  · subst h0
    by_cases h1 : a < b.length
    · have h2 : (0 : Int) < ((b.length - a : Nat) : Int) := by omega
      rw [show rdEnd b a 0 = 5 by simp [rdEnd, h1]]
      go_enter Tryz.func36, Tryz.ntmps36
      go_wp2_with (go_at_call 70; refine HR.out.mono ?_; rintro o w' ⟨rfl, nn, rfl⟩)
      go_ret
      exact ⟨rfl, _, rfl⟩
    · have h2 : ((b.length - a : Nat) : Int) = 0 := by omega
      rw [h2] at HR
      rw [show rdEnd b a 0 = 0 by simp [rdEnd, h1]]
      clear h1 h2
      go_enter Tryz.func36, Tryz.ntmps36
      go_wp2_with (go_at_call 70; refine HR.out.mono ?_; rintro o w' ⟨rfl, nn, rfl⟩)
      go_ret
      exact ⟨rfl, _, rfl⟩
  · have heb : (e == 0) = false := by simp [h0]
    rw [show rdEnd b a e = e by simp [rdEnd, h0]]
    clear h0
    go_enter Tryz.func36, Tryz.ntmps36
    go_wp2_with fail
    go_ret
    exact ⟨rfl, 0, rfl⟩
end Go.Proofs.YtfgecaphhdedcaaGreatDoor
namespace Go.Proofs.YtfgecaphhdedcaaGreatDoor
open Go.RowKit

section
variable {P : Program} (w : World)
theorem run_append_gen (t ty : TypeId) (base : Nat) (e : TypeId) (i : TypeInfo) (z : Value) (size bytes : Nat) (ht : P.underlying t = some (.slice e)) (hi : P.info? e = some i) (hz : i.zero = some z)
    (hsize : i.size = size) (hby : i.bytes = bytes) (hzs : z.cells.size = size) (hsz : 0 < size)
    (v : Value) (n : Nat) (xs : List Value) (hown : w.ownsRow base e size v n xs)
    (A : Option Addr) (m c : Nat) (news : List Value) (hl : news.length = m * size) (hA : A = none → m = 0 ∧ c = 0) (hnews : ∀ ad, A = some ad → ∀ j u, news[j]? = some u → w.cell? (ad.add j) = some u) (h1 : ∀ u ∈ news, u.oneCell' = true)
    (h63 : n + m ≤ maxLen) (hbytes : (n + m) * bytes ≤ 140737488355328) (hbase : base ≤ w.heap.size) :
    ∃ v' w', (Builtin.append_ #[t, t] ty #[v, .slice A m c]).run P w = .ok v' w' ∧ w'.ownsRow base e size v' (n + m) (xs ++ news) ∧ w.grownBy w' v.ownBlock := by
  cases A with
  | none =>
    obtain ⟨rfl, rfl⟩ := hA rfl
    have : news = [] := List.eq_nil_of_length_eq_zero (by simpa using hl)
    subst this
    refine ⟨v, w, run_append_owned_none w base t ty e i size ht hi v n xs hown, by simpa using hown, ⟨rfl, rfl, rfl, Nat.le_refl _, fun _ _ _ => rfl⟩⟩
  | some ad =>
    obtain ⟨v', w', h, h2, h3, _⟩ := run_append_own (P := P) w base t ty e i z size bytes ht hi hz hsize hby hzs hsz v n xs hown ad m c news hl (hnews ad rfl) h1 h63 hbytes hbase
    exact ⟨v', w', h, h2, h3⟩

theorem step_append_gen {ops : Array Oper} {o : Oper} {a : Act} {K : Act → World → Prop} {Q : Exit → Act → World → Prop} {E : Prop} (hgd : o.guard = none) (s x : Operand) (t : TypeId)
    (ho : o.op = .call { callee := .builtin .append, args := #[s, x], argTypes := #[t, t] })
    (base : Nat) (e : TypeId) (i : TypeInfo) (z : Value) (size bytes : Nat) (ht : P.underlying t = some (.slice e)) (hi : P.info? e = some i) (hz : i.zero = some z)
    (hsize : i.size = size) (hby : i.bytes = bytes) (hzs : z.cells.size = size) (hsz : 0 < size)
    (v : Value) (n : Nat) (xs : List Value) (hs : a.eval s = v) (hown : w.ownsRow base e size v n xs)
    (A : Option Addr) (m c : Nat) (news : List Value) (hx : a.eval x = .slice A m c) (hl : news.length = m * size) (hA : A = none → m = 0 ∧ c = 0) (hnews : ∀ ad, A = some ad → ∀ j u, news[j]? = some u → w.cell? (ad.add j) = some u) (h1 : ∀ u ∈ news, u.oneCell' = true)
    (h63 : n + m ≤ maxLen) (hbytes : (n + m) * bytes ≤ 140737488355328) (hbase : base ≤ w.heap.size)
    (h : ∀ v' w', w'.ownsRow base e size v' (n + m) (xs ++ news) → w.grownBy w' v.ownBlock → K (a.put o.dst v') w') :
    if Region.wanted o (yielded ops a.tmps) = true then Oper.wp P o a w K Q else E := by
  rw [if_pos (by simp [Region.wanted, hgd])]
  obtain ⟨v', w', hr, h2, h3⟩ := run_append_gen (P := P) w t o.type base e i z size bytes ht hi hz hsize hby hzs hsz v n xs hown A m c news hl hA hnews h1 h63 hbytes hbase
  unfold Oper.wp execOp
  simp only [ho, resolve, invoke, builtin, Sem.run_bind, Sem.run_pure, Result.andThen_ok, List.map_toArray, List.map_cons, List.map_nil, hs, hx, hr]
  exact h v' w' h2 h3
theorem wpList_append_gen {ops : Array Oper} {rest : List Oper} {o : Oper} {a : Act} {Q : Exit → Act → World → Prop} (hgd : o.guard = none) (s x : Operand) (t : TypeId)
    (ho : o.op = .call { callee := .builtin .append, args := #[s, x], argTypes := #[t, t] })
    (base : Nat) (e : TypeId) (i : TypeInfo) (z : Value) (size bytes : Nat) (ht : P.underlying t = some (.slice e)) (hi : P.info? e = some i) (hz : i.zero = some z)
    (hsize : i.size = size) (hby : i.bytes = bytes) (hzs : z.cells.size = size) (hsz : 0 < size)
    (v : Value) (n : Nat) (xs : List Value) (hs : a.eval s = v) (hown : w.ownsRow base e size v n xs)
    (A : Option Addr) (m c : Nat) (news : List Value) (hx : a.eval x = .slice A m c) (hl : news.length = m * size) (hA : A = none → m = 0 ∧ c = 0) (hnews : ∀ ad, A = some ad → ∀ j u, news[j]? = some u → w.cell? (ad.add j) = some u) (h1 : ∀ u ∈ news, u.oneCell' = true)
    (h63 : n + m ≤ maxLen) (hbytes : (n + m) * bytes ≤ 140737488355328) (hbase : base ≤ w.heap.size)
    (h : ∀ v' w', w'.ownsRow base e size v' (n + m) (xs ++ news) → w.grownBy w' v.ownBlock → wpList P ops Q rest (a.put o.dst v') w') : wpList P ops Q (o :: rest) a w := by
  refine wpList_plain hgd fun _ hK => ?_
  obtain ⟨v', w', hr, h2, h3⟩ := run_append_gen (P := P) w t o.type base e i z size bytes ht hi hz hsize hby hzs hsz v n xs hown A m c news hl hA hnews h1 h63 hbytes hbase
  unfold Oper.wp execOp
  simp only [ho, resolve, invoke, builtin, Sem.run_bind, Sem.run_pure, Result.andThen_ok, List.map_toArray, List.map_cons, List.map_nil, hs, hx, hr]
  exact hK _ _ (h v' w' h2 h3)
end
end Go.Proofs.YtfgecaphhdedcaaGreatDoor
namespace Go.Proofs.YtfgecaphhdedcaaGreatDoor
open Go.RowKit

theorem own_shape {w : World} {base size n : Nat} {e : TypeId} {v : Value} {xs : List Value} (h : w.ownsRow base e size v n xs) :
    ∃ A cap, v = .slice A n cap ∧ Sl w w.heap.size size A n cap xs ∧ ∀ ad, A = some ad → ∃ cs, w.heap[ad.block]? = some (.cells cs e (0, 0)) := by
  obtain ⟨A, cap, rfl, hs⟩ := Sl.of_own h
  refine ⟨A, cap, rfl, hs, fun ad ha => ?_⟩
  rcases h.2 with ⟨h1, h2⟩ | ⟨g, cap', cur, h1, hb, hh, -⟩
  · cases h1; cases ha
  · cases h1; cases ha; exact ⟨cur, hh⟩

set_option maxRecDepth 100000 in
set_option maxHeartbeats 1000000 in
theorem newReader_any (A : Option Addr) (n c : Nat) (b : Bs) (hb : b.length ≤ 1000000000) (hA : A = none → n = 0 ∧ c = 0) (w : World) (hs : Sl w w.heap.size 1 A n c (b.map u8v)) :
    Calls Tryz.prog 32 #[.slice A n c] w fun o w' => ∃ g, o = .returned (.pointer (some ⟨g, 0, none⟩)) ∧ Rd w' g b 0 0 ∧ w.heap.size ≤ g ∧ Below w.heap.size w w' := by
  obtain ⟨i0, hi, hz0, hz1, hz2⟩ := info_parts Tryz.info_u8
  have HS := hid hs
  have hn : b.length = n := by have := hs.1; simpa using this
  have hN := hid (show (b.map u8v).length = n * 1 by simp [hn])
  have hB : Below w.heap.size w (w.alloc (.cells #[] 5)) := (Below.refl _ _).alloc (Nat.le_refl _) _
  have hbb : Blk (w.alloc (.cells #[] 5)) w.heap.size 5 #[] := Blk.new _ _ _
  have hown : (w.alloc (.cells #[] 5)).ownsRow w.heap.size 5 1 (.slice (some ⟨w.heap.size, 0, none⟩) 0 0) 0 [] := World.ownsRow_lit w #[] 0 (Nat.le_refl _) (by unfold maxLen; omega) rfl
  have HO := hid hown
  have hcel : ∀ ad, A = some ad → ∀ j u, (b.map u8v)[j]? = some u → (w.alloc (.cells #[] 5)).cell? (ad.add j) = some u := by
    rintro ad rfl j u hu
    rcases (hs.below hB).2.2.2 with h0 | ⟨bb, off, h, -, hc⟩
    · rw [show b = [] from List.eq_nil_of_length_eq_zero (by omega)] at hu
      simp at hu
    · cases h
      have hp : (⟨bb, off, none⟩ : Addr).add j = ⟨bb, off + j, none⟩ := by unfold Addr.add; split <;> simp_all
      rw [hp]
      exact hc j u hu
  have HC := hid hcel
  clear hs hown hcel
  go_enter Tryz.func32, Tryz.ntmps32
  go_wp2_with (at_builtin; refine wpList_append_gen _ rfl (.tmp 3) (.tmp 4) _ rfl w.heap.size 5 i0 (.int .u8 0) 1 1 Tryz.underlying54 hi hz0 hz1 hz2 rfl (by decide) (.slice (some ⟨w.heap.size, 0, none⟩) 0 0) 0 [] rfl HO.out A n c (b.map u8v) rfl hN.out hA HC.out (by simp [u8v, Value.oneCell']) (by unfold maxLen; omega) (by omega) (by simp) ?_; intro v1 w1 ho hg; obtain ⟨A1, c1, rfl, hs1, hA1⟩ := own_shape ho; have HS1 := hid hs1; have HA1 := hid hA1; have HG := hid hg; clear hs1 hA1 hg ho)
  have hB1 : Below w.heap.size w w1 := Below.grown hB HG.out (by simp) (fun j e => (HO.out.lt j e).1)
  have hB2 := (Below.refl w1.heap.size w1).alloc (Nat.le_refl _) (.cells #[.slice A1 n c1, .int .i64 0, .int .i64 0] 112)
  have hs2 := HS1.out
  rw [Nat.zero_add, List.nil_append] at hs2
  go_ret
  refine ⟨w1.heap.size, rfl, ⟨A1, n, c1, Blk.new _ _ _, (hs2.below hB2).more hB2.size, Nat.zero_le _, fun ad h => ?_⟩, hB1.size, hB1.alloc hB1.size _⟩
  obtain ⟨cs, hcs⟩ := HA1.out ad h
  exact ⟨cs, (hB2.block _ (Array.getElem?_eq_some_iff.1 hcs).1).trans hcs⟩
end Go.Proofs.YtfgecaphhdedcaaGreatDoor
namespace Go.Proofs.YtfgecaphhdedcaaGreatDoor
open Go.RowKit

/-- A writer of bytes, with an error. -/
def Wr (w : World) (B g : Nat) (b : Bs) (e : Int) : Prop :=
  B ≤ g ∧ ∃ v, Blk w g 121 #[v, .int .i64 e] ∧ w.ownsRow B 5 1 v b.length (b.map u8v)

/-- Nothing but rows of bytes and writers has changed. -/
def KeepT (w w' : World) : Prop := ∀ (k : Nat) (o : Obj), w.heap[k]? = some o → (∀ cs fr, o ≠ Obj.cells cs 5 fr) → (∀ cs fr, o ≠ Obj.cells cs 121 fr) → w'.heap[k]? = some o
theorem KeepT.refl (w : World) : KeepT w w := fun _ _ h _ _ => h
theorem KeepT.trans {a b c : World} (h : KeepT a b) (h' : KeepT b c) : KeepT a c := fun k o hk h1 h2 => h' k o (h k o hk h1 h2) h1 h2
theorem KeepT.below {w w' : World} (h : Below w.heap.size w w') : KeepT w w' := fun k _ hk _ _ => (h.block k (Array.getElem?_eq_some_iff.1 hk).1).trans hk
theorem KeepT.blk {w w' : World} {g : Nat} {t : TypeId} {cs : Array Value} (h : KeepT w w') (hk : Blk w g t cs) (h1 : t ≠ 5) (h2 : t ≠ 121) : Blk w' g t cs :=
  h g _ hk (fun cs fr e => by injection e with _ e; exact h1 e) (fun cs fr e => by injection e with _ e; exact h2 e)

set_option maxRecDepth 100000 in
set_option maxHeartbeats 1000000 in
theorem newWriter_any (w : World) :
    Calls Tryz.prog 37 #[] w fun o w' => o = .returned (.pointer (some ⟨w.heap.size, 0, none⟩)) ∧ Wr w' w.heap.size w.heap.size [] 0 ∧ Below w.heap.size w w' := by
  go_enter Tryz.func37, Tryz.ntmps37
  go_wp2_with fail
  go_ret
  exact ⟨rfl, ⟨Nat.le_refl _, _, Blk.new _ _ _, World.ownsRow_nil _ _ _ _⟩, (Below.refl _ _).alloc (Nat.le_refl _) _⟩

set_option maxRecDepth 100000 in
set_option maxHeartbeats 1000000 in
theorem wwrite_err (B g : Nat) (b : Bs) (e e' : Int) (he : e' ≠ 0) (w : World) (h : Wr w B g b e) :
    Calls Tryz.prog 71 #[.pointer (some ⟨g, 0, none⟩), .int .i64 e', .slice none 0 0] w fun o w' => o = .returned (.tuple #[]) ∧ Wr w' B g b (if e = 0 then e' else e) ∧ Below B w w' ∧ KeepT w w' := by
  obtain ⟨hBg, v, hk, ho⟩ := h
  have c1 : w.cell? ⟨g, 1, none⟩ = some (.int .i64 e) := hk.cell 1
  have f1 := hk.frozen 1
  have hne : v.ownBlock ≠ some g := fun hv => by
    rcases ho.2 with ⟨h1, -⟩ | ⟨g', cap, cur, h1, -, hh, -⟩
    · rw [h1] at hv; cases hv
    · rw [h1] at hv
      cases hv
      rw [hk] at hh
      simp at hh
  have heb : (e' != 0) = true := by simp [he]
  by_cases h0 : e = 0
  · subst h0
    clear he
    go_enter Tryz.func71, Tryz.ntmps71
    go_wp2_with fail
    refine bodyPost_ret (results_none rfl _ _ _) rfl ⟨rfl, ⟨hBg, v, hk.set_ 1 _, ownsRow_setCell_other ho hne _⟩, ?_⟩
    refine ⟨(Below.refl _ _).setCell hBg _, fun k o ho' h1 h2 => ?_⟩
    refine (heap_setCell_other w ⟨g, 1, none⟩ k _ (fun e => ?_)).trans ho'
    subst e
    rw [hk] at ho'
    exact h2 _ _ (Option.some.inj ho').symm
  · have h0b : (e != 0) = true := by simp [h0]
    rw [if_neg h0]
    clear he h0
    go_enter Tryz.func71, Tryz.ntmps71
    go_wp2_with fail
    refine bodyPost_ret (results_none rfl _ _ _) rfl ⟨rfl, ⟨hBg, v, hk, ho⟩, Below.refl _ _, KeepT.refl _⟩

/-- Append of any slice onto a row of one's own: where the new row lies. -/
theorem wpList_append_at {P : Program} (w : World) {ops : Array Oper} {rest : List Oper} {o : Oper} {a : Act} {Q : Exit → Act → World → Prop} (hgd : o.guard = none) (s x : Operand) (t : TypeId)
    (ho : o.op = .call { callee := .builtin .append, args := #[s, x], argTypes := #[t, t] })
    (base : Nat) (e : TypeId) (i : TypeInfo) (z : Value) (size bytes : Nat) (ht : P.underlying t = some (.slice e)) (hi : P.info? e = some i) (hz : i.zero = some z)
    (hsize : i.size = size) (hby : i.bytes = bytes) (hzs : z.cells.size = size) (hsz : 0 < size)
    (v : Value) (n : Nat) (xs : List Value) (hs : a.eval s = v) (hown : w.ownsRow base e size v n xs)
    (A : Option Addr) (m c : Nat) (news : List Value) (hx : a.eval x = .slice A m c) (hl : news.length = m * size) (hA : A = none → m = 0 ∧ c = 0) (hnews : ∀ ad, A = some ad → ∀ j u, news[j]? = some u → w.cell? (ad.add j) = some u) (h1 : ∀ u ∈ news, u.oneCell' = true)
    (h63 : n + m ≤ maxLen) (hbytes : (n + m) * bytes ≤ 140737488355328) (hbase : base ≤ w.heap.size)
    (h : ∀ v' w', w'.ownsRow base e size v' (n + m) (xs ++ news) → w.grownBy w' v.ownBlock → (v'.ownBlock = v.ownBlock ∨ v'.ownBlock = some w.heap.size) → wpList P ops Q rest (a.put o.dst v') w') : wpList P ops Q (o :: rest) a w := by
  refine wpList_plain hgd fun _ hK => ?_
  have hr : ∃ v' w', (Builtin.append_ #[t, t] o.type #[v, .slice A m c]).run P w = .ok v' w' ∧ w'.ownsRow base e size v' (n + m) (xs ++ news) ∧ w.grownBy w' v.ownBlock ∧ (v'.ownBlock = v.ownBlock ∨ v'.ownBlock = some w.heap.size) := by
    cases A with
    | none =>
      obtain ⟨rfl, rfl⟩ := hA rfl
      have : news = [] := List.eq_nil_of_length_eq_zero (by simpa using hl)
      subst this
      exact ⟨v, w, run_append_owned_none w base t o.type e i size ht hi v n xs hown, by simpa using hown, ⟨rfl, rfl, rfl, Nat.le_refl _, fun _ _ _ => rfl⟩, .inl rfl⟩
    | some ad =>
      obtain ⟨v', w', h, h2, h3, _, h5⟩ := run_append_own_at (P := P) w base t o.type e i z size bytes ht hi hz hsize hby hzs hsz v n xs hown ad m c news hl (hnews ad rfl) h1 h63 hbytes hbase
      exact ⟨v', w', h, h2, h3, h5⟩
  obtain ⟨v', w', hr, h2, h3, h4⟩ := hr
  unfold Oper.wp execOp
  simp only [ho, resolve, invoke, builtin, Sem.run_bind, Sem.run_pure, Result.andThen_ok, List.map_toArray, List.map_cons, List.map_nil, hs, hx, hr]
  exact hK _ _ (h v' w' h2 h3 h4)

/-- What the parts of a write are. -/
def PartOk (w : World) (v0 : Value) (v : Value) (l : Bs) : Prop :=
  ∃ A n c, v = .slice A n c ∧ Sl w w.heap.size 1 A n c (l.map u8v) ∧ (A = none → n = 0 ∧ c = 0) ∧ ∀ ad, A = some ad → (∃ cs fr, w.heap[ad.block]? = some (.cells cs 5 fr)) ∧ v0.ownBlock ≠ some ad.block

set_option maxRecDepth 100000 in
set_option maxHeartbeats 1000000 in
theorem wwrite_ok (B g : Nat) (b : Bs) (hBg : B ≤ g) (v0 : Value) (pb : Nat) (vs : List (Value × Bs)) (w : World) (hk : Blk w g 121 #[v0, .int .i64 0]) (ho : w.ownsRow B 5 1 v0 b.length (b.map u8v)) (_hBw : B ≤ w.heap.size)
    (hpb : ∃ cs, w.heap[pb]? = some (.cells cs 54 (0, 0))) (hpc : ∀ i (h : i < vs.length), w.cell? ⟨pb, i, none⟩ = some (vs[i].1))
    (hv : ∀ i (h : i < vs.length), PartOk w v0 vs[i].1 vs[i].2) (hlen : b.length + (vs.flatMap (·.2)).length ≤ 1000000000) (hvl : vs.length ≤ 1000) :
    Calls Tryz.prog 71 #[.pointer (some ⟨g, 0, none⟩), .int .i64 0, .slice (some ⟨pb, 0, none⟩) vs.length vs.length] w fun o w' => o = .returned (.tuple #[]) ∧ Wr w' B g (b ++ vs.flatMap (·.2)) 0 ∧ Below B w w' ∧ KeepT w w' := by
  have c1 : w.cell? ⟨g, 1, none⟩ = some (.int .i64 0) := hk.cell 1
  have f1 := hk.frozen 1
  obtain ⟨i0, hi, hz0, hz1, hz2⟩ := info_parts Tryz.info_u8
  obtain ⟨A0, n0, rfl, -, -⟩ := own_shape ho
  have hgl := hk.lt
  have HO := hid ho
  clear ho
  have HPC := hid hpc
  have HV := hid hv
  clear hpc hv
  have HL := hid hlen
  clear hlen
  go_enter Tryz.func71, Tryz.ntmps71
  go_wp2_with fail
  go_loopw [25] (fun iv wr => ∃ (j : Nat) (A : Option Addr) (c' : Nat), iv = .int .i64 j ∧ j ≤ vs.length ∧ Blk wr g 121 #[.slice A (b ++ (vs.take j).flatMap (·.2)).length c', .int .i64 0] ∧ wr.ownsRow B 5 1 (.slice A (b ++ (vs.take j).flatMap (·.2)).length c') (b ++ (vs.take j).flatMap (·.2)).length ((b ++ (vs.take j).flatMap (·.2)).map u8v) ∧ Below B w wr ∧
    (∀ m, m < w.heap.size → m ≠ g → (Value.slice A0 b.length n0).ownBlock ≠ some m → wr.heap[m]? = w.heap[m]?) ∧ (∀ x, (Value.slice A (b ++ (vs.take j).flatMap (·.2)).length c').ownBlock = some x → (Value.slice A0 b.length n0).ownBlock = some x ∨ w.heap.size ≤ x)) (fun iv _ => vs.length - (intOf iv).toNat)
  case atStart =>
    refine ⟨0, A0, n0, rfl, Nat.zero_le _, ?_, ?_, (Below.refl _ _).setCell hBg _, fun m _ h _ => Below.heap_setCell _ _ _ _ h, fun x hx => .inl ?_⟩
    · simpa using hk.set_ 1 (.int .i64 0)
    · have := ownsRow_setCell_other HO.out (a := ⟨g, 1, none⟩) (fun h => by
        rcases HO.out.2 with ⟨h2, -⟩ | ⟨g', cap, cur, h2, -, hh, -⟩
        · rw [h2] at h; cases h
        · rw [h2] at h; cases h; rw [hk] at hh; simp at hh) (.int .i64 0)
      simpa using this
    · simpa using hx
  case round =>
    obtain ⟨j, A, c', rfl, hj, hkr, hor, hBr, hkeep, hown⟩ := hrel
    by_cases h1 : j < vs.length
    · obtain ⟨Ap, np, cp, hpe, hps, hpA, hpn⟩ := HV.out j h1
      obtain ⟨pcs, hpcs⟩ := hpb
      have hcp := HPC.out j h1
      rw [hpe] at hcp
      have hty : ∀ x, (Value.slice A0 b.length n0).ownBlock = some x → ∃ cur, w.heap[x]? = some (.cells cur 5 (0, 0)) := fun x hx => by
        rcases HO.out.2 with ⟨h2, -⟩ | ⟨g', cap, cur, h2, -, hh, -⟩
        · rw [h2] at hx; cases hx
        · rw [h2] at hx; cases hx; exact ⟨cur, hh⟩
      have hpg : pb ≠ g := by rintro rfl; rw [hk] at hpcs; simp at hpcs
      have hpo : (Value.slice A0 b.length n0).ownBlock ≠ some pb := fun hx => by obtain ⟨cur, hc⟩ := hty _ hx; rw [hc] at hpcs; simp at hpcs
      have hgo : (Value.slice A0 b.length n0).ownBlock ≠ some g := fun hx => by obtain ⟨cur, hc⟩ := hty _ hx; rw [hk] at hc; simp at hc
      have hpl := (Array.getElem?_eq_some_iff.1 hpcs).1
      have hcw : wr.cell? ⟨pb, j, none⟩ = some (.slice Ap np cp) := by
        rw [← hcp]; exact World.cell?_of_block (hkeep pb hpl hpg hpo)
      have hN : ∀ ad, Ap = some ad → ∀ i u, (vs[j].2.map u8v)[i]? = some u → wr.cell? (ad.add i) = some u := by
        rintro ad rfl i u hu
        rcases hps.2.2.2 with h0 | ⟨bb, off, h, hbb, hc⟩
        · have : (vs[j].2.map u8v).length = 0 := by rw [hps.1, h0]
          rw [List.eq_nil_of_length_eq_zero this] at hu
          simp at hu
        · cases h
          obtain ⟨⟨cs, fr, hcs⟩, hne⟩ := hpn _ rfl
          have hp : (⟨bb, off, none⟩ : Addr).add i = ⟨bb, off + i, none⟩ := by unfold Addr.add; split <;> simp_all
          rw [hp, ← hc i u hu]
          exact World.cell?_of_block (hkeep bb hbb (by rintro rfl; rw [hk] at hcs; simp at hcs) hne)
      have hgr : (Value.slice A (b ++ (vs.take j).flatMap (·.2)).length c').ownBlock ≠ some g := fun hx => by
        rcases hown g hx with h2 | h2
        · exact hgo h2
        · omega
      have hst : b ++ (vs.take (j + 1)).flatMap (·.2) = (b ++ (vs.take j).flatMap (·.2)) ++ vs[j].2 := by
        rw [List.take_add_one, List.getElem?_eq_getElem h1, List.flatMap_append, List.append_assoc]; simp
      have hle : ((b ++ (vs.take j).flatMap (·.2)) ++ vs[j].2).length ≤ 1000000000 := by
        rw [← hst]
        have h3 : vs.flatMap (·.2) = (vs.take (j + 1)).flatMap (·.2) ++ (vs.drop (j + 1)).flatMap (·.2) := by rw [← List.flatMap_append, List.take_append_drop]
        have := HL.out
        rw [h3, List.length_append] at this
        rw [List.length_append]
        omega
      have hpl1 : (vs[j].2.map u8v).length = np * 1 := hps.1
      have HST := hid hst
      have hnp : vs[j].2.length = np := by simpa using hpl1
      rw [List.length_append, hnp] at hle
      clear hst
      generalize b ++ (vs.take j).flatMap (·.2) = acc at *
      generalize vs[j].2 = l at *
      have HN := hid hN; have HOR := hid hor; have HOW := hid hown; have HKP := hid hkeep; have HGR := hid hgr; have HL1 := hid hpl1; have HPA := hid hpA
      clear hN hor hown hkeep hgr hpl1 hpn hps hpe hcp hpA hty hpo hgo hpcs
      have hsz := hBr.size
      have hBs : B ≤ wr.heap.size := by omega
      have g0 := hkr.cell 0
      have HG0 := hid (show wr.cell? ⟨g, 0, none⟩ = some (.slice A acc.length c') from g0)
      have hg0 := HG0.out
      have h1i : (j : Int) < (vs.length : Int) := by omega
      clear g0
      go_wp2_with (at_builtin; refine wpList_append_at _ rfl (.tmp 33) (.tmp 34) _ rfl B 5 i0 (.int .u8 0) 1 1 Tryz.underlying54 hi hz0 hz1 hz2 rfl (by decide) (.slice A acc.length c') acc.length (acc.map u8v) rfl HOR.out Ap np cp (l.map u8v) rfl HL1.out HPA.out HN.out (by simp [u8v, Value.oneCell']) (by unfold maxLen; omega) (by omega) hBs ?_; intro v1 w1 ho1 hg1 hat1; obtain ⟨A1, c1', rfl, -, -⟩ := own_shape ho1; have hk1 := (hg1.block g hkr.lt (fun h => HGR.out h.symm)).trans hkr; have f10 := Blk.frozen hk1 0; have c10 : w1.cell? ⟨g, 0, none⟩ = some (.slice A acc.length c') := Blk.cell hk1 0; have HO1 := hid ho1; have HG1 := hid hg1; have HAT := hid hat1; clear ho1 hg1 hat1)
      go_roundw
      case rel =>
        have hal : (acc ++ l).length = acc.length + np := by rw [List.length_append, hnp]
        have hn1 : (Value.slice A1 (acc.length + np) c1').ownBlock ≠ some g := fun hx => by
          rcases HAT.out with h2 | h2
          · exact HGR.out (h2.symm.trans hx)
          · rw [h2] at hx; cases hx; exact absurd hkr.lt (Nat.lt_irrefl _)
        refine ⟨j + 1, A1, c1', by go_num, by omega, ?_, ?_, (Below.grown hBr HG1.out hBs (fun x hx => (HOR.out.lt x hx).1)).setCell hBg _, fun m hm1 hm2 hm3 => ?_, ?_⟩
        · rw [HST.out, hal]
          exact Blk.set_ hk1 0 _
        · rw [HST.out, hal, List.map_append]
          exact ownsRow_setCell_other HO1.out hn1 _
        · refine (Below.heap_setCell _ _ _ _ hm2).trans ((HG1.out.block m (by omega) (fun h => ?_)).trans (HKP.out m hm1 hm2 hm3))
          rcases HOW.out m h.symm with h2 | h2
          · exact hm3 h2
          · omega
        · rw [HST.out, hal]
          intro x hx
          rcases HAT.out with h2 | h2
          · exact HOW.out x (h2.symm.trans hx)
          · rw [h2] at hx; cases hx; exact .inr hsz
      case measure => simp [intOf]; omega
    · obtain rfl : j = vs.length := by omega
      have h1i : ¬ ((vs.length : Int) < (vs.length : Int)) := by omega
      rw [List.take_length] at hkr hor
      have HOR := hid hor
      have HKT := hid (show KeepT w wr from fun k o ho' h1 h2 => by
        have hkl := (Array.getElem?_eq_some_iff.1 ho').1
        refine (hkeep k hkl (fun e => ?_) (fun e => ?_)).trans ho'
        · subst e
          rw [hk] at ho'
          exact h2 _ _ (Option.some.inj ho').symm
        · rcases HO.out.2 with ⟨h3, -⟩ | ⟨g', cap, cur, h3, -, hh, -⟩
          · rw [h3] at e; cases e
          · rw [h3] at e; cases e
            rw [hh] at ho'
            exact h1 _ _ (Option.some.inj ho').symm)
      clear hor hown hkeep h1
      go_wp2_with fail
      go_end0
      exact ⟨rfl, ⟨hBg, _, hkr, HOR.out⟩, hBr, HKT.out⟩
end Go.Proofs.YtfgecaphhdedcaaGreatDoor
namespace Go.Proofs.YtfgecaphhdedcaaGreatDoor
open Go.RowKit

set_option maxRecDepth 100000 in
set_option maxHeartbeats 1000000 in
theorem wwrite_skip (B g : Nat) (b : Bs) (e e' : Int) (he : e ≠ 0) (ps : Value) (w : World) (h : Wr w B g b e) :
    Calls Tryz.prog 71 #[.pointer (some ⟨g, 0, none⟩), .int .i64 e', ps] w fun o w' => o = .returned (.tuple #[]) ∧ w = w' := by
  obtain ⟨_, v, hk, _⟩ := h
  have c1 : w.cell? ⟨g, 1, none⟩ = some (.int .i64 e) := hk.cell 1
  have h0b : (e != 0) = true := by simp [he]
  clear he
  go_enter Tryz.func71, Tryz.ntmps71
  go_wp2_with fail
  refine bodyPost_ret (results_none rfl _ _ _) rfl ⟨rfl, rfl⟩

/-- A fresh row is a part. -/
theorem PartOk.fresh {w0 w : World} {v0 : Value} {n0 : Nat} {xs0 : List Value} {B : Nat} {v : Value} {l : Bs} (h0 : w0.ownsRow B 5 1 v0 n0 xs0) (h : w.ownsRow w0.heap.size 5 1 v l.length (l.map u8v)) : PartOk w v0 v l := by
  obtain ⟨A, c, rfl, hs, hA⟩ := own_shape h
  refine ⟨A, _, c, rfl, hs, fun hn => ?_, fun ad ha => ⟨(hA ad ha).imp fun _ h => ⟨_, h⟩, fun hx => ?_⟩⟩
  · rcases h.2 with ⟨h1, h2⟩ | ⟨g', cap, cur, h2, -⟩
    · injection h1 with _ _ h1c; exact ⟨h2, h1c⟩
    · cases h2; cases hn
  · have h3 := (h0.lt _ hx).2
    rcases h.2 with ⟨h1, -⟩ | ⟨g', cap, cur, h2, hb, -⟩
    · injection h1 with h1a; rw [h1a] at ha; cases ha
    · cases h2; cases ha
      exact absurd h3 (Nat.not_lt.2 hb)

theorem wwrite_one (B g : Nat) (b : Bs) (e : Int) (l : Bs) (w0 W : World) (h : Wr w0 B g b e) (hBw : B ≤ w0.heap.size) (hB : Below w0.heap.size w0 W) (pb : Nat) (v : Value) (hpb : Blk W pb 54 #[v])
    (hown : W.ownsRow w0.heap.size 5 1 v l.length (l.map u8v)) (hlen : b.length + l.length ≤ 1000000000) :
    Calls Tryz.prog 71 #[.pointer (some ⟨g, 0, none⟩), .int .i64 0, .slice (some ⟨pb, 0, none⟩) 1 1] W fun o w' => o = .returned (.tuple #[]) ∧ Wr w' B g (if e = 0 then b ++ l else b) e ∧ Below B w0 w' ∧ KeepT w0 w' := by
  obtain ⟨hBg, v0, hk, ho⟩ := h
  have hk2 : Blk W g 121 #[v0, .int .i64 e] := (hB.block g hk.lt).trans hk
  have ho2 : W.ownsRow B 5 1 v0 b.length (b.map u8v) := ho.kept (gb_below hB (some w0.heap.size)) (.inr (fun h => by have := (ho.lt _ h).2; omega))
  by_cases h0 : e = 0
  · subst h0
    refine (wwrite_ok B g b hBg v0 pb [(v, l)] W hk2 ho2 (by have := hB.size; omega) ⟨_, hpb⟩ (fun i h => ?_) (fun i h => ?_) (by simpa using hlen) (by simp)).mono ?_
    · obtain rfl : i = 0 := by simpa using h
      exact hpb.cell 0
    · obtain rfl : i = 0 := by simpa using h
      exact PartOk.fresh ho hown
    · rintro o w' ⟨rfl, h1, h2, h3⟩
      refine ⟨rfl, by simpa using h1, (hB.mono hBw).trans h2, (KeepT.below hB).trans h3⟩
  · refine (wwrite_skip B g b e 0 h0 _ W ⟨hBg, v0, hk2, ho2⟩).mono ?_
    rintro o w' ⟨rfl, rfl⟩
    rw [if_neg h0]
    exact ⟨rfl, ⟨hBg, v0, hk2, ho2⟩, hB.mono hBw, KeepT.below hB⟩

set_option maxRecDepth 100000 in
set_option maxHeartbeats 1000000 in
theorem wnumberK (B g : Nat) (b : Bs) (e : Int) (u : Nat) (hu : u < 9223372036854775808) (hb : b.length ≤ 999999000) (w : World) (hBw : B ≤ w.heap.size) (h : Wr w B g b e) :
    Calls Tryz.prog 38 #[.pointer (some ⟨g, 0, none⟩), .int .i64 u] w fun o w' => o = .returned (.tuple #[]) ∧ Wr w' B g (if e = 0 then b ++ natL u else b) e ∧ Below B w w' ∧ KeepT w w' := by
  have hw : IntKind.u64.wrap (u : Int) = (u : Int) := wrap_u64 u (by omega)
  have HN := hid (natural_any u (by omega) w)
  have hu0 : ¬ ((u : Int) < 0) := by omega
  have hl := natL_ten (u := u) (by omega)
  have HWW := hid (fun (W : World) hB pb v hpb hown => wwrite_one B g b e (natL u) w W h hBw hB pb v hpb hown (by omega))
  clear h
  generalize (if e = 0 then b ++ natL u else b) = R at *
  go_enter Tryz.func38, Tryz.ntmps38
  go_wp2_with (first | (go_at_call 72; refine HN.out.mono ?_; rintro o w1 ⟨v, rfl, hown, hB1⟩; obtain ⟨A, c, rfl, hs, hA⟩ := own_shape hown; have HS := hid hs; have HOW := hid hown; have HB1 := hid hB1; clear hs hown hB1 hA) | (go_at_call 71; refine (HWW.out _ (HB1.out.alloc HB1.out.size _) _ _ (Blk.new _ _ _) (HOW.out.alloc _)).mono ?_; rintro o w2 ⟨rfl, hr1, hr2⟩; have HR1 := hid hr1; have HR2 := hid hr2; clear hr1 hr2))
  go_end0
  exact ⟨rfl, HR1.out, HR2.out⟩
theorem wnumber_any (B g : Nat) (b : Bs) (e : Int) (u : Nat) (hu : u < 9223372036854775808) (hb : b.length ≤ 999999000) (w : World) (hBw : B ≤ w.heap.size) (h : Wr w B g b e) :
    Calls Tryz.prog 38 #[.pointer (some ⟨g, 0, none⟩), .int .i64 u] w fun o w' => o = .returned (.tuple #[]) ∧ Wr w' B g (if e = 0 then b ++ natL u else b) e ∧ Below B w w' :=
  (wnumberK B g b e u hu hb w hBw h).mono fun _ _ ⟨h1, h2, h3, _⟩ => ⟨h1, h2, h3⟩
end Go.Proofs.YtfgecaphhdedcaaGreatDoor
namespace Go.Proofs.YtfgecaphhdedcaaGreatDoor
open Go.RowKit

set_option maxRecDepth 100000 in
set_option maxHeartbeats 1000000 in
theorem wbytes_any (B g : Nat) (b : Bs) (hb : b.length ≤ 1000000000) (w : World) (h : Wr w B g b 0) :
    Calls Tryz.prog 41 #[.pointer (some ⟨g, 0, none⟩)] w fun o w' => ∃ v, o = .returned (.tuple #[v, .int .i64 0]) ∧ w'.ownsRow w.heap.size 5 1 v b.length (b.map u8v) ∧ Below w.heap.size w w' := by
  obtain ⟨i0, hi, hz0, hz1, hz2⟩ := info_parts Tryz.info_u8
  obtain ⟨hBg, v0, hk, ho⟩ := h
  obtain ⟨A, c, rfl, hs, hA⟩ := own_shape ho
  have hAn : A = none → b.length = 0 ∧ c = 0 := fun hn => by
    rcases ho.2 with ⟨h1, h2⟩ | ⟨g', cap, cur, h2, -⟩
    · injection h1 with _ _ h1c; exact ⟨h2, h1c⟩
    · cases h2; cases hn
  have hcel : ∀ ad, A = some ad → ∀ j u, (b.map u8v)[j]? = some u → (w.alloc (.cells #[] 5)).cell? (ad.add j) = some u := by
    rintro ad rfl j u hu
    rcases (hs.below ((Below.refl w.heap.size w).alloc (Nat.le_refl _) (.cells #[] 5))).2.2.2 with h0 | ⟨bb, off, h, -, hc⟩
    · rw [show b = [] from List.eq_nil_of_length_eq_zero h0] at hu
      simp at hu
    · cases h
      have hp : (⟨bb, off, none⟩ : Addr).add j = ⟨bb, off + j, none⟩ := by unfold Addr.add; split <;> simp_all
      rw [hp]
      exact hc j u hu
  have HC := hid hcel
  have HAN := hid hAn
  have hB : Below w.heap.size w (w.alloc (.cells #[] 5)) := (Below.refl _ _).alloc (Nat.le_refl _) _
  have HO := hid (show (w.alloc (.cells #[] 5)).ownsRow w.heap.size 5 1 (.slice (some ⟨w.heap.size, 0, none⟩) 0 0) 0 [] from World.ownsRow_lit w #[] 0 (Nat.le_refl _) (by unfold maxLen; omega) rfl)
  have c0 : w.cell? ⟨g, 0, none⟩ = some (.slice A b.length c) := hk.cell 0
  have c1 : w.cell? ⟨g, 1, none⟩ = some (.int .i64 0) := hk.cell 1
  have c02 : (w.alloc (.cells #[] 5)).cell? ⟨g, 0, none⟩ = some (.slice A b.length c) := (hk.alloc _).cell 0
  clear hcel hAn hs hA ho
  go_enter Tryz.func41, Tryz.ntmps41
  go_wp2_with (at_builtin; refine wpList_append_gen _ rfl (.tmp 17) (.tmp 21) _ rfl w.heap.size 5 i0 (.int .u8 0) 1 1 Tryz.underlying54 hi hz0 hz1 hz2 rfl (by decide) (.slice (some ⟨w.heap.size, 0, none⟩) 0 0) 0 [] rfl HO.out A b.length c (b.map u8v) rfl (by simp) HAN.out HC.out (by simp [u8v, Value.oneCell']) (by unfold maxLen; omega) (by omega) (by simp) ?_; intro v1 w1 ho hg; obtain ⟨A1, c1, rfl, -, -⟩ := own_shape ho; have HO1 := hid ho; have HG := hid hg; clear hg ho)
  have hB1 : Below w.heap.size w w1 := Below.grown hB HG.out (by simp) (fun j e => (HO.out.lt j e).1)
  have ho1 := HO1.out
  rw [Nat.zero_add, List.nil_append] at ho1
  go_ret2
  exact ⟨_, rfl, ho1, hB1⟩
end Go.Proofs.YtfgecaphhdedcaaGreatDoor
