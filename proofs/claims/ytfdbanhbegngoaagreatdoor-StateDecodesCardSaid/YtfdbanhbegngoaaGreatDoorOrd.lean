/-
  PLAIN LAW OF NAMES: object.Compare orders all names totally, and says 0 of equal names alone. No function of the program is walked here.
-/
import Derived.Test.YtfdbanhbegngoaaGreatDoorEl
import Derived.Test.YtfdbanhbegngoaaGreatDoorRef3
namespace Go.Proofs.YtfdbanhbegngoaaGreatDoor
open Go.RowKit

namespace M
/-- A three-way comparison. -/
structure Cmp3 {α : Type} (f : α → α → Int) : Prop where
  refl : ∀ a, f a a = 0
  eq : ∀ a b, f a b = 0 → a = b
  anti : ∀ a b, f a b < 0 ↔ 0 < f b a
  trans : ∀ a b c, f a b < 0 → f b c < 0 → f a c < 0
theorem cmp_int : Cmp3 Lib.compareInt := by
  refine ⟨fun a => ?_, fun a b => ?_, fun a b => ?_, fun a b c => ?_⟩ <;> unfold Lib.compareInt
  · simp
  · split
    · intro h; omega
    · split
      · intro h; omega
      · intro _; omega
  · repeat' split
    all_goals omega
  · repeat' split
    all_goals omega
theorem cmp_ints : Cmp3 cmpInts := by
  refine ⟨fun a => ?_, fun a => ?_, fun a => ?_, fun a => ?_⟩
  · induction a with
    | nil => rfl
    | cons x r ih => simp [cmpInts, ih]
  · induction a with
    | nil => intro b h; cases b with
      | nil => rfl
      | cons y s => simp [cmpInts] at h
    | cons x r ih => intro b h; cases b with
      | nil => simp [cmpInts] at h
      | cons y s =>
        simp only [cmpInts] at h
        split at h
        · omega
        · split at h
          · omega
          · rw [ih s h, show x = y by omega]
  · induction a with
    | nil => intro b; cases b <;> simp [cmpInts]
    | cons x r ih => intro b; cases b with
      | nil => simp [cmpInts]
      | cons y s =>
        simp only [cmpInts]
        by_cases h1 : x < y
        · rw [if_pos h1, if_neg (by omega), if_pos h1]; omega
        · by_cases h2 : y < x
          · rw [if_neg h1, if_pos h2, if_pos h2]; omega
          · rw [if_neg h1, if_neg h2, if_neg h2, if_neg h1]; exact ih s
  · induction a with
    | nil =>
      intro b c h1 h2
      cases b with
      | nil => simp [cmpInts] at h1
      | cons y s => cases c with
        | nil => simp [cmpInts] at h2
        | cons z t => simp [cmpInts]
    | cons x r ih =>
      intro b c h1 h2
      cases b with
      | nil => simp [cmpInts] at h1
      | cons y s => cases c with
        | nil => simp [cmpInts] at h2
        | cons z t =>
          simp only [cmpInts] at h1 h2 ⊢
          by_cases a1 : x < y
          · by_cases a2 : y < z
            · rw [if_pos (by omega)]; omega
            · rw [if_neg a2] at h2
              by_cases a3 : z < y
              · rw [if_pos a3] at h2; omega
              · rw [if_pos (by omega)]; omega
          · rw [if_neg a1] at h1
            by_cases a4 : y < x
            · rw [if_pos a4] at h1; omega
            · rw [if_neg a4] at h1
              obtain rfl : x = y := by omega
              by_cases a2 : x < z
              · rw [if_pos a2]; omega
              · rw [if_neg a2] at h2 ⊢
                by_cases a3 : z < x
                · rw [if_pos a3] at h2; omega
                · rw [if_neg a3] at h2 ⊢
                  exact ih s t h1 h2
def lex {α β : Type} (f : α → α → Int) (g : β → β → Int) (p q : α × β) : Int := if f p.1 q.1 = 0 then g p.2 q.2 else f p.1 q.1
theorem Cmp3.lex {α β : Type} {f : α → α → Int} {g : β → β → Int} (hf : Cmp3 f) (hg : Cmp3 g) : Cmp3 (lex f g) := by
  refine ⟨fun a => ?_, fun a b h => ?_, fun a b => ?_, fun a b c h1 h2 => ?_⟩
  · simp [M.lex, hf.refl, hg.refl]
  · unfold M.lex at h
    split at h
    · exact Prod.ext (hf.eq _ _ ‹_›) (hg.eq _ _ h)
    · exact absurd h ‹_›
  · unfold M.lex
    by_cases h : f a.1 b.1 = 0
    · have := hf.eq _ _ h
      rw [if_pos h, ← this, if_pos (hf.refl _)]
      exact hg.anti _ _
    · have h' : f b.1 a.1 ≠ 0 := fun e => h (by rw [hf.eq _ _ e]; exact hf.refl _)
      rw [if_neg h, if_neg h']
      exact hf.anti _ _
  · unfold M.lex at *
    by_cases e1 : f a.1 b.1 = 0
    · rw [if_pos e1] at h1
      rw [hf.eq _ _ e1]
      by_cases e2 : f b.1 c.1 = 0
      · rw [if_pos e2] at h2 ⊢
        exact hg.trans _ _ _ h1 h2
      · rw [if_neg e2] at h2 ⊢
        exact h2
    · rw [if_neg e1] at h1
      by_cases e2 : f b.1 c.1 = 0
      · rw [← hf.eq _ _ e2, if_neg e1]
        exact h1
      · rw [if_neg e2] at h2
        have := hf.trans _ _ _ h1 h2
        rw [if_neg (by omega)]
        exact this
def bInts (l : Bs) : List Int := l.map fun c => (c.toNat : Int)
theorem cmpBytes_ints : ∀ l m : Bs, Lib.compareBytes l m = cmpInts (bInts l) (bInts m)
  | [], [] => rfl
  | [], _ :: _ => rfl
  | _ :: _, [] => rfl
  | a :: l, b :: m => by
    have h1 : ((a.toNat : Int) < (b.toNat : Int)) ↔ a < b := by rw [UInt8.lt_iff_toNat_lt]; omega
    have h2 : ((b.toNat : Int) < (a.toNat : Int)) ↔ b < a := by rw [UInt8.lt_iff_toNat_lt]; omega
    have ih := cmpBytes_ints l m
    unfold bInts at ih ⊢
    simp only [Lib.compareBytes, List.map_cons, cmpInts, h1, h2, ih]
theorem bInts_inj : ∀ {l m : Bs}, bInts l = bInts m → l = m
  | [], [], _ => rfl
  | [], _ :: _, h => by simp [bInts] at h
  | _ :: _, [], h => by simp [bInts] at h
  | a :: l, b :: m, h => by
    simp only [bInts, List.map_cons, List.cons.injEq] at h
    have h1 : a.toNat = b.toNat := by omega
    rw [UInt8.toNat_inj.1 h1, bInts_inj (l := l) (m := m) h.2]

/-- Digits without a leading zero are determined by their number. -/
theorem num_ge (l : Bs) (a : Nat) : a ≤ num l a := by
  induction l generalizing a with
  | nil => exact Nat.le_refl _
  | cons c r ih => exact Nat.le_trans (by omega) (ih _)
theorem num_pos {l : Bs} (hd : ∀ c ∈ l, isDig c = true) (h0 : l.head? ≠ some 48) (hne : l ≠ []) : 0 < num l 0 := by
  cases l with
  | nil => exact absurd rfl hne
  | cons c r =>
    have hc := hd c (by simp)
    simp only [isDig, Bool.and_eq_true, decide_eq_true_eq] at hc
    have h1 : c.toNat ≠ 48 := by
      intro e
      apply h0
      rw [List.head?_cons, show c = 48 from UInt8.toNat_inj.1 e]
    have := num_ge r (10 * 0 + (c.toNat - 48))
    rw [num]
    omega
theorem nil_or_snoc (l : Bs) : l = [] ∨ ∃ L b, l = L ++ [b] := by
  rcases List.eq_nil_or_concat l with h | ⟨L, b, h⟩
  · exact .inl h
  · exact .inr ⟨L, b, by rw [h, List.concat_eq_append]⟩
theorem num_inj (k : Nat) : ∀ (l m : Bs), l.length ≤ k → (∀ c ∈ l, isDig c = true) → (∀ c ∈ m, isDig c = true) → l.head? ≠ some 48 → m.head? ≠ some 48 → num l 0 = num m 0 → l = m := by
  induction k with
  | zero =>
    intro l m hk hl hm h0 h1 he
    obtain rfl : l = [] := List.eq_nil_of_length_eq_zero (by omega)
    by_cases hmn : m = []
    · exact hmn.symm
    · have := num_pos hm h1 hmn
      simp [num] at he
      omega
  | succ k ih =>
    intro l m hk hl hm h0 h1 he
    rcases nil_or_snoc l with rfl | ⟨L, b, rfl⟩
    · by_cases hmn : m = []
      · exact hmn.symm
      · have := num_pos hm h1 hmn
        simp [num] at he
        omega
    · rcases nil_or_snoc m with rfl | ⟨R, c, rfl⟩
      · have := num_pos hl h0 (by simp)
        simp only [num] at he
        omega
      · rw [num_snoc, num_snoc] at he
        have hb := hl b (by simp)
        have hc := hm c (by simp)
        simp only [isDig, Bool.and_eq_true, decide_eq_true_eq] at hb hc
        have e1 : num L 0 = num R 0 := by omega
        have e2 : b.toNat = c.toNat := by omega
        have hh : ∀ {X : Bs} {y : UInt8}, (X ++ [y]).head? ≠ some 48 → X.head? ≠ some 48 := by
          intro X y h
          cases X with
          | nil => simp
          | cons z s => simpa using h
        rw [ih L R (by simp at hk; omega) (fun x hx => hl x (by simp [hx])) (fun x hx => hm x (by simp [hx])) (hh h0) (hh h1) e1, UInt8.toNat_inj.1 e2]

theorem collect_err : ∀ (ps : List Part) (acc : List Int), (collect ps acc).2.2 = 0 → (∀ p ∈ ps, p.e = 0) ∧ (collect ps acc).1 = acc ++ ps.map Part.ord
  | [], acc, _ => by simp [collect]
  | p :: r, acc, h => by
    unfold collect at h ⊢
    by_cases he : p.e ≠ 0
    · rw [if_pos he] at h
      exact absurd h he
    · rw [if_neg he] at h ⊢
      obtain ⟨h1, h2⟩ := collect_err r _ h
      refine ⟨fun q hq => ?_, by rw [h2]; simp⟩
      rcases List.mem_cons.1 hq with rfl | hq
      · simpa using he
      · exact h1 q hq
theorem partsGo_ne (f n at_ : Nat) (l : Bs) : partsGo (f + 1) n at_ l ≠ [] := by
  unfold partsGo
  split <;> simp
theorem partE_zero {n : Nat} {l : Bs} (h : partE n l = 0) : n ≠ 8 ∧ digs l ≠ [] ∧ l.head? ≠ some 48 := by
  unfold partE at h
  split at h
  · omega
  · split at h
    · omega
    · split at h
      · omega
      · split at h
        · omega
        · exact ⟨‹_›, ‹_›, ‹_›⟩
theorem digs_head {l : Bs} (h : l.head? ≠ some 48) : (digs l).head? ≠ some 48 := by
  cases l with
  | nil => simp [digs]
  | cons a r =>
    unfold digs
    rw [List.takeWhile_cons]
    split
    · simpa using h
    · simp
theorem go_inj (f : Nat) : ∀ (n at_ at' : Nat) (a b : Bs), f + n = 9 → n ≤ 8 → (∀ p ∈ partsGo f n at_ a, p.e = 0) → (∀ p ∈ partsGo f n at' b, p.e = 0) → (partsGo f n at_ a).map Part.ord = (partsGo f n at' b).map Part.ord → a = b := by
  induction f with
  | zero => intro n at_ at' a b h1 h2; omega
  | succ f ih =>
    intro n at_ at' a b hf hn ha hb he
    have za : partE n a = 0 := by
      by_cases h : partE n a = 0
      · exact h
      · have := ha ⟨0, at_, partE n a⟩ (by rw [partsGo, if_pos h]; simp)
        exact this
    have zb : partE n b = 0 := by
      by_cases h : partE n b = 0
      · exact h
      · have := hb ⟨0, at', partE n b⟩ (by rw [partsGo, if_pos h]; simp)
        exact this
    rw [partsGo, za, if_neg (by simp)] at ha he
    rw [partsGo, zb, if_neg (by simp)] at hb he
    obtain ⟨n8, da, fa⟩ := partE_zero za
    obtain ⟨_, db, fb⟩ := partE_zero zb
    simp only [List.map_cons, List.cons.injEq] at he
    obtain ⟨e1, e2⟩ := he
    have ed : digs a = digs b := by
      rw [numOf_eq _ (fun c hc => digs_dig hc), numOf_eq _ (fun c hc => digs_dig hc)] at e1
      exact num_inj _ _ _ (Nat.le_refl _) (fun c hc => digs_dig hc) (fun c hc => digs_dig hc) (digs_head fa) (digs_head fb) (by omega)
    have sa : a = digs a ++ a.drop (digs a).length := by
      conv => lhs; rw [← List.take_append_drop (digs a).length a, digs_take]
    have sb : b = digs b ++ b.drop (digs b).length := by
      conv => lhs; rw [← List.take_append_drop (digs b).length b, digs_take]
    generalize a.drop (digs a).length = ra at *
    generalize b.drop (digs b).length = rb at *
    have er : ra = rb := by
      cases ra with
      | nil =>
        cases rb with
        | nil => rfl
        | cons c r =>
          exfalso
          simp only [List.map_nil] at e2
          by_cases h46 : c = 46
          · subst h46
            simp only [ne_eq, not_true, if_false] at e2
            cases f with
            | zero => omega
            | succ f => exact partsGo_ne f _ _ _ (List.map_eq_nil_iff.1 e2.symm)
          · simp only [ne_eq, h46, not_false_eq_true, if_true, List.map_cons, List.map_nil] at e2
            cases e2
      | cons c r =>
        have h46 : c = 46 := by
          by_cases h : c = 46
          · exact h
          · have := ha ⟨0, (at_ : Int) + (digs a).length, 6⟩ (by simp [h])
            simp at this
        subst h46
        cases rb with
        | nil =>
          exfalso
          simp only [List.map_nil, ne_eq, not_true, if_false] at e2
          cases f with
          | zero => omega
          | succ f => exact partsGo_ne f _ _ _ (List.map_eq_nil_iff.1 e2)
        | cons c' r' =>
          have h46 : c' = 46 := by
            by_cases h : c' = 46
            · exact h
            · have := hb ⟨0, (at' : Int) + (digs b).length, 6⟩ (by simp [h])
              simp at this
          subst h46
          simp only [ne_eq, not_true, if_false] at e2 ha hb
          rw [ih (n + 1) _ _ r r' (by omega) (by omega) (fun p hp => ha p (List.mem_cons_of_mem _ hp)) (fun p hp => hb p (List.mem_cons_of_mem _ hp)) e2]
    rw [sa, sb, ed, er]
theorem ords_inj {a b : Bs} (ha : valid a = true) (hb : valid b = true) (h : ords a = ords b) : a = b := by
  unfold valid parse at ha hb
  unfold ords parse at h
  rw [beq_iff_eq] at ha hb
  obtain ⟨a1, a2⟩ := collect_err _ _ ha
  obtain ⟨b1, b2⟩ := collect_err _ _ hb
  rw [a2, b2, List.nil_append, List.nil_append] at h
  unfold parts at *
  by_cases ea : a = []
  · rw [if_pos ea] at h
    by_cases eb : b = []
    · rw [ea, eb]
    · rw [if_neg eb] at h
      exact absurd (List.map_eq_nil_iff.1 h.symm) (partsGo_ne _ _ _ _)
  · rw [if_neg ea] at h a1
    by_cases eb : b = []
    · rw [if_pos eb] at h
      exact absurd (List.map_eq_nil_iff.1 h) (partsGo_ne _ _ _ _)
    · rw [if_neg eb] at h b1
      exact go_inj 9 0 0 0 a b rfl (by omega) a1 b1 h
def linKey (l : Bs) : List Int := if valid l then 0 :: ords l else 1 :: bInts l
theorem linKey_inj {a b : Bs} (h : linKey a = linKey b) : a = b := by
  unfold linKey at h
  by_cases ha : valid a = true <;> by_cases hb : valid b = true <;> simp only [ha, hb, if_true, if_false, Bool.false_eq_true, List.cons.injEq, true_and] at h
  · exact ords_inj ha hb h
  · omega
  · omega
  · exact bInts_inj h
end M
open M

theorem cmpLin_key (a b : Bs) : cmpLin a b = M.cmpInts (M.linKey a) (M.linKey b) := by
  unfold cmpLin M.linKey
  cases ha : M.valid a <;> cases hb : M.valid b <;> simp [M.cmpInts, M.cmpBytes_ints]
def keyN (n : Nm) : Int × List Int × Int × Int × List Int := (n.kind, M.linKey n.owner.data.toList, n.number, n.index, M.bInts n.text.data.toList)
def cmpK : (Int × List Int × Int × Int × List Int) → (Int × List Int × Int × Int × List Int) → Int := M.lex Lib.compareInt (M.lex M.cmpInts (M.lex Lib.compareInt (M.lex Lib.compareInt M.cmpInts)))
theorem cmpK_ok : M.Cmp3 cmpK := M.cmp_int.lex (M.cmp_ints.lex (M.cmp_int.lex (M.cmp_int.lex M.cmp_ints)))
theorem cmpN_key (a b : Nm) : cmpN a b = cmpK (keyN a) (keyN b) := by
  unfold cmpN cmpK keyN M.lex
  simp only [cmpLin_key, M.cmpBytes_ints, orI]
  repeat' split
  all_goals first | rfl | omega | simp_all
theorem ba_ext {x y : ByteArray} (h : x.data.toList = y.data.toList) : x = y := by
  obtain ⟨⟨x⟩⟩ := x
  obtain ⟨⟨y⟩⟩ := y
  simp only at h
  rw [h]
theorem keyN_inj {a b : Nm} (h : keyN a = keyN b) : a = b := by
  obtain ⟨k, o, n, i, t⟩ := a
  obtain ⟨k', o', n', i', t'⟩ := b
  simp only [keyN, Prod.mk.injEq] at h
  obtain ⟨h1, h2, h3, h4, h5⟩ := h
  rw [h1, h3, h4, ba_ext (M.linKey_inj h2), ba_ext (M.bInts_inj h5)]
theorem cmpN_refl (a : Nm) : cmpN a a = 0 := by rw [cmpN_key]; exact cmpK_ok.refl _
theorem cmpN_eq {a b : Nm} (h : cmpN a b = 0) : a = b := keyN_inj (cmpK_ok.eq _ _ (by rw [← cmpN_key]; exact h))
theorem cmpN_anti (a b : Nm) : cmpN a b < 0 ↔ 0 < cmpN b a := by rw [cmpN_key, cmpN_key]; exact cmpK_ok.anti _ _
theorem cmpN_trans {a b c : Nm} (h : cmpN a b < 0) (h' : cmpN b c < 0) : cmpN a c < 0 := by
  rw [cmpN_key] at *; exact cmpK_ok.trans _ _ _ h h'
end Go.Proofs.YtfdbanhbegngoaaGreatDoor
