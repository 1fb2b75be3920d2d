/-
  THE LAWS' HELPERS OF LAYER 34, WALKED: same, slices.Equal at holders, lock.Equal.
  LAYER 34 (lock), WALKED: Equal.
  A CHANGE AS A DATUM. No function of the program is walked here.
  WHAT EACH KIND OF NAME USES, by its number. No function of the program is walked here.
  PLAIN LAWS OF LAYER 4's ENCODING: the program's Decode and the reference's accept the same bytes and answer the same name. No function of the program is walked here.
  MAPS KEYED BY NAMES, WHOSE ELEMENTS ARE CHANGES: what a block is good for, looking a name up, storing at a name. No function of the program is walked here.
  LAYER 5, WALKED: tall, many, total, join.
-/
import Derived.Test.YtfgecaphhdedcaaGreatDoorZ4
import Derived.Test.YtfgecaphhdedcaaGreatDoorZ1
import Derived.Deep.QuietTactic
import Derived.BigQuiet
import Derived.Test.YtfgecaphhdedcaaGreatDoorZ3
import Derived.Test.YtfgecaphhdedcaaGreatDoorZ2
import Derived.Maps.OwnSet
import Derived.DeepKeys4
import Derived.Deep.RegionLaw
namespace Go.Proofs.YtfgecaphhdedcaaGreatDoor
open Go.RowKit

theorem toList_inj (x y : ByteArray) : x.toList = y.toList ↔ x = y := by
  rw [ByteArray.toList_eq, ByteArray.toList_eq]
  refine ⟨fun h => ?_, fun h => by rw [h]⟩
  obtain ⟨⟨x⟩⟩ := x
  obtain ⟨⟨y⟩⟩ := y
  simp only at h
  rw [h]
def sameH (a b : List ByteArray) : Bool := a.map ByteArray.toList == b.map ByteArray.toList
theorem sameH_iff {a b : List ByteArray} : sameH a b = true ↔ a = b := by
  unfold sameH
  rw [beq_iff_eq]
  constructor
  · intro h
    induction a generalizing b with
    | nil => cases b with
      | nil => rfl
      | cons y r => simp at h
    | cons x r ih => cases b with
      | nil => simp at h
      | cons y s =>
        simp only [List.map_cons, List.cons.injEq] at h
        rw [(toList_inj x y).1 h.1, ih h.2]
  · intro h; rw [h]
theorem sameH_no {a b : List ByteArray} (h : a ≠ b) : sameH a b = false := by
  cases hs : sameH a b with
  | false => rfl
  | true => exact absurd (sameH_iff.1 hs) h
def sameL (l l' : Lk) : Bool := (l.epoch == l'.epoch) && ((l.shared == l'.shared) && sameH l.holders l'.holders)
theorem sameL_iff {l l' : Lk} : sameL l l' = true ↔ l = l' := by
  obtain ⟨e, s, h⟩ := l
  obtain ⟨e', s', h'⟩ := l'
  unfold sameL
  simp only [Bool.and_eq_true, beq_iff_eq, sameH_iff, Lk.mk.injEq]
theorem take_ext {a b : List ByteArray} {k : Nat} (h : a.take k = b.take k) (ha : k < a.length) (hb : k < b.length) (he : a[k] = b[k]) : a.take (k + 1) = b.take (k + 1) := by
  rw [List.take_add_one, List.take_add_one, h, List.getElem?_eq_getElem ha, List.getElem?_eq_getElem hb, he]

set_option maxRecDepth 100000 in
set_option maxHeartbeats 3200000 in
theorem eqHs_any (A A' : Option Addr) (c c' : Nat) (hs hs' : List ByteArray) (hn : hs.length ≤ 1000000) (w : World) (hr : RowN w A hs.length c hs) (hr' : RowN w A' hs'.length c' hs') :
    Calls Tryz.prog 81 #[.slice A hs.length c, .slice A' hs'.length c'] w fun o w' => o = .returned (.bool (sameH hs hs')) ∧ Below w.heap.size w w' := by
  by_cases hl : hs.length = hs'.length
  · have HR := hid hr
    have HR' := hid hr'
    have hcap := hr.1.2.1
    have hcap' := hr'.1.2.1
    have hmx := hr.1.2.2.1
    have hmx' := hr'.1.2.2.1
    unfold maxLen at hmx hmx'
    have HX := hid (show ∀ a b, sameH a b = true ↔ a = b from fun a b => sameH_iff)
    have HY := hid (show ∀ a b, a ≠ b → sameH a b = false from fun a b => sameH_no)
    obtain ⟨X, hX⟩ : ∃ X, X = sameH hs hs' := ⟨_, rfl⟩
    rw [← hX]
    have HXX := hid hX
    have HL := hid hl
    have hll : ((hs.length : Int) != (hs'.length : Int)) = false := by rw [hl]; simp
    have hli : (hs.length : Int) = (hs'.length : Int) := by omega
    clear hr hr' hX hl
    have HLI := hid hli
    clear hli
    go_enter Tryz.func81, Tryz.ntmps81
    go_wp2_with fail
    clear hll
    go_loopw [5, 13] (fun _ iv wr => ∃ k : Nat, iv = .int .i64 k ∧ k ≤ hs.length ∧ hs.take k = hs'.take k ∧ Below w.heap.size w wr) (fun _ iv _ => hs.length - (intOf iv).toNat)
    case atStart => exact ⟨0, rfl, Nat.zero_le _, rfl, Below.refl _ _⟩
    case round =>
      obtain ⟨k, rfl, hk, htk, hB⟩ := hrel
      have HB := hid hB
      have HT := hid htk
      clear hB htk
      have hll := HL.out
      by_cases hkl : k < hs.length
      · have hk' : k < hs'.length := by omega
        have h1i : (k : Int) < (hs.length : Int) := by omega
        have h1i' : (k : Int) < (hs'.length : Int) := by omega
        have h0i : (0 : Int) ≤ (k : Int) := by omega
        obtain ⟨bb, off, rfl, hbb, hc⟩ := HR.out.at (by omega)
        obtain ⟨bb', off', rfl, hbb', hc'⟩ := HR'.out.at (Nat.lt_of_le_of_lt (Nat.zero_le _) hk')
        have hck := hc _ HB.out k hkl
        have hck' := hc' _ HB.out k hk'
        have TX := hid (show hs[k] = hs'[k] → hs.take (k + 1) = hs'.take (k + 1) from fun he => take_ext HT.out hkl hk' he)
        have NX := hid (show hs[k] ≠ hs'[k] → hs ≠ hs' from fun h e => h (by simp [e]))
        clear hc hc' hll
        obtain ⟨x, hx⟩ : ∃ x, x = hs[k] := ⟨_, rfl⟩
        obtain ⟨y, hy⟩ : ∃ y, y = hs'[k] := ⟨_, rfl⟩
        rw [← hx] at hck TX NX
        rw [← hy] at hck' TX NX
        clear hx hy
        by_cases he : x = y
        · have hen : (x.toList == y.toList) = true := by rw [he]; simp
          have HE := hid he
          clear he
          go_upto_region 6 with fail
          go_quiet (fail)
          go_wp2_with fail
          go_roundw
          case rel => exact ⟨k + 1, by go_num, by omega, TX.out HE.out, dN HB.out _⟩
          case measure => simp [intOf]; omega
        · have hen : (x.toList == y.toList) = false := by
            rw [beq_eq_false_iff_ne]
            exact fun h => he ((toList_inj x y).1 h)
          have hX : X = false := by rw [HXX.out]; exact HY.out _ _ (NX.out he)
          subst hX
          clear he
          go_upto_region 6 with fail
          go_quiet (fail)
          go_wp2_with fail
          go_ret
          exact ⟨rfl, dN HB.out _⟩
      · obtain rfl : k = hs.length := by omega
        have hX : X = true := by
          rw [HXX.out]
          refine (HX.out _ _).2 ?_
          have := HT.out
          rw [List.take_length, hll, List.take_length] at this
          exact this
        subst hX
        clear hll
        go_wp2_with fail
        go_ret
        exact ⟨rfl, HB.out⟩
  · have hx : sameH hs hs' = false := sameH_no (fun e => hl (by rw [e]))
    rw [hx]
    have hll : ((hs.length : Int) != (hs'.length : Int)) = true := by rw [bne_iff_ne]; omega
    clear hr hr' hx hl
    go_enter Tryz.func81, Tryz.ntmps81
    go_wp2_with fail
    go_ret
    exact ⟨rfl, Below.refl _ _⟩

set_option maxRecDepth 100000 in
set_option maxHeartbeats 3200000 in
theorem same34_any (l l' : Lk) (A A' : Option Addr) (c c' : Nat) (hn : l.holders.length ≤ 1000000) (w : World) (hr : RowN w A l.holders.length c l.holders) (hr' : RowN w A' l'.holders.length c' l'.holders) :
    Calls Tryz.prog 12 #[.agg (lkCells l A c), .agg (lkCells l' A' c')] w fun o w' => o = .returned (.bool (sameL l l')) ∧ Below w.heap.size w w' := by
  obtain ⟨E, S, hs⟩ := l
  obtain ⟨E', S', hs'⟩ := l'
  unfold lkCells sameL
  dsimp only at *
  have hB0 : Below w.heap.size w ((w.alloc (.cells #[.int .i64 E, .bool S, .slice A hs.length c] 24)).alloc (.cells #[.int .i64 E', .bool S', .slice A' hs'.length c'] 24)) := ((Below.refl _ _).alloc (Nat.le_refl _) _).alloc (by simp) _
  by_cases hE : E = E'
  · subst hE
    have hEb : (E == E) = true := by simp
    rw [hEb, Bool.true_and]
    by_cases hS : S = S'
    · subst hS
      have hSb : (S == S) = true := by simp
      rw [hSb, Bool.true_and]
      by_cases hl : hs.length = hs'.length
      · have HR := hid (hr.below hB0)
        have HR' := hid (hr'.below hB0)
        have hcap := hr.1.2.1
        have hcap' := hr'.1.2.1
        have hmx := hr.1.2.2.1
        have hmx' := hr'.1.2.2.1
        unfold maxLen at hmx hmx'
        have HX := hid (show ∀ a b, sameH a b = true ↔ a = b from fun a b => sameH_iff)
        have HY := hid (show ∀ a b, a ≠ b → sameH a b = false from fun a b => sameH_no)
        obtain ⟨X, hX⟩ : ∃ X, X = sameH hs hs' := ⟨_, rfl⟩
        rw [← hX]
        have HXX := hid hX
        have HL := hid hl
        have hll : ((hs.length : Int) == (hs'.length : Int)) = true := by rw [hl]; simp
        have hSS : (S != S) = false := by simp
        clear hr hr' hX hl hEb hSb
        obtain ⟨W0, hW0⟩ : ∃ x, x = (w.alloc (.cells #[.int .i64 E, .bool S, .slice A hs.length c] 24)).alloc (.cells #[.int .i64 E, .bool S, .slice A' hs'.length c'] 24) := ⟨_, rfl⟩
        rw [← hW0] at hB0 HR HR'
        have b0 : Blk W0 w.heap.size 24 #[.int .i64 E, .bool S, .slice A hs.length c] := by rw [hW0]; exact (Blk.new _ _ _).alloc _
        have b1 : Blk W0 (w.heap.size + 1) 24 #[.int .i64 E, .bool S, .slice A' hs'.length c'] := by rw [hW0]; exact Blk.new_ _ _ _ (by simp)
        have KK := hid (show ∀ w', Below W0.heap.size W0 w' → w'.cell? ⟨w.heap.size, 2, none⟩ = some (.slice A hs.length c) ∧ w'.cell? ⟨w.heap.size + 1, 2, none⟩ = some (.slice A' hs'.length c') from fun w' h => ⟨(b0.below h b0.lt).cell 2, (b1.below h b1.lt).cell 2⟩)
        have HB0 := hid hB0
        clear b0 b1 hB0
        go_enter Tryz.func12, Tryz.ntmps12
        go_wp2_with fail
        rw [← hW0]
        clear hW0 hll hSS
        go_loopw [5] (fun iv wr => ∃ k : Nat, iv = .int .i64 k ∧ k ≤ hs.length ∧ hs.take k = hs'.take k ∧ Below W0.heap.size W0 wr) (fun iv _ => hs.length - (intOf iv).toNat)
        case atStart => exact ⟨0, rfl, Nat.zero_le _, rfl, Below.refl _ _⟩
        case round =>
          obtain ⟨k, rfl, hk, htk, hB⟩ := hrel
          have HB := hid hB
          have HT := hid htk
          obtain ⟨x1, x2⟩ := KK.out _ hB
          clear hB htk
          have hll := HL.out
          by_cases hkl : k < hs.length
          · have hk' : k < hs'.length := by omega
            have h1i : (k : Int) < (hs.length : Int) := by omega
            have h1i' : (k : Int) < (hs'.length : Int) := by omega
            have h0i : (0 : Int) ≤ (k : Int) := by omega
            obtain ⟨bb, off, rfl, hbb, hc⟩ := HR.out.at (by omega)
            obtain ⟨bb', off', rfl, hbb', hc'⟩ := HR'.out.at (Nat.lt_of_le_of_lt (Nat.zero_le _) hk')
            have hck := hc _ HB.out k hkl
            have hck' := hc' _ HB.out k hk'
            have TX := hid (show hs[k] = hs'[k] → hs.take (k + 1) = hs'.take (k + 1) from fun he => take_ext HT.out hkl hk' he)
            have NX := hid (show hs[k] ≠ hs'[k] → hs ≠ hs' from fun h e => h (by simp [e]))
            clear hc hc' hll
            obtain ⟨x, hx⟩ : ∃ x, x = hs[k] := ⟨_, rfl⟩
            obtain ⟨y, hy⟩ : ∃ y, y = hs'[k] := ⟨_, rfl⟩
            rw [← hx] at hck TX NX
            rw [← hy] at hck' TX NX
            clear hx hy
            by_cases he : x = y
            · have hen : (x.toList == y.toList) = true := by rw [he]; simp
              have HE := hid he
              clear he
              go_upto_region 6 with fail
              go_quiet (fail)
              go_wp2_with fail
              go_roundw
              case rel => exact ⟨k + 1, by go_num, by omega, TX.out HE.out, dN HB.out _⟩
              case measure => simp [intOf]; omega
            · have hen : (x.toList == y.toList) = false := by
                rw [beq_eq_false_iff_ne]
                exact fun h => he ((toList_inj x y).1 h)
              have hX : X = false := by rw [HXX.out]; exact HY.out _ _ (NX.out he)
              subst hX
              clear he
              go_upto_region 6 with fail
              go_quiet (fail)
              go_wp2_with fail
              go_ret
              exact ⟨rfl, HB0.out.trans ((dN HB.out _).mono HB0.out.size)⟩
          · obtain rfl : k = hs.length := by omega
            have h1i : ¬ (hs.length : Int) < (hs.length : Int) := by omega
            have hX : X = true := by
              rw [HXX.out]
              refine (HX.out _ _).2 ?_
              have := HT.out
              rw [List.take_length, hll, List.take_length] at this
              exact this
            subst hX
            clear hll
            go_wp2_with fail
            go_ret
            exact ⟨rfl, HB0.out.trans (HB.out.mono HB0.out.size)⟩
      · have hx : sameH hs hs' = false := sameH_no (fun e => hl (by rw [e]))
        rw [hx]
        have hll : ((hs.length : Int) == (hs'.length : Int)) = false := by rw [beq_eq_false_iff_ne]; omega
        have hSS : (S != S) = false := by simp
        clear hr hr' hx hl hEb hSb
        go_enter Tryz.func12, Tryz.ntmps12
        go_wp2_with fail
        go_ret
        exact ⟨rfl, hB0⟩
    · have hSb : (S == S') = false := by simpa using hS
      have hSn : (S != S') = true := by simpa using hS
      rw [hSb, Bool.false_and]
      clear hr hr' hS hEb
      go_enter Tryz.func12, Tryz.ntmps12
      go_wp2_with fail
      go_ret
      exact ⟨rfl, hB0⟩
  · have hEb : (E == E') = false := by simpa using hE
    rw [hEb, Bool.false_and]
    clear hr hr'
    go_enter Tryz.func12, Tryz.ntmps12
    go_wp2_with fail
    go_ret
    exact ⟨rfl, hB0⟩
end Go.Proofs.YtfgecaphhdedcaaGreatDoor
namespace Go.Proofs.YtfgecaphhdedcaaGreatDoor
open Go.RowKit

set_option maxRecDepth 100000 in
set_option maxHeartbeats 3200000 in
theorem lkSame_any (l l' : Lk) (A A' : Option Addr) (c c' : Nat) (hn : l.holders.length ≤ 1000000) (w : World) (hr : RowN w A l.holders.length c l.holders) (hr' : RowN w A' l'.holders.length c' l'.holders) :
    Calls Tryz.prog 54 #[.agg (lkCells l A c), .agg (lkCells l' A' c')] w fun o w' => o = .returned (.bool (sameL l l')) ∧ Below w.heap.size w w' := by
  obtain ⟨E, S, hs⟩ := l
  obtain ⟨E', S', hs'⟩ := l'
  unfold lkCells sameL
  dsimp only at *
  have hB0 : Below w.heap.size w ((w.alloc (.cells #[.int .i64 E, .bool S, .slice A hs.length c] 24)).alloc (.cells #[.int .i64 E', .bool S', .slice A' hs'.length c'] 24)) := ((Below.refl _ _).alloc (Nat.le_refl _) _).alloc (by simp) _
  have HR := hid (hr.below hB0)
  have HR' := hid (hr'.below hB0)
  have EQ := hid (fun w' h h' => eqHs_any A A' c c' hs hs' hn w' h h')
  have HB0 := hid hB0
  clear hr hr' hB0
  generalize sameH hs hs' = X at *
  by_cases hE : E = E'
  · subst hE
    have hEb : (E == E) = true := by simp
    rw [hEb, Bool.true_and]
    by_cases hS : S = S'
    · subst hS
      have hSb : (S == S) = true := by simp
      rw [hSb, Bool.true_and]
      clear hEb hSb
      go_enter Tryz.func54, Tryz.ntmps54
      go_wp2_with (go_at_call 81; refine (EQ.out _ HR.out HR'.out).mono ?_; rintro o w2 ⟨rfl, hb2⟩)
      go_ret
      exact ⟨rfl, HB0.out.trans (hb2.mono HB0.out.size)⟩
    · have hSb : (S == S') = false := by simpa using hS
      rw [hSb, Bool.false_and]
      clear hEb
      go_enter Tryz.func54, Tryz.ntmps54
      go_wp2_with fail
      go_ret
      exact ⟨rfl, HB0.out⟩
  · have hEb : (E == E') = false := by simpa using hE
    rw [hEb, Bool.false_and]
    go_enter Tryz.func54, Tryz.ntmps54
    go_wp2_with fail
    go_ret
    exact ⟨rfl, HB0.out⟩

set_option maxRecDepth 100000 in
set_option maxHeartbeats 3200000 in
theorem lkEqual_any (l l' : Lk) (A A' : Option Addr) (c c' : Nat) (hn : l.holders.length ≤ 1000000) (w : World) (hr : RowN w A l.holders.length c l.holders) (hr' : RowN w A' l'.holders.length c' l'.holders) :
    Calls Tryz.prog 25 #[.agg (lkCells l A c), .agg (lkCells l' A' c')] w fun o w' => o = .returned (.bool (sameL l l')) ∧ Below w.heap.size w w' := by
  have hmf : ∀ (fn : Fn) (first cap : Array Value) (w : World), (Instr.makeFunc fn first cap).run Tryz.prog w = .ok (.func fn first cap) w := fun _ _ _ _ => rfl
  have hB0 : Below w.heap.size w ((w.alloc (.cells (lkCells l A c) 24)).alloc (.cells (lkCells l' A' c') 24)) := ((Below.refl _ _).alloc (Nat.le_refl _) _).alloc (by simp) _
  have HR := hid (hr.below hB0)
  have HR' := hid (hr'.below hB0)
  have SM := hid (fun w' h h' => lkSame_any l l' A A' c c' hn w' h h')
  have HB0 := hid hB0
  clear hr hr' hB0
  unfold lkCells at *
  generalize sameL l l' = X at *
  go_enter Tryz.func25, Tryz.ntmps25
  go_wp2_with (go_at_call 54; refine (SM.out _ HR.out HR'.out).mono ?_; rintro o w2 ⟨rfl, hb2⟩)
  go_ret
  exact ⟨rfl, HB0.out.trans (hb2.mono HB0.out.size)⟩
end Go.Proofs.YtfgecaphhdedcaaGreatDoor
namespace Go.Proofs.YtfgecaphhdedcaaGreatDoor
open Go.RowKit

/-- A change. -/
structure Ch where
  name : Nm
  value : ByteArray
  absent : Bool
def chCells (c : Ch) : List Value := nmCells c.name ++ [.string c.value, .bool c.absent]
theorem chCells_len (c : Ch) : (chCells c).length = 7 := rfl
def chV (c : Ch) : Value := .agg #[.int .i64 c.name.kind, .string c.name.owner, .int .i64 c.name.number, .int .i64 c.name.index, .string c.name.text, .string c.value, .bool c.absent]
theorem chCells_one (l : List Ch) : ∀ u ∈ l.flatMap chCells, u.oneCell' = true := by
  intro u hu
  obtain ⟨x, _, hx⟩ := List.mem_flatMap.1 hu
  simp only [chCells, nmCells, List.cons_append, List.nil_append, List.mem_cons, List.not_mem_nil, or_false] at hx
  rcases hx with rfl | rfl | rfl | rfl | rfl | rfl | rfl <;> rfl

/-- A change that the laws let by. -/
def Ch.Small (c : Ch) : Prop := c.name.owner.size ≤ 100 ∧ c.name.text.size ≤ 100 ∧ c.value.size ≤ 200
theorem Ch.Small.ok {c : Ch} (h : c.Small) : c.name.Ok := by obtain ⟨h1, h2, _⟩ := h; exact ⟨by unfold maxLen; omega, by unfold maxLen; omega⟩
end Go.Proofs.YtfgecaphhdedcaaGreatDoor
namespace Go.Proofs.YtfgecaphhdedcaaGreatDoor
open Go.RowKit

def ownB (k : Int) : Bool := (decide (1 ≤ k) && decide (k ≤ 12)) || decide (k = 18) || decide (k = 19)
def numB (k : Int) : Bool := (decide (7 ≤ k) && decide (k ≤ 13)) || decide (k = 16) || decide (k = 18)
def txtB (k : Int) : Bool := decide (k = 9) || decide (k = 14) || decide (k = 17)
def mostI (k : Int) : Int := if k = 3 ∨ k = 8 then 63 else if k = 18 then 1073741824 else -1
theorem kinds_eq (k : Nat) (h1 : 1 ≤ k) (h2 : k ≤ 20) : kOwn k = ownB k ∧ kNum k = numB k ∧ kTxt k = txtB k ∧ kMost k = mostI k := by
  obtain rfl | rfl | rfl | rfl | rfl | rfl | rfl | rfl | rfl | rfl | rfl | rfl | rfl | rfl | rfl | rfl | rfl | rfl | rfl | rfl : k = 1 ∨ k = 2 ∨ k = 3 ∨ k = 4 ∨ k = 5 ∨ k = 6 ∨ k = 7 ∨ k = 8 ∨ k = 9 ∨ k = 10 ∨ k = 11 ∨ k = 12 ∨ k = 13 ∨ k = 14 ∨ k = 15 ∨ k = 16 ∨ k = 17 ∨ k = 18 ∨ k = 19 ∨ k = 20 := by omega
  all_goals exact ⟨rfl, rfl, rfl, rfl⟩
end Go.Proofs.YtfgecaphhdedcaaGreatDoor
namespace Go.Proofs.YtfgecaphhdedcaaGreatDoor
open Go.RowKit

/-- The encoding of a name. -/
def encN (n : Nm) : Bs :=
  natL n.kind.toNat ++ ((if ownB n.kind then txtL n.owner.data.toList else []) ++ ((if numB n.kind then natL n.number.toNat else []) ++ ((if 0 ≤ mostI n.kind then natL n.index.toNat else []) ++ (if txtB n.kind then txtL n.text.data.toList else []))))

/-- What a checked name is. -/
structure Nm.Good (n : Nm) : Prop where
  k1 : 1 ≤ n.kind
  k2 : n.kind ≤ 20
  ow : ownB n.kind = false → n.owner = ⟨#[]⟩
  nu : numB n.kind = false → n.number = 0
  nr : 0 ≤ n.number ∧ n.number ≤ 1073741824
  ix : mostI n.kind < 0 → n.index = 0
  ir : 0 ≤ n.index ∧ n.index ≤ max (mostI n.kind) 0
  te : txtB n.kind = false → n.text = ⟨#[]⟩
  tw : txtB n.kind = true → n.text.size ≤ 32

theorem ba_empty {s : ByteArray} (h : s.toList.isEmpty = true) : s = ⟨#[]⟩ := by
  rw [ByteArray.toList_eq, List.isEmpty_iff] at h
  rw [← strB_of s, h]; rfl

theorem Nm.good {n : Nm} (h : checkN n = 0) : n.Good := by
  unfold checkN at h
  split at h
  · omega
  · next hk =>
    obtain ⟨e1, e2, e3, e4⟩ := kinds_eq n.kind.toNat (by omega) (by omega)
    rw [e1, e2, e3, e4, show ((n.kind.toNat : Nat) : Int) = n.kind by omega] at h
    unfold checkF at h
    split at h
    · omega
    · next h1 =>
      simp only [Bool.or_eq_true, Bool.and_eq_true, Bool.not_eq_true', decide_eq_true_eq, bne_iff_ne, ne_eq, not_or, not_and, Decidable.not_not] at h1
      split at h
      · omega
      · split at h
        · omega
        · next h3 =>
          simp only [Bool.or_eq_true, Bool.not_eq_true', decide_eq_true_eq, not_or, Bool.not_eq_false] at h3
          split at h
          · omega
          · next h4 =>
            obtain ⟨⟨⟨a1, a2⟩, a3⟩, a4⟩ := h1
            obtain ⟨⟨b1, b2⟩, b3⟩ := h3
            unfold okNum at b1
            simp only [Bool.and_eq_true, decide_eq_true_eq] at b1
            refine ⟨by omega, by omega, fun hh => ?_, fun hh => a2 hh, b1, fun hh => a3 hh, ⟨by omega, by omega⟩, fun hh => ?_, fun hh => ?_⟩
            · exact ba_empty (by simpa using a1 hh)
            · exact ba_empty (by simpa using a4 hh)
            · rw [hh] at h4
              simp only [Bool.true_and, Bool.not_eq_true', Bool.not_eq_false] at h4
              unfold wordB at h4
              simp only [Bool.and_eq_true, decide_eq_true_eq] at h4
              omega

/-- The program's reading of a name, field by field: the value, the offset, the error. -/
def odK (s : Bs) : Nat × Nat × Int := rdNum 20 s 0 0
def odO (s : Bs) : Bs × Nat × Int := if kOwn (odK s).1 then rdTxt s.length s (odK s).2.1 (odK s).2.2 else ([], (odK s).2)
def odN (s : Bs) : Nat × Nat × Int := if kNum (odK s).1 then rdNum 1073741824 s (odO s).2.1 (odO s).2.2 else (0, (odO s).2)
def odI (s : Bs) : Nat × Nat × Int := if 0 ≤ kMost (odK s).1 then rdNum (kMost (odK s).1) s (odN s).2.1 (odN s).2.2 else (0, (odN s).2)
def odT (s : Bs) : Bs × Nat × Int := if kTxt (odK s).1 then rdTxt 32 s (odI s).2.1 (odI s).2.2 else ([], (odI s).2)
def odNm (s : Bs) : Nm := ⟨(odK s).1, strB (odO s).1, (odN s).1, (odI s).1, strB (odT s).1⟩
def odOk (s : Bs) : Prop := rdEnd s (odT s).2.1 (odT s).2.2 = 0 ∧ checkN (odNm s) = 0
instance (s : Bs) : Decidable (odOk s) := by unfold odOk; infer_instance

theorem odK_le (s : Bs) : (odK s).2.1 ≤ s.length := rdNum_le (Nat.zero_le _)
theorem odO_le (s : Bs) : (odO s).2.1 ≤ s.length := by unfold odO; split <;> first | exact rdTxt_le (odK_le s) | exact odK_le s
theorem odN_le (s : Bs) : (odN s).2.1 ≤ s.length := by unfold odN; split <;> first | exact rdNum_le (odO_le s) | exact odO_le s
theorem odI_le (s : Bs) : (odI s).2.1 ≤ s.length := by unfold odI; split <;> first | exact rdNum_le (odN_le s) | exact odN_le s
theorem odT_le (s : Bs) : (odT s).2.1 ≤ s.length := by unfold odT; split <;> first | exact rdTxt_le (odI_le s) | exact odI_le s

/-- What is decoded was encoded. -/
theorem od_inv {s : Bs} (h : odOk s) : encN (odNm s) = s := by
  obtain ⟨h1, h2⟩ := h
  obtain ⟨eT, eL⟩ := rdEnd_zero (odT_le s) h1
  have g := Nm.good h2
  obtain ⟨q1, q2, q3, q4⟩ := kinds_eq (odK s).1 (by have := g.k1; simp only [odNm] at this; omega) (by have := g.k2; simp only [odNm] at this; omega)
  have gT : (odI s).2.2 = 0 ∧ Got s (odI s).2.1 (odT s).2.1 (if txtB (odK s).1 then txtL (odT s).1 else []) := by
    unfold odT at eT ⊢
    rw [q3] at eT ⊢
    split at eT
    · next hh =>
      simp only [if_pos hh]
      obtain ⟨a, b, -⟩ := rdTxt_inv (odI_le s) eT
      exact ⟨a, b⟩
    · next hh =>
      simp only [if_neg hh]
      exact ⟨eT, Got.nil (odI_le s)⟩
  have gI : (odN s).2.2 = 0 ∧ Got s (odN s).2.1 (odI s).2.1 (if 0 ≤ mostI (odK s).1 then natL (odI s).1 else []) := by
    have e := gT.1
    unfold odI at e ⊢
    rw [q4] at e ⊢
    split at e
    · next hh =>
      simp only [if_pos hh]
      obtain ⟨a, b, -⟩ := rdNum_inv (odN_le s) e
      exact ⟨a, b⟩
    · next hh =>
      simp only [if_neg hh]
      exact ⟨e, Got.nil (odN_le s)⟩
  have gN : (odO s).2.2 = 0 ∧ Got s (odO s).2.1 (odN s).2.1 (if numB (odK s).1 then natL (odN s).1 else []) := by
    have e := gI.1
    unfold odN at e ⊢
    rw [q2] at e ⊢
    split at e
    · next hh =>
      simp only [if_pos hh]
      obtain ⟨a, b, -⟩ := rdNum_inv (odO_le s) e
      exact ⟨a, b⟩
    · next hh =>
      simp only [if_neg hh]
      exact ⟨e, Got.nil (odO_le s)⟩
  have gO : (odK s).2.2 = 0 ∧ Got s (odK s).2.1 (odO s).2.1 (if ownB (odK s).1 then txtL (odO s).1 else []) := by
    have e := gN.1
    unfold odO at e ⊢
    rw [q1] at e ⊢
    split at e
    · next hh =>
      simp only [if_pos hh]
      obtain ⟨a, b, -⟩ := rdTxt_inv (odK_le s) e
      exact ⟨a, b⟩
    · next hh =>
      simp only [if_neg hh]
      exact ⟨e, Got.nil (odK_le s)⟩
  obtain ⟨-, gK, -⟩ := rdNum_inv (most := 20) (b := s) (Nat.zero_le _) gO.1
  have G := ((((gK.app gO.2).app gN.2).app gI.2).app gT.2).eq
  rw [List.drop_zero, eL, List.drop_length, List.append_nil] at G
  refine Eq.trans ?_ G.symm
  simp only [encN, odNm, Int.toNat_natCast, strB_toList, List.append_assoc]
  rfl

theorem drop_app {b p r : Bs} {a : Nat} (h : b.drop a = p ++ r) : b.drop (a + p.length) = r := by rw [← List.drop_drop, h, List.drop_left]

/-- What is encoded is decoded. -/
theorem od_enc {n : Nm} (hc : checkN n = 0) (hl : (encN n).length ≤ 1000000) : odOk (encN n) ∧ odNm (encN n) = n := by
  have g := Nm.good hc
  have k1 := g.k1
  have k2 := g.k2
  obtain ⟨q1, q2, q3, q4⟩ := kinds_eq n.kind.toNat (by omega) (by omega)
  rw [show ((n.kind.toNat : Nat) : Int) = n.kind by omega] at q1 q2 q3 q4
  have hE : encN n = natL n.kind.toNat ++ ((if ownB n.kind then txtL n.owner.data.toList else []) ++ ((if numB n.kind then natL n.number.toNat else []) ++ ((if 0 ≤ mostI n.kind then natL n.index.toNat else []) ++ (if txtB n.kind then txtL n.text.data.toList else [])))) := rfl
  generalize hs : encN n = s at *
  obtain ⟨pO, hpO⟩ : ∃ p, p = (if ownB n.kind then txtL n.owner.data.toList else []) := ⟨_, rfl⟩
  obtain ⟨pN, hpN⟩ : ∃ p, p = (if numB n.kind then natL n.number.toNat else []) := ⟨_, rfl⟩
  obtain ⟨pI, hpI⟩ : ∃ p, p = (if 0 ≤ mostI n.kind then natL n.index.toNat else []) := ⟨_, rfl⟩
  obtain ⟨pT, hpT⟩ : ∃ p, p = (if txtB n.kind then txtL n.text.data.toList else []) := ⟨_, rfl⟩
  rw [← hpO, ← hpN, ← hpI, ← hpT] at hE
  have h0 : s.drop 0 = natL n.kind.toNat ++ (pO ++ (pN ++ (pI ++ pT))) := by rw [List.drop_zero]; exact hE
  have eK : odK s = (n.kind.toNat, 0 + (natL n.kind.toNat).length, 0) := rdNum_enc h0 (by omega) (by omega)
  have h1 := drop_app h0
  have eO : odO s = (n.owner.data.toList, 0 + (natL n.kind.toNat).length + pO.length, 0) := by
    unfold odO
    rw [eK]
    simp only [q1]
    cases hb : ownB n.kind with
    | true =>
      rw [show pO = txtL n.owner.data.toList by rw [hpO, hb]; rfl] at h1 ⊢
      have hle : (txtL n.owner.data.toList).length ≤ s.length := by
        have := congrArg List.length h1
        rw [List.length_append, List.length_drop] at this
        omega
      rw [txtL, List.length_append] at hle
      rw [if_pos rfl]
      exact rdTxt_enc h1 (by omega)
    | false =>
      rw [g.ow hb, if_neg (by simp), show pO = [] by rw [hpO, hb]; rfl]
      rfl
  have h2 := drop_app h1
  have eN : odN s = (n.number.toNat, 0 + (natL n.kind.toNat).length + pO.length + pN.length, 0) := by
    unfold odN
    rw [eK, eO]
    simp only [q2]
    have hr := g.nr
    cases hb : numB n.kind with
    | true =>
      rw [show pN = natL n.number.toNat by rw [hpN, hb]; rfl] at h2 ⊢
      rw [if_pos rfl]
      exact rdNum_enc h2 (by omega) (by omega)
    | false =>
      rw [g.nu hb, if_neg (by simp), show pN = [] by rw [hpN, hb]; rfl]
      rfl
  have h3 := drop_app h2
  have eI : odI s = (n.index.toNat, 0 + (natL n.kind.toNat).length + pO.length + pN.length + pI.length, 0) := by
    unfold odI
    rw [eK, eN]
    simp only [q4]
    have hr := g.ir
    have hm : mostI n.kind ≤ 1073741824 := by unfold mostI; split; omega; split <;> omega
    by_cases hb : 0 ≤ mostI n.kind
    · rw [show pI = natL n.index.toNat by rw [hpI, if_pos hb]] at h3 ⊢
      rw [if_pos hb]
      exact rdNum_enc h3 (by omega) (by omega)
    · rw [g.ix (by omega), if_neg hb, show pI = [] by rw [hpI, if_neg hb]]
      rfl
  have h4 := drop_app h3
  have eT : odT s = (n.text.data.toList, 0 + (natL n.kind.toNat).length + pO.length + pN.length + pI.length + pT.length, 0) := by
    unfold odT
    rw [eK, eI]
    simp only [q3]
    cases hb : txtB n.kind with
    | true =>
      have ht := g.tw hb
      rw [ba_size] at ht
      rw [show pT = txtL n.text.data.toList by rw [hpT, hb]; rfl] at h4 ⊢
      rw [if_pos rfl]
      exact rdTxt_enc (r := []) (by rw [List.append_nil]; exact h4) (by omega)
    | false =>
      rw [g.te hb, if_neg (by simp), show pT = [] by rw [hpT, hb]; rfl]
      rfl
  have eNm : odNm s = n := by
    unfold odNm
    rw [eK, eO, eN, eI, eT]
    have hr := g.nr
    have hi := g.ir
    obtain ⟨k, o, u, i, t⟩ := n
    simp only [strB_of, Nm.mk.injEq, true_and, and_true] at *
    omega
  refine ⟨⟨?_, by rw [eNm]; exact hc⟩, eNm⟩
  have hL := congrArg List.length h0
  simp only [List.drop_zero, List.length_append] at hL
  have e1 : (odT s).2.1 = s.length := by rw [eT]; simp only; omega
  have e2 : (odT s).2.2 = 0 := by rw [eT]
  unfold rdEnd
  rw [e1, e2, if_pos rfl, if_neg (by omega)]

/-- The reference's take and piece. -/
def tk (s : Bs) : Int × Bs := if (prs s).2.2 ≠ 0 then (-1, []) else ((prs s).1, s.drop (prs s).2.1)
def pc (s : Bs) : Bs × Bs := if (tk s).1 < 0 ∨ ((tk s).2.length : Int) < (tk s).1 then ([], []) else ((tk s).2.take (tk s).1.toNat, (tk s).2.drop (tk s).1.toNat)
theorem tk_enc (u : Nat) (h : u < 9223372036854775808) (r : Bs) : tk (natL u ++ r) = ((u : Int), r) := by
  unfold tk
  rw [prs_natL u h, if_neg (by simp)]
  simp
theorem pc_enc (x r : Bs) (h : x.length < 9223372036854775808) : pc (txtL x ++ r) = (x, r) := by
  have : tk (txtL x ++ r) = ((x.length : Int), x ++ r) := by unfold txtL; rw [List.append_assoc]; exact tk_enc _ h _
  unfold pc
  rw [this, if_neg (by simp only [List.length_append]; omega)]
  simp
def rfK (s : Bs) : Int × Bs := tk s
def rfO (s : Bs) : Bs × Bs := if ownB (rfK s).1 then pc (rfK s).2 else ([], (rfK s).2)
def rfN (s : Bs) : Int × Bs := if numB (rfK s).1 then tk (rfO s).2 else (0, (rfO s).2)
def rfI (s : Bs) : Int × Bs := if 0 ≤ mostI (rfK s).1 then tk (rfN s).2 else (0, (rfN s).2)
def rfT (s : Bs) : Bs × Bs := if txtB (rfK s).1 then pc (rfI s).2 else ([], (rfI s).2)
def rfNm (s : Bs) : Nm := ⟨(rfK s).1, strB (rfO s).1, (rfN s).1, (rfI s).1, strB (rfT s).1⟩
def rfOk (s : Bs) : Prop := checkN (rfNm s) = 0 ∧ encN (rfNm s) = s ∧ (rfT s).2 = []

theorem rf_enc {n : Nm} (hc : checkN n = 0) (hl : (encN n).length ≤ 1000000) : rfOk (encN n) ∧ rfNm (encN n) = n := by
  have g := Nm.good hc
  have k1 := g.k1
  have k2 := g.k2
  have hO : ownB n.kind = true → n.owner.data.toList.length ≤ 1000000 := fun hb => by
    unfold encN at hl
    rw [hb, if_pos rfl] at hl
    simp only [List.length_append, txtL] at hl
    omega
  have hr := g.nr
  have hi := g.ir
  have hm : mostI n.kind ≤ 1073741824 := by unfold mostI; split; omega; split <;> omega
  have hE : encN n = natL n.kind.toNat ++ ((if ownB n.kind then txtL n.owner.data.toList else []) ++ ((if numB n.kind then natL n.number.toNat else []) ++ ((if 0 ≤ mostI n.kind then natL n.index.toNat else []) ++ (if txtB n.kind then txtL n.text.data.toList else [])))) := rfl
  generalize hs : encN n = s at *
  have eK : rfK s = (n.kind, (if ownB n.kind then txtL n.owner.data.toList else []) ++ ((if numB n.kind then natL n.number.toNat else []) ++ ((if 0 ≤ mostI n.kind then natL n.index.toNat else []) ++ (if txtB n.kind then txtL n.text.data.toList else [])))) := by
    unfold rfK
    rw [hE, tk_enc _ (by omega), show ((n.kind.toNat : Nat) : Int) = n.kind by omega]
  have eO : rfO s = (n.owner.data.toList, (if numB n.kind then natL n.number.toNat else []) ++ ((if 0 ≤ mostI n.kind then natL n.index.toNat else []) ++ (if txtB n.kind then txtL n.text.data.toList else []))) := by
    unfold rfO
    rw [eK]
    cases hb : ownB n.kind with
    | true =>
      simp only [if_pos]
      exact pc_enc _ _ (by have := hO hb; omega)
    | false => rw [g.ow hb]; rfl
  have eN : rfN s = (n.number, (if 0 ≤ mostI n.kind then natL n.index.toNat else []) ++ (if txtB n.kind then txtL n.text.data.toList else [])) := by
    unfold rfN
    rw [eK, eO]
    cases hb : numB n.kind with
    | true =>
      simp only [if_pos]
      rw [tk_enc _ (by omega), show ((n.number.toNat : Nat) : Int) = n.number by omega]
    | false => rw [g.nu hb]; rfl
  have eI : rfI s = (n.index, (if txtB n.kind then txtL n.text.data.toList else [])) := by
    unfold rfI
    rw [eK, eN]
    by_cases hb : 0 ≤ mostI n.kind
    · simp only [if_pos hb]
      rw [tk_enc _ (by omega), show ((n.index.toNat : Nat) : Int) = n.index by omega]
    · rw [g.ix (by omega)]
      simp only [if_neg hb]
      rfl
  have eT : rfT s = (n.text.data.toList, []) := by
    unfold rfT
    rw [eK, eI]
    cases hb : txtB n.kind with
    | true =>
      simp only [if_pos]
      have ht := g.tw hb
      rw [ba_size] at ht
      have := pc_enc n.text.data.toList [] (by omega)
      rw [List.append_nil] at this
      exact this
    | false => rw [g.te hb]; rfl
  have eNm : rfNm s = n := by
    unfold rfNm
    rw [eK, eO, eN, eI, eT]
    simp only [strB_of]
  exact ⟨⟨by rw [eNm]; exact hc, by rw [eNm, hs], by rw [eT]⟩, eNm⟩

/-- Both accept the same bytes, and answer the same name. -/
theorem od_iff_rf (s : Bs) (hl : s.length ≤ 1000000) : (odOk s ↔ rfOk s) ∧ (odOk s → rfNm s = odNm s) := by
  have h1 : odOk s → rfOk s ∧ rfNm s = odNm s := fun h => by
    have e := od_inv h
    have := rf_enc h.2 (by rw [e]; exact hl)
    rw [e] at this
    exact this
  refine ⟨⟨fun h => (h1 h).1, fun h => ?_⟩, fun h => (h1 h).2⟩
  have := (od_enc h.1 (by rw [h.2.1]; exact hl)).1
  rw [h.2.1] at this
  exact this
end Go.Proofs.YtfgecaphhdedcaaGreatDoor
namespace Go.Proofs.YtfgecaphhdedcaaGreatDoor
open Go.RowKit

theorem laid_out : laidOutB Tryz.prog = true := by kernel_rfl
theorem nm_row : (66 : TypeId) < Tryz.prog.types.size := of_decide_eq_true (by kernel_rfl)
theorem nm_deep : Tryz.prog.keyTypeAt 3 66 = true := by kernel_rfl
theorem nm_keyType : Tryz.prog.keyType 66 = true := by kernel_rfl
theorem nm_cells : Tryz.prog.cellsOf 66 = 5 := by kernel_rfl
theorem m_small : 3 + 1 ≤ 10000 := by decide
theorem nm_law : Maps.Keyed Tryz.prog 66 := Maps.Keyed.of_law (deep_law_laid (P := Tryz.prog) (k := 66) laid_out (m := 3) m_small nm_row nm_deep (by rw [Tryz.underlying66]))
theorem ty_many : ∃ d, Tryz.prog.types.size + 1 = d + 2 := ⟨Tryz.prog.types.size - 1, (by have h : 0 < Tryz.prog.types.size := Nat.lt_of_le_of_lt (Nat.zero_le _) nm_row; generalize Tryz.prog.types.size = x at *; omega)⟩
theorem cells_int1 : Tryz.prog.cellsOf 3 = 1 := by kernel_rfl
theorem cells_str1 : Tryz.prog.cellsOf 9 = 1 := by kernel_rfl
theorem cells_lin1 : Tryz.prog.cellsOf 42 = 1 := by kernel_rfl

/-- A name whose numbers are Go's. -/
structure Nm.Num (n : Nm) : Prop where
  ok : n.Ok
  k : (Lit.int .i64 n.kind).wf = true
  nu : (Lit.int .i64 n.number).wf = true
  ix : (Lit.int .i64 n.index).wf = true
theorem wf_small {a : Int} (h : 0 ≤ a) (h2 : a ≤ 4294967296) : (Lit.int .i64 a).wf = true := WalkArith.wf_i64 (by omega)
theorem Nm.num {n : Nm} (h : n.Ok) (hc : checkN n = 0) : n.Num := by
  have g := Nm.good hc
  have h1 : mostI n.kind ≤ 4294967295 := by unfold mostI; split <;> (try simp) <;> omega
  exact ⟨h, wf_small (by have := g.k1; omega) (by have := g.k2; omega), wf_small g.nr.1 (by have := g.nr.2; omega), wf_small g.ir.1 (by have := g.ir.2; omega)⟩
/-- What a name reads as, as a key. -/
noncomputable def klN (n : Nm) : Lit := (keyOf Tryz.prog 66 (nmV n)).getD (.bool false)
theorem key_nm {n : Nm} (h : n.Num) : keyOf Tryz.prog 66 (nmV n) = some (klN n) := by
  obtain ⟨d, hd⟩ := ty_many
  obtain ⟨⟨h1, h2⟩, h3, h4, h5⟩ := h
  have : (keyOf Tryz.prog 66 (nmV n)).isSome = true := by
    unfold keyOf nmV
    rw [hd]
    simp [nm_keyType, Value.formed, Value.cells, Program.keyLits, Tryz.underlying66, Tryz.underlying3, Tryz.underlying9, Tryz.underlying42, nm_cells, cells_int1, cells_str1, cells_lin1, h1, h2, h3, h4, h5]
  unfold klN
  cases hk : keyOf Tryz.prog 66 (nmV n) with
  | none => rw [hk] at this; cases this
  | some l => rfl
theorem nm_isKey {n : Nm} (h : n.Num) (l : Lit) (e : klN n = l) : WideAt.IsKeyLit l := by
  have h0 := key_nm h
  rw [e] at h0
  exact nm_law.key h0
theorem klN_inj {a b : Nm} (ha : a.Num) (hb : b.Num) (h : klN a = klN b) : a = b := by
  have hb' := key_nm hb
  rw [← h] at hb'
  have := Maps.Keyed.inj (P := Tryz.prog) (k := 66) (a := nmV a) (b := nmV b) (l := klN a) nm_law (key_nm ha) hb'
  obtain ⟨a1, a2, a3, a4, a5⟩ := a
  obtain ⟨b1, b2, b3, b4, b5⟩ := b
  unfold nmV at this
  simpa using this

/-- How an element reads: as itself. -/
def itself (v : Value) : Option (DataW Value × List MemPlace) := some (.held v, [])
/-- Block b is a map of at most k entries that holds just the changes f. -/
def IsMp (w : World) (b k : Nat) (f : Nm → Option Ch) : Prop := ∃ D : DataW Value, Maps.IsMap D ∧ w.ownsMap Tryz.prog 66 itself b k D ∧ ∀ n : Nm, n.Num → D.atKey (klN n) .nil = match f n with | none => .nil | some c => .held (chV c)
def upF (f : Nm → Option Ch) (n : Nm) (c : Ch) : Nm → Option Ch := fun m => if m = n then some c else f m

section
variable {w w' : World} {b k : Nat} {f : Nm → Option Ch}
theorem IsMp.lt (h : IsMp w b k f) : b < w.heap.size := let ⟨_, _, h, _⟩ := h; h.lt
theorem IsMp.mono (h : IsMp w b k f) {k' : Nat} (hk : k ≤ k') : IsMp w b k' f := let ⟨D, h1, h2, h3⟩ := h; ⟨D, h1, h2.mono hk, h3⟩
theorem IsMp.kept {row : Option Nat} (h : IsMp w b k f) (hg : w.grownBy w' row) (hne : some b ≠ row) : IsMp w' b k f := let ⟨D, h1, h2, h3⟩ := h; ⟨D, h1, h2.kept hg hne, h3⟩
theorem IsMp.below {B : Nat} (h : IsMp w b k f) (hb : Below B w w') (hB : b < B) : IsMp w' b k f := by
  obtain ⟨D, h1, ⟨es, clock, hk, F, hs, hD⟩, h3⟩ := h
  exact ⟨D, h1, ⟨es, clock, (hb.block b hB).trans hk, F, hs, hD⟩, h3⟩
theorem IsMp.obj (h : IsMp w b k f) : ∃ es cl, w.heap[b]? = some (.map es cl) := let ⟨_, _, ⟨es, cl, h, _⟩, _⟩ := h; ⟨es, cl, h⟩
theorem IsMp.of_obj {o : Obj} (h : IsMp w b k f) (h1 : w.heap[b]? = some o) (h2 : w'.heap[b]? = some o) : IsMp w' b k f := by
  obtain ⟨D, d1, ⟨es, clock, hk, F, hs, hD⟩, h3⟩ := h
  exact ⟨D, d1, ⟨es, clock, h2.trans (h1.symm.trans hk), F, hs, hD⟩, h3⟩
theorem IsMp.made (w : World) : IsMp (w.alloc (.map #[] 0)) w.heap.size 0 (fun _ => none) := ⟨_, Maps.isMap_empty, World.ownsMap_made _ _ _ _, fun _ _ => rfl⟩
theorem IsMp.made_ (w : World) {n : Nat} (h : n = w.heap.size) : IsMp (w.alloc (.map #[] 0)) n 0 (fun _ => none) := by subst h; exact IsMp.made w

theorem ch_zero (w : World) : (zeroValue 148).run Tryz.prog w = .ok (.agg #[.int .i64 0, .string ⟨#[]⟩, .int .i64 0, .int .i64 0, .string ⟨#[]⟩, .string ⟨#[]⟩, .bool false]) w := by kernel_rfl
def foundV (o : Option Ch) : Value := match o with
  | none => .tuple #[.agg #[.int .i64 0, .string ⟨#[]⟩, .int .i64 0, .int .i64 0, .string ⟨#[]⟩, .string ⟨#[]⟩, .bool false], .bool false]
  | some c => .tuple #[chV c, .bool true]
/-- Looking a name up. -/
theorem IsMp.look (h : IsMp w b k f) {n : Nm} (hn : n.Num) : (Instr.lookup 83 (.map (some b)) (nmV n) true).run Tryz.prog w = .ok (foundV (f n)) w := by
  obtain ⟨D, h1, ⟨es, clock, hk, F, hs, rfl⟩, h3⟩ := h
  rcases Maps.fit_look true nm_law Tryz.underlying83 (ch_zero w) hk F (key_nm hn) with ⟨hr, -, hat⟩ | ⟨e0, y, -, -, hr, hy, hat, -⟩
  · have h0 := h3 n hn
    rw [hat .nil] at h0
    cases hf : f n with
    | none => rw [hr]; rfl
    | some c => rw [hf] at h0; cases h0
  · have h0 := h3 n hn
    rw [hat .nil] at h0
    cases hy
    cases hf : f n with
    | none => rw [hf] at h0; cases h0
    | some c =>
      rw [hf] at h0
      have h0 : DataW.held e0.val = DataW.held (chV c) := h0
      rw [hr, DataW.held.inj h0]; simp [foundV]
/-- Storing at a name. -/
theorem IsMp.store (h : IsMp w b k f) (hk : k < maxLen) {n : Nm} (hn : n.Num) (c : Ch) : ∃ w', (Instr.mapUpdate 83 (.map (some b)) (nmV n) (chV c)).run Tryz.prog w = .ok () w' ∧ IsMp w' b (k + 1) (upF f n c) ∧ w.grownBy w' (some b) := by
  obtain ⟨D, h1, h2, h3⟩ := h
  obtain ⟨w', hr, h4, h5⟩ := h2.update (d := .held (chV c)) (ps := []) nm_law Tryz.underlying83 hk (key_nm hn) rfl
  refine ⟨w', hr, ⟨_, h1.put _ _, h4, fun m hm => ?_⟩, h5⟩
  unfold upF
  by_cases e : m = n
  · subst e
    rw [if_pos rfl]
    obtain ⟨l, hl⟩ : ∃ l, klN m = l := ⟨_, rfl⟩
    have hk := nm_isKey hn l hl
    rw [hl, Maps.atKey_put_same h1 hk]
  · rw [if_neg e, Maps.atKey_put_other (fun e' => e (klN_inj hm hn e'))]
    exact h3 m hm
end

theorem step_store {ops : Array Oper} {o : Oper} {a : Act} {w : World} {K : Act → World → Prop} {Q : Exit → Act → World → Prop} {E : Prop} (hg : o.guard = none) (m x v : Operand) (hop : o.op = Op.mapUpdate 83 m x v)
    (b k : Nat) (f : Nm → Option Ch) (n : Nm) (c : Ch) (hm : a.eval m = .map (some b)) (hx : a.eval x = nmV n) (hv : a.eval v = chV c) (hown : IsMp w b k f) (hk : k < maxLen) (hn : n.Num)
    (h : ∀ w', IsMp w' b (k + 1) (upF f n c) → w.grownBy w' (some b) → K (a.put o.dst undef) w') :
    if Region.wanted o (yielded ops a.tmps) = true then Oper.wp Tryz.prog o a w K Q else E := by
  rw [if_pos (by simp [Region.wanted, hg])]
  obtain ⟨w', hr, h1, h2⟩ := hown.store hk hn c
  unfold Oper.wp
  simp [execOp, hop, hm, hx, hv, hr, Result.andThen]
  exact h w' h1 h2
theorem wpList_store {ops : Array Oper} {rest : List Oper} {o : Oper} {a : Act} {w : World} {Q : Exit → Act → World → Prop} (hg : o.guard = none) (m x v : Operand) (hop : o.op = Op.mapUpdate 83 m x v)
    (b k : Nat) (f : Nm → Option Ch) (n : Nm) (c : Ch) (hm : a.eval m = .map (some b)) (hx : a.eval x = nmV n) (hv : a.eval v = chV c) (hown : IsMp w b k f) (hk : k < maxLen) (hn : n.Num)
    (h : ∀ w', IsMp w' b (k + 1) (upF f n c) → w.grownBy w' (some b) → wpList Tryz.prog ops Q rest (a.put o.dst undef) w') : wpList Tryz.prog ops Q (o :: rest) a w := by
  refine wpList_plain hg fun K' hK' => ?_
  obtain ⟨w', hr, h1, h2⟩ := hown.store hk hn c
  unfold Oper.wp
  simp [execOp, hop, hm, hx, hv, hr, Result.andThen]
  exact hK' _ _ (h w' h1 h2)
end Go.Proofs.YtfgecaphhdedcaaGreatDoor
namespace Go.Proofs.YtfgecaphhdedcaaGreatDoor
open Go.RowKit

set_option maxHeartbeats 400000 in
theorem tall_any (p : Option Addr) (t : T) (w : World) (h : IsTree w p t) : Calls Tryz.prog 101 #[.pointer p] w fun e w' => e = .returned (.int .i64 t.h) ∧ w = w' := by
  cases t with
  | nil =>
    obtain rfl : p = none := h
    go_enter Tryz.func101, Tryz.ntmps101
    go_wp2
    go_ret
    exact ⟨rfl, rfl⟩
  | node l n v r =>
    obtain ⟨b, pl, pr, rfl, hk, hl, hr⟩ := h
    have c8 : w.cell? ⟨b, 8, none⟩ = some (.int .i64 (T.node l n v r).h) := hk.cell 8
    generalize (T.node l n v r).h = x at *
    clear hk hl hr
    go_enter Tryz.func101, Tryz.ntmps101
    go_wp2
    go_ret
    exact ⟨rfl, rfl⟩
set_option maxHeartbeats 400000 in
theorem many_any (p : Option Addr) (t : T) (w : World) (h : IsTree w p t) : Calls Tryz.prog 86 #[.pointer p] w fun e w' => e = .returned (.int .i64 t.size) ∧ w = w' := by
  cases t with
  | nil =>
    obtain rfl : p = none := h
    go_enter Tryz.func86, Tryz.ntmps86
    go_wp2
    go_ret
    exact ⟨rfl, rfl⟩
  | node l n v r =>
    obtain ⟨b, pl, pr, rfl, hk, hl, hr⟩ := h
    have c8 : w.cell? ⟨b, 9, none⟩ = some (.int .i64 (T.node l n v r).size) := hk.cell 9
    generalize (T.node l n v r).size = x at *
    clear hk hl hr
    go_enter Tryz.func86, Tryz.ntmps86
    go_wp2
    go_ret
    exact ⟨rfl, rfl⟩
set_option maxHeartbeats 400000 in
theorem total_any (p : Option Addr) (t : T) (w : World) (h : IsTree w p t) : Calls Tryz.prog 102 #[.pointer p] w fun e w' => e = .returned (.int .i64 t.bytes) ∧ w = w' := by
  cases t with
  | nil =>
    obtain rfl : p = none := h
    go_enter Tryz.func102, Tryz.ntmps102
    go_wp2
    go_ret
    exact ⟨rfl, rfl⟩
  | node l n v r =>
    obtain ⟨b, pl, pr, rfl, hk, hl, hr⟩ := h
    have c8 : w.cell? ⟨b, 10, none⟩ = some (.int .i64 (T.node l n v r).bytes) := hk.cell 10
    generalize (T.node l n v r).bytes = x at *
    clear hk hl hr
    go_enter Tryz.func102, Tryz.ntmps102
    go_wp2
    go_ret
    exact ⟨rfl, rfl⟩

set_option maxRecDepth 100000 in
set_option maxHeartbeats 1600000 in
theorem join_any (pl pr : Option Addr) (l r : T) (n : Nm) (v : ByteArray) (w : World) (hl : IsTree w pl l) (hr : IsTree w pr r) (hf : (T.node l n v r).Fits) :
    Calls Tryz.prog 87 #[.pointer pl, nmV n, .string v, .pointer pr] w fun e w' => ∃ p, e = .returned (.pointer p) ∧ IsTree w' p (.node l n v r) ∧ Below w.heap.size w w' := by
  obtain ⟨f1, f2⟩ := hf
  have g1 := T.h_le l
  have g2 := T.h_le r
  simp only [T.size, T.bytes] at f1 f2
  have a1 := fun w' (hb : Below w.heap.size w w') => tall_any pl l w' (hl.below hb)
  have a2 := fun w' (hb : Below w.heap.size w w') => tall_any pr r w' (hr.below hb)
  have a3 := fun w' (hb : Below w.heap.size w w') => many_any pl l w' (hl.below hb)
  have a4 := fun w' (hb : Below w.heap.size w w') => many_any pr r w' (hr.below hb)
  have a5 := fun w' (hb : Below w.heap.size w w') => total_any pl l w' (hl.below hb)
  have a6 := fun w' (hb : Below w.heap.size w w') => total_any pr r w' (hr.below hb)
  have hsp : ∀ w' : World, Below w.heap.size w w' → IsTree (w'.alloc (.cells (nodeCells n v pl pr (1 + max l.h r.h) (1 + l.size + r.size) (v.size + l.bytes + r.bytes)) 136)) (some ⟨w'.heap.size, 0, none⟩) (.node l n v r) := by
    intro w' hb
    have hb' := hb.alloc hb.size (.cells (nodeCells n v pl pr (1 + max l.h r.h) (1 + l.size + r.size) (v.size + l.bytes + r.bytes)) 136)
    exact ⟨_, pl, pr, rfl, Blk.new _ _ _, hl.below hb', hr.below hb'⟩
  unfold nodeCells at hsp
  generalize hlh : l.h = lh at *
  generalize hrh : r.h = rh at *
  generalize hls : l.size = ls at *
  generalize hrs : r.size = rs at *
  generalize hlb : l.bytes = lb at *
  generalize hrb : r.bytes = rb at *
  clear hlh hrh hls hrs hlb hrb
  have A1 := hid a1; have A2 := hid a2; have A3 := hid a3; have A4 := hid a4; have A5 := hid a5; have A6 := hid a6; have HSP := hid hsp
  clear a1 a2 a3 a4 a5 a6 hsp hl hr
  obtain ⟨k, o, nu, i, t⟩ := n
  unfold nmV
  dsimp only at HSP
  go_enter Tryz.func87, Tryz.ntmps87
  go_wp2_with fail
  generalize hW : w.alloc (.cells #[.int .i64 k, .string o, .int .i64 nu, .int .i64 i, .string t] 66) = W
  have b1 : Blk W w.heap.size 66 #[.int .i64 k, .string o, .int .i64 nu, .int .i64 i, .string t] := by rw [← hW]; exact Blk.new _ _ _
  have hB0 : Below w.heap.size w W := by rw [← hW]; exact (Below.refl _ _).alloc (Nat.le_refl _) _
  have c0 : W.cell? ⟨w.heap.size, 0, none⟩ = some (.int .i64 k) := b1.cell 0
  have c1 : W.cell? ⟨w.heap.size, 1, none⟩ = some (.string o) := b1.cell 1
  have c2 : W.cell? ⟨w.heap.size, 2, none⟩ = some (.int .i64 nu) := b1.cell 2
  have c3 : W.cell? ⟨w.heap.size, 3, none⟩ = some (.int .i64 i) := b1.cell 3
  have c4 : W.cell? ⟨w.heap.size, 4, none⟩ = some (.string t) := b1.cell 4
  clear hW b1
  have w1 : IntKind.i64.wrap (1 + max (lh : Int) (rh : Int)) = ((1 + max lh rh : Nat) : Int) := by rw [IntWalk.i64_in _ (by omega)]; omega
  have w2 : IntKind.i64.wrap (IntKind.i64.wrap (1 + (ls : Int)) + (rs : Int)) = ((1 + ls + rs : Nat) : Int) := by rw [IntWalk.i64_in (1 + (ls : Int)) (by omega), IntWalk.i64_in _ (by omega)]; omega
  have w3 : IntKind.i64.wrap (IntKind.i64.wrap ((v.size : Int) + (lb : Int)) + (rb : Int)) = ((v.size + lb + rb : Nat) : Int) := by rw [IntWalk.i64_in ((v.size : Int) + (lb : Int)) (by omega), IntWalk.i64_in _ (by omega)]; omega
  have W1 := hid w1; have W2 := hid w2; have W3 := hid w3
  clear w1 w2 w3
  go_region_held3 (fun w' => w'.cell? ⟨w.heap.size, 0, none⟩ = some (.int .i64 k) ∧ w'.cell? ⟨w.heap.size, 1, none⟩ = some (.string o) ∧ w'.cell? ⟨w.heap.size, 2, none⟩ = some (.int .i64 nu) ∧ w'.cell? ⟨w.heap.size, 3, none⟩ = some (.int .i64 i) ∧ w'.cell? ⟨w.heap.size, 4, none⟩ = some (.string t))
    (go_keep)
    (first
      | (go_at_call_of 101 (Value.pointer pl); refine (A1.out _ hB0.drew).mono ?_; rintro e w' ⟨rfl, rfl⟩)
      | (go_at_call_of 101 (Value.pointer pr); refine (A2.out _ hB0.drew).mono ?_; rintro e w' ⟨rfl, rfl⟩)
      | (go_at_call_of 86 (Value.pointer pl); refine (A3.out _ hB0.drew).mono ?_; rintro e w' ⟨rfl, rfl⟩)
      | (go_at_call_of 86 (Value.pointer pr); refine (A4.out _ hB0.drew).mono ?_; rintro e w' ⟨rfl, rfl⟩)
      | (go_at_call_of 102 (Value.pointer pl); refine (A5.out _ hB0.drew).mono ?_; rintro e w' ⟨rfl, rfl⟩)
      | (go_at_call_of 102 (Value.pointer pr); refine (A6.out _ hB0.drew).mono ?_; rintro e w' ⟨rfl, rfl⟩))
  all_goals
    go_wp2_with fail
    go_ret
    refine ⟨_, rfl, ?_, ?_⟩
    · rw [W1.out, W2.out, W3.out]
      exact (HSP.out W hB0).below ((Below.refl _ _).drew)
    · exact (hB0.alloc hB0.size _).drew
end Go.Proofs.YtfgecaphhdedcaaGreatDoor
