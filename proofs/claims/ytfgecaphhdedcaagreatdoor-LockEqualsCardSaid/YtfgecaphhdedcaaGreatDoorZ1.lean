/-
  THE WORDS THAT ALL TEXTS OF THIS CLAIM USE: bytes as a list, values of them, what a slice reads as, hiding of facts. No function of the program is walked here.
  LAYER 1 (codec), WALKED: natural; the reference's Natural.
  LAYER 1 (codec), WALKED: groups, Parse.
  A WORLD AFTER DRAWS. No function of the program is walked here.
  PLAIN MATHEMATICS OF LAYER 3 (lineage): what lineage.parts, parse, Valid, Ordinals and Compare compute, on lists of bytes. No program in sight.
  LAYER 3, WALKED: lineage.parts, its iterator, parse, Valid, Ordinals: they compute what XLin says.
-/
import Derived.Test.YtfgecaphhdedcaaGreatDoorProg
import Derived.WalkKit
import Derived.WalkSpells
import Derived.WalkLawsBesides
import Derived.Maps.AppendAt
import Derived.Laws.OwnMore
import Derived.Outline
import Derived.Deep.CutRange
import Derived.Deep.CutBlock
import Derived.Laws.BitsAllLaws
import Derived.Lib.Atoi
import Derived.RangeFuncNested
import Derived.RangeFuncBound
import Derived.RangeFuncCalls
import Derived.RangeFuncLeaves
import Derived.RangeFuncBox
import Derived.Shelf.Abstract
import Derived.Shelf.RegionOpen
import Derived.OwnWalkIn
import Derived.TacticsInMore
import Derived.LoopNIn
import Derived.LoopIn
import Derived.Sort.CutIn
import Derived.Lib.Strings
namespace Go.Proofs.YtfgecaphhdedcaaGreatDoor
open Go.RowKit

theorem hid {p : Prop} (h : p) : Hid p := h

abbrev Bs := List UInt8
/-- A byte as a value. -/
def u8v (c : UInt8) : Value := .int .u8 c.toNat
/-- An int as a value. -/
def i64v (n : Int) : Value := .int .i64 n
theorem u8v_one (l : Bs) : ∀ u ∈ l.map u8v, u.oneCell' = true := by
  intro u hu; obtain ⟨c, _, rfl⟩ := List.mem_map.1 hu; rfl
theorem i64v_one (l : List Int) : ∀ u ∈ l.map i64v, u.oneCell' = true := by
  intro u hu; obtain ⟨c, _, rfl⟩ := List.mem_map.1 hu; rfl

/-- What Go makes of 'Below' at a call: old cells and marks read as before. -/
theorem bcell {B : Nat} {W w1 : World} (hb : Below B W w1) : (∀ b o, b < B → w1.cell? ⟨b, o, none⟩ = W.cell? ⟨b, o, none⟩) ∧ (∀ b o, b < B → w1.frozen? ⟨b, o, none⟩ = W.frozen? ⟨b, o, none⟩) :=
  ⟨fun b o h => hb.cell (p := ⟨b, o, none⟩) h, fun b o h => hb.frozen (p := ⟨b, o, none⟩) h⟩

/-- A slice value of n elements of 'size' cells each that reads as the cells xs. -/
def Sl (w : World) (B size : Nat) (A : Option Addr) (n cap : Nat) (xs : List Value) : Prop :=
  xs.length = n * size ∧ n ≤ cap ∧ cap ≤ maxLen ∧ (n = 0 ∨ ∃ b off, A = some ⟨b, off, none⟩ ∧ b < B ∧ ∀ j u, xs[j]? = some u → w.cell? ⟨b, off + j, none⟩ = some u)

section
variable {w w' : World} {B B' size n cap : Nat} {A : Option Addr} {xs : List Value}
theorem Sl.nil (w : World) (B size : Nat) : Sl w B size none 0 0 [] := ⟨by simp, Nat.le_refl _, by unfold maxLen; omega, .inl rfl⟩
theorem Sl.keep (h : Sl w B size A n cap xs) (hk : ∀ b o, b < B → w'.cell? ⟨b, o, none⟩ = w.cell? ⟨b, o, none⟩) : Sl w' B size A n cap xs := by
  obtain ⟨h1, h2, h3, h4⟩ := h
  refine ⟨h1, h2, h3, h4.imp_right ?_⟩
  rintro ⟨b, off, rfl, hb, hc⟩
  exact ⟨b, off, rfl, hb, fun j u hu => (hk _ _ hb).trans (hc j u hu)⟩
theorem Sl.below (h : Sl w B size A n cap xs) (hb : Below B w w') : Sl w' B size A n cap xs := h.keep (bcell hb).1
theorem Sl.more (h : Sl w B size A n cap xs) (hB : B ≤ B') : Sl w B' size A n cap xs := by
  obtain ⟨h1, h2, h3, h4⟩ := h
  refine ⟨h1, h2, h3, h4.imp_right ?_⟩
  rintro ⟨b, off, rfl, hb, hc⟩
  exact ⟨b, off, rfl, by omega, hc⟩
theorem Sl.of_own {base : Nat} {e : TypeId} {v : Value} (h : w.ownsRow base e size v n xs) : ∃ A cap, v = .slice A n cap ∧ Sl w w.heap.size size A n cap xs := by
  obtain ⟨h1, h2⟩ := h
  rcases h2 with ⟨rfl, rfl⟩ | ⟨g, cap, cur, rfl, hb, hh, hnc, hcm, hsz, htk⟩
  · exact ⟨none, 0, rfl, by simpa using h1, Nat.le_refl _, by unfold maxLen; omega, .inl rfl⟩
  · refine ⟨_, cap, rfl, h1, hnc, hcm, .inr ⟨g, 0, rfl, (Array.getElem?_eq_some_iff.1 hh).1, fun j u hu => ?_⟩⟩
    rw [Nat.zero_add, cell_of_row w g j cur e (0, 0) hh, ← Array.getElem?_toList]
    rw [← htk, List.getElem?_take] at hu
    split at hu
    · exact hu
    · cases hu
end

/-- Block g is just these cells, none frozen. -/
def Blk (w : World) (g : Nat) (t : TypeId) (cs : Array Value) : Prop := w.heap[g]? = some (.cells cs t (0, 0))
section
variable {w w' : World} {g : Nat} {t : TypeId} {cs : Array Value}
theorem Blk.lt (h : Blk w g t cs) : g < w.heap.size := (Array.getElem?_eq_some_iff.1 h).1
theorem Blk.cell (h : Blk w g t cs) (i : Nat) : w.cell? ⟨g, i, none⟩ = cs[i]? := cell_of_row w g i cs t (0, 0) h
theorem Blk.frozen (h : Blk w g t cs) (i : Nat) : w.frozen? ⟨g, i, none⟩ = false := by
  unfold Blk at h
  simp [World.frozen?, h]
theorem Blk.new (w : World) (t : TypeId) (cs : Array Value) : Blk (w.alloc (.cells cs t)) w.heap.size t cs := heap_alloc_new w _
theorem Blk.new_ (w : World) (t : TypeId) (cs : Array Value) {n : Nat} (h : n = w.heap.size) : Blk (w.alloc (.cells cs t)) n t cs := by subst h; exact Blk.new w t cs
theorem Blk.drew (h : Blk w g t cs) : Blk w.drew g t cs := h
theorem Blk.alloc (h : Blk w g t cs) (o : Obj) : Blk (w.alloc o) g t cs := (Below.heap_alloc w o g h.lt).trans h
theorem Blk.set_ (h : Blk w g t cs) (i : Nat) (u : Value) : Blk (w.setCell ⟨g, i, none⟩ u) g t (cs.setIfInBounds i u) := by
  unfold Blk at h ⊢
  simp [World.setCell, Array.getElem?_modify, h]
theorem Blk.far (h : Blk w g t cs) {p : Addr} (hp : g ≠ p.block) (u : Value) : Blk (w.setCell p u) g t cs := (Below.heap_setCell w p u g hp).trans h
theorem Blk.below {B : Nat} (h : Blk w g t cs) (hb : Below B w w') (hg : g < B) : Blk w' g t cs := (hb.block g hg).trans h
theorem Blk.grown {row : Option Nat} (h : Blk w g t cs) (hb : w.grownBy w' row) (hg : some g ≠ row) : Blk w' g t cs := (hb.block g h.lt hg).trans h
theorem Blk.ne_ {g' : Nat} {t' : TypeId} {cs' : Array Value} (h : Blk w g t cs) (h' : Blk w g' t' cs') (hne : t ≠ t') : g ≠ g' := by
  rintro rfl
  unfold Blk at h h'
  rw [h] at h'
  injection h' with h'
  injection h' with _ ht
  exact hne ht
theorem Blk.not_row {base : Nat} {e : TypeId} {size n : Nat} {v : Value} {xs : List Value} (hg : Blk w g t cs) (h : w.ownsRow base e size v n xs) (hne : t ≠ e) : some g ≠ v.ownBlock := by
  rcases h.2 with ⟨rfl, _⟩ | ⟨g', cap, cur, rfl, _, hh, _⟩
  · simp [Value.ownBlock]
  · intro he
    have : g = g' := by simpa [Value.ownBlock] using he
    subst this
    exact Blk.ne_ (t' := e) hg hh hne rfl
end

theorem _root_.Go.World.ownsRow.lower {w : World} {base base' : Nat} {e : TypeId} {size : Nat} {v : Value} {n : Nat} {xs : List Value} (h : w.ownsRow base e size v n xs) (hb : base' ≤ base) : w.ownsRow base' e size v n xs :=
  ⟨h.1, h.2.imp_right fun ⟨g, cap, cur, hv, hg, r⟩ => ⟨g, cap, cur, hv, Nat.le_trans hb hg, r⟩⟩
theorem ba_size (s : ByteArray) : s.size = s.data.toList.length := by cases s; simp [ByteArray.size]
theorem empty_t {s : ByteArray} (h : s.size = 0) : s.toList.isEmpty = true := by
  rw [ByteArray.toList_eq, List.isEmpty_iff]; exact List.eq_nil_of_length_eq_zero (by rw [← ba_size]; exact h)
theorem empty_f {s : ByteArray} (h : s.size ≠ 0) : s.toList.isEmpty = false := by
  rw [ByteArray.toList_eq, List.isEmpty_eq_false_iff]; intro e; apply h; rw [ba_size, e]; rfl
theorem empty_n {s : ByteArray} (h : s.size = 0) : s.data.toList = [] := List.eq_nil_of_length_eq_zero (by rw [← ba_size]; exact h)
theorem empty_nn {s : ByteArray} (h : s.size ≠ 0) : s.data.toList ≠ [] := by intro e; apply h; rw [ba_size, e]; rfl
theorem ba_get (s : ByteArray) (k : Nat) (h : k < s.size) : s.data.toList[k]? = some s[k] := by
  have h' : k < s.data.toList.length := by rw [← ba_size]; exact h
  rw [List.getElem?_eq_getElem h']; rfl

theorem Tryz.info_u8 : (Tryz.prog.info? 5).map (fun i => (i.zero, i.size, i.bytes)) = some (some (.int .u8 0), 1, 1) := by kernel_rfl
theorem Tryz.info_int : (Tryz.prog.info? 3).map (fun i => (i.zero, i.size, i.bytes)) = some (some (.int .i64 0), 1, 8) := by kernel_rfl
end Go.Proofs.YtfgecaphhdedcaaGreatDoor
namespace Go.Proofs.YtfgecaphhdedcaaGreatDoor
open Go.RowKit

/-- The groups of seven bits of a number, the least first. -/
def natL (u : Nat) : Bs := if u < 128 then [UInt8.ofNat u] else UInt8.ofNat (u % 128 + 128) :: natL (u / 128)
termination_by u
decreasing_by omega
theorem natL_lo {u : Nat} (h : u < 128) : natL u = [UInt8.ofNat u] := by rw [natL, if_pos h]
theorem natL_hi {u : Nat} (h : 128 ≤ u) : natL u = UInt8.ofNat (u % 128 + 128) :: natL (u / 128) := by rw [natL, if_neg (by omega)]
theorem natL_len : ∀ (k u : Nat), u < 128 ^ (k + 1) → (natL u).length ≤ k + 1
  | 0, u, h => by rw [natL_lo (by simpa using h)]; simp
  | k + 1, u, h => by
    by_cases hu : u < 128
    · rw [natL_lo hu]; simp
    · rw [natL_hi (by omega), List.length_cons]
      have := natL_len k (u / 128) (by rw [Nat.pow_succ] at h; exact Nat.div_lt_of_lt_mul (by rw [Nat.mul_comm]; exact h))
      omega
theorem natL_ten {u : Nat} (h : u < 18446744073709551616) : (natL u).length ≤ 10 := natL_len 9 u (by omega)

theorem or128 (b : Nat) (h : b < 256) : bits BinOp.or IntKind.u8 (b : Int) 128 = ((b % 128 + 128 : Nat) : Int) := by
  have : (List.range 256).all (fun b => bits BinOp.or IntKind.u8 (b : Int) 128 == ((b % 128 + 128 : Nat) : Int)) = true := by kernel_rfl
  have := List.all_eq_true.1 this b (List.mem_range.2 h)
  exact eq_of_beq this
theorem u8_of (n : Nat) (h : n < 256) : ((UInt8.ofNat n).toNat : Int) = (n : Int) := by
  rw [UInt8.toNat_ofNat', Nat.mod_eq_of_lt h]

set_option maxRecDepth 100000 in
set_option maxHeartbeats 1000000 in
theorem natural_any (u : Nat) (hu : u < 18446744073709551616) (w : World) :
    Calls Tryz.prog 72 #[.int .u64 u] w fun e w' => ∃ v, e = .returned v ∧ w'.ownsRow w.heap.size 5 1 v (natL u).length ((natL u).map u8v) ∧ Below w.heap.size w w' := by
  obtain ⟨i0, hi, hz0, hz1, hz2⟩ := info_parts Tryz.info_u8
  have hlen := natL_ten hu
  go_enter Tryz.func72, Tryz.ntmps72
  go_wp2_with fail
  go_loopw [0, 3] (fun uv ov wr => ∃ (m : Nat) (acc : Bs), uv = .int .u64 m ∧ m < 18446744073709551616 ∧ natL u = acc ++ natL m ∧ wr.ownsRow w.heap.size 5 1 ov acc.length (acc.map u8v) ∧ Below w.heap.size w wr) (fun uv _ _ => (intOf uv).toNat)
  case atStart => exact ⟨u, [], rfl, hu, rfl, World.ownsRow_nil _ _ _ _, Below.refl _ _⟩
  case round =>
    obtain ⟨m, acc, rfl, hm, he, ho, hB⟩ := hrel
    have HE := hid he; have HO := hid ho
    have hal : acc.length ≤ 10 := by have := congrArg List.length he; rw [List.length_append] at this; omega
    clear he ho
    by_cases h1 : 128 ≤ m
    · have h1i : (128 : Int) ≤ (m : Int) := by omega
      have hor : bits BinOp.or IntKind.u8 ((m : Int) % 256) 128 = ((m % 128 + 128 : Nat) : Int) := by
        have := or128 (m % 256) (by omega)
        rw [show (m % 256) % 128 = m % 128 by omega] at this
        rw [← this]
        rfl
      have hsz := hB.size
      go_wp2_with (at_builtin; refine wpList_append_own _ rfl (.tmp 8) (.tmp 12) _ rfl w.heap.size 5 i0 (.int .u8 0) 1 1 Tryz.underlying54 hi hz0 hz1 hz2 rfl (by decide) _ _ _ rfl (HO.out.alloc _) ⟨wr.heap.size, 0, none⟩ 1 1 [.int .u8 ((m % 128 + 128 : Nat) : Int)] rfl rfl (cell_one_new _ _ _) (by simp [Value.oneCell']) (by unfold maxLen; omega) (by omega) (by simp; omega) ?_; intro v1 w1 hown1 hgrow1 _; have hB1 : Below w.heap.size w w1 := Below.grown (hB.alloc hsz _) hgrow1 (by simp; omega) (fun j e => (HO.out.lt j e).1); have HO1 := hid hown1; clear hown1 hgrow1)
      go_roundw
      case rel => exact ⟨m / 128, acc ++ [UInt8.ofNat (m % 128 + 128)], by rw [Int.natCast_ediv]; rfl, by omega, by rw [HE.out, natL_hi h1, List.append_assoc]; rfl, by
        rw [List.length_append, List.map_append]
        simp only [List.map_cons, List.map_nil, u8v, u8_of (m % 128 + 128) (by omega)]
        exact HO1.out, hB1⟩
      case measure => simp [intOf]; omega
    · have h1i : (m : Int) < 128 := by omega
      have hmm : (m : Int) % 256 = (m : Int) := by omega
      have hsz := hB.size
      go_wp2_with (at_builtin; refine wpList_append_own _ rfl (.tmp 14) (.tmp 17) _ rfl w.heap.size 5 i0 (.int .u8 0) 1 1 Tryz.underlying54 hi hz0 hz1 hz2 rfl (by decide) _ _ _ rfl (HO.out.alloc _) ⟨wr.heap.size, 0, none⟩ 1 1 [.int .u8 (m : Int)] rfl rfl (cell_one_new _ _ _) (by simp [Value.oneCell']) (by unfold maxLen; omega) (by omega) (by simp; omega) ?_; intro v1 w1 hown1 hgrow1 _; have hB1 : Below w.heap.size w w1 := Below.grown (hB.alloc hsz _) hgrow1 (by simp; omega) (fun j e => (HO.out.lt j e).1); have HO1 := hid hown1; clear hown1 hgrow1)
      go_ret
      have e1 : natL u = acc ++ [UInt8.ofNat m] := by rw [HE.out, natL_lo (by omega)]
      refine ⟨v1, rfl, ?_, hB1⟩
      rw [e1, List.length_append, List.map_append]
      have := HO1.out
      simp only [List.map_cons, List.map_nil, u8v, u8_of m (by omega)]
      exact this
end Go.Proofs.YtfgecaphhdedcaaGreatDoor
namespace Go.Proofs.YtfgecaphhdedcaaGreatDoor
open Go.RowKit

/-- The number at the beginning of bytes: its value, its length, the error; i groups being read, which make u. -/
def grp (most : Nat) : Bs → Nat → Nat → Nat × Nat × Int
  | [], i, _ => (0, 0, if most ≤ i then 3 else 28)
  | c :: r, i, u =>
    if i = most then (0, 0, 3)
    else if c.toNat < 128 then (if c.toNat = 0 ∧ 0 < i then (0, 0, 3) else (u + c.toNat % 128 * 128 ^ i, i + 1, 0))
    else grp most r (i + 1) (u + c.toNat % 128 * 128 ^ i)

theorem and127 (x : Nat) (h : x < 256) : bits BinOp.and IntKind.u8 (x : Int) 127 = ((x % 128 : Nat) : Int) := by
  have : (List.range 256).all (fun b => bits BinOp.and IntKind.u8 (b : Int) 127 == ((b % 128 : Nat) : Int)) = true := by kernel_rfl
  have := List.all_eq_true.1 this x (List.mem_range.2 h)
  exact eq_of_beq this
theorem wrap_u64 (n : Nat) (h : n < 18446744073709551616) : IntKind.u64.wrap (n : Int) = (n : Int) := by
  simp [IntKind.wrap, IntKind.signed, IntKind.bits]
  omega
theorem pow128 (k : Nat) : 128 ^ k = 2 ^ (7 * k) := by rw [Nat.pow_mul]
theorem grp_bits (u x k : Nat) (hx : x < 256) (hk : k ≤ 8) (hu : u < 128 ^ k) :
    bits BinOp.or IntKind.u64 (u : Int) (IntKind.u64.wrap (IntKind.u64.wrap (bits BinOp.and IntKind.u8 (x : Int) 127) * 2 ^ (7 * k))) = ((u + x % 128 * 128 ^ k : Nat) : Int) := by
  have hp : (2 : Nat) ^ (7 * k) ≤ 2 ^ 56 := Nat.pow_le_pow_right (by omega) (by omega)
  have hy : x % 128 < 128 := Nat.mod_lt _ (by omega)
  have hm : x % 128 * 2 ^ (7 * k) ≤ 128 * 2 ^ 56 := Nat.mul_le_mul (by omega) hp
  rw [and127 x hx, wrap_u64 _ (by omega)]
  have e : ((x % 128 : Nat) : Int) * 2 ^ (7 * k) = ((x % 128 * 2 ^ (7 * k) : Nat) : Int) := by rw [Int.natCast_mul, Int.natCast_pow]; rfl
  rw [pow128] at hu
  rw [e, wrap_u64 _ (by omega), u64_or_nat _ _ (by omega) (by omega), pow128]
  congr 1
  have h := Nat.shiftLeft_add_eq_or_of_lt hu (x % 128)
  rw [Nat.shiftLeft_eq] at h
  rw [Nat.or_comm, ← h, Nat.add_comm]
theorem ret_tup3 {a b c d e f : Value} (h1 : a = d) (h2 : b = e) (h3 : c = f) : Ending.returned (.tuple #[a, b, c]) = .returned (.tuple #[d, e, f]) := by rw [h1, h2, h3]
theorem grp_nil (most i u : Nat) : grp most [] i u = (0, 0, if most ≤ i then 3 else 28) := rfl
theorem grp_cons (most i u : Nat) (c : UInt8) (r : Bs) : grp most (c :: r) i u = if i = most then (0, 0, 3) else if c.toNat < 128 then (if c.toNat = 0 ∧ 0 < i then (0, 0, 3) else (u + c.toNat % 128 * 128 ^ i, i + 1, 0)) else grp most r (i + 1) (u + c.toNat % 128 * 128 ^ i) := rfl

set_option maxRecDepth 100000 in
set_option maxHeartbeats 1000000 in
theorem groups_any (A : Option Addr) (n c : Nat) (l : Bs) (most : Nat) (hm : most ≤ 9) (w : World) (hs : Sl w w.heap.size 1 A n c (l.map u8v)) :
    Calls Tryz.prog 93 #[.slice A n c, .int .i64 most] w fun e w' => e = .returned (.tuple #[.int .u64 (grp most l 0 0).1, .int .i64 (grp most l 0 0).2.1, .int .i64 (grp most l 0 0).2.2]) ∧ w = w' := by
  obtain ⟨hx1, hx2, hx3, hx4⟩ := hs
  simp only [List.length_map, Nat.mul_one] at hx1
  unfold maxLen at hx3
  subst hx1
  go_enter Tryz.func93, Tryz.ntmps93
  go_wp2_with fail
  go_loop [7, 12] (fun uv iv => ∃ (k u : Nat), iv = .int .i64 k ∧ uv = .int .u64 u ∧ k ≤ l.length ∧ k ≤ most ∧ u < 128 ^ k ∧ grp most l 0 0 = grp most (l.drop k) k u) (fun _ iv => l.length - (intOf iv).toNat)
  case atStart => exact ⟨0, 0, rfl, rfl, Nat.zero_le _, Nat.zero_le _, by simp, rfl⟩
  case round =>
    obtain ⟨k, u, rfl, rfl, hk, hkm, hu, he⟩ := hrel
    by_cases h1 : k < l.length
    · rcases hx4 with h0 | ⟨b, off, rfl, hb, hc⟩
      · omega
      have h1i : (k : Int) < (l.length : Int) := by omega
      have hcx := hc k (u8v l[k]) (by simp [h1])
      unfold u8v at hcx
      rw [List.drop_eq_getElem_cons h1, grp_cons] at he
      have hl := UInt8.toNat_lt l[k]
      have hl' : l[k].toNat < 256 := by omega
      clear hc hl
      generalize l[k].toNat = y at *
      have HE := hid he
      clear he
      by_cases h2 : k = most
      · have h2b : ((k : Int) == (most : Int)) = true := by simp; omega
        have HR := hid (show grp most l 0 0 = (0, 0, 3) by rw [HE.out, if_pos h2])
        clear h2
        go_wp2_with fail
        go_ret3
        exact ⟨ret_tup3 (by rw [HR.out]; rfl) (by rw [HR.out]; rfl) (by rw [HR.out]; rfl), rfl⟩
      · have h2b : ((k : Int) == (most : Int)) = false := by simp; omega
        have hk8 : k ≤ 8 := by omega
        have hv := grp_bits u y k hl' hk8 hu
        have hN : u + y % 128 * 128 ^ k < 128 ^ (k + 1) := by
          have : y % 128 < 128 := Nat.mod_lt _ (by omega)
          have : y % 128 * 128 ^ k ≤ 127 * 128 ^ k := Nat.mul_le_mul_right _ (by omega)
          rw [Nat.pow_succ]
          omega
        have HU := hid hu
        have HNN := hid hN
        have H2 := hid h2
        generalize hNe : u + y % 128 * 128 ^ k = N at *
        have HNe := hid hNe
        clear hN hNe hu h2
        by_cases y0 : y = 0
        · subst y0
          have hv0 : bits BinOp.or IntKind.u64 (u : Int) (IntKind.u64.wrap (IntKind.u64.wrap (bits BinOp.and IntKind.u8 0 127) * 2 ^ (7 * k))) = (N : Int) := hv
          clear hv
          by_cases hk0 : 0 < k
          · have hki : (0 : Int) < (k : Int) := by omega
            have HR := hid (show grp most l 0 0 = (0, 0, 3) by rw [HE.out, if_neg H2.out, if_pos (by omega), if_pos ⟨rfl, hk0⟩])
            go_wp2_with fail
            go_ret3
            exact ⟨ret_tup3 (by rw [HR.out]; rfl) (by rw [HR.out]; rfl) (by rw [HR.out]; rfl), rfl⟩
          · have hk1 : ¬ ((0 : Int) < (k : Int)) := by omega
            have hk2 : decide ((0 : Int) < (k : Int)) = false := by rw [decide_eq_false_iff_not]; omega
            have hk3 : decide (0 < k) = false := by rw [decide_eq_false_iff_not]; omega
            have HR := hid (show grp most l 0 0 = (N, k + 1, 0) by rw [HE.out, if_neg H2.out, if_pos (by omega), if_neg (by omega)])
            clear hk0
            go_wp2_with fail
            all_goals go_ret3
            all_goals exact ⟨ret_tup3 (by rw [HR.out]; rfl) (by rw [HR.out]; go_num) (by rw [HR.out]; rfl), rfl⟩
        · have hyz : ((y : Int) == 0) = false := by simp; omega
          by_cases y1 : y < 128
          · have hyi : (y : Int) < 128 := by omega
            have HR := hid (show grp most l 0 0 = (N, k + 1, 0) by rw [HE.out, if_neg H2.out, if_pos y1, if_neg (by omega)])
            clear y0
            go_wp2_with fail
            all_goals go_ret3
            all_goals exact ⟨ret_tup3 (by rw [HR.out]; rfl) (by rw [HR.out]; go_num) (by rw [HR.out]; rfl), rfl⟩
          · have hyi : ¬ ((y : Int) < 128) := by omega
            have HR := hid (show grp most l 0 0 = grp most (l.drop (k + 1)) (k + 1) N by rw [HE.out, if_neg H2.out, if_neg y1])
            clear y0
            go_wp2_with fail
            go_round
            case rel => exact ⟨k + 1, N, by go_num, rfl, by omega, by have := H2.out; omega, HNN.out, HR.out⟩
            case measure => simp [intOf]; omega
    · have hd : l.drop k = [] := List.drop_of_length_le (by omega)
      rw [hd, grp_nil] at he
      have hkl : k = l.length := by omega
      subst hkl
      clear hd
      by_cases h2 : most ≤ l.length
      · have h2i : (most : Int) ≤ (l.length : Int) := by omega
        have HR := hid (show grp most l 0 0 = (0, 0, 3) by rw [he, if_pos h2])
        clear he
        go_wp2_with fail
        go_ret3
        exact ⟨ret_tup3 (by rw [HR.out]; rfl) (by rw [HR.out]; rfl) (by rw [HR.out]; rfl), rfl⟩
      · have h2i : ¬ ((most : Int) ≤ (l.length : Int)) := by omega
        have HR := hid (show grp most l 0 0 = (0, 0, 28) by rw [he, if_neg h2])
        clear he
        go_wp2_with fail
        go_ret3
        exact ⟨ret_tup3 (by rw [HR.out]; rfl) (by rw [HR.out]; rfl) (by rw [HR.out]; rfl), rfl⟩
theorem grp_lt (most : Nat) : ∀ (l : Bs) (k u : Nat), k ≤ most → u < 128 ^ k → (grp most l k u).1 < 128 ^ most
  | [], k, u, _, _ => Nat.pow_pos (by omega)
  | c :: r, k, u, hk, hu => by
    have hN : u + c.toNat % 128 * 128 ^ k < 128 ^ (k + 1) := by
      have : c.toNat % 128 < 128 := Nat.mod_lt _ (by omega)
      have : c.toNat % 128 * 128 ^ k ≤ 127 * 128 ^ k := Nat.mul_le_mul_right _ (by omega)
      rw [Nat.pow_succ]
      omega
    have hp : 0 < 128 ^ most := Nat.pow_pos (by omega)
    rw [grp_cons]
    split
    · exact hp
    · have hle : 128 ^ (k + 1) ≤ 128 ^ most := Nat.pow_le_pow_right (by omega) (by omega)
      split
      · split
        · exact hp
        · exact Nat.lt_of_lt_of_le hN hle
      · exact grp_lt most r (k + 1) _ (by omega) hN
/-- Parse. -/
def prs (l : Bs) : Nat × Nat × Int := grp 9 l 0 0
theorem prs_lt (l : Bs) : (prs l).1 < 9223372036854775808 := by
  have := grp_lt 9 l 0 0 (by omega) (by simp)
  unfold prs
  omega

set_option maxRecDepth 100000 in
set_option maxHeartbeats 1000000 in
theorem cparse_any (A : Option Addr) (n c : Nat) (l : Bs) (w : World) (hs : Sl w w.heap.size 1 A n c (l.map u8v)) :
    Calls Tryz.prog 65 #[.slice A n c] w fun e w' => e = .returned (.tuple #[.int .i64 (prs l).1, .int .i64 (prs l).2.1, .int .i64 (prs l).2.2]) ∧ w = w' := by
  have G := groups_any A n c l 9 (by omega) w hs
  have hlt := prs_lt l
  change Calls Tryz.prog 93 #[.slice A n c, .int .i64 9] w (fun e w' => e = .returned (.tuple #[.int .u64 (prs l).1, .int .i64 (prs l).2.1, .int .i64 (prs l).2.2]) ∧ w = w') at G
  have HG := hid G
  clear G
  generalize (prs l).1 = a at *
  generalize (prs l).2.1 = b at *
  generalize (prs l).2.2 = d at *
  go_enter Tryz.func65, Tryz.ntmps65
  go_wp2_with (go_at_call 93; refine HG.out.mono ?_; rintro e w' ⟨rfl, rfl⟩)
  go_ret3
  exact ⟨rfl, rfl⟩
end Go.Proofs.YtfgecaphhdedcaaGreatDoor
namespace Go.Proofs.YtfgecaphhdedcaaGreatDoor
open Go.RowKit

theorem dN {B : Nat} {a w : World} (h : Below B a w) (n : Nat) : Below B a (w.drewN n) := h.trans ⟨rfl, rfl, rfl, Nat.le_refl _, fun _ _ => rfl⟩
end Go.Proofs.YtfgecaphhdedcaaGreatDoor
namespace Go.Proofs.YtfgecaphhdedcaaGreatDoor.M
open Go

abbrev Bs := List UInt8
def isDig (c : UInt8) : Bool := decide (48 ≤ c.toNat) && decide (c.toNat ≤ 57)
def digs (l : Bs) : Bs := l.takeWhile isDig
def numOf (l : Bs) : Int := ((Lib.decFrom 0 l).getD 0 : Nat)

/-- One part: the ordinal, the offset, the error. -/
structure Part where
  ord : Int
  at_ : Int
  e : Int

/-- The error of the part at the beginning of 'rest', 'n' parts being there before. -/
def partE (n : Nat) (rest : Bs) : Int :=
  if n = 8 then 9 else if rest = [] then 4 else if digs rest = [] then 6 else if rest.head? = some 48 then 3 else if 6 < (digs rest).length then 2 else 0

/-- The parts from offset 'at_' on. -/
def partsGo : Nat → Nat → Nat → Bs → List Part
  | 0, _, _, _ => []
  | f + 1, n, at_, rest =>
    if partE n rest ≠ 0 then [⟨0, at_, partE n rest⟩]
    else ⟨numOf (digs rest), at_, 0⟩ ::
      match rest.drop (digs rest).length with
      | [] => []
      | c :: r => if c ≠ 46 then [⟨0, at_ + (digs rest).length, 6⟩] else partsGo f (n + 1) (at_ + (digs rest).length + 1) r

def parts (s : Bs) : List Part := if s = [] then [] else partsGo 9 0 0 s

def collect : List Part → List Int → List Int × Int × Int
  | [], acc => (acc, 0, 0)
  | p :: r, acc => if p.e ≠ 0 then ([], p.at_, p.e) else collect r (acc ++ [p.ord])

def parse (s : Bs) : List Int × Int × Int := collect (parts s) []
def valid (s : Bs) : Bool := (parse s).2.2 == 0
def ords (s : Bs) : List Int := (parse s).1

/-- slices.Compare at []int. -/
def cmpInts : List Int → List Int → Int
  | [], [] => 0
  | [], _ :: _ => -1
  | _ :: _, [] => 1
  | a :: x, b :: y => if a < b then -1 else if b < a then 1 else cmpInts x y

theorem mem_takeWhile {p : UInt8 → Bool} {l : Bs} {c : UInt8} (h : c ∈ l.takeWhile p) : p c = true := by
  induction l with
  | nil => simp at h
  | cons a r ih =>
    rw [List.takeWhile_cons] at h
    split at h
    · rcases List.mem_cons.1 h with rfl | h
      · assumption
      · exact ih h
    · simp at h
theorem digs_dig {l : Bs} {c : UInt8} (h : c ∈ digs l) : isDig c = true := mem_takeWhile h
theorem digs_le (l : Bs) : (digs l).length ≤ l.length := (List.takeWhile_prefix isDig).length_le

/-- A row of digits spells a number. -/
theorem decFrom_some (l : Bs) (h : ∀ c ∈ l, isDig c = true) (acc : Nat) : ∃ n, Lib.decFrom acc l = some n := by
  induction l generalizing acc with
  | nil => exact ⟨acc, rfl⟩
  | cons c r ih =>
    have hc := h c (by simp)
    simp only [isDig, Bool.and_eq_true, decide_eq_true_eq] at hc
    simp only [Lib.decFrom, Lib.digitVal, if_pos hc]
    exact ih (fun c hc => h c (by simp [hc])) _

/-- What strconv.Atoi makes of digits. -/
theorem atoi_digs (l : Bs) (h : ∀ c ∈ l, isDig c = true) (hne : l ≠ []) : Lib.atoi l = some (numOf l) := by
  cases l with
  | nil => exact absurd rfl hne
  | cons c r =>
    have hc := h c (by simp)
    simp only [isDig, Bool.and_eq_true, decide_eq_true_eq] at hc
    obtain ⟨n, hn⟩ := decFrom_some (c :: r) h 0
    have h45 : (c == 45) = false := by rw [beq_eq_false_iff_ne]; rintro rfl; simp at hc
    have h43 : (c == 43) = false := by rw [beq_eq_false_iff_ne]; rintro rfl; simp at hc
    simp only [Lib.atoi, h45, h43, Lib.decNat, List.isEmpty_cons, Bool.false_eq_true, if_false, hn, numOf, Option.map_some, Option.getD_some]

/-- The digits from k on, the first k bytes being digits. -/
theorem digs_step {l : Bs} {k : Nat} (hk : k ≤ (digs l).length) (hlt : k < l.length) : (isDig l[k] = true ↔ k < (digs l).length) := by
  induction l generalizing k with
  | nil => simp at hlt
  | cons a r ih =>
    unfold digs at *
    rw [List.takeWhile_cons] at *
    cases ha : isDig a with
    | true =>
      simp only [ha, if_true, List.length_cons] at hk ⊢
      cases k with
      | zero => simp [ha]
      | succ k =>
        simp only [List.getElem_cons_succ, Nat.add_lt_add_iff_right]
        exact ih (by omega) (by simpa using hlt)
    | false =>
      simp only [ha, Bool.false_eq_true, if_false, List.length_nil, Nat.le_zero] at hk ⊢
      subst hk
      simp [ha]
theorem digs_take (l : Bs) : l.take (digs l).length = digs l := by
  have := List.takeWhile_prefix isDig (l := l)
  exact (List.prefix_iff_eq_take.1 this).symm

end Go.Proofs.YtfgecaphhdedcaaGreatDoor.M
namespace Go.Proofs.YtfgecaphhdedcaaGreatDoor
open Go.RowKit Go.Shelf

attribute [local go_sem] Oper.semAt_some

def partV (p : M.Part) : Value := .agg #[.int .i64 p.ord, .int .i64 p.at_, .int .i64 p.e]

/-- What a round keeps: blocks of parts and of strings. -/
def KpL (W W' : World) : Prop := ∀ (k : Nat) (cs : Array Value) (t : TypeId) (fz : Nat × Nat), (t = 145 ∨ t = 9) → W.heap[k]? = some (Obj.cells cs t fz) → W'.heap[k]? = some (Obj.cells cs t fz)
theorem KpL.trans {A B C : World} (h : KpL A B) (k : KpL B C) : KpL A C := fun i cs t fz ht hi => k i cs t fz ht (h i cs t fz ht hi)
theorem KpL.refl (A : World) : KpL A A := fun _ _ _ _ _ h => h

/-- strconv.Atoi at a row of digits. -/
def AtoiOk : Prop := ∀ (s : ByteArray) (n : Int) (w : World), s.size ≤ 18 → Lib.atoi s.data.toList = some n →
  Calls Tryz.prog 104 #[.string s] w fun e w' => e = .returned (.tuple #[.int .i64 n, .nilIface]) ∧ Below w.heap.size w w'

set_option maxHeartbeats 1000000 in
theorem parts_in (s : ByteArray) (n : Nat) (w : World) :
    CallsIn Fence.wide n Tryz.prog 89 #[.string s] w fun e w' => e = .returned (.func (.func 103) #[] #[.pointer (some ⟨w.heap.size, 0, none⟩)]) ∧ w' = w.alloc (.cells #[.string s] 9) := by
  refine callsIn_of_wp Tryz.func89 rfl trivial ?_ rfl
  simp only [Tryz.ntmps89, List.size_toArray, List.length_cons, List.length_nil, Nat.reduceAdd, Nat.reduceSub, Array.replicate_succ, Array.replicate_zero, List.push_toArray, List.append_toArray, List.nil_append, List.cons_append]
  gi_wp2
  go_ret
  exact ⟨rfl, rfl⟩

set_option maxRecDepth 100000 in
set_option maxHeartbeats 2000000 in
/-- The iterator. -/
theorem parts1_in (hAt : AtoiOk) (n : Nat) (hn : 1 ≤ n) (l Bn : Nat) (s : ByteArray) (hs : s.size ≤ maxLen) (J Jx : List M.Part → World → Prop)
    (hJ : ∀ pre W W', J pre W → Below W.heap.size W W' → J pre W')
    (hY : ∀ pre p W, J pre W → pre.length < 10 → YieldAt Fence.wide (n - 1) Tryz.prog l #[partV p] W fun e W' =>
      (e = .returned (.bool true) ∧ J (pre ++ [p]) W' ∧ KpL W W') ∨ (e = .returned (.bool false) ∧ Jx (pre ++ [p]) W'))
    (W : World) (hBn : W.heap[Bn]? = some (.cells #[.string s] 9)) (h0 : J [] W) :
    CallsIn Fence.wide n Tryz.prog 103 #[.func (.yield l) #[] #[], .pointer (some ⟨Bn, 0, none⟩)] W fun e W' => (∃ v, e = .returned v) ∧
      ((∃ ys, ys = M.parts s.data.toList ∧ J ys W') ∨ (∃ pre, pre <+: M.parts s.data.toList ∧ Jx pre W')) := by
  unfold maxLen at hs
  refine callsIn_of_wp Tryz.func103 rfl trivial ?_ rfl
  simp only [Tryz.ntmps103, List.size_toArray, List.length_cons, List.length_nil, Nat.reduceAdd, Nat.reduceSub, Array.replicate_succ, Array.replicate_zero, List.push_toArray, List.append_toArray, List.nil_append, List.cons_append]
  gi_wp2
  gi_loopw [3, 4] (fun a i wr => ∃ (pre : List M.Part) (at_ k : Nat), a = .int .i64 at_ ∧ i = .int .i64 k ∧ k ≤ 8 ∧ at_ ≤ s.size ∧ (s.size = 0 → at_ = 0) ∧ pre.length = k ∧
      M.parts s.data.toList = pre ++ (if s.data.toList = [] then [] else M.partsGo (9 - k) k at_ (s.data.toList.drop at_)) ∧ J pre wr ∧ wr.heap[Bn]? = some (.cells #[.string s] 9))
    (fun _ i _ => 8 - (intOf i).toNat)
  case atStart =>
    exact ⟨[], 0, 0, rfl, rfl, by omega, by omega, by omega, rfl, rfl, h0, hBn⟩
  case round =>
    obtain ⟨pre, at_, k, rfl, rfl, hk, hat, hz, hpl, hp, hJs, hB⟩ := hrel
    have hc := cell_of_one hB
    have hBlt := lt_of_block hB
    have HP := hid hp; clear hp
    have HB := hid hB; clear hB
    by_cases he : s.size = 0
    · have hl := empty_t he
      gi_wp2
      go_end0
      have hq := HP.out
      rw [if_pos (empty_n he), List.append_nil] at hq
      exact ⟨⟨_, rfl⟩, .inl ⟨pre, hq.symm, hJs⟩⟩
    · have hl := empty_f he
      have HE := hid he; clear he
      have hDl := M.digs_le (s.data.toList.drop at_)
      rw [List.length_drop, ← ba_size] at hDl
      gi_upto_region 5 with fail
      iterate 8 gi_step
      gi_cut [6] from 13 (fun d wx => d = .int .i64 (M.digs (s.data.toList.drop at_)).length ∧ wx = wr.alloc (.cells #[.int .i64 0, .int .i64 at_, .int .i64 0] 145))
      case first =>
        gi_step
        gi_loop [6] (fun d => ∃ c : Nat, d = .int .i64 c ∧ c ≤ (M.digs (s.data.toList.drop at_)).length) (fun d => s.size - (intOf d).toNat)
        case atStart => exact ⟨0, rfl, Nat.zero_le _⟩
        case round =>
          obtain ⟨c, rfl, hcd⟩ := hrel
          by_cases h1 : at_ + c < s.size
          · have hds := M.digs_step (l := s.data.toList.drop at_) hcd (by rw [List.length_drop, ← ba_size]; omega)
            by_cases h2 : M.isDig s[at_ + c] = true
            · have h3 := h2
              simp only [M.isDig, Bool.and_eq_true, decide_eq_true_eq] at h3
              obtain ⟨h3a, h3b⟩ := h3
              have h3a' : (48 : Int) ≤ (s[at_ + c].toNat : Int) := by omega
              have h3b' : (s[at_ + c].toNat : Int) ≤ 57 := by omega
              have HD : Hid (c < (M.digs (s.data.toList.drop at_)).length) := hid (by rw [← hds]; rw [List.getElem_drop]; exact h2)
              clear hds h2
              gi_wp2
              go_round
              case rel => exact ⟨c + 1, by go_num, HD.out⟩
              case measure => simp [intOf]; omega
            · have hcD : c = (M.digs (s.data.toList.drop at_)).length := by
                have : ¬ c < (M.digs (s.data.toList.drop at_)).length := by rw [← hds, List.getElem_drop]; exact h2
                omega
              have HC := hid hcD; clear hcD hds
              simp only [M.isDig, Bool.and_eq_true, decide_eq_true_eq] at h2
              have h3 : ((s[at_ + c].toNat : Int) < 48) ∨ ((48 : Int) ≤ (s[at_ + c].toNat : Int) ∧ (57 : Int) < (s[at_ + c].toNat : Int)) := by omega
              rcases h3 with h3 | ⟨h3, h4⟩
              all_goals
                clear h2
                gi_wp2
                gi_meet
                case rel => exact ⟨by rw [← HC.out], rfl⟩
          · have hcD : c = (M.digs (s.data.toList.drop at_)).length := by omega
            have HC := hid hcD; clear hcD
            gi_wp2
            gi_meet
            case rel => exact ⟨by rw [← HC.out], rfl⟩
      case rest =>
        obtain ⟨rfl, rfl⟩ := hcut
        have hlen : (s.data.toList.drop at_).length = s.size - at_ := by rw [List.length_drop, ← ba_size]
        by_cases k8 : k = 8
        · have k8b : ((k : Int) == 8) = true := by simp [k8]
          have hE : M.partE k (s.data.toList.drop at_) = 9 := by simp [M.partE, k8]
          have hfin : M.parts s.data.toList = pre ++ [⟨0, at_, 9⟩] := by
            rw [HP.out, if_neg (empty_nn HE.out), show 9 - k = (8 - k) + 1 from by omega, M.partsGo, hE]; simp
          have HF := hid hfin; clear hfin hE
          obtain ⟨fn, tmps, assign, body, hy, hR⟩ := hY pre ⟨0, at_, 9⟩ (wr.alloc (.cells #[.int .i64 0, .int .i64 at_, .int .i64 9] 145)) (hJ _ _ _ hJs ((Below.refl _ _).alloc (Nat.le_refl _) _)) (by omega)
          simp only [partV] at hy
          gi_wp2
          refine hR.mono ?_
          rintro e W3 (⟨rfl, hJ3, hk3⟩ | ⟨rfl, hJx3⟩)
          · have h3 := hk3 wr.heap.size _ _ _ (.inl rfl) (heap_alloc_new wr _)
            have hc3 : W3.cell? ⟨wr.heap.size, 2, none⟩ = some (.int .i64 9) := cell_of_row W3 _ _ _ _ _ h3
            gi_wp2
            refine bodyPost_ret (results_none rfl _ _ _) rfl ?_
            exact ⟨⟨_, rfl⟩, .inl ⟨_, HF.out.symm, hJ3⟩⟩
          · gi_wp2
            refine bodyPost_ret (results_none rfl _ _ _) rfl ?_
            exact ⟨⟨_, rfl⟩, .inr ⟨_, by rw [HF.out]; exact List.prefix_refl _, hJx3⟩⟩
        have k8b : ((k : Int) == 8) = false := by rw [beq_eq_false_iff_ne]; omega
        by_cases hend : at_ = s.size
        · have hendb : ((at_ : Int) == (s.size : Int)) = true := by simp [hend]
          have HEND := hid hend; clear hend
          have hE : M.partE k (s.data.toList.drop at_) = 4 := by rw [M.partE, if_neg k8, if_pos (List.eq_nil_of_length_eq_zero (by rw [hlen]; have := HEND.out; omega))]
          have hfin : M.parts s.data.toList = pre ++ [⟨0, at_, 4⟩] := by
            rw [HP.out, if_neg (empty_nn HE.out), show 9 - k = (8 - k) + 1 from by omega, M.partsGo, hE]; simp
          have HF := hid hfin; clear hfin hE
          obtain ⟨fn, tmps, assign, body, hy, hR⟩ := hY pre ⟨0, at_, 4⟩ (wr.alloc (.cells #[.int .i64 0, .int .i64 at_, .int .i64 4] 145)) (hJ _ _ _ hJs ((Below.refl _ _).alloc (Nat.le_refl _) _)) (by omega)
          simp only [partV] at hy
          gi_wp2
          refine hR.mono ?_
          rintro e W3 (⟨rfl, hJ3, hk3⟩ | ⟨rfl, hJx3⟩)
          · have h3 := hk3 wr.heap.size _ _ _ (.inl rfl) (heap_alloc_new wr _)
            have hc3 : W3.cell? ⟨wr.heap.size, 2, none⟩ = some (.int .i64 4) := cell_of_row W3 _ _ _ _ _ h3
            gi_wp2
            refine bodyPost_ret (results_none rfl _ _ _) rfl ?_
            exact ⟨⟨_, rfl⟩, .inl ⟨_, HF.out.symm, hJ3⟩⟩
          · gi_wp2
            refine bodyPost_ret (results_none rfl _ _ _) rfl ?_
            exact ⟨⟨_, rfl⟩, .inr ⟨_, by rw [HF.out]; exact List.prefix_refl _, hJx3⟩⟩
        have hendb : ((at_ : Int) == (s.size : Int)) = false := by rw [beq_eq_false_iff_ne]; omega
        have hlt : at_ < s.size := by omega
        have hrne : s.data.toList.drop at_ ≠ [] := by intro e; rw [e] at hlen; simp at hlen; omega
        obtain ⟨D, hD⟩ : ∃ D, D = (M.digs (s.data.toList.drop at_)).length := ⟨_, rfl⟩
        rw [← hD] at hDl ⊢
        have HD := hid hD; clear hD
        by_cases hd0 : D = 0
        · have hd0b : ((D : Int) == 0) = true := by simp [hd0]
          have HD0 := hid hd0; clear hd0
          have hE : M.partE k (s.data.toList.drop at_) = 6 := by rw [M.partE, if_neg k8, if_neg hrne, if_pos (List.eq_nil_of_length_eq_zero (by rw [← HD.out]; exact HD0.out))]
          have hfin : M.parts s.data.toList = pre ++ [⟨0, at_, 6⟩] := by
            rw [HP.out, if_neg (empty_nn HE.out), show 9 - k = (8 - k) + 1 from by omega, M.partsGo, hE]; simp
          have HF := hid hfin; clear hfin hE
          obtain ⟨fn, tmps, assign, body, hy, hR⟩ := hY pre ⟨0, at_, 6⟩ (wr.alloc (.cells #[.int .i64 0, .int .i64 at_, .int .i64 6] 145)) (hJ _ _ _ hJs ((Below.refl _ _).alloc (Nat.le_refl _) _)) (by omega)
          simp only [partV] at hy
          gi_wp2
          refine hR.mono ?_
          rintro e W3 (⟨rfl, hJ3, hk3⟩ | ⟨rfl, hJx3⟩)
          · have h3 := hk3 wr.heap.size _ _ _ (.inl rfl) (heap_alloc_new wr _)
            have hc3 : W3.cell? ⟨wr.heap.size, 2, none⟩ = some (.int .i64 6) := cell_of_row W3 _ _ _ _ _ h3
            gi_wp2
            refine bodyPost_ret (results_none rfl _ _ _) rfl ?_
            exact ⟨⟨_, rfl⟩, .inl ⟨_, HF.out.symm, hJ3⟩⟩
          · gi_wp2
            refine bodyPost_ret (results_none rfl _ _ _) rfl ?_
            exact ⟨⟨_, rfl⟩, .inr ⟨_, by rw [HF.out]; exact List.prefix_refl _, hJx3⟩⟩
        have hd0b : ((D : Int) == 0) = false := by rw [beq_eq_false_iff_ne]; omega
        have hdne : M.digs (s.data.toList.drop at_) ≠ [] := by intro e; apply hd0; rw [HD.out, e]; rfl
        have hhd : (s.data.toList.drop at_).head? = some s[at_] := by rw [List.head?_drop, ba_get s at_ hlt]
        by_cases h48 : s[at_].toNat = 48
        · have h48b : (((s[at_].toNat : Nat) : Int) == 48) = true := by simp [h48]
          have h48c : s[at_] = 48 := UInt8.toNat_inj.1 h48
          have H48 := hid h48c; clear h48 h48c
          have hE : M.partE k (s.data.toList.drop at_) = 3 := by rw [M.partE, if_neg k8, if_neg hrne, if_neg hdne, if_pos (by rw [hhd, H48.out])]
          have hfin : M.parts s.data.toList = pre ++ [⟨0, at_, 3⟩] := by
            rw [HP.out, if_neg (empty_nn HE.out), show 9 - k = (8 - k) + 1 from by omega, M.partsGo, hE]; simp
          have HF := hid hfin; clear hfin hE
          obtain ⟨fn, tmps, assign, body, hy, hR⟩ := hY pre ⟨0, at_, 3⟩ (wr.alloc (.cells #[.int .i64 0, .int .i64 at_, .int .i64 3] 145)) (hJ _ _ _ hJs ((Below.refl _ _).alloc (Nat.le_refl _) _)) (by omega)
          simp only [partV] at hy
          gi_wp2
          refine hR.mono ?_
          rintro e W3 (⟨rfl, hJ3, hk3⟩ | ⟨rfl, hJx3⟩)
          · have h3 := hk3 wr.heap.size _ _ _ (.inl rfl) (heap_alloc_new wr _)
            have hc3 : W3.cell? ⟨wr.heap.size, 2, none⟩ = some (.int .i64 3) := cell_of_row W3 _ _ _ _ _ h3
            gi_wp2
            refine bodyPost_ret (results_none rfl _ _ _) rfl ?_
            exact ⟨⟨_, rfl⟩, .inl ⟨_, HF.out.symm, hJ3⟩⟩
          · gi_wp2
            refine bodyPost_ret (results_none rfl _ _ _) rfl ?_
            exact ⟨⟨_, rfl⟩, .inr ⟨_, by rw [HF.out]; exact List.prefix_refl _, hJx3⟩⟩
        have h48b : (((s[at_].toNat : Nat) : Int) == 48) = false := by rw [beq_eq_false_iff_ne]; omega
        have h48c : ¬ (s.data.toList.drop at_).head? = some 48 := by rw [hhd]; intro e; apply h48; injection e with e; rw [e]; rfl
        by_cases hd6 : 6 < D
        · have hd6b : (6 : Int) < (D : Int) := by omega
          have hE : M.partE k (s.data.toList.drop at_) = 2 := by rw [M.partE, if_neg k8, if_neg hrne, if_neg hdne, if_neg h48c, if_pos (by rw [← HD.out]; exact hd6)]
          have hfin : M.parts s.data.toList = pre ++ [⟨0, at_, 2⟩] := by
            rw [HP.out, if_neg (empty_nn HE.out), show 9 - k = (8 - k) + 1 from by omega, M.partsGo, hE]; simp
          have HF := hid hfin; clear hfin hE
          obtain ⟨fn, tmps, assign, body, hy, hR⟩ := hY pre ⟨0, at_, 2⟩ (wr.alloc (.cells #[.int .i64 0, .int .i64 at_, .int .i64 2] 145)) (hJ _ _ _ hJs ((Below.refl _ _).alloc (Nat.le_refl _) _)) (by omega)
          simp only [partV] at hy
          gi_wp2
          refine hR.mono ?_
          rintro e W3 (⟨rfl, hJ3, hk3⟩ | ⟨rfl, hJx3⟩)
          · have h3 := hk3 wr.heap.size _ _ _ (.inl rfl) (heap_alloc_new wr _)
            have hc3 : W3.cell? ⟨wr.heap.size, 2, none⟩ = some (.int .i64 2) := cell_of_row W3 _ _ _ _ _ h3
            gi_wp2
            refine bodyPost_ret (results_none rfl _ _ _) rfl ?_
            exact ⟨⟨_, rfl⟩, .inl ⟨_, HF.out.symm, hJ3⟩⟩
          · gi_wp2
            refine bodyPost_ret (results_none rfl _ _ _) rfl ?_
            exact ⟨⟨_, rfl⟩, .inr ⟨_, by rw [HF.out]; exact List.prefix_refl _, hJx3⟩⟩
        have hd6b : ¬ (6 : Int) < (D : Int) := by omega
        have hE : M.partE k (s.data.toList.drop at_) = 0 := by rw [M.partE, if_neg k8, if_neg hrne, if_neg hdne, if_neg h48c, if_neg (by rw [← HD.out]; exact hd6)]
        have hex : (s.extract at_ (at_ + D)).data.toList = M.digs (s.data.toList.drop at_) := by
          rw [Lib.extract_data, show at_ + D - at_ = D from by omega, HD.out, M.digs_take]
        have hatoi := M.atoi_digs _ (fun c hc => M.digs_dig hc) hdne
        have hesz : (s.extract at_ (at_ + D)).size ≤ 18 := by rw [ba_size, hex, ← HD.out]; omega
        rw [← hex] at hatoi
        have HAT := fun w => hAt _ _ w hesz hatoi
        obtain ⟨N, hN⟩ : ∃ N, N = M.numOf (s.extract at_ (at_ + D)).data.toList := ⟨_, rfl⟩
        rw [← hN] at HAT
        have HN : Hid (N = M.numOf (M.digs (s.data.toList.drop at_))) := hid (by rw [hN, hex])
        clear hN hatoi hesz hex hdne hhd h48c hrne
        have HEE := hid hE; clear hE
        have hgo : M.parts s.data.toList = pre ++ ⟨N, at_, 0⟩ ::
            (match (s.data.toList.drop at_).drop D with
            | [] => []
            | c :: r => if c ≠ 46 then [⟨0, at_ + D, 6⟩] else M.partsGo (9 - (k + 1)) (k + 1) (at_ + D + 1) r) := by
          rw [HP.out, if_neg (empty_nn HE.out), show 9 - k = (8 - k) + 1 from by omega, M.partsGo, if_neg (by rw [HEE.out]; simp), ← HD.out, ← HN.out, show 9 - (k + 1) = 8 - k from by omega]; all_goals rfl
        have HGO := hid hgo; clear hgo
        have HATH := hid HAT; clear HAT
        have hadd : (at_ : Int) + (D : Int) ≤ s.size := by omega
        gi_wp2_with (refine ⟨trivial, ?_⟩; gi_at_call 104; refine (callsIn_wide.2 (HATH.out _)).mono ?_; rintro e w1 ⟨rfl, hb⟩; have hp1 : Blk w1 wr.heap.size 145 #[.int .i64 0, .int .i64 at_, .int .i64 0] := (Blk.new wr _ _).below hb (by simp); have hcp0 : w1.cell? ⟨wr.heap.size, 0, none⟩ = some (.int .i64 0) := hp1.cell 0; have hcp1 : w1.cell? ⟨wr.heap.size, 1, none⟩ = some (.int .i64 at_) := hp1.cell 1; have hcp2 : w1.cell? ⟨wr.heap.size, 2, none⟩ = some (.int .i64 0) := hp1.cell 2; have hfp := hp1.frozen 0; obtain ⟨fn, tmps, assign, body, hy, hR⟩ := hY pre ⟨N, at_, 0⟩ (w1.setCell ⟨wr.heap.size, 0, none⟩ (.int .i64 N)) (hJ _ _ _ hJs ((((Below.refl _ _).alloc (Nat.le_refl _) _).trans (hb.mono (by simp))).setCell (p := ⟨wr.heap.size, 0, none⟩) (Nat.le_refl _) _)) (by omega); simp only [partV] at hy)
        have hP1 := hid hp1; clear hp1
        refine hR.mono ?_
        rintro e W3 (⟨rfl, hJ3, hk3⟩ | ⟨rfl, hJx3⟩)
        · have h3 := hk3 wr.heap.size _ _ _ (.inl rfl) (hP1.out.set_ 0 _)
          have hc3 : W3.cell? ⟨wr.heap.size, 2, none⟩ = some (.int .i64 0) := by rw [cell_of_row W3 _ _ _ _ _ h3]; rfl
          have hb3 := hk3 Bn _ _ _ (.inr rfl) ((Below.heap_setCell w1 _ _ Bn (by show Bn ≠ wr.heap.size; omega)).trans ((hb.block Bn (by simp; omega)).trans ((Below.heap_alloc wr _ Bn hBlt).trans HB.out)))
          have hcb3 := cell_of_one hb3
          have HB3 := hid hb3; clear hb3 h3
          clear hR hy
          by_cases hfe : at_ + D = s.size
          · have hfeb : (((at_ : Int) + (D : Int)) == (s.size : Int)) = true := by rw [beq_iff_eq]; omega
            have hr0 : (s.data.toList.drop at_).drop D = [] := by rw [List.drop_drop]; exact List.drop_of_length_le (by rw [← ba_size]; omega)
            have HR0 := hid hr0; clear hr0 hfe
            gi_wp2
            refine bodyPost_ret (results_none rfl _ _ _) rfl ?_
            exact ⟨⟨_, rfl⟩, .inl ⟨_, by rw [HGO.out, HR0.out], hJ3⟩⟩
          · have hfeb : (((at_ : Int) + (D : Int)) == (s.size : Int)) = false := by rw [beq_eq_false_iff_ne]; omega
            have hlt2 : at_ + D < s.size := by omega
            have hr0 : (s.data.toList.drop at_).drop D = s[at_ + D] :: s.data.toList.drop (at_ + D + 1) := by
              rw [List.drop_drop, List.drop_eq_getElem_cons (by rw [← ba_size]; exact hlt2)]; rfl
            have HR0 := hid hr0; clear hr0 hfe
            by_cases h46 : s[at_ + D].toNat = 46
            · have h46b : (((s[at_ + D].toNat : Nat) : Int) != 46) = false := by simp [h46]
              have h46c : s[at_ + D] = 46 := UInt8.toNat_inj.1 h46
              have H46 := hid h46c; clear h46 h46c
              gi_wp2
              go_roundw
              case rel => exact ⟨pre ++ [⟨N, at_, 0⟩], at_ + D + 1, k + 1, by go_num, by go_num, by omega, by omega, by omega, by simp [hpl], by rw [HGO.out, HR0.out, if_neg (empty_nn HE.out)]; simp only [H46.out, ne_eq, not_true_eq_false, if_false, List.append_assoc, List.cons_append, List.nil_append], hJ3, HB3.out⟩
              case measure => simp [intOf]; omega
            · have h46b : (((s[at_ + D].toNat : Nat) : Int) != 46) = true := by rw [bne_iff_ne]; omega
              have h46c : s[at_ + D] ≠ 46 := by intro e; apply h46; rw [e]; rfl
              have H46 := hid h46c; clear h46 h46c
              obtain ⟨fn2, tmps2, assign2, body2, hy2, hR2⟩ := hY (pre ++ [⟨N, at_, 0⟩]) ⟨0, at_ + D, 6⟩ W3 hJ3 (by simp; omega)
              simp only [partV] at hy2
              have hfin : M.parts s.data.toList = pre ++ [⟨N, at_, 0⟩] ++ [⟨0, at_ + D, 6⟩] := by
                rw [HGO.out, HR0.out]; simp only [ne_eq, H46.out, not_false_eq_true, if_true, List.append_assoc, List.cons_append, List.nil_append]
              have HF := hid hfin; clear hfin
              gi_wp2
              refine hR2.mono ?_
              rintro e W4 (⟨rfl, hJ4, hk4⟩ | ⟨rfl, hJx4⟩)
              · gi_wp2
                refine bodyPost_ret (results_none rfl _ _ _) rfl ?_
                exact ⟨⟨_, rfl⟩, .inl ⟨_, HF.out.symm, hJ4⟩⟩
              · gi_wp2
                refine bodyPost_ret (results_none rfl _ _ _) rfl ?_
                exact ⟨⟨_, rfl⟩, .inr ⟨_, by rw [HF.out]; exact List.prefix_refl _, hJx4⟩⟩
        · gi_wp2
          refine bodyPost_ret (results_none rfl _ _ _) rfl ?_
          exact ⟨⟨_, rfl⟩, .inr ⟨_, by rw [HGO.out]; simp, hJx3⟩⟩
end Go.Proofs.YtfgecaphhdedcaaGreatDoor
