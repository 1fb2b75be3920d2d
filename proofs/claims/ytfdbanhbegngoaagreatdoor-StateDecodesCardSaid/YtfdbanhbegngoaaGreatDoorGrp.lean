/-
  LAYER 1 (codec), WALKED: groups, Parse.
-/
import Derived.Test.YtfdbanhbegngoaaGreatDoorCod
import Derived.Laws.BitsAllLaws
namespace Go.Proofs.YtfdbanhbegngoaaGreatDoor
open Go.RowKit

/-- The number at the beginning of bytes: its value, its length, the error; i groups being read, which make u. -/
def grp (most : Nat) : Bs → Nat → Nat → Nat × Nat × Int
  | [], i, _ => (0, 0, if most ≤ i then 3 else 28)
  | c :: r, i, u =>
    if i = most then (0, 0, 3)
    else if c.toNat < 128 then (if c.toNat = 0 ∧ 0 < i then (0, 0, 3) else (u + c.toNat % 128 * 128 ^ i, i + 1, 0))
    else grp most r (i + 1) (u + c.toNat % 128 * 128 ^ i)

theorem and127 (x : Nat) (h : x < 256) : bits BinOp.and IntKind.u8 (x : Int) 127 = ((x % 128 : Nat) : Int) := by
  have : (List.range 256).all (fun b => bits BinOp.and IntKind.u8 (b : Int) 127 == ((b % 128 : Nat) : Int)) = true := by kernel_rfl
  have := List.all_eq_true.1 this x (List.mem_range.2 h)
  exact eq_of_beq this
theorem wrap_u64 (n : Nat) (h : n < 18446744073709551616) : IntKind.u64.wrap (n : Int) = (n : Int) := by
  simp [IntKind.wrap, IntKind.signed, IntKind.bits]
  omega
theorem pow128 (k : Nat) : 128 ^ k = 2 ^ (7 * k) := by rw [Nat.pow_mul]
theorem grp_bits (u x k : Nat) (hx : x < 256) (hk : k ≤ 8) (hu : u < 128 ^ k) :
    bits BinOp.or IntKind.u64 (u : Int) (IntKind.u64.wrap (IntKind.u64.wrap (bits BinOp.and IntKind.u8 (x : Int) 127) * 2 ^ (7 * k))) = ((u + x % 128 * 128 ^ k : Nat) : Int) := by
  have hp : (2 : Nat) ^ (7 * k) ≤ 2 ^ 56 := Nat.pow_le_pow_right (by omega) (by omega)
  have hy : x % 128 < 128 := Nat.mod_lt _ (by omega)
  have hm : x % 128 * 2 ^ (7 * k) ≤ 128 * 2 ^ 56 := Nat.mul_le_mul (by omega) hp
  rw [and127 x hx, wrap_u64 _ (by omega)]
  have e : ((x % 128 : Nat) : Int) * 2 ^ (7 * k) = ((x % 128 * 2 ^ (7 * k) : Nat) : Int) := by rw [Int.natCast_mul, Int.natCast_pow]; rfl
  rw [pow128] at hu
  rw [e, wrap_u64 _ (by omega), u64_or_nat _ _ (by omega) (by omega), pow128]
  congr 1
  have h := Nat.shiftLeft_add_eq_or_of_lt hu (x % 128)
  rw [Nat.shiftLeft_eq] at h
  rw [Nat.or_comm, ← h, Nat.add_comm]
theorem ret_tup3 {a b c d e f : Value} (h1 : a = d) (h2 : b = e) (h3 : c = f) : Ending.returned (.tuple #[a, b, c]) = .returned (.tuple #[d, e, f]) := by rw [h1, h2, h3]
theorem grp_nil (most i u : Nat) : grp most [] i u = (0, 0, if most ≤ i then 3 else 28) := rfl
theorem grp_cons (most i u : Nat) (c : UInt8) (r : Bs) : grp most (c :: r) i u = if i = most then (0, 0, 3) else if c.toNat < 128 then (if c.toNat = 0 ∧ 0 < i then (0, 0, 3) else (u + c.toNat % 128 * 128 ^ i, i + 1, 0)) else grp most r (i + 1) (u + c.toNat % 128 * 128 ^ i) := rfl

set_option maxRecDepth 100000 in
set_option maxHeartbeats 1000000 in
theorem groups_any (A : Option Addr) (n c : Nat) (l : Bs) (most : Nat) (hm : most ≤ 9) (w : World) (hs : Sl w w.heap.size 1 A n c (l.map u8v)) :
    Calls Tryz.prog 80 #[.slice A n c, .int .i64 most] w fun e w' => e = .returned (.tuple #[.int .u64 (grp most l 0 0).1, .int .i64 (grp most l 0 0).2.1, .int .i64 (grp most l 0 0).2.2]) ∧ w = w' := by
  obtain ⟨hx1, hx2, hx3, hx4⟩ := hs
  simp only [List.length_map, Nat.mul_one] at hx1
  unfold maxLen at hx3
  subst hx1
  go_enter Tryz.func80, Tryz.ntmps80
  go_wp2_with fail
  go_loop [7, 12] (fun uv iv => ∃ (k u : Nat), iv = .int .i64 k ∧ uv = .int .u64 u ∧ k ≤ l.length ∧ k ≤ most ∧ u < 128 ^ k ∧ grp most l 0 0 = grp most (l.drop k) k u) (fun _ iv => l.length - (intOf iv).toNat)
  case atStart => exact ⟨0, 0, rfl, rfl, Nat.zero_le _, Nat.zero_le _, by simp, rfl⟩
  case round =>
    obtain ⟨k, u, rfl, rfl, hk, hkm, hu, he⟩ := hrel
    by_cases h1 : k < l.length
    · rcases hx4 with h0 | ⟨b, off, rfl, hb, hc⟩
      · omega
      have h1i : (k : Int) < (l.length : Int) := by omega
      have hcx := hc k (u8v l[k]) (by simp [h1])
      unfold u8v at hcx
      rw [List.drop_eq_getElem_cons h1, grp_cons] at he
      have hl := UInt8.toNat_lt l[k]
      have hl' : l[k].toNat < 256 := by omega
      clear hc hl
      generalize l[k].toNat = y at *
      have HE := hid he
      clear he
      by_cases h2 : k = most
      · have h2b : ((k : Int) == (most : Int)) = true := by simp; omega
        have HR := hid (show grp most l 0 0 = (0, 0, 3) by rw [HE.out, if_pos h2])
        clear h2
        go_wp2_with fail
        go_ret3
        exact ⟨ret_tup3 (by rw [HR.out]; rfl) (by rw [HR.out]; rfl) (by rw [HR.out]; rfl), rfl⟩
      · have h2b : ((k : Int) == (most : Int)) = false := by simp; omega
        have hk8 : k ≤ 8 := by omega
        have hv := grp_bits u y k hl' hk8 hu
        have hN : u + y % 128 * 128 ^ k < 128 ^ (k + 1) := by
          have : y % 128 < 128 := Nat.mod_lt _ (by omega)
          have : y % 128 * 128 ^ k ≤ 127 * 128 ^ k := Nat.mul_le_mul_right _ (by omega)
          rw [Nat.pow_succ]
          omega
        have HU := hid hu
        have HNN := hid hN
        have H2 := hid h2
        generalize hNe : u + y % 128 * 128 ^ k = N at *
        have HNe := hid hNe
        clear hN hNe hu h2
        by_cases y0 : y = 0
        · subst y0
          have hv0 : bits BinOp.or IntKind.u64 (u : Int) (IntKind.u64.wrap (IntKind.u64.wrap (bits BinOp.and IntKind.u8 0 127) * 2 ^ (7 * k))) = (N : Int) := hv
          clear hv
          by_cases hk0 : 0 < k
          · have hki : (0 : Int) < (k : Int) := by omega
            have HR := hid (show grp most l 0 0 = (0, 0, 3) by rw [HE.out, if_neg H2.out, if_pos (by omega), if_pos ⟨rfl, hk0⟩])
            go_wp2_with fail
            go_ret3
            exact ⟨ret_tup3 (by rw [HR.out]; rfl) (by rw [HR.out]; rfl) (by rw [HR.out]; rfl), rfl⟩
          · have hk1 : ¬ ((0 : Int) < (k : Int)) := by omega
            have hk2 : decide ((0 : Int) < (k : Int)) = false := by rw [decide_eq_false_iff_not]; omega
            have hk3 : decide (0 < k) = false := by rw [decide_eq_false_iff_not]; omega
            have HR := hid (show grp most l 0 0 = (N, k + 1, 0) by rw [HE.out, if_neg H2.out, if_pos (by omega), if_neg (by omega)])
            clear hk0
            go_wp2_with fail
            all_goals go_ret3
            all_goals exact ⟨ret_tup3 (by rw [HR.out]; rfl) (by rw [HR.out]; go_num) (by rw [HR.out]; rfl), rfl⟩
        · have hyz : ((y : Int) == 0) = false := by simp; omega
          by_cases y1 : y < 128
          · have hyi : (y : Int) < 128 := by omega
            have HR := hid (show grp most l 0 0 = (N, k + 1, 0) by rw [HE.out, if_neg H2.out, if_pos y1, if_neg (by omega)])
            clear y0
            go_wp2_with fail
            all_goals go_ret3
            all_goals exact ⟨ret_tup3 (by rw [HR.out]; rfl) (by rw [HR.out]; go_num) (by rw [HR.out]; rfl), rfl⟩
          · have hyi : ¬ ((y : Int) < 128) := by omega
            have HR := hid (show grp most l 0 0 = grp most (l.drop (k + 1)) (k + 1) N by rw [HE.out, if_neg H2.out, if_neg y1])
            clear y0
            go_wp2_with fail
            go_round
            case rel => exact ⟨k + 1, N, by go_num, rfl, by omega, by have := H2.out; omega, HNN.out, HR.out⟩
            case measure => simp [intOf]; omega
    · have hd : l.drop k = [] := List.drop_of_length_le (by omega)
      rw [hd, grp_nil] at he
      have hkl : k = l.length := by omega
      subst hkl
      clear hd
      by_cases h2 : most ≤ l.length
      · have h2i : (most : Int) ≤ (l.length : Int) := by omega
        have HR := hid (show grp most l 0 0 = (0, 0, 3) by rw [he, if_pos h2])
        clear he
        go_wp2_with fail
        go_ret3
        exact ⟨ret_tup3 (by rw [HR.out]; rfl) (by rw [HR.out]; rfl) (by rw [HR.out]; rfl), rfl⟩
      · have h2i : ¬ ((most : Int) ≤ (l.length : Int)) := by omega
        have HR := hid (show grp most l 0 0 = (0, 0, 28) by rw [he, if_neg h2])
        clear he
        go_wp2_with fail
        go_ret3
        exact ⟨ret_tup3 (by rw [HR.out]; rfl) (by rw [HR.out]; rfl) (by rw [HR.out]; rfl), rfl⟩
theorem grp_lt (most : Nat) : ∀ (l : Bs) (k u : Nat), k ≤ most → u < 128 ^ k → (grp most l k u).1 < 128 ^ most
  | [], k, u, _, _ => Nat.pow_pos (by omega)
  | c :: r, k, u, hk, hu => by
    have hN : u + c.toNat % 128 * 128 ^ k < 128 ^ (k + 1) := by
      have : c.toNat % 128 < 128 := Nat.mod_lt _ (by omega)
      have : c.toNat % 128 * 128 ^ k ≤ 127 * 128 ^ k := Nat.mul_le_mul_right _ (by omega)
      rw [Nat.pow_succ]
      omega
    have hp : 0 < 128 ^ most := Nat.pow_pos (by omega)
    rw [grp_cons]
    split
    · exact hp
    · have hle : 128 ^ (k + 1) ≤ 128 ^ most := Nat.pow_le_pow_right (by omega) (by omega)
      split
      · split
        · exact hp
        · exact Nat.lt_of_lt_of_le hN hle
      · exact grp_lt most r (k + 1) _ (by omega) hN
/-- Parse. -/
def prs (l : Bs) : Nat × Nat × Int := grp 9 l 0 0
theorem prs_lt (l : Bs) : (prs l).1 < 9223372036854775808 := by
  have := grp_lt 9 l 0 0 (by omega) (by simp)
  unfold prs
  omega

set_option maxRecDepth 100000 in
set_option maxHeartbeats 1000000 in
theorem cparse_any (A : Option Addr) (n c : Nat) (l : Bs) (w : World) (hs : Sl w w.heap.size 1 A n c (l.map u8v)) :
    Calls Tryz.prog 44 #[.slice A n c] w fun e w' => e = .returned (.tuple #[.int .i64 (prs l).1, .int .i64 (prs l).2.1, .int .i64 (prs l).2.2]) ∧ w = w' := by
  have G := groups_any A n c l 9 (by omega) w hs
  have hlt := prs_lt l
  change Calls Tryz.prog 80 #[.slice A n c, .int .i64 9] w (fun e w' => e = .returned (.tuple #[.int .u64 (prs l).1, .int .i64 (prs l).2.1, .int .i64 (prs l).2.2]) ∧ w = w') at G
  have HG := hid G
  clear G
  generalize (prs l).1 = a at *
  generalize (prs l).2.1 = b at *
  generalize (prs l).2.2 = d at *
  go_enter Tryz.func44, Tryz.ntmps44
  go_wp2_with (go_at_call 80; refine HG.out.mono ?_; rintro e w' ⟨rfl, rfl⟩)
  go_ret3
  exact ⟨rfl, rfl⟩
end Go.Proofs.YtfdbanhbegngoaaGreatDoor
