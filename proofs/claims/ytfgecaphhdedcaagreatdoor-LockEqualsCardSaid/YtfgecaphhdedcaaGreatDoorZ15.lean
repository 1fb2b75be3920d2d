/-
  THE LAWS' HELPERS OF LAYER 34, WALKED: name, birth.
  THE LAWS' HELPERS OF LAYER 34, WALKED: own.
  THE ARGUMENTS OF THE LOCK'S LAWS, OPENED: small numbers; raw locks. No function of the program is walked here.
  THE LAWS' HELPERS OF LAYER 34, WALKED: value.
  THE LAW LockChecks, WALKED.
-/
import Derived.Test.YtfgecaphhdedcaaGreatDoorZ3
import Derived.Test.YtfgecaphhdedcaaGreatDoorZ5
import Derived.Test.YtfgecaphhdedcaaGreatDoorZ11
import Derived.Test.YtfgecaphhdedcaaGreatDoorZ14
import Derived.Test.YtfgecaphhdedcaaGreatDoorZ4
import Derived.Test.YtfgecaphhdedcaaGreatDoorZ6
import Derived.Test.YtfgecaphhdedcaaGreatDoorZ13
import Derived.Deep.DeepMust
namespace Go.Proofs.YtfgecaphhdedcaaGreatDoor
open Go.RowKit

theorem Sl.lin {w : World} {B n cap : Nat} {A : Option Addr} {l : Bs} (h : Sl w B 1 A n cap (l.map u8v)) :
    (convert 54 42 (.slice A n cap)).run Tryz.prog w = .ok (.string (strB l)) w := by
  obtain ⟨h1, -, -, h4⟩ := h
  obtain rfl : l.length = n := by simpa using h1
  cases A with
  | none =>
    rcases h4 with h0 | ⟨b, off, h, -⟩
    · obtain rfl := List.eq_nil_of_length_eq_zero h0
      exact run_convert_bytes_nil w _ _ Tryz.underlying54 Tryz.underlying5 _ _ _ Tryz.underlying42
    · cases h
  | some a =>
    refine run_convert_bytes_back w _ _ _ a cap l Tryz.underlying54 Tryz.underlying5 Tryz.underlying42 fun j hj => ?_
    rcases h4 with h0 | ⟨b, off, h, -, hc⟩
    · omega
    · cases h
      rw [Addr.add_lit]
      exact hc j (u8v l[j]) (by simp [hj])
/-- One of 40 lineages. -/
def nm40 (n : Nat) : ByteArray := strB [UInt8.ofNat (49 + n % 40 / 10), UInt8.ofNat (48 + n % 10)]

set_option maxRecDepth 100000 in
set_option maxHeartbeats 1000000 in
theorem name34_any (n : Nat) (hn : n < 256) (w : World) : Calls Tryz.prog 17 #[.int .u8 n] w fun o w' => o = .returned (.string (nm40 n)) ∧ Below w.heap.size w w' := by
  have h0 : (0 : Int) ≤ (n : Int) := by omega
  have h1 : (n : Int) < 256 := by omega
  have e1 : ((UInt8.ofNat (49 + n % 40 / 10)).toNat : Int) = 49 + (n : Int) % 40 / 10 := by
    rw [UInt8.toNat_ofNat']
    omega
  have e2 : ((UInt8.ofNat (48 + n % 10)).toNat : Int) = 48 + (n : Int) % 10 := by
    rw [UInt8.toNat_ofNat']
    omega
  have hs : Sl (w.alloc (.cells #[.int .u8 (49 + (n : Int) % 40 / 10), .int .u8 (48 + (n : Int) % 10)] 5)) (w.heap.size + 1) 1 (some ⟨w.heap.size, 0, none⟩) 2 2 ([UInt8.ofNat (49 + n % 40 / 10), UInt8.ofNat (48 + n % 10)].map u8v) := by
    refine ⟨rfl, Nat.le_refl _, by unfold maxLen; omega, .inr ⟨w.heap.size, 0, rfl, by omega, fun j u hu => ?_⟩⟩
    have hb := (Blk.new w 5 #[.int .u8 (49 + (n : Int) % 40 / 10), .int .u8 (48 + (n : Int) % 10)]).cell j
    rw [Nat.zero_add, hb, ← hu]
    simp only [List.map_cons, List.map_nil, u8v, e1, e2, List.getElem?_toArray]
  have CV := hs.lin
  rw [show strB [UInt8.ofNat (49 + n % 40 / 10), UInt8.ofNat (48 + n % 10)] = nm40 n from rfl] at CV
  clear e1 e2 hs
  go_enter Tryz.func17, Tryz.ntmps17
  go_wp2_with fail
  go_ret
  exact ⟨rfl, (Below.refl _ _).alloc (Nat.le_refl _) _⟩

set_option maxRecDepth 100000 in
set_option maxHeartbeats 1000000 in
theorem birth34_any (n : Nat) (hn : n < 256) (w : World) : Calls Tryz.prog 16 #[.int .u8 n] w fun o w' => o = .returned (.agg #[.string ⟨#[49]⟩, .int .i64 (n % 3 : Nat)]) ∧ Below w.heap.size w w' := by
  have h0 : (0 : Int) ≤ (n : Int) := by omega
  have h1 : (n : Int) < 256 := by omega
  have e : ((n % 3 : Nat) : Int) = (n : Int) % 3 := by omega
  rw [e]
  go_enter Tryz.func16, Tryz.ntmps16
  go_wp2_with fail
  refine bodyPost_ret (v := .agg #[.string ⟨#[49]⟩, .int .i64 ((n : Int) % 3)]) (by simp [results, Tryz.results16, go_sem]) rfl ⟨rfl, ?_⟩
  exact (Below.refl _ _).alloc (Nat.le_refl _) _
end Go.Proofs.YtfgecaphhdedcaaGreatDoor
namespace Go.Proofs.YtfgecaphhdedcaaGreatDoor
open Go.RowKit

theorem cutO_size (s : ByteArray) (n : Nat) : (s.extract 0 (min s.size n)).size ≤ n := by
  rw [ByteArray.size_extract]
  omega
/-- A raw lock, and the lock that own makes of it. -/
def rawV (E : Int) (S : Bool) (A : Option Addr) (n c : Nat) (tx : ByteArray) : Value := .agg #[.int .i64 E, .bool S, .slice A n c, .string tx]
def ownTx (tx : ByteArray) : List ByteArray := if tx.toList.isEmpty then [] else [tx.extract 0 (min tx.size 60)]
def ownHs (l : Bs) (tx : ByteArray) : List ByteArray := (l.take 40).map (fun c => nm40 c.toNat) ++ ownTx tx
theorem nm40_size (n : Nat) : (nm40 n).size = 2 := rfl
theorem ownHs_len (l : Bs) (tx : ByteArray) : (ownHs l tx).length ≤ 41 := by
  unfold ownHs ownTx
  rw [List.length_append, List.length_map, List.length_take]
  split
  · simp; omega
  · simp; omega
theorem ownHs_size (l : Bs) (tx : ByteArray) : ∀ x ∈ ownHs l tx, x.size ≤ 60 := by
  intro x hx
  rcases List.mem_append.1 hx with h | h
  · obtain ⟨c, -, rfl⟩ := List.mem_map.1 h
    rw [nm40_size]; omega
  · unfold ownTx at h
    split at h
    · simp at h
    · obtain rfl : x = _ := by simpa using h
      exact cutO_size _ _
theorem take_snocM (l : Bs) (k : Nat) (h : k < l.length) : (l.take (k + 1)).map (fun c => nm40 c.toNat) = (l.take k).map (fun c => nm40 c.toNat) ++ [nm40 l[k].toNat] := by
  rw [List.take_succ_eq_append_getElem h, List.map_append]
  rfl

/-- Where own stands. -/
structure OnAt (W w : World) (X : Array Value) (E : Int) (S : Bool) (A : Option Addr) (c : Nat) (hs : List ByteArray) : Prop where
  rx : Blk w W.heap.size 56 X
  re : Blk w (W.heap.size + 1) 24 #[.int .i64 0, .bool false, .slice none 0 0]
  lk : Blk w (W.heap.size + 1 + 1) 24 #[.int .i64 E, .bool S, .slice A hs.length c]
  ow : w.ownsRow W.heap.size 42 1 (.slice A hs.length c) hs.length (hs.map (.string ·))
  be : Below W.heap.size W w
section
variable {W w w' : World} {X : Array Value} {E : Int} {S : Bool} {A : Option Addr} {c : Nat} {hs : List ByteArray}
theorem OnAt.kept (h : OnAt W w X E S A c hs) (hb : Below w.heap.size w w') : OnAt W w' X E S A c hs :=
  ⟨h.rx.below hb h.rx.lt, h.re.below hb h.re.lt, h.lk.below hb h.lk.lt, ownsRow_below h.ow hb, h.be.trans (hb.mono h.be.size)⟩
theorem OnAt.push {w7 : World} {A7 : Option Addr} {c7 : Nat} {tx : ByteArray} {o : Obj} (h : OnAt W w X E S A c hs)
    (ho : w7.ownsRow W.heap.size 42 1 (.slice A7 (hs.length + 1) c7) (hs.length + 1) (hs.map (.string ·) ++ [.string tx])) (hg : (w.alloc o).grownBy w7 (Value.slice A hs.length c).ownBlock) :
    OnAt W (w7.setCell ⟨W.heap.size + 1 + 1, 2, none⟩ (.slice A7 (hs.length + 1) c7)) X E S A7 c7 (hs ++ [tx]) ∧ Blk w7 (W.heap.size + 1 + 1) 24 #[.int .i64 E, .bool S, .slice A hs.length c] := by
  have h6 := h.kept ((Below.refl w.heap.size w).alloc (Nat.le_refl _) o)
  have lk7 := h6.lk.grown hg (h6.lk.not_row h6.ow (by decide))
  have re7 := h6.re.grown hg (h6.re.not_row h6.ow (by decide))
  have rx7 := h6.rx.grown hg (h6.rx.not_row h6.ow (by decide))
  have be7 : Below W.heap.size W w7 := Below.grown h6.be hg h6.be.size (fun j e => (h6.ow.lt j e).1)
  have hne : (Value.slice A7 (hs.length + 1) c7).ownBlock ≠ some (W.heap.size + 1 + 1) := fun e => (lk7.not_row ho (by decide)) e.symm
  refine ⟨⟨rx7.far (fun e => by have : W.heap.size = W.heap.size + 1 + 1 := e; omega) _, re7.far (fun e => by have : W.heap.size + 1 = W.heap.size + 1 + 1 := e; omega) _, ?_, ?_, be7.setCell (by show W.heap.size ≤ W.heap.size + 1 + 1; omega) _⟩, lk7⟩
  · rw [List.length_append]
    exact lk7.set_ 2 _
  · rw [List.length_append, List.map_append]
    exact ownsRow_setCell_other ho hne _
end

set_option maxRecDepth 100000 in
set_option maxHeartbeats 3200000 in
theorem own34_any (E : Int) (S : Bool) (A : Option Addr) (n c : Nat) (l : Bs) (tx : ByteArray) (htx : tx.size ≤ maxLen) (w : World) (hsl : Sl w w.heap.size 1 A n c (l.map u8v)) :
    Calls Tryz.prog 23 #[rawV E S A n c tx] w fun o w' => ∃ A' c', o = .returned (.agg #[.int .i64 E, .bool S, .slice A' (ownHs l tx).length c']) ∧ w'.ownsRow w.heap.size 42 1 (.slice A' (ownHs l tx).length c') (ownHs l tx).length ((ownHs l tx).map (.string ·)) ∧ Below w.heap.size w w' := by
  obtain ⟨i0, hi, hz0, hz1, hz2⟩ := info_parts Tryz.info_lin
  have hln : l.length = n := by have := hsl.1; simpa using this
  have hcn := hsl.2.1
  have hcm := hsl.2.2.1
  unfold maxLen at hcm htx
  have HSL := hid hsl
  have HT := hid (show ownHs l tx = (l.take 40).map (fun c => nm40 c.toNat) ++ ownTx tx from rfl)
  have HTX := hid (show ownTx tx = if tx.toList.isEmpty then [] else [tx.extract 0 (min tx.size 60)] from rfl)
  have h60 := cutO_size tx 60
  have hmi : min (tx.size : Int) 60 = ((min tx.size 60 : Nat) : Int) := by omega
  have hml : min tx.size 60 ≤ tx.size := Nat.min_le_left _ _
  generalize ownHs l tx = OUT at *
  unfold rawV
  clear hsl
  go_enter Tryz.func23, Tryz.ntmps23
  go_upto_region 3 with fail
  obtain ⟨W0, hW0⟩ : ∃ x, x = ((w.alloc (.cells #[.int .i64 E, .bool S, .slice A n c, .string tx] 56)).alloc (.cells #[.int .i64 0, .bool false, .slice none 0 0] 24)).alloc (.cells #[.int .i64 E, .bool S, .slice none 0 0] 24) := ⟨_, rfl⟩
  have h0 : OnAt w W0 #[.int .i64 E, .bool S, .slice A n c, .string tx] E S none 0 [] := by
    rw [hW0]
    exact ⟨((Blk.new _ _ _).alloc _).alloc _, (Blk.new_ _ _ _ (by simp)).alloc _, Blk.new_ _ _ _ (by simp), World.ownsRow_nil _ _ _ _, (((Below.refl _ _).alloc (Nat.le_refl _) _).alloc (by simp) _).alloc (by simp <;> omega) _⟩
  have H0 := hid h0
  rw [← hW0]
  clear hW0 h0
  go_loopw [4] (fun iv wr => ∃ (k : Nat) (A' : Option Addr) (c' : Nat) (hs : List ByteArray), iv = .int .i64 k ∧ k ≤ n ∧ k ≤ 40 ∧ hs = (l.take k).map (fun c => nm40 c.toNat) ∧ OnAt w wr #[.int .i64 E, .bool S, .slice A n c, .string tx] E S A' c' hs) (fun iv _ => n - (intOf iv).toNat)
  case atStart => exact ⟨0, none, 0, [], rfl, Nat.zero_le _, Nat.zero_le _, rfl, H0.out⟩
  case round =>
    obtain ⟨k, A', c', hs, rfl, hkn, hk4, hhs, hat⟩ := hrel
    have HAT := hid hat
    have hl1 : hs.length = k := by rw [hhs, List.length_map, List.length_take]; omega
    have HHS := hid hhs
    have x2 : wr.cell? ⟨w.heap.size, 2, none⟩ = some (.slice A n c) := hat.rx.cell 2
    have l2 : wr.cell? ⟨w.heap.size + 1 + 1, 2, none⟩ = some (.slice A' hs.length c') := hat.lk.cell 2
    clear hat hhs
    by_cases hlt : k < n ∧ k < 40
    · obtain ⟨hk1, hk2⟩ := hlt
      have h1i : (k : Int) < (n : Int) := by omega
      have h2i : (k : Int) < 40 := by omega
      have h0i : (0 : Int) ≤ (k : Int) := by omega
      have hkl : k < l.length := by omega
      obtain ⟨bb, off, rfl, hbb, hc⟩ : ∃ bb off, A = some ⟨bb, off, none⟩ ∧ bb < w.heap.size ∧ ∀ j u, (l.map u8v)[j]? = some u → w.cell? ⟨bb, off + j, none⟩ = some u := by
        rcases HSL.out.2.2.2 with h | h
        · omega
        · exact h
      have hbyte : ∀ w', Below w.heap.size w w' → w'.cell? ⟨bb, off + k, none⟩ = some (.int .u8 l[k].toNat) := fun w' h => ((bcell h).1 _ _ hbb).trans (hc k _ (by rw [List.getElem?_map, List.getElem?_eq_getElem hkl]; rfl))
      have HBY := hid hbyte
      have x3 := hbyte wr HAT.out.be
      have SN := hid (take_snocM l k hkl)
      have hby : l[k].toNat < 256 := UInt8.toNat_lt _
      have NM := hid (fun w' => name34_any l[k].toNat hby w')
      clear hc hbyte hby
      generalize l[k].toNat = b at *
      have HL1 := hid hl1
      have hkm : hs.length ≤ 40 := by omega
      have hbs := HAT.out.be.size
      clear hl1
      go_upto_region 5 with fail
      go_region_law (first
        | (refine step_append_gen _ rfl (.tmp 22) (.tmp 29) 22 rfl w.heap.size 42 i0 (.string ⟨#[]⟩) 1 16 Tryz.underlying22 hi hz0 hz1 hz2 rfl (by decide) _ _ _ rfl (H6.out.ow.alloc _) (some ⟨w6.heap.size, 0, none⟩) 1 1 [.string (nm40 b)] rfl rfl (fun h => by cases h) (fun ad h => by cases h; exact cells_new w6 #[.string (nm40 b)] _) (by simp [Value.oneCell']) (by unfold maxLen; omega) (by omega) (by have := H6.out.be.size; simp <;> omega) ?_; intro v7 w7 ho7 hg7; obtain ⟨A7, c7, rfl, -, -⟩ := own_shape ho7; obtain ⟨hfin, hlk7⟩ := H6.out.push ho7 hg7; have HF := hid hfin; have z7 : w7.cell? ⟨w.heap.size + 1 + 1, 2, none⟩ = some (.slice A' hs.length c') := hlk7.cell 2; have f7 := hlk7.frozen 2; clear ho7 hg7 hfin hlk7)
        | (go_simp; go_at_call 17; refine (NM.out _).mono ?_; rintro o w6 ⟨rfl, hb6⟩; have H6 := hid ((HAT.out.kept (Below.refl _ _).drew).kept hb6); have z6 : w6.cell? ⟨w.heap.size + 1 + 1, 2, none⟩ = some (.slice A' hs.length c') := H6.out.lk.cell 2; have z6a : (w6.alloc (.cells #[.string (nm40 b)] 42)).cell? ⟨w.heap.size + 1 + 1, 2, none⟩ = some (.slice A' hs.length c') := (H6.out.lk.alloc _).cell 2; clear hb6))
      all_goals
        go_wp2_with fail
        go_roundw
        case rel => exact ⟨k + 1, A7, c7, hs ++ [nm40 b], by go_num, by omega, by omega, by rw [SN.out, HHS.out], HF.out⟩
        case measure => simp [intOf]; omega
    · have htk : l.take k = l.take 40 := by
        by_cases h4 : k = 40
        · rw [h4]
        · have hkn' : k = n := by omega
          rw [List.take_of_length_le (by omega), List.take_of_length_le (by omega)]
      have HTK := hid htk
      have x3 : wr.cell? ⟨w.heap.size, 3, none⟩ = some (.string tx) := HAT.out.rx.cell 3
      have g0 : wr.cell? ⟨w.heap.size + 1 + 1, 0, none⟩ = some (.int .i64 E) := HAT.out.lk.cell 0
      have g1 : wr.cell? ⟨w.heap.size + 1 + 1, 1, none⟩ = some (.bool S) := HAT.out.lk.cell 1
      clear htk
      have hlt2 : (decide ((k : Int) < (n : Int)) && decide ((k : Int) < 40)) = false := by
        rw [Bool.and_eq_false_iff, decide_eq_false_iff_not, decide_eq_false_iff_not]
        omega
      by_cases hk1 : k < n
      · have h1i : (k : Int) < (n : Int) := by omega
        have h2i : ¬ (k : Int) < 40 := by omega
        clear hlt hlt2
        cases hem : tx.toList.isEmpty with
        | true =>
          have hO : OUT = hs := by rw [HT.out, HTX.out, hem, HHS.out, HTK.out]; simp
          subst hO
          clear hl1
          go_wp2_with (refine wpList_store_row rfl 24 _ _ rfl (w.heap.size + 1) #[.int .i64 E, .bool S, .slice A' OUT.length c'] rfl rfl 24 #[.int .i64 0, .bool false, .slice none 0 0] HAT.out.re rfl rfl (one3 _ _ _ _ _) ?_)
          refine bodyPost_ret (v := .agg #[.int .i64 E, .bool S, .slice A' OUT.length c']) ?_ ?_ ?_
          · exact results_cell_one rfl _ _ (w.heap.size + 1) 24 #[.int .i64 E, .bool S, .slice A' OUT.length c'] (0, 0) _ rfl (setRow_heap _ _ _ _ _ _ HAT.out.re) Tryz.underlying24 rfl (by kernel_rfl)
          · rfl
          · exact ⟨A', c', rfl, ownsRow_setRow HAT.out.ow HAT.out.re (by decide), below_setRow HAT.out.be (by omega) _⟩
        | false =>
          have hO : OUT = hs ++ [tx.extract 0 (min tx.size 60)] := by rw [HT.out, HTX.out, hem, HHS.out, HTK.out]; simp
          have HO := hid hO
          clear hO
          obtain ⟨tc, htc⟩ : ∃ x, x = tx.extract 0 (min tx.size 60) := ⟨_, rfl⟩
          rw [← htc] at HO
          have htc2 := htc.symm
          clear htc
          have hkm : hs.length ≤ 40 := by omega
          have hbs := HAT.out.be.size
          have H6 := hid (HAT.out.kept (Below.refl _ _).drew)
          have l2a : (wr.alloc (.cells #[.string tc] 42)).cell? ⟨w.heap.size + 1 + 1, 2, none⟩ = some (.slice A' hs.length c') := (HAT.out.lk.alloc _).cell 2
          have HL1 := hid hl1
          clear hl1
          go_upto_region 7 with fail
          go_region_law ((refine step_append_gen _ rfl (.tmp 36) (.tmp 44) 22 rfl w.heap.size 42 i0 (.string ⟨#[]⟩) 1 16 Tryz.underlying22 hi hz0 hz1 hz2 rfl (by decide) _ _ _ rfl (H6.out.ow.alloc _) (some ⟨wr.drew.heap.size, 0, none⟩) 1 1 [.string tc] rfl rfl (fun h => by cases h) (fun ad h => by cases h; exact cells_new wr.drew #[.string tc] _) (by simp [Value.oneCell']) (by unfold maxLen; omega) (by omega) (by have := H6.out.be.size; simp <;> omega) ?_; intro v7 w7 ho7 hg7; obtain ⟨A7, c7, rfl, -, -⟩ := own_shape ho7; obtain ⟨hfin, hlk7⟩ := H6.out.push ho7 hg7; have HF := hid hfin; have z7 : w7.cell? ⟨w.heap.size + 1 + 1, 2, none⟩ = some (.slice A' hs.length c') := hlk7.cell 2; have f7 := hlk7.frozen 2; have g0 : (w7.setCell ⟨w.heap.size + 1 + 1, 2, none⟩ (.slice A7 (hs.length + 1) c7)).cell? ⟨w.heap.size + 1 + 1, 0, none⟩ = some (.int .i64 E) := hfin.lk.cell 0; have g1 : (w7.setCell ⟨w.heap.size + 1 + 1, 2, none⟩ (.slice A7 (hs.length + 1) c7)).cell? ⟨w.heap.size + 1 + 1, 1, none⟩ = some (.bool S) := hfin.lk.cell 1; clear ho7 hg7 hfin hlk7))
          all_goals
            go_wp2_with (refine wpList_store_row rfl 24 _ _ rfl (w.heap.size + 1) #[.int .i64 E, .bool S, .slice A7 (hs.length + 1) c7] rfl rfl 24 #[.int .i64 0, .bool false, .slice none 0 0] HF.out.re rfl rfl (one3 _ _ _ _ _) ?_)
            refine bodyPost_ret (v := .agg #[.int .i64 E, .bool S, .slice A7 (hs.length + 1) c7]) ?_ ?_ ?_
            · exact results_cell_one rfl _ _ (w.heap.size + 1) 24 #[.int .i64 E, .bool S, .slice A7 (hs.length + 1) c7] (0, 0) _ rfl (setRow_heap _ _ _ _ _ _ HF.out.re) Tryz.underlying24 rfl (by kernel_rfl)
            · rfl
            · have hfo := ownsRow_setRow (cs' := #[.int .i64 E, .bool S, .slice A7 (hs.length + 1) c7]) HF.out.ow HF.out.re (by decide)
              rw [List.length_append] at hfo
              rw [HO.out, List.length_append]
              exact ⟨A7, c7, rfl, hfo, below_setRow HF.out.be (by omega) _⟩
      · have h1i : ¬ (k : Int) < (n : Int) := by omega
        clear hlt hlt2
        cases hem : tx.toList.isEmpty with
        | true =>
          have hO : OUT = hs := by rw [HT.out, HTX.out, hem, HHS.out, HTK.out]; simp
          subst hO
          clear hl1
          go_wp2_with (refine wpList_store_row rfl 24 _ _ rfl (w.heap.size + 1) #[.int .i64 E, .bool S, .slice A' OUT.length c'] rfl rfl 24 #[.int .i64 0, .bool false, .slice none 0 0] HAT.out.re rfl rfl (one3 _ _ _ _ _) ?_)
          refine bodyPost_ret (v := .agg #[.int .i64 E, .bool S, .slice A' OUT.length c']) ?_ ?_ ?_
          · exact results_cell_one rfl _ _ (w.heap.size + 1) 24 #[.int .i64 E, .bool S, .slice A' OUT.length c'] (0, 0) _ rfl (setRow_heap _ _ _ _ _ _ HAT.out.re) Tryz.underlying24 rfl (by kernel_rfl)
          · rfl
          · exact ⟨A', c', rfl, ownsRow_setRow HAT.out.ow HAT.out.re (by decide), below_setRow HAT.out.be (by omega) _⟩
        | false =>
          have hO : OUT = hs ++ [tx.extract 0 (min tx.size 60)] := by rw [HT.out, HTX.out, hem, HHS.out, HTK.out]; simp
          have HO := hid hO
          clear hO
          obtain ⟨tc, htc⟩ : ∃ x, x = tx.extract 0 (min tx.size 60) := ⟨_, rfl⟩
          rw [← htc] at HO
          have htc2 := htc.symm
          clear htc
          have hkm : hs.length ≤ 40 := by omega
          have hbs := HAT.out.be.size
          have H6 := hid (HAT.out.kept (Below.refl _ _).drew)
          have l2a : (wr.alloc (.cells #[.string tc] 42)).cell? ⟨w.heap.size + 1 + 1, 2, none⟩ = some (.slice A' hs.length c') := (HAT.out.lk.alloc _).cell 2
          have HL1 := hid hl1
          clear hl1
          go_upto_region 7 with fail
          go_region_law ((refine step_append_gen _ rfl (.tmp 36) (.tmp 44) 22 rfl w.heap.size 42 i0 (.string ⟨#[]⟩) 1 16 Tryz.underlying22 hi hz0 hz1 hz2 rfl (by decide) _ _ _ rfl (H6.out.ow.alloc _) (some ⟨wr.drew.heap.size, 0, none⟩) 1 1 [.string tc] rfl rfl (fun h => by cases h) (fun ad h => by cases h; exact cells_new wr.drew #[.string tc] _) (by simp [Value.oneCell']) (by unfold maxLen; omega) (by omega) (by have := H6.out.be.size; simp <;> omega) ?_; intro v7 w7 ho7 hg7; obtain ⟨A7, c7, rfl, -, -⟩ := own_shape ho7; obtain ⟨hfin, hlk7⟩ := H6.out.push ho7 hg7; have HF := hid hfin; have z7 : w7.cell? ⟨w.heap.size + 1 + 1, 2, none⟩ = some (.slice A' hs.length c') := hlk7.cell 2; have f7 := hlk7.frozen 2; have g0 : (w7.setCell ⟨w.heap.size + 1 + 1, 2, none⟩ (.slice A7 (hs.length + 1) c7)).cell? ⟨w.heap.size + 1 + 1, 0, none⟩ = some (.int .i64 E) := hfin.lk.cell 0; have g1 : (w7.setCell ⟨w.heap.size + 1 + 1, 2, none⟩ (.slice A7 (hs.length + 1) c7)).cell? ⟨w.heap.size + 1 + 1, 1, none⟩ = some (.bool S) := hfin.lk.cell 1; clear ho7 hg7 hfin hlk7))
          all_goals
            go_wp2_with (refine wpList_store_row rfl 24 _ _ rfl (w.heap.size + 1) #[.int .i64 E, .bool S, .slice A7 (hs.length + 1) c7] rfl rfl 24 #[.int .i64 0, .bool false, .slice none 0 0] HF.out.re rfl rfl (one3 _ _ _ _ _) ?_)
            refine bodyPost_ret (v := .agg #[.int .i64 E, .bool S, .slice A7 (hs.length + 1) c7]) ?_ ?_ ?_
            · exact results_cell_one rfl _ _ (w.heap.size + 1) 24 #[.int .i64 E, .bool S, .slice A7 (hs.length + 1) c7] (0, 0) _ rfl (setRow_heap _ _ _ _ _ _ HF.out.re) Tryz.underlying24 rfl (by kernel_rfl)
            · rfl
            · have hfo := ownsRow_setRow (cs' := #[.int .i64 E, .bool S, .slice A7 (hs.length + 1) c7]) HF.out.ow HF.out.re (by decide)
              rw [List.length_append] at hfo
              rw [HO.out, List.length_append]
              exact ⟨A7, c7, rfl, hfo, below_setRow HF.out.be (by omega) _⟩
end Go.Proofs.YtfgecaphhdedcaaGreatDoor
namespace Go.Proofs.YtfgecaphhdedcaaGreatDoor
open Go.ChangeShapes Go.WideShapes Go.ChangeAt Go.RowKit Go.Deep
set_option maxRecDepth 100000

/-- An argument that is a byte. -/
theorem open_u8 {H : Type} {enc : TypeId × Value → H} {W : World} {base b0 : Nat} {r : Reach} {v : Value} {d : DataW H} {p : List MemPlace} (hv : Value.okWide Tryz.prog W r b0 5 v) (h : DataW.Trod enc Tryz.prog W base (fun _ => true) true 5 v d p) : ∃ k : Nat, v = .int .u8 k ∧ k < 256 := by
  obtain ⟨z, rfl, -, -, hw⟩ := open_int Tryz.underlying5 hv h
  have := range_u8 (zs := [z]) (fun n hn => by simp at hn; subst hn; exact hw) 0
  simp only [List.getElem?_cons_zero, Option.getD_some] at this
  exact ⟨z.toNat, by congr 1; omega, by omega⟩
/-- A cell that is a slice of bytes. -/
theorem open_bytes_c {H : Type} {enc : TypeId × Value → H} {W : World} {base k : Nat} {cs : List Value} {x : DataW H × List MemPlace} (hk : DataW.trod enc Tryz.prog W base (fun _ => true) true k 54 cs = some x) :
    ∃ (A : Option Addr) (n c : Nat) (l : Bs), cs = [.slice A n c] ∧ Sl W W.heap.size 1 A n c (l.map u8v) ∧ (A = none → n = 0 ∧ c = 0) := by
  have hC : Tryz.prog.cellsOf 5 = 1 := by kernel_rfl
  rcases open_ints Tryz.underlying54 Tryz.underlying5 hC hk with ⟨h0, _⟩ | ⟨a, n, c, zs, h0, _, hl, hm, hz, _, hcell, hwz⟩
  · exact ⟨none, 0, 0, [], h0, Sl.nil _ _ _, fun _ => ⟨rfl, rfl⟩⟩
  · simp only [if_true] at hz
    have hlen : ((zs.take n).map fun z => UInt8.ofNat z.toNat).length = n := by simp; omega
    refine ⟨some a, n, c, (zs.take n).map fun z => UInt8.ofNat z.toNat, h0, ⟨by rw [List.length_map, hlen, Nat.mul_one], hl, hm, ?_⟩, fun h => by cases h⟩
    by_cases h0 : n = 0
    · exact .inl h0
    · right
      have hfirst := hcell 0 (by omega)
      have ha0 : a.add 0 = a := rfl
      rw [ha0] at hfirst
      have hsp := spot_of_cell hfirst
      refine ⟨a.block, a.off, by rw [← hsp], block_lt_of_cell hfirst, fun j u hu => ?_⟩
      have hj : j < n := by
        have := (List.getElem?_eq_some_iff.1 hu).1
        rw [List.length_map, hlen] at this
        exact this
      have hcj := hcell j (by omega)
      rw [hsp] at hcj
      rw [Addr.add_lit] at hcj
      rw [hcj]
      have hb := range_u8 hwz j
      have e : zs.getD j 0 = zs[j]'(by omega) := by simp [List.getD, List.getElem?_eq_getElem (show j < zs.length by omega)]
      have e2 : zs[j]?.getD 0 = zs[j]'(by omega) := by rw [List.getElem?_eq_getElem (show j < zs.length by omega)]; rfl
      rw [e2] at hb
      rw [e]
      simp only [List.getElem?_map, List.getElem?_take, if_pos hj, List.getElem?_eq_getElem (show j < zs.length by omega), Option.map_some] at hu
      rw [← hu]
      unfold u8v
      congr 2
      simp only [UInt8.toNat_ofNat']
      omega
/-- An argument that is a raw lock. -/
theorem open_Raw {H : Type} {enc : TypeId × Value → H} {W : World} {base b0 : Nat} {r : Reach} {v : Value} {d : DataW H} {p : List MemPlace} (hv : Value.okWide Tryz.prog W r b0 56 v) (h : DataW.Trod enc Tryz.prog W base (fun _ => true) true 56 v d p) :
    ∃ (E : Int) (S : Bool) (A : Option Addr) (n c : Nat) (l : Bs) (tx : ByteArray), v = rawV E S A n c tx ∧ Sl W W.heap.size 1 A n c (l.map u8v) ∧ tx.size ≤ maxLen := by
  obtain ⟨cs, rfl, hsz⟩ := okWide_struct Tryz.underlying56 hv
  obtain ⟨n, hn⟩ := h
  obtain ⟨xs, k, _, _, hl, hxl, hf⟩ := DataW.trod_struct Tryz.underlying56 hn
  have hC : Tryz.prog.cellsOf 56 = 4 := by kernel_rfl
  have c1 : Tryz.prog.cellsOf 3 = 1 := by kernel_rfl
  have c2 : Tryz.prog.cellsOf 4 = 1 := by kernel_rfl
  have c3 : Tryz.prog.cellsOf 54 = 1 := by kernel_rfl
  have c4 : Tryz.prog.cellsOf 9 = 1 := by kernel_rfl
  rw [hC] at hl
  have hcs : (Value.agg cs).cells.toList = cs.toList := rfl
  rw [hcs] at hl hf
  obtain ⟨cl, hcl⟩ : ∃ x, x = cs.toList := ⟨_, rfl⟩
  rw [← hcl] at hl hf
  match cl, hl with
  | [a, b, c, e], _ =>
    match xs, hxl with
    | [x0, x1, x2, x3], _ =>
      have g0 : DataW.trod enc Tryz.prog W base (fun _ => true) true k 3 ((([a, b, c, e] : List Value).drop 0).take (Tryz.prog.cellsOf 3)) = some x0 := hf 0 _ rfl
      rw [c1] at g0
      have g1 : DataW.trod enc Tryz.prog W base (fun _ => true) true k 4 ((([a, b, c, e] : List Value).drop 1).take (Tryz.prog.cellsOf 4)) = some x1 := hf 1 _ rfl
      rw [c2] at g1
      have g2 : DataW.trod enc Tryz.prog W base (fun _ => true) true k 54 ((([a, b, c, e] : List Value).drop 2).take (Tryz.prog.cellsOf 54)) = some x2 := hf 2 _ rfl
      rw [c3] at g2
      have g3 : DataW.trod enc Tryz.prog W base (fun _ => true) true k 9 ((([a, b, c, e] : List Value).drop 3).take (Tryz.prog.cellsOf 9)) = some x3 := hf 3 _ rfl
      rw [c4] at g3
      obtain ⟨z0, e0, _⟩ := DataW.trod_int Tryz.underlying3 g0
      obtain ⟨z1, e1, _⟩ := DataW.trod_bool Tryz.underlying4 g1
      obtain ⟨A, n2, c', l, e2, hs, -⟩ := open_bytes_c g2
      obtain ⟨z3, e3, _, l3⟩ := DataW.trod_string Tryz.underlying9 g3
      simp at e0 e1 e2 e3
      subst e0 e1 e2 e3
      refine ⟨z0, z1, A, n2, c', l, z3, ?_, hs, l3⟩
      unfold rawV
      rw [← Array.toArray_toList (xs := cs), ← hcl]
end Go.Proofs.YtfgecaphhdedcaaGreatDoor
namespace Go.Proofs.YtfgecaphhdedcaaGreatDoor
open Go.RowKit

set_option maxRecDepth 100000 in
set_option maxHeartbeats 3200000 in
theorem value34_any (l : Lk) (A : Option Addr) (c : Nat) (hc : checkL l = 0) (hsz : ∀ h ∈ l.holders, h.size ≤ 1000000) (w : World) (hr : RowN w A l.holders.length c l.holders) :
    Calls Tryz.prog 26 #[.agg (lkCells l A c)] w fun o w' => o = .returned (.string (strB (encLk l))) ∧ Below w.heap.size w w' := by
  unfold lkCells
  obtain ⟨p1, p2, p3⟩ := checkL_zero hc
  have hE : encLk l = natL l.epoch.toNat ++ flagB l.shared :: (natL l.holders.length ++ l.holders.flatMap (fun h => txtL h.data.toList)) := rfl
  generalize encLk l = enc at *
  clear hc
  obtain ⟨ep, sh, hs⟩ := l
  dsimp only at *
  obtain ⟨k0, rfl⟩ : ∃ k : Nat, ep = k := ⟨ep.toNat, by omega⟩
  rw [Int.toNat_natCast] at hE
  have hcap := hr.1.2.1
  have hmx := hr.1.2.2.1
  unfold maxLen at hmx
  obtain ⟨W0, hW0⟩ : ∃ x, w.alloc (.cells #[.int .i64 k0, .bool sh, .slice A hs.length c] 24) = x := ⟨_, rfl⟩
  have b0 : Blk W0 w.heap.size 24 #[.int .i64 k0, .bool sh, .slice A hs.length c] := by rw [← hW0]; exact Blk.new _ _ _
  have hB0 : Below w.heap.size w W0 := by rw [← hW0]; exact (Below.refl _ _).alloc (Nat.le_refl _) _
  have z0 : W0.cell? ⟨w.heap.size, 0, none⟩ = some (.int .i64 k0) := b0.cell 0
  have z1 : W0.cell? ⟨w.heap.size, 1, none⟩ = some (.bool sh) := b0.cell 1
  have z2 : W0.cell? ⟨w.heap.size, 2, none⟩ = some (.slice A hs.length c) := b0.cell 2
  have HR1 := hid (hr.below hB0)
  have HB0 := hid hB0
  have UU := hid (show ∀ w', Below W0.heap.size W0 w' → w'.cell? ⟨w.heap.size, 0, none⟩ = some (.int .i64 k0) ∧ w'.cell? ⟨w.heap.size, 1, none⟩ = some (.bool sh) ∧ w'.cell? ⟨w.heap.size, 2, none⟩ = some (.slice A hs.length c) from fun w' h => ⟨(b0.below h b0.lt).cell 0, (b0.below h b0.lt).cell 1, (b0.below h b0.lt).cell 2⟩)
  have HE := hid hE
  have HSZ := hid hsz
  have hft := flat_txt hs hsz
  have l0 := natL_ten (u := k0) (by omega)
  have l1 := natL_ten (u := hs.length) (by omega)
  have WN := hid (fun B g b (u : Nat) (hu : u < 9223372036854775808) (hb : b.length ≤ 999999000) w' (hBw : B ≤ w'.heap.size) (h : Wr w' B g b 0) => wnumber_any B g b 0 u hu hb w' hBw h)
  have WT := hid (fun B g b (s : ByteArray) (hs : s.size ≤ 16777216) (hb : b.length ≤ 900000000) w' (hBw : B ≤ w'.heap.size) (h : Wr w' B g b 0) => wtext_any B g b 0 s hs hb w' hBw h)
  have WF := hid (fun B g b s (hb : b.length ≤ 999999000) w' (hBw : B ≤ w'.heap.size) (h : Wr w' B g b 0) => wflagK B g b 0 s hb w' hBw h)
  simp only [if_pos] at WN WT WF
  have WB := hid (fun B g b (hb : b.length ≤ 1000000000) w' (h : Wr w' B g b 0) => wbytes_any B g b hb w' h)
  have NW := hid newWriter_any
  clear hE hsz b0 hB0 hr
  go_enter Tryz.func26, Tryz.ntmps26
  go_upto_region 3 with (first
    | (go_at_call 37; refine (NW.out _).mono ?_; rintro o w2 ⟨rfl, hr2, hb2⟩; have HW2 := hid hr2; obtain ⟨y0, y1, y2⟩ := UU.out _ hb2; have HB2 := hid hb2; clear hr2 hb2)
    | (go_at_call 38; refine (WN.out _ _ [] k0 (by omega) (by simp) _ HB2.out.size HW2.out).mono ?_; rintro o w3 ⟨rfl, hr3, hb3⟩; have HW3 := hid hr3; have HB3 := hid (HB2.out.trans hb3); obtain ⟨x0, x1, x2⟩ := UU.out _ HB3.out; clear hr3 hb3))
  go_upto_region 4 with (go_at_call 39; refine (WF.out _ _ _ sh (by simp; omega) _ HB3.out.size HW3.out).mono ?_; rintro o w4 ⟨rfl, hr4, hb4, -⟩; have HW4 := hid hr4; have HB4 := hid (HB3.out.trans hb4); obtain ⟨v0, v1, v2⟩ := UU.out _ HB4.out; clear hr4 hb4)
  go_wp2_with (go_at_call 38; refine (WN.out _ _ _ hs.length (by omega) (by simp; omega) _ HB4.out.size HW4.out).mono ?_; rintro o w5 ⟨rfl, hr5, hb5⟩; have HW5 := hid hr5; have HB5 := hid (HB4.out.trans hb5); obtain ⟨u0, u1', u2'⟩ := UU.out _ HB5.out; clear hr5 hb5)
  have hacc : [] ++ natL k0 ++ [flagB sh] ++ natL hs.length = natL k0 ++ flagB sh :: natL hs.length := by simp
  rw [hacc] at HW5
  obtain ⟨acc0, ha0⟩ : ∃ x, x = natL k0 ++ flagB sh :: natL hs.length := ⟨_, rfl⟩
  rw [← ha0] at HW5
  have hal : acc0.length ≤ 30 := by rw [ha0]; simp; omega
  have HA0 := hid ha0
  clear ha0 hacc hW0
  go_loopw [4] (fun iv wr => ∃ k : Nat, iv = .int .i64 k ∧ k ≤ hs.length ∧ Wr wr W0.heap.size W0.heap.size (acc0 ++ (hs.take k).flatMap (fun h => txtL h.data.toList)) 0 ∧ Below W0.heap.size W0 wr) (fun iv _ => hs.length - (intOf iv).toNat)
  case atStart => exact ⟨0, rfl, Nat.zero_le _, by simpa using HW5.out, HB5.out⟩
  case round =>
    obtain ⟨k, rfl, hk, hwr, hbr⟩ := hrel
    have HWR := hid hwr; have HBR := hid hbr
    obtain ⟨t0, t1, t2⟩ := UU.out _ hbr
    clear hwr hbr
    by_cases hkl : k < hs.length
    · have h1i : (k : Int) < (hs.length : Int) := by omega
      have h0i : (0 : Int) ≤ (k : Int) := by omega
      obtain ⟨bb, off, rfl, hbb, hc⟩ := HR1.out.at (by omega)
      have hck := hc _ HBR.out k hkl
      have hsk := HSZ.out hs[k] (List.getElem_mem hkl)
      have htk := take_flat hs k hkl
      have hfk := flat_txt (hs.take k) (fun x hx => HSZ.out x (List.mem_of_mem_take hx))
      rw [List.length_take] at hfk
      have HTK := hid htk
      clear hc htk
      go_wp2_with (go_at_call 40; refine (WT.out _ _ _ hs[k] (by omega) (by rw [List.length_append]; omega) _ HBR.out.size HWR.out).mono ?_; rintro o w6 ⟨rfl, hr6, hb6⟩; have HW6 := hid hr6; have HB6 := hid (HBR.out.trans hb6); clear hr6 hb6)
      go_roundw
      case rel => exact ⟨k + 1, by go_num, by omega, by rw [HTK.out, ← List.append_assoc]; exact HW6.out, HB6.out⟩
      case measure => simp [intOf]; omega
    · obtain rfl : k = hs.length := by omega
      have h1i : ¬ ((hs.length : Int) < (hs.length : Int)) := by omega
      have hfin : acc0 ++ (hs.take hs.length).flatMap (fun h => txtL h.data.toList) = enc := by rw [List.take_length, HA0.out, HE.out]; simp
      have hle : enc.length ≤ 1000000000 := by rw [← hfin, List.take_length, List.length_append]; omega
      rw [hfin] at HWR
      clear hfin
      go_wp2_with (go_at_call 41; refine (WB.out _ _ _ hle _ HWR.out).mono ?_; rintro o w7 ⟨v, rfl, ho, hb7⟩; obtain ⟨A7, c7, rfl, hs7, -⟩ := own_shape ho; have hcv := hs7.str; have HB7 := hid (HBR.out.trans (hb7.mono HBR.out.size)); clear ho hs7 hb7)
      all_goals go_ret
      exact ⟨rfl, HB0.out.trans (HB7.out.mono HB0.out.size)⟩
end Go.Proofs.YtfgecaphhdedcaaGreatDoor
namespace Go.Proofs.YtfgecaphhdedcaaGreatDoor
open Go.RowKit

theorem str_eqb' (x : ByteArray) : (x.toList == x.toList) = true := by simp
theorem strB_nil : (strB []).toList.isEmpty = true := by decide +kernel

set_option maxRecDepth 100000 in
set_option maxHeartbeats 3200000 in
theorem lawLkChecks_any (E : Int) (S : Bool) (A : Option Addr) (n c : Nat) (l : Bs) (tx : ByteArray) (htx : tx.size ≤ maxLen) (w : World) (hsl : Sl w w.heap.size 1 A n c (l.map u8v)) :
    Calls Tryz.prog 6 #[rawV E S A n c tx] w fun e w' => e = .returned (.bool true) ∧ Below w.heap.size w w' := by
  have OW := hid (fun w' h' => own34_any E S A n c l tx htx w' h')
  have hsz := ownHs_size l tx
  have hlen := ownHs_len l tx
  generalize hL : (⟨E, S, ownHs l tx⟩ : Lk) = LL
  have hLh : LL.holders = ownHs l tx := by rw [← hL]
  have CK0 := fun A' c' w' h' => lkCheck_any LL A' c' (fun x hx => by have := hsz x (by rw [← hLh]; exact hx); unfold maxLen; omega) w' h'
  have C20 := fun A' c' w' h' => check34_any LL A' c' (fun x hx => by have := hsz x (by rw [← hLh]; exact hx); unfold maxLen; omega) w' h'
  have EN0 := fun A' c' w' h' => lkEncode_any LL A' c' (fun x hx => by have := hsz x (by rw [← hLh]; exact hx); omega) w' h'
  have VA0 := fun hc A' c' w' h' => value34_any LL A' c' hc (fun x hx => by have := hsz x (by rw [← hLh]; exact hx); omega) w' h'
  have SM0 := fun A' A2 c' c2 w' h h' => same34_any LL LL A' A2 c' c2 (by rw [hLh]; omega) w' h h'
  have EQ0 := fun A' A2 c' c2 w' h h' => lkEqual_any LL LL A' A2 c' c2 (by rw [hLh]; omega) w' h h'
  rw [sameL_iff.2 rfl] at SM0 EQ0
  have hB0 : Below w.heap.size w (w.alloc (.cells #[.int .i64 E, .bool S, .slice A n c, .string tx] 56)) := (Below.refl _ _).alloc (Nat.le_refl _) _
  have HSL := hid ((hsl.below hB0).more hB0.size)
  have HB0 := hid hB0
  clear hsl hB0
  by_cases hc : checkL LL = 0
  · have hg := checkL_good.1 hc
    have hsh := enc_short hg (fun x hx => by have := hsz x (by rw [← hLh]; exact hx); omega)
    obtain ⟨k1, k2⟩ := ld_enc (most := 16777216) hc (fun x hx => by have := hsz x (by rw [← hLh]; exact hx); omega)
    have DE0 := fun w' => lkDecode_any (encLk LL) (by omega) w'
    simp only [if_pos k1, k2] at DE0
    have VA := hid (VA0 hc)
    simp only [hc, if_true] at CK0 C20 EN0
    have hee := str_eqb' (strB (encLk LL))
    clear hg hsh k1 k2 hc VA0
    generalize strB (encLk LL) = es at *
    subst hL
    dsimp only at *
    obtain ⟨HS, hHS⟩ : ∃ x, x = ownHs l tx := ⟨_, rfl⟩
    rw [← hHS] at OW CK0 C20 EN0 SM0 EQ0 DE0 VA
    unfold lkCells at CK0 C20 EN0 SM0 EQ0 DE0 VA
    dsimp only at CK0 C20 EN0 SM0 EQ0 DE0 VA
    have CK := hid CK0
    have C2 := hid C20
    have EN := hid EN0
    have SM := hid SM0
    have EQ := hid EQ0
    have DE := hid DE0
    have hll : HS.length ≤ 41 := by rw [hHS]; exact hlen
    clear CK0 C20 EN0 SM0 EQ0 DE0 hHS hsz hlen hLh htx
    unfold rawV
    go_enter Tryz.func6, Tryz.ntmps6
    go_wp2_with (first
      | (go_at_call 23; refine (OW.out _ HSL.out).mono ?_; rintro o w1 ⟨A1, c1, rfl, ho1, hb1⟩; go_must (have hal := (Below.refl w1.heap.size w1).alloc (Nat.le_refl _) (.cells #[.int .i64 E, .bool S, .slice A1 HS.length c1] 24); have HR1 := hid ((rowN_own ho1).below hal); have HL1 := hid (Blk.new w1 24 #[.int .i64 E, .bool S, .slice A1 HS.length c1]); have HA1 := hid ((HB0.out.trans (hb1.mono HB0.out.size)).trans (hal.mono (Nat.le_trans HB0.out.size hb1.size))); clear ho1 hb1 hal))
      | (go_at_call 24; refine (C2.out A1 c1 _ HR1.out).mono ?_; rintro o w2 ⟨rfl, hb2⟩; go_must (have HR2 := hid (HR1.out.below hb2); have HL2 := hid (HL1.out.below hb2 HL1.out.lt); have HA2 := hid (HA1.out.trans (hb2.mono HA1.out.size)); have x20 : w2.cell? ⟨w1.heap.size, 0, none⟩ = some (.int .i64 E) := HL2.out.cell 0; have x21 : w2.cell? ⟨w1.heap.size, 1, none⟩ = some (.bool S) := HL2.out.cell 1; have x22 : w2.cell? ⟨w1.heap.size, 2, none⟩ = some (.slice A1 HS.length c1) := HL2.out.cell 2; clear hb2))
      | (go_at_call 13; refine (EN.out A1 c1 _ HR2.out).mono ?_; rintro o w3 ⟨rfl, hb3⟩; go_must (have HR3 := hid (HR2.out.below hb3); have HL3 := hid (HL2.out.below hb3 HL2.out.lt); have HA3 := hid (HA2.out.trans (hb3.mono HA2.out.size)); have x30 : w3.cell? ⟨w1.heap.size, 0, none⟩ = some (.int .i64 E) := HL3.out.cell 0; have x31 : w3.cell? ⟨w1.heap.size, 1, none⟩ = some (.bool S) := HL3.out.cell 1; have x32 : w3.cell? ⟨w1.heap.size, 2, none⟩ = some (.slice A1 HS.length c1) := HL3.out.cell 2; clear hb3))
      | (go_at_call 11; refine (known34_any _).mono ?_; rintro o w4 ⟨rfl, hb4⟩; go_must (have HR4 := hid (HR3.out.below hb4); have HL4 := hid (HL3.out.below hb4 HL3.out.lt); have HA4 := hid (HA3.out.trans (hb4.mono HA3.out.size)); have x40 : w4.cell? ⟨w1.heap.size, 0, none⟩ = some (.int .i64 E) := HL4.out.cell 0; have x41 : w4.cell? ⟨w1.heap.size, 1, none⟩ = some (.bool S) := HL4.out.cell 1; have x42 : w4.cell? ⟨w1.heap.size, 2, none⟩ = some (.slice A1 HS.length c1) := HL4.out.cell 2; clear hb4))
      | (go_at_call 21; refine (CK.out A1 c1 _ HR4.out).mono ?_; rintro o w5 ⟨rfl, hb5⟩; go_must (have HR5 := hid (HR4.out.below hb5); have HL5 := hid (HL4.out.below hb5 HL4.out.lt); have HA5 := hid (HA4.out.trans (hb5.mono HA4.out.size)); have x50 : w5.cell? ⟨w1.heap.size, 0, none⟩ = some (.int .i64 E) := HL5.out.cell 0; have x51 : w5.cell? ⟨w1.heap.size, 1, none⟩ = some (.bool S) := HL5.out.cell 1; have x52 : w5.cell? ⟨w1.heap.size, 2, none⟩ = some (.slice A1 HS.length c1) := HL5.out.cell 2; clear hb5))
      | (go_at_call 9; refine (DE.out _).mono ?_; rintro o w6 ⟨A2, c2, rfl, ho6, hb6⟩; go_must (have hal := (Below.refl w6.heap.size w6).alloc (Nat.le_refl _) (.cells #[.int .i64 E, .bool S, .slice A2 HS.length c2] 24); have hb7 := hb6.trans (hal.mono hb6.size); have HS6 := hid ((rowN_own ho6).below hal); have HM6 := hid (Blk.new w6 24 #[.int .i64 E, .bool S, .slice A2 HS.length c2]); have HR6 := hid (HR5.out.below hb7); have HL6 := hid (HL5.out.below hb7 HL5.out.lt); have HA6 := hid (HA5.out.trans (hb7.mono HA5.out.size)); have z0 : (w6.alloc (.cells #[.int .i64 E, .bool S, .slice A2 HS.length c2] 24)).cell? ⟨w1.heap.size, 0, none⟩ = some (.int .i64 E) := HL6.out.cell 0; have z1 : (w6.alloc (.cells #[.int .i64 E, .bool S, .slice A2 HS.length c2] 24)).cell? ⟨w1.heap.size, 1, none⟩ = some (.bool S) := HL6.out.cell 1; have z2 : (w6.alloc (.cells #[.int .i64 E, .bool S, .slice A2 HS.length c2] 24)).cell? ⟨w1.heap.size, 2, none⟩ = some (.slice A1 HS.length c1) := HL6.out.cell 2; clear ho6 hb6 hb7 hal))
      | (go_at_call 25; refine (EQ.out A2 A1 c2 c1 _ HS6.out HR6.out).mono ?_; rintro o w7 ⟨rfl, hb7⟩; go_must (have HR7 := hid (HR6.out.below hb7); have HL7 := hid (HL6.out.below hb7 HL6.out.lt); have HS7 := hid (HS6.out.below hb7); have HM7 := hid (HM6.out.below hb7 HM6.out.lt); have HA7 := hid (HA6.out.trans (hb7.mono HA6.out.size)); have x70 : w7.cell? ⟨w1.heap.size, 0, none⟩ = some (.int .i64 E) := HL7.out.cell 0; have x71 : w7.cell? ⟨w1.heap.size, 1, none⟩ = some (.bool S) := HL7.out.cell 1; have x72 : w7.cell? ⟨w1.heap.size, 2, none⟩ = some (.slice A1 HS.length c1) := HL7.out.cell 2; have y70 : w7.cell? ⟨w6.heap.size, 0, none⟩ = some (.int .i64 E) := HM7.out.cell 0; have y71 : w7.cell? ⟨w6.heap.size, 1, none⟩ = some (.bool S) := HM7.out.cell 1; have y72 : w7.cell? ⟨w6.heap.size, 2, none⟩ = some (.slice A2 HS.length c2) := HM7.out.cell 2; clear hb7))
      | (go_at_call 12; refine (SM.out A2 A1 c2 c1 _ HS7.out HR7.out).mono ?_; rintro o w8 ⟨rfl, hb8⟩; go_must (have HR8 := hid (HR7.out.below hb8); have HL8 := hid (HL7.out.below hb8 HL7.out.lt); have HS8 := hid (HS7.out.below hb8); have HM8 := hid (HM7.out.below hb8 HM7.out.lt); have HA8 := hid (HA7.out.trans (hb8.mono HA7.out.size)); have x80 : w8.cell? ⟨w1.heap.size, 0, none⟩ = some (.int .i64 E) := HL8.out.cell 0; have x81 : w8.cell? ⟨w1.heap.size, 1, none⟩ = some (.bool S) := HL8.out.cell 1; have x82 : w8.cell? ⟨w1.heap.size, 2, none⟩ = some (.slice A1 HS.length c1) := HL8.out.cell 2; have y80 : w8.cell? ⟨w6.heap.size, 0, none⟩ = some (.int .i64 E) := HM8.out.cell 0; have y81 : w8.cell? ⟨w6.heap.size, 1, none⟩ = some (.bool S) := HM8.out.cell 1; have y82 : w8.cell? ⟨w6.heap.size, 2, none⟩ = some (.slice A2 HS.length c2) := HM8.out.cell 2; clear hb8))
      | (go_at_call 26; refine (VA.out A1 c1 _ HR8.out).mono ?_; rintro o w9 ⟨rfl, hb9⟩; have HA9 := hid (HA8.out.trans (hb9.mono HA8.out.size)); clear hb9))
    go_ret
    exact ⟨rfl, HA9.out⟩
  · simp only [if_neg hc] at EN0
    have hcb : (checkL LL != 0) = true := by simp [hc]
    have hce : (checkL LL != checkL LL) = false := by simp
    clear hc VA0
    have hemp := strB_nil
    generalize checkL LL = ce at *
    subst hL
    dsimp only at *
    obtain ⟨HS, hHS⟩ : ∃ x, x = ownHs l tx := ⟨_, rfl⟩
    rw [← hHS] at OW CK0 C20 EN0 SM0 EQ0 
    unfold lkCells at CK0 C20 EN0 SM0 EQ0 
    dsimp only at CK0 C20 EN0 SM0 EQ0 
    have CK := hid CK0
    have C2 := hid C20
    have EN := hid EN0
    have hll : HS.length ≤ 41 := by rw [hHS]; exact hlen
    clear CK0 C20 EN0 SM0 EQ0 hHS hsz hlen hLh htx
    unfold rawV
    go_enter Tryz.func6, Tryz.ntmps6
    go_wp2_with (first
      | (go_at_call 23; refine (OW.out _ HSL.out).mono ?_; rintro o w1 ⟨A1, c1, rfl, ho1, hb1⟩; go_must (have hal := (Below.refl w1.heap.size w1).alloc (Nat.le_refl _) (.cells #[.int .i64 E, .bool S, .slice A1 HS.length c1] 24); have HR1 := hid ((rowN_own ho1).below hal); have HL1 := hid (Blk.new w1 24 #[.int .i64 E, .bool S, .slice A1 HS.length c1]); have HA1 := hid ((HB0.out.trans (hb1.mono HB0.out.size)).trans (hal.mono (Nat.le_trans HB0.out.size hb1.size))); clear ho1 hb1 hal))
      | (go_at_call 24; refine (C2.out A1 c1 _ HR1.out).mono ?_; rintro o w2 ⟨rfl, hb2⟩; go_must (have HR2 := hid (HR1.out.below hb2); have HL2 := hid (HL1.out.below hb2 HL1.out.lt); have HA2 := hid (HA1.out.trans (hb2.mono HA1.out.size)); have x20 : w2.cell? ⟨w1.heap.size, 0, none⟩ = some (.int .i64 E) := HL2.out.cell 0; have x21 : w2.cell? ⟨w1.heap.size, 1, none⟩ = some (.bool S) := HL2.out.cell 1; have x22 : w2.cell? ⟨w1.heap.size, 2, none⟩ = some (.slice A1 HS.length c1) := HL2.out.cell 2; clear hb2))
      | (go_at_call 13; refine (EN.out A1 c1 _ HR2.out).mono ?_; rintro o w3 ⟨rfl, hb3⟩; go_must (have HR3 := hid (HR2.out.below hb3); have HL3 := hid (HL2.out.below hb3 HL2.out.lt); have HA3 := hid (HA2.out.trans (hb3.mono HA2.out.size)); have x30 : w3.cell? ⟨w1.heap.size, 0, none⟩ = some (.int .i64 E) := HL3.out.cell 0; have x31 : w3.cell? ⟨w1.heap.size, 1, none⟩ = some (.bool S) := HL3.out.cell 1; have x32 : w3.cell? ⟨w1.heap.size, 2, none⟩ = some (.slice A1 HS.length c1) := HL3.out.cell 2; clear hb3))
      | (go_at_call 11; refine (known34_any _).mono ?_; rintro o w4 ⟨rfl, hb4⟩; go_must (have HR4 := hid (HR3.out.below hb4); have HL4 := hid (HL3.out.below hb4 HL3.out.lt); have HA4 := hid (HA3.out.trans (hb4.mono HA3.out.size)); have x40 : w4.cell? ⟨w1.heap.size, 0, none⟩ = some (.int .i64 E) := HL4.out.cell 0; have x41 : w4.cell? ⟨w1.heap.size, 1, none⟩ = some (.bool S) := HL4.out.cell 1; have x42 : w4.cell? ⟨w1.heap.size, 2, none⟩ = some (.slice A1 HS.length c1) := HL4.out.cell 2; clear hb4))
      | (go_at_call 21; refine (CK.out A1 c1 _ HR4.out).mono ?_; rintro o w5 ⟨rfl, hb5⟩; go_must (have HR5 := hid (HR4.out.below hb5); have HL5 := hid (HL4.out.below hb5 HL4.out.lt); have HA5 := hid (HA4.out.trans (hb5.mono HA4.out.size)); have x50 : w5.cell? ⟨w1.heap.size, 0, none⟩ = some (.int .i64 E) := HL5.out.cell 0; have x51 : w5.cell? ⟨w1.heap.size, 1, none⟩ = some (.bool S) := HL5.out.cell 1; have x52 : w5.cell? ⟨w1.heap.size, 2, none⟩ = some (.slice A1 HS.length c1) := HL5.out.cell 2; clear hb5)))
    go_ret
    exact ⟨rfl, HA5.out⟩
end Go.Proofs.YtfgecaphhdedcaaGreatDoor
