/-
  A READER BESIDE OTHER DATA: what reading leaves alone, by the types of the blocks. No function of the program is walked here.
  STEPS THAT SEVERAL WALKS SHARE: a struct and a number as results; a string's bytes; bounds of what is read. No function of the program is walked here.
  ROWS OF ONE'S OWN: what stays below a bound stays one's own; a new block's cells. No function of the program is walked here.
  LAYER 34 (lock), WALKED: Decode.
  THE LAWS' HELPERS OF LAYER 34, WALKED: check.
  THE LAWS' HELPERS OF LAYER 34, WALKED: parse.
-/
import Derived.Test.YtfgecaphhdedcaaGreatDoorZ3
import Derived.Test.YtfgecaphhdedcaaGreatDoorZ4
import Derived.Deep.CutRange
import Derived.Laws.CopyOwn
import Derived.Test.YtfgecaphhdedcaaGreatDoorZ1
import Derived.RangeFuncOwn
import Derived.Deep.QuietTactic
import Derived.BigQuiet
import Derived.Deep.RegionHeld3
namespace Go.Proofs.YtfgecaphhdedcaaGreatDoor
open Go.RowKit

theorem Blk.beside {w w' : World} {g g' : Nat} {t t' : TypeId} {cs cs' : Array Value} (h : Blk w g' t' cs') (hk : Blk w g t cs) (hne : t' ≠ t) (hg : w.grownBy w' (some g)) : Blk w' g' t' cs' :=
  h.grown hg (fun e => by cases e; exact Blk.ne_ h hk hne rfl)
theorem Rd.blk {w : World} {g : Nat} {b : Bs} {a : Nat} {e : Int} (h : Rd w g b a e) : ∃ cs, Blk w g 112 cs := by
  obtain ⟨A, n, c, hk, -⟩ := h
  exact ⟨_, hk⟩
theorem Rd.le {w : World} {g : Nat} {b : Bs} {a : Nat} {e : Int} (h : Rd w g b a e) : a ≤ b.length := by
  obtain ⟨A, n, c, -, -, h, -⟩ := h
  exact h
theorem Rd.keeps {w w' : World} {g g' : Nat} {b : Bs} {a : Nat} {e : Int} {t' : TypeId} {cs' : Array Value} (h : Rd w g b a e) (hk : Blk w g' t' cs') (hne : t' ≠ 112) (hg : w.grownBy w' (some g)) : Blk w' g' t' cs' := by
  obtain ⟨cs, hb⟩ := h.blk
  exact hk.beside hb hne hg
/-- A store into another block. -/
theorem Rd.far {w : World} {g g' : Nat} {b : Bs} {a : Nat} {e : Int} {t' : TypeId} {cs' : Array Value} (h : Rd w g b a e) (hk : Blk w g' t' cs') (h1 : t' ≠ 112) (h2 : t' ≠ 5) (i : Nat) (v : Value) : Rd (w.setCell ⟨g', i, none⟩ v) g b a e := by
  obtain ⟨A, n, c, hb, hsl, ha, hA⟩ := h
  have hne : ∀ ad, A = some ad → ad.block ≠ g' := by
    rintro ad h rfl
    obtain ⟨cs, hcs⟩ := hA ad h
    exact Blk.ne_ hk hcs h2 rfl
  refine ⟨A, n, c, hb.far (fun e => Blk.ne_ hk hb h1 e.symm) v, ?_, ha, fun ad h => ?_⟩
  · obtain ⟨h1, h2, h3, h4⟩ := hsl
    refine ⟨h1, h2, h3, h4.imp_right ?_⟩
    rintro ⟨bb, off, rfl, hbb, hc⟩
    refine ⟨bb, off, rfl, by simpa [World.setCell] using hbb, fun j u hu => ?_⟩
    rw [← hc j u hu]
    have := heap_setCell_other w ⟨g', i, none⟩ bb v (hne _ rfl)
    simp only [World.cell?, this]
  · obtain ⟨cs, hcs⟩ := hA ad h
    exact ⟨cs, (heap_setCell_other w ⟨g', i, none⟩ _ v (hne ad h)).trans hcs⟩
theorem below_rd {B : Nat} {w0 w w' : World} {g : Nat} (h : Below B w0 w) (hg : w.grownBy w' (some g)) (hBg : B ≤ g) (hBw : B ≤ w.heap.size) : Below B w0 w' :=
  Below.grown h hg hBw (fun j e => by cases e; exact hBg)
end Go.Proofs.YtfgecaphhdedcaaGreatDoor
namespace Go.Proofs.YtfgecaphhdedcaaGreatDoor
open Go.RowKit

theorem results_cell_two {P : Program} {fn : Func} {p q : Tmp} {ty : TypeId} (h : fn.results = #[.cell p ty, .tmp q]) (tmps : Array Value) (w : World) (g : Nat) (t : TypeId) (cs : Array Value) (fr : Nat × Nat) (d : TypeDesc) (v : Value)
    (hp : tmps.getD p undef = .pointer (some ⟨g, 0, none⟩)) (hq : tmps.getD q undef = v) (hg : w.heap[g]? = some (.cells cs t fr))
    (hu : P.underlying ty = some d) (hd : (match d with | .struct _ | .array _ _ => true | _ => false) = true) (hi : (P.info? ty).map (·.size) = some cs.size) :
    (results fn tmps).run P w = .ok (.tuple #[.agg cs, v]) w := by
  have hp' : tmps[p]?.getD undef = .pointer (some ⟨g, 0, none⟩) := by simpa using hp
  have hq' : tmps[q]?.getD undef = v := by simpa using hq
  simp [results, h, hp', hq', asAddr, run_loadVar_row w g t ty cs fr d hg hu hd hi]
theorem results_cell_one {P : Program} {fn : Func} {p : Tmp} {ty : TypeId} (h : fn.results = #[.cell p ty]) (tmps : Array Value) (w : World) (g : Nat) (t : TypeId) (cs : Array Value) (fr : Nat × Nat) (d : TypeDesc)
    (hp : tmps.getD p undef = .pointer (some ⟨g, 0, none⟩)) (hg : w.heap[g]? = some (.cells cs t fr))
    (hu : P.underlying ty = some d) (hd : (match d with | .struct _ | .array _ _ => true | _ => false) = true) (hi : (P.info? ty).map (·.size) = some cs.size) :
    (results fn tmps).run P w = .ok (.agg cs) w := by
  have hp' : tmps[p]?.getD undef = .pointer (some ⟨g, 0, none⟩) := by simpa using hp
  simp [results, h, hp', asAddr, run_loadVar_row w g t ty cs fr d hg hu hd hi]
theorem results_cell_four {P : Program} {fn : Func} {p q r s : Tmp} {ty : TypeId} (h : fn.results = #[.cell p ty, .tmp q, .tmp r, .tmp s]) (tmps : Array Value) (w : World) (g : Nat) (t : TypeId) (cs : Array Value) (fr : Nat × Nat) (d : TypeDesc) (v2 v3 v4 : Value)
    (hp : tmps.getD p undef = .pointer (some ⟨g, 0, none⟩)) (hq : tmps.getD q undef = v2) (hr : tmps.getD r undef = v3) (hs : tmps.getD s undef = v4) (hg : w.heap[g]? = some (.cells cs t fr))
    (hu : P.underlying ty = some d) (hd : (match d with | .struct _ | .array _ _ => true | _ => false) = true) (hi : (P.info? ty).map (·.size) = some cs.size) :
    (results fn tmps).run P w = .ok (.tuple #[.agg cs, v2, v3, v4]) w := by
  have hp' : tmps[p]?.getD undef = .pointer (some ⟨g, 0, none⟩) := by simpa using hp
  have hq' : tmps[q]?.getD undef = v2 := by simpa using hq
  have hr' : tmps[r]?.getD undef = v3 := by simpa using hr
  have hs' : tmps[s]?.getD undef = v4 := by simpa using hs
  simp [results, h, hp', hq', hr', hs', asAddr, run_loadVar_row w g t ty cs fr d hg hu hd hi]
theorem sl_str (w W' : World) (s : Bs) (cap p : Nat) (hp : p = w.heap.size) (h1 : (strB s).size ≤ cap) (h2 : cap ≤ maxLen) (fr : Nat × Nat) (hb : Below (w.heap.size + 1) (w.alloc (.cells (bytesRow (strB s) cap) 5 fr)) W') : Sl W' W'.heap.size 1 (some ⟨p, 0, none⟩) (strB s).size cap (s.map u8v) := by
  subst hp
  exact ((Sl.ofStr w (strB s) cap h1 h2 fr).below hb).more (by have := hb.size; simpa using this)
theorem rdTxt_len (most : Int) (b : Bs) (a : Nat) (e : Int) : (rdTxt most b a e).1.length ≤ b.length := by
  unfold rdTxt
  split
  · simp
  · split
    · simp
    · unfold txtP
      split
      · simp
      · split
        · simp
        · split
          · simp
          · simp only [List.length_take, List.length_drop]; omega
theorem rdNum_most {most : Nat} (b : Bs) (a : Nat) (e : Int) : (rdNum most b a e).1 ≤ most := by
  unfold rdNum
  split
  · simp
  · split
    · simp
    · next h =>
      obtain ⟨-, -, h3, -⟩ := numP_inv (most := (most : Int)) (l := b.drop a) (by omega)
      simp only
      omega
end Go.Proofs.YtfgecaphhdedcaaGreatDoor
namespace Go.Proofs.YtfgecaphhdedcaaGreatDoor
open Go.RowKit

theorem keepsOthers_below {W W1 : World} (hb : Below W.heap.size W W1) : KeepsOthers W W1 := ⟨hb.size, fun k _ hk _ => (hb.block k (Array.getElem?_eq_some_iff.1 hk).1).trans hk⟩
theorem ownsRow_below {W W1 : World} {base : Nat} {e : TypeId} {size k : Nat} {v : Value} {xs : List Value} (h : W.ownsRow base e size v k xs) (hb : Below W.heap.size W W1) : W1.ownsRow base e size v k xs := by
  obtain ⟨h1, h2⟩ := h
  refine ⟨h1, h2.imp_right ?_⟩
  rintro ⟨g, cap, cur, hv, hg, hh, r⟩
  exact ⟨g, cap, cur, hv, hg, (hb.block g (Array.getElem?_eq_some_iff.1 hh).1).trans hh, r⟩
theorem cells_new (w : World) (cs : Array Value) (t : TypeId) : ∀ j u, cs.toList[j]? = some u → (w.alloc (.cells cs t)).cell? ((⟨w.heap.size, 0, none⟩ : Addr).add j) = some u := by
  intro j u hu
  have := (Blk.new w t cs).cell j
  rw [← Array.getElem?_toList, hu] at this
  have e : ((⟨w.heap.size, 0, none⟩ : Addr).add j) = ⟨w.heap.size, j, none⟩ := by
    simp only [Addr.add]; split <;> simp_all
  rw [e]; exact this
end Go.Proofs.YtfgecaphhdedcaaGreatDoor
namespace Go.Proofs.YtfgecaphhdedcaaGreatDoor
open Go.RowKit

theorem Tryz.info_lin : (Tryz.prog.info? 42).map (fun i => (i.zero, i.size, i.bytes)) = some (some (.string ⟨#[]⟩), 1, 16) := by kernel_rfl
/-- A row of one's own beside a reader. -/
theorem ownsRow_rd {w w' : World} {g : Nat} {b : Bs} {a : Nat} {e : Int} {B n size : Nat} {t : TypeId} {v : Value} {xs : List Value} (h : w.ownsRow B t size v n xs) (hr : Rd w g b a e) (ht : t ≠ 112) (hg : w.grownBy w' (some g)) : w'.ownsRow B t size v n xs := by
  refine h.kept hg ?_
  obtain ⟨cs, hk⟩ := hr.blk
  rcases h.2 with ⟨h1, -⟩ | ⟨g', cap, cur, h1, -, hh, -⟩
  · exact .inl (by rw [h1]; rfl)
  · refine .inr fun hx => ?_
    rw [h1] at hx
    have hgg : g' = g := by simpa [Value.ownBlock] using hx
    subst hgg
    rw [hk] at hh
    injection hh with hh
    injection hh with _ hh
    exact ht hh.symm

def lkZ : Array Value := #[.int .i64 0, .bool false, .slice none 0 0]
/-- Where lock.Decode stands. -/
structure LdAt (W w : World) (g lb : Nat) (s : Bs) (a : Nat) (e : Int) (ep : Nat) (sh : Bool) (A : Option Addr) (c : Nat) (hs : List ByteArray) : Prop where
  rd : Rd w g s a e
  lk : Blk w lb 24 #[.int .i64 ep, .bool sh, .slice A hs.length c]
  ow : w.ownsRow W.heap.size 42 1 (.slice A hs.length c) hs.length (hs.map (.string ·))
  re : Blk w W.heap.size 24 #[.int .i64 0, .bool false, .slice none 0 0]
  ll : W.heap.size < lb
  lg : W.heap.size < g
  be : Below W.heap.size W w
section
variable {W w w' : World} {g lb : Nat} {s : Bs} {a a' : Nat} {e e' : Int} {ep : Nat} {sh : Bool} {A : Option Addr} {c : Nat} {hs : List ByteArray}
theorem LdAt.read (h : LdAt W w g lb s a e ep sh A c hs) (hr : Rd w' g s a' e') (hg : w.grownBy w' (some g)) : LdAt W w' g lb s a' e' ep sh A c hs :=
  ⟨hr, h.rd.keeps h.lk (by decide) hg, ownsRow_rd h.ow h.rd (by decide) hg, h.rd.keeps h.re (by decide) hg, h.ll, h.lg, below_rd h.be hg (by have := h.lg; omega) h.be.size⟩
theorem LdAt.kept (h : LdAt W w g lb s a e ep sh A c hs) (hb : Below w.heap.size w w') : LdAt W w' g lb s a e ep sh A c hs :=
  ⟨h.rd.keep hb, h.lk.below hb h.lk.lt, ownsRow_below h.ow hb, h.re.below hb h.re.lt, h.ll, h.lg, h.be.trans (hb.mono h.be.size)⟩
end

/-- A reader beside a row that grows. -/
theorem Rd.rowed {w w' : World} {g : Nat} {b : Bs} {a : Nat} {e : Int} {B n size : Nat} {t : TypeId} {v : Value} {xs : List Value} (h : Rd w g b a e) (ho : w.ownsRow B t size v n xs) (h1 : 112 ≠ t) (h2 : 5 ≠ t) (hg : w.grownBy w' v.ownBlock) : Rd w' g b a e := by
  obtain ⟨A, m, c, hk, hsl, ha, hA⟩ := h
  have hbl : ∀ ad, A = some ad → w'.heap[ad.block]? = w.heap[ad.block]? := fun ad he => by
    obtain ⟨cs, hcs⟩ := hA ad he
    have hb : Blk w ad.block 5 cs := hcs
    exact hg.block _ hb.lt (hb.not_row ho h2)
  refine ⟨A, m, c, hk.grown hg (hk.not_row ho h1), ?_, ha, fun ad he => ?_⟩
  · obtain ⟨x1, x2, x3, x4⟩ := hsl
    refine ⟨x1, x2, x3, x4.imp_right ?_⟩
    rintro ⟨bb, off, rfl, hbb, hc⟩
    refine ⟨bb, off, rfl, Nat.lt_of_lt_of_le hbb hg.size, fun j u hu => ?_⟩
    rw [← hc j u hu]
    simp only [World.cell?, hbl _ rfl]
  · obtain ⟨cs, hcs⟩ := hA ad he
    exact ⟨cs, (hbl ad he).trans hcs⟩
theorem LdAt.push {W w6 w7 : World} {g lb : Nat} {s : Bs} {a : Nat} {e : Int} {ep : Nat} {sh : Bool} {A A7 : Option Addr} {c c7 : Nat} {hs : List ByteArray} {tx : ByteArray} {o : Obj} (h : LdAt W w6 g lb s a e ep sh A c hs)
    (ho : w7.ownsRow W.heap.size 42 1 (.slice A7 (hs.length + 1) c7) (hs.length + 1) (hs.map (.string ·) ++ [.string tx])) (hg : (w6.alloc o).grownBy w7 (Value.slice A hs.length c).ownBlock) :
    LdAt W (w7.setCell ⟨lb, 2, none⟩ (.slice A7 (hs.length + 1) c7)) g lb s a e ep sh A7 c7 (hs ++ [tx]) ∧ Blk w7 lb 24 #[.int .i64 ep, .bool sh, .slice A hs.length c] := by
  have h6 := h.kept ((Below.refl w6.heap.size w6).alloc (Nat.le_refl _) o)
  have lk7 := h6.lk.grown hg (h6.lk.not_row h6.ow (by decide))
  have re7 := h6.re.grown hg (h6.re.not_row h6.ow (by decide))
  have rd7 := h6.rd.rowed h6.ow (by decide) (by decide) hg
  have be7 : Below W.heap.size W w7 := Below.grown h6.be hg h6.be.size (fun j e => (h6.ow.lt j e).1)
  have hne : (Value.slice A7 (hs.length + 1) c7).ownBlock ≠ some lb := fun e => (lk7.not_row ho (by decide)) e.symm
  refine ⟨⟨rd7.far lk7 (by decide) (by decide) _ _, ?_, ?_, re7.far (fun e => by have := h6.ll; have : W.heap.size = lb := e; omega) _, h6.ll, h6.lg, be7.setCell (by have := h6.ll; show W.heap.size ≤ lb; omega) _⟩, lk7⟩
  · rw [List.length_append]
    exact lk7.set_ 2 _
  · rw [List.length_append, List.map_append]
    exact ownsRow_setCell_other ho hne _

theorem RowN.of_own {w : World} {base n : Nat} {v : Value} {l : List ByteArray} (h : w.ownsRow base 42 1 v n (l.map (.string ·))) : ∃ A c, v = .slice A n c ∧ RowN w A n c l := by
  obtain ⟨A, c, hv, hs⟩ := Sl.of_own h
  refine ⟨A, c, hv, hs, fun e => ?_, fun ad e => ?_⟩
  · subst e hv
    rcases h.2 with ⟨h1, _⟩ | ⟨g, cap, cur, h1, _⟩
    · cases h1; rfl
    · cases h1
  · subst e hv
    rcases h.2 with ⟨h1, _⟩ | ⟨g, cap, cur, h1, _, hh, _⟩
    · cases h1
    · cases h1
      exact ⟨cur, hh⟩
theorem ownsRow_setRow {w : World} {base : Nat} {e : TypeId} {size n : Nat} {v : Value} {xs : List Value} (h : w.ownsRow base e size v n xs) {g : Nat} {t : TypeId} {cs cs' : Array Value} (hk : Blk w g t cs) (ht : t ≠ e) : (w.setRow g cs').ownsRow base e size v n xs := by
  obtain ⟨h1, h2⟩ := h
  refine ⟨h1, h2.imp_right ?_⟩
  rintro ⟨g', cap, cur, hv, hg, hh, r⟩
  have hne : g' ≠ g := by
    rintro rfl
    exact Blk.ne_ hk hh ht rfl
  exact ⟨g', cap, cur, hv, hg, (setRow_other w g _ cs' hne).trans hh, r⟩
theorem RowN.setRow {w : World} {A : Option Addr} {n c g : Nat} {l : List ByteArray} {t : TypeId} {cs cs' : Array Value} (h : RowN w A n c l) (hk : Blk w g t cs) (ht : t ≠ 42) : RowN (w.setRow g cs') A n c l := by
  have hne : ∀ ad, A = some ad → ad.block ≠ g := fun ad e hx => by
    obtain ⟨cs2, hc⟩ := h.ty ad e
    subst hx
    exact Blk.ne_ hk hc ht rfl
  refine ⟨?_, h.z, fun ad e => ?_⟩
  · obtain ⟨h1, h2, h3, h4⟩ := h.s
    refine ⟨h1, h2, h3, h4.imp_right ?_⟩
    rintro ⟨bb, off, rfl, hbb, hc⟩
    exact ⟨bb, off, rfl, by simpa using hbb, fun j u hu => (cell_setRow_other w g cs' ⟨bb, off + j, none⟩ (hne ⟨bb, off, none⟩ rfl)).trans (hc j u hu)⟩
  · obtain ⟨cs2, hc⟩ := h.ty ad e
    exact ⟨cs2, (setRow_other w g _ cs' (hne ad e)).trans hc⟩
theorem one3 (a : Int) (b : Bool) (A : Option Addr) (n c : Nat) : (#[.int .i64 a, .bool b, .slice A n c] : Array Value).all (·.oneCell') = true := by simp [Value.oneCell']

set_option maxRecDepth 100000 in
set_option maxHeartbeats 3200000 in
theorem lkDecode_any (s : Bs) (hs : s.length ≤ 1000000) (w : World) :
    Calls Tryz.prog 9 #[.string (strB s)] w fun o w' => ∃ A c, o = .returned (.tuple #[.agg (lkCells (if ldOk 16777216 s then ldLk 16777216 s else ⟨0, false, []⟩) A c), .int .i64 (if ldOk 16777216 s then 0 else 3)]) ∧
      w'.ownsRow w.heap.size 42 1 (.slice A (if ldOk 16777216 s then ldLk 16777216 s else ⟨0, false, []⟩).holders.length c) (if ldOk 16777216 s then ldLk 16777216 s else ⟨0, false, []⟩).holders.length ((if ldOk 16777216 s then ldLk 16777216 s else ⟨0, false, []⟩).holders.map (.string ·)) ∧ Below w.heap.size w w' := by
  have hcv2 := fun w s => run_bytes_of_string (P := Tryz.prog) w 9 54 5 s Tryz.underlying9 Tryz.underlying54 Tryz.underlying5
  have NR := hid (fun (w' : World) A n c (hA : A = none → n = 0 ∧ c = 0) (hs' : Sl w' w'.heap.size 1 A n c (s.map u8v)) => newReader_any A n c s (by omega) hA w' hs')
  have RE := hid (show ∀ (w' : World) g, Rd w' g s 0 0 → Calls Tryz.prog 33 #[.pointer (some ⟨g, 0, none⟩), .int .i64 1073741824] w' fun o w2 => o = .returned (.int .i64 (ldE s).1) ∧ Rd w2 g s (ldE s).2.1 (ldE s).2.2 ∧ w'.grownBy w2 (some g) from fun w' g h => rnumber_any g s 0 0 1073741824 w' h)
  have RF := hid (show ∀ (w' : World) g, Rd w' g s (ldE s).2.1 (ldE s).2.2 → Calls Tryz.prog 34 #[.pointer (some ⟨g, 0, none⟩)] w' fun o w2 => o = .returned (.bool (ldF s).1) ∧ Rd w2 g s (ldF s).2.1 (ldF s).2.2 ∧ w'.grownBy w2 (some g) from fun w' g h => rflag_any g s _ _ w' h)
  have RN := hid (show ∀ (w' : World) g, Rd w' g s (ldF s).2.1 (ldF s).2.2 → Calls Tryz.prog 33 #[.pointer (some ⟨g, 0, none⟩), .int .i64 32] w' fun o w2 => o = .returned (.int .i64 (ldN s).1) ∧ Rd w2 g s (ldN s).2.1 (ldN s).2.2 ∧ w'.grownBy w2 (some g) from fun w' g h => rnumber_any g s _ _ 32 w' h)
  have RT := hid (fun w' g a e (h : Rd w' g s a e) => rtext_any g s a e 16777216 w' h)
  have RC := hid (fun w' g a e (h : Rd w' g s a e) => rclose_any g s a e w' h)
  have hN32 : (ldN s).1 ≤ 32 := rdNum_most (most := 32) s _ _
  have hsz : (strB s).size = s.length := rfl
  obtain ⟨i0, hi, hz0, hz1, hz2⟩ := info_parts Tryz.info_lin
  have HS := hid hs
  generalize hXL : (if ldOk 16777216 s then ldLk 16777216 s else ⟨0, false, []⟩) = XL
  generalize hXE : (if ldOk 16777216 s then (0 : Int) else 3) = XE
  have HXL := hid hXL
  have HXE := hid hXE
  clear hXL hXE
  go_enter Tryz.func9, Tryz.ntmps9
  go_upto_region 3 with (first
    | (go_at_call 32; refine (NR.out _ _ _ _ (fun h => by cases h) (sl_str _ _ s _ _ (by simp) (grownCap_ge _ _ _ _) (grownCap_le_maxLen _ _ _ _ (by unfold maxLen; omega)) _ (Below.refl _ _).drew)).mono ?_; rintro o w1 ⟨g, rfl, hr, hg, hb1⟩; have HR := hid hr; have HLG := hid hg; have HBE := hid ((((Below.refl w.heap.size w).alloc (Nat.le_refl _) _).alloc (by simp) _).drew.trans (hb1.mono (by simp; omega))); have HRE := hid ((((Blk.new w _ _).alloc _).drew).below hb1 (by simp; omega)); clear hr hg hb1)
    | (go_at_call 33; refine (RE.out _ g HR.out).mono ?_; rintro o w2 ⟨rfl, hr2, hg2⟩; have HRE2 := hid (HR.out.keeps HRE.out (by decide) hg2); have HBE2 := hid (below_rd HBE.out hg2 (by have := HLG.out; simp at this; omega) HBE.out.size); have HR2 := hid hr2; clear hr2 hg2)
    | (go_at_call 34; refine (RF.out _ g HR2.out).mono ?_; rintro o w3 ⟨rfl, hr3, hg3⟩; have HRE3 := hid (HR2.out.keeps HRE2.out (by decide) hg3); have HBE3 := hid (below_rd HBE2.out hg3 (by have := HLG.out; simp at this; omega) HBE2.out.size); have HR3 := hid hr3; clear hr3 hg3))
  have hlg : w.heap.size < g := by have := HLG.out; simp at this; omega
  have h4 : LdAt w (w3.alloc (.cells #[.int .i64 (ldE s).1, .bool (ldF s).1, .slice none 0 0] 24)) g w3.heap.size s (ldF s).2.1 (ldF s).2.2 (ldE s).1 (ldF s).1 none 0 [] :=
    ⟨HR3.out.keep ((Below.refl _ _).alloc (Nat.le_refl _) _), Blk.new _ _ _, World.ownsRow_nil _ _ _ _, HRE3.out.alloc _, HRE3.out.lt, hlg, HBE3.out.alloc HBE3.out.size _⟩
  have H4 := hid h4
  clear h4 HR3 HRE3 HBE3 HR2 HRE2 HBE2 HR HRE HBE
  go_wp2_with (go_at_call 33; refine (RN.out _ g H4.out.rd).mono ?_; rintro o w5 ⟨rfl, hr5, hg5⟩; have H5 := hid (H4.out.read hr5 hg5); clear hr5 hg5)
  obtain ⟨lb, hlb⟩ : ∃ x, x = w3.heap.size := ⟨_, rfl⟩
  rw [← hlb] at H5 ⊢
  clear hlb H4
  go_loopw [16] (fun iv wr => ∃ (k a : Nat) (e : Int) (hs : List ByteArray) (A : Option Addr) (c : Nat), iv = .int .i64 k ∧ k ≤ (ldN s).1 ∧ hs.length = k ∧ ldH 16777216 s = lkGo 16777216 s ((ldN s).1 - k) a e hs ∧ LdAt w wr g lb s a e (ldE s).1 (ldF s).1 A c hs) (fun iv _ => (ldN s).1 - (intOf iv).toNat)
  case atStart => exact ⟨0, _, _, [], none, 0, rfl, Nat.zero_le _, rfl, by rw [Nat.sub_zero]; rfl, H5.out⟩
  case round =>
    obtain ⟨k, a, e, hl, A, c, rfl, hk, hlen, hgo, hat⟩ := hrel
    subst hlen
    have HAT := hid hat
    have HGO := hid hgo
    have c2 : wr.cell? ⟨lb, 2, none⟩ = some (.slice A hl.length c) := hat.lk.cell 2
    clear hat hgo
    by_cases hkN : hl.length < (ldN s).1
    · have h1i : (hl.length : Int) < ((ldN s).1 : Int) := by omega
      have hNk : (ldN s).1 - hl.length = ((ldN s).1 - (hl.length + 1)) + 1 := by omega
      have hgo := HGO.out
      rw [hNk, lkGo_succ] at hgo
      have HG2 := hid hgo
      have HATD := hid (HAT.out.kept (Below.refl _ _).drew)
      have RT1 := hid (RT.out wr.drew g a e HATD.out.rd)
      clear hgo hNk HGO
      generalize (rdTxt 16777216 s a e).1 = tx at *
      generalize (rdTxt 16777216 s a e).2.1 = a' at *
      generalize (rdTxt 16777216 s a e).2.2 = e' at *
      have hbs := HAT.out.be.size
      have hkm : hl.length ≤ 32 := by omega
      go_upto_region 5 with fail
      go_region_law (first
        | (refine step_append_gen _ rfl (.tmp 19) (.tmp 22) 22 rfl w.heap.size 42 i0 (.string ⟨#[]⟩) 1 16 Tryz.underlying22 hi hz0 hz1 hz2 rfl (by decide) _ _ _ rfl (H6.out.ow.alloc _) (some ⟨w6.heap.size, 0, none⟩) 1 1 [.string (strB tx)] rfl rfl (fun h => by cases h) (fun ad h => by cases h; exact cells_new w6 #[.string (strB tx)] _) (by simp [Value.oneCell']) (by unfold maxLen; omega) (by omega) (by have := H6.out.be.size; simp; omega) ?_; intro v7 w7 ho7 hg7; obtain ⟨A7, c7, rfl, -, -⟩ := own_shape ho7; obtain ⟨hfin, hlk7⟩ := H6.out.push ho7 hg7; have HF := hid hfin; have z7 : w7.cell? ⟨lb, 2, none⟩ = some (.slice A hl.length c) := hlk7.cell 2; have f7 := hlk7.frozen 2; clear ho7 hg7 hfin hlk7)
        | (go_simp; go_at_call 35; refine RT1.out.mono ?_; rintro o w6 ⟨rfl, hr6, hg6⟩; have H6 := hid (HATD.out.read hr6 hg6); have z6 : w6.cell? ⟨lb, 2, none⟩ = some (.slice A hl.length c) := H6.out.lk.cell 2; have z6a : (w6.alloc (.cells #[.string (strB tx)] 42)).cell? ⟨lb, 2, none⟩ = some (.slice A hl.length c) := (H6.out.lk.alloc _).cell 2; clear hr6 hg6))
      all_goals
        go_wp2_with fail
        go_roundw
        case rel => exact ⟨hl.length + 1, a', e', hl ++ [strB tx], A7, c7, by go_num, by omega, by simp, HG2.out, HF.out⟩
        case measure => simp [intOf]; omega
    · have hkl : hl.length = (ldN s).1 := by omega
      have h1i : ¬ ((hl.length : Int) < ((ldN s).1 : Int)) := by omega
      have hgo := HGO.out
      rw [hkl, Nat.sub_self, lkGo_zero] at hgo
      have hLk : ldLk 16777216 s = ⟨(ldE s).1, (ldF s).1, hl⟩ := by unfold ldLk; rw [hgo]
      have hOk : ldOk 16777216 s ↔ rdEnd s a e = 0 ∧ checkL ⟨(ldE s).1, (ldF s).1, hl⟩ = 0 := by unfold ldOk; rw [hLk, hgo]
      have hszs : ∀ h ∈ hl, h.size ≤ 1000000 := by
        have := lkGo_size (most := 16777216) HS.out (ldN s).1 (ldN s).2.1 (ldN s).2.2 [] (fun _ h => by simp at h)
        rw [show lkGo 16777216 s (ldN s).1 (ldN s).2.1 (ldN s).2.2 [] = (hl, a, e) from hgo] at this
        exact this
      obtain ⟨A', c', hv, hrow⟩ := RowN.of_own HAT.out.ow
      cases hv
      have HROW := hid hrow
      have HRN := hid (show ∀ m, RowN (wr.drewN m) A hl.length c hl from fun m => hrow.below (dN (Below.refl _ _) m))
      have CK0 := fun w' h => lkCheck_any ⟨(ldE s).1, (ldF s).1, hl⟩ A c (fun x hx => by have := hszs x hx; unfold maxLen; omega) w' h
      unfold lkCells at CK0
      dsimp only at CK0
      have c0 : wr.cell? ⟨lb, 0, none⟩ = some (.int .i64 (ldE s).1) := HAT.out.lk.cell 0
      have c1 : wr.cell? ⟨lb, 1, none⟩ = some (.bool (ldF s).1) := HAT.out.lk.cell 1
      have RCA := hid (RC.out wr g a e HAT.out.rd)
      have HLK := hid hLk
      have HOK := hid hOk
      clear hgo hLk hOk hrow HGO hszs hkl
      generalize hck : checkL ⟨(ldE s).1, (ldF s).1, hl⟩ = ck at *
      have CK := hid CK0
      clear CK0 hck
      by_cases hz : rdEnd s a e = 0
      · have hzb : (rdEnd s a e != 0) = false := by simp [hz]
        by_cases hc0 : ck = 0
        · have hyes : ldOk 16777216 s := HOK.out.2 ⟨hz, hc0⟩
          have hckb : (ck != 0) = false := by simp [hc0]
          have hx1 := HXL.out
          have hx2 := HXE.out
          rw [if_pos hyes, HLK.out] at hx1
          rw [if_pos hyes] at hx2
          subst hx1 hx2
          clear hyes hz hc0 HXL HXE
          go_wp2_with (first | (go_at_call 36; refine (RCA.out).mono ?_; rintro o w6 ⟨rfl, nq, rfl⟩) | (go_at_call 21; refine (CK.out _ (HRN.out _)).mono ?_; rintro o w7 ⟨rfl, hb7⟩; have H7 := hid ((HAT.out.kept (dN (Below.refl _ _) nq)).kept hb7); have n0 : w7.cell? ⟨lb, 0, none⟩ = some (.int .i64 (ldE s).1) := H7.out.lk.cell 0; have n1 : w7.cell? ⟨lb, 1, none⟩ = some (.bool (ldF s).1) := H7.out.lk.cell 1; have n2 : w7.cell? ⟨lb, 2, none⟩ = some (.slice A hl.length c) := H7.out.lk.cell 2; have HR7 := hid ((HRN.out nq).below hb7); clear hb7) | (refine wpList_store_row rfl 24 _ _ rfl w.heap.size #[.int .i64 (ldE s).1, .bool (ldF s).1, .slice A hl.length c] rfl rfl 24 #[.int .i64 0, .bool false, .slice none 0 0] H7.out.re rfl rfl (one3 _ _ _ _ _) ?_))
          have hrf : (w7.setRow w.heap.size #[.int .i64 (ldE s).1, .bool (ldF s).1, .slice A hl.length c]).ownsRow w.heap.size 42 1 (.slice A hl.length c) hl.length (hl.map (.string ·)) := ownsRow_setRow H7.out.ow H7.out.re (by decide)
          refine bodyPost_ret (v := .tuple #[.agg #[.int .i64 (ldE s).1, .bool (ldF s).1, .slice A hl.length c], .int .i64 0]) ?_ ?_ ?_
          · exact results_cell_two rfl _ _ w.heap.size 24 #[.int .i64 (ldE s).1, .bool (ldF s).1, .slice A hl.length c] (0, 0) _ _ rfl rfl (setRow_heap _ _ _ _ _ _ H7.out.re) Tryz.underlying24 rfl (by kernel_rfl)
          · rfl
          · exact ⟨A, c, rfl, hrf, below_setRow H7.out.be (Nat.le_refl _) _⟩
        · have hckb : (ck != 0) = true := by simp [hc0]
          have hno : ¬ ldOk 16777216 s := fun h => hc0 (HOK.out.1 h).2
          have hx1 := HXL.out
          have hx2 := HXE.out
          rw [if_neg hno] at hx1 hx2
          subst hx1 hx2
          clear hno HXL HXE
          clear hz hc0
          go_wp2_with (first | (go_at_call 36; refine (RCA.out).mono ?_; rintro o w6 ⟨rfl, nq, rfl⟩) | (go_at_call 21; refine (CK.out _ (HRN.out _)).mono ?_; rintro o w7 ⟨rfl, hb7⟩; have H7 := hid ((HAT.out.kept (dN (Below.refl _ _) nq)).kept hb7); have n0 : w7.cell? ⟨lb, 0, none⟩ = some (.int .i64 (ldE s).1) := H7.out.lk.cell 0; have n1 : w7.cell? ⟨lb, 1, none⟩ = some (.bool (ldF s).1) := H7.out.lk.cell 1; have n2 : w7.cell? ⟨lb, 2, none⟩ = some (.slice A hl.length c) := H7.out.lk.cell 2; have HR7 := hid ((HRN.out nq).below hb7); clear hb7) | (refine wpList_store_row rfl 24 _ _ rfl w.heap.size #[.int .i64 0, .bool false, .slice none 0 0] rfl rfl 24 #[.int .i64 0, .bool false, .slice none 0 0] H7.out.re rfl rfl (one3 _ _ _ _ _) ?_))
          refine bodyPost_ret (v := .tuple #[.agg #[.int .i64 0, .bool false, .slice none 0 0], .int .i64 3]) ?_ ?_ ?_
          · exact results_cell_two rfl _ _ w.heap.size 24 #[.int .i64 0, .bool false, .slice none 0 0] (0, 0) _ _ rfl rfl (setRow_heap _ _ _ _ _ _ H7.out.re) Tryz.underlying24 rfl (by kernel_rfl)
          · rfl
          · exact ⟨none, 0, rfl, World.ownsRow_nil _ _ _ _, below_setRow H7.out.be (Nat.le_refl _) _⟩
      · have hzb : (rdEnd s a e != 0) = true := by simp [hz]
        have hno : ¬ ldOk 16777216 s := fun h => hz (HOK.out.1 h).1
        have hx1 := HXL.out
        have hx2 := HXE.out
        rw [if_neg hno] at hx1 hx2
        subst hx1 hx2
        clear hno HXL HXE
        clear hz
        go_wp2_with (first | (go_at_call 36; refine (RCA.out).mono ?_; rintro o w6 ⟨rfl, nq, rfl⟩) | (refine wpList_store_row rfl 24 _ _ rfl w.heap.size #[.int .i64 0, .bool false, .slice none 0 0] rfl rfl 24 #[.int .i64 0, .bool false, .slice none 0 0] HAT.out.re rfl rfl (one3 _ _ _ _ _) ?_))
        refine bodyPost_ret (v := .tuple #[.agg #[.int .i64 0, .bool false, .slice none 0 0], .int .i64 3]) ?_ ?_ ?_
        · exact results_cell_two rfl _ _ w.heap.size 24 #[.int .i64 0, .bool false, .slice none 0 0] (0, 0) _ _ rfl rfl (setRow_heap _ _ _ _ _ _ HAT.out.re) Tryz.underlying24 rfl (by kernel_rfl)
        · rfl
        · exact ⟨none, 0, rfl, World.ownsRow_nil _ _ _ _, below_setRow (dN HAT.out.be nq) (Nat.le_refl _) _⟩
end Go.Proofs.YtfgecaphhdedcaaGreatDoor
namespace Go.Proofs.YtfgecaphhdedcaaGreatDoor
open Go.RowKit

set_option maxRecDepth 100000 in
set_option maxHeartbeats 3200000 in
theorem check34_any (l : Lk) (A : Option Addr) (c : Nat) (hsz : ∀ h ∈ l.holders, h.size ≤ maxLen) (w : World) (hr : RowN w A l.holders.length c l.holders) :
    Calls Tryz.prog 24 #[.agg (lkCells l A c)] w fun o w' => o = .returned (.int .i64 (checkL l)) ∧ Below w.heap.size w w' := by
  have hX : checkL l = if epochE l.epoch ≠ 0 then epochE l.epoch else if 32 < l.holders.length then 9 else if hGo none l.holders ≠ 0 then hGo none l.holders else if !l.shared && decide (1 < l.holders.length) then 10 else if l.shared && decide (l.holders.length = 0) then 3 else 0 := rfl
  obtain ⟨ep, sh, hs⟩ := l
  dsimp only at hX hsz hr
  unfold lkCells
  dsimp only
  generalize checkL ⟨ep, sh, hs⟩ = X at *
  have hE : epochE ep = if ep < 0 ∨ 1073741824 < ep then 2 else 0 := rfl
  have hcap := hr.1.2.1
  have hmx := hr.1.2.2.1
  unfold maxLen at hmx
  by_cases he : ep < 0 ∨ 1073741824 < ep
  · rw [if_pos he] at hE
    rw [hE, if_pos (by decide)] at hX
    subst hX
    clear hE hr hsz
    rcases Int.lt_or_le ep 0 with h1 | h1
    · clear he
      go_enter Tryz.func24, Tryz.ntmps24
      go_wp2_with fail
      go_ret
      exact ⟨rfl, (Below.refl _ _).alloc (Nat.le_refl _) _⟩
    · have h2 : 1073741824 < ep := by omega
      have h1' : ¬ ep < 0 := by omega
      clear he
      go_enter Tryz.func24, Tryz.ntmps24
      go_wp2_with fail
      go_ret
      exact ⟨rfl, (Below.refl _ _).alloc (Nat.le_refl _) _⟩
  · have e1 : ¬ ep < 0 := by omega
    have e2 : ¬ 1073741824 < ep := by omega
    rw [if_neg he] at hE
    rw [hE, if_neg (by simp)] at hX
    clear hE he
    by_cases hl : 32 < hs.length
    · have hli : (32 : Int) < (hs.length : Int) := by omega
      rw [if_pos hl] at hX
      subst hX
      clear hr hsz hl
      go_enter Tryz.func24, Tryz.ntmps24
      go_wp2_with fail
      go_ret
      exact ⟨rfl, (Below.refl _ _).alloc (Nat.le_refl _) _⟩
    · have hli : ¬ ((32 : Int) < (hs.length : Int)) := by omega
      rw [if_neg hl] at hX
      have HX := hid hX
      have HSZ := hid hsz
      obtain ⟨W0, hW0⟩ : ∃ x, w.alloc (.cells #[.int .i64 ep, .bool sh, .slice A hs.length c] 24) = x := ⟨_, rfl⟩
      have b0 : Blk W0 w.heap.size 24 #[.int .i64 ep, .bool sh, .slice A hs.length c] := by rw [← hW0]; exact Blk.new _ _ _
      have hB0 : Below w.heap.size w W0 := by rw [← hW0]; exact (Below.refl _ _).alloc (Nat.le_refl _) _
      have z0 : W0.cell? ⟨w.heap.size, 0, none⟩ = some (.int .i64 ep) := b0.cell 0
      have z2 : W0.cell? ⟨w.heap.size, 2, none⟩ = some (.slice A hs.length c) := b0.cell 2
      have KK := hid (show ∀ w', Below W0.heap.size W0 w' → w'.cell? ⟨w.heap.size, 1, none⟩ = some (.bool sh) ∧ w'.cell? ⟨w.heap.size, 2, none⟩ = some (.slice A hs.length c) from fun w' hb => by
        have h1 := b0.below hb b0.lt
        exact ⟨h1.cell 1, h1.cell 2⟩)
      have HR := hid (hr.below hB0)
      have HB0 := hid hB0
      clear hX hsz hr b0 hB0 hl
      go_enter Tryz.func24, Tryz.ntmps24
      go_wp2_with fail
      clear hW0
      go_loopw [3] (fun iv wr => ∃ k : Nat, iv = .int .i64 k ∧ k ≤ hs.length ∧ hGo none hs = hGo (prevH hs k) (hs.drop k) ∧ Below W0.heap.size W0 wr) (fun iv _ => hs.length - (intOf iv).toNat)
      case atStart => exact ⟨0, rfl, Nat.zero_le _, rfl, Below.refl _ _⟩
      case round =>
        obtain ⟨k, rfl, hk, hg, hB⟩ := hrel
        have HB := hid hB
        have HG := hid hg
        obtain ⟨x1, x2⟩ := KK.out _ hB
        clear hB hg
        by_cases hkl : k < hs.length
        · have h1i : (k : Int) < (hs.length : Int) := by omega
          have h0i : (0 : Int) ≤ (k : Int) := by omega
          obtain ⟨bb, off, rfl, hbb, hc⟩ := HR.out.at (by omega)
          have hck := hc _ HB.out k hkl
          have HC := hid hc
          have HCK := hid (show ∀ w', Below W0.heap.size W0 w' → w'.cell? ⟨bb, off + k, none⟩ = some (.string hs[k]) from fun w' h => hc w' h k hkl)
          have hg := HG.out
          rw [List.drop_eq_getElem_cons hkl, hGo_cons, ← prevH_succ hs k hkl] at hg
          have hsk := HSZ.out hs[k] (List.getElem_mem hkl)
          have VA := hid (valid_any hs[k] hsk)
          have HH : hbad hs[k] = (hs[k].toList.isEmpty || !(M.valid hs[k].data.toList)) := rfl
          have HSK := hid hsk
          clear hc hsk
          by_cases hbd : hbad hs[k] = true
          · rw [if_pos hbd] at hg
            have hX := HX.out
            rw [hg, if_pos (by decide)] at hX
            subst hX
            rw [hbd] at HH
            clear hbd hg
            obtain ⟨hk', hhk⟩ : ∃ x, x = hs[k] := ⟨_, rfl⟩
            rw [← hhk] at HCK hck VA HH
            clear hhk
            generalize M.valid hk'.data.toList = v at *
            cases v with
            | false =>
              clear HH
              go_wp2_with (go_at_call 30; refine (VA.out _).mono ?_; rintro o w1 ⟨rfl, hb1⟩; have HB1 := hid (HB.out.trans (hb1.mono HB.out.size)); clear hb1)
              go_ret
              exact ⟨rfl, HB0.out.trans (HB1.out.mono HB0.out.size)⟩
            | true =>
              have hem : hk'.toList.isEmpty = true := by simpa using HH.symm
              clear HH
              go_wp2_with (go_at_call 30; refine (VA.out _).mono ?_; rintro o w1 ⟨rfl, hb1⟩; have HB1 := hid (HB.out.trans (hb1.mono HB.out.size)); obtain ⟨y1, y2⟩ := KK.out _ HB1.out; have y3 := HCK.out _ HB1.out; clear hb1)
              go_ret
              exact ⟨rfl, HB0.out.trans (HB1.out.mono HB0.out.size)⟩
          · rw [if_neg hbd] at hg
            have hbd' : hbad hs[k] = false := by simpa using hbd
            rw [hbd'] at HH
            obtain ⟨hem, hvl⟩ : hs[k].toList.isEmpty = false ∧ M.valid hs[k].data.toList = true := by
              have := HH.symm
              rw [Bool.or_eq_false_iff] at this
              exact ⟨this.1, by simpa using this.2⟩
            rw [hvl] at VA
            clear hbd hbd' HH hvl
            obtain ⟨hk', hhk⟩ : ∃ x, x = hs[k] := ⟨_, rfl⟩
            rw [← hhk] at hck HCK VA hem HSK hg
            clear hhk
            have HGG := hid hg
            clear hg
            go_upto_region 10 with (go_at_call 30; refine (VA.out _).mono ?_; rintro o w1 ⟨rfl, hb1⟩; have HB1 := hid (HB.out.trans (hb1.mono HB.out.size)); obtain ⟨y1, y2⟩ := KK.out _ HB1.out; have y3 := HCK.out _ HB1.out; clear hb1)
            clear x1 x2 hck
            go_cut [54] from 16 to 54 (fun g wx => g = .bool (geP (prevH hs k) hk') ∧ Below W0.heap.size W0 wx)
            case first =>
              by_cases hk0 : 0 < k
              · obtain ⟨j, hjk⟩ : ∃ j, k = j + 1 := ⟨k - 1, by omega⟩
                have hj : j < hs.length := by omega
                obtain ⟨hj', hhj⟩ : ∃ x, x = hs[j] := ⟨_, rfl⟩
                have hp : prevH hs k = some hj' := by rw [hhj, hjk]; exact prevH_succ hs j hj
                have hlg : geP (prevH hs k) hk' = decide (0 ≤ cmpLin hj'.data.toList hk'.data.toList) := by rw [hp, geP_some]
                obtain ⟨gx, hgx⟩ : ∃ x, x = geP (prevH hs k) hk' := ⟨_, rfl⟩
                rw [← hgx] at hlg
                have HGX := hid hgx
                clear hgx
                have hsj : hj'.size ≤ maxLen := by rw [hhj]; exact HSZ.out hs[j] (List.getElem_mem hj)
                have CM := hid (cmpLin_any hj' hk' hsj HSK.out)
                have y4 : w1.cell? ⟨bb, off + j, none⟩ = some (.string hj') := by rw [hhj]; exact HC.out w1 HB1.out j hj
                have HKJ := hid (show ∀ w', Below W0.heap.size W0 w' → w'.cell? ⟨w.heap.size, 2, none⟩ = some (.slice (some ⟨bb, off, none⟩) hs.length c) ∧ w'.cell? ⟨bb, off + j, none⟩ = some (.string hj') ∧ w'.cell? ⟨bb, off + k, none⟩ = some (.string hk') from fun w' h => ⟨(KK.out w' h).2, by rw [hhj]; exact HC.out w' h j hj, HCK.out w' h⟩)
                have hsub : (k : Int) - 1 = (j : Int) := by omega
                have hsub2 : IntKind.i64.wrap ((k : Int) - 1) = (k : Int) - 1 := by simp [IntKind.wrap, IntKind.signed, IntKind.bits]; omega
                have hsub3 : IntKind.i64.wrap (j : Int) = (j : Int) := by simp [IntKind.wrap, IntKind.signed, IntKind.bits]; omega
                have h0k : (0 : Int) < (k : Int) := by omega
                have h0d : decide ((0 : Int) < (k : Int)) = true := decide_eq_true h0k
                have h0n : decide (0 < k) = true := decide_eq_true (by omega)
                have hj0 : (0 : Int) ≤ (j : Int) := by omega
                have hji : (j : Int) < (hs.length : Int) := by omega
                clear hp hsj hjk hk0 hhj
                obtain ⟨c', hc'⟩ : ∃ x, x = cmpLin hj'.data.toList hk'.data.toList := ⟨_, rfl⟩
                rw [← hc'] at CM hlg
                have HLG := hid hlg
                clear hc' hlg
                go_region_held3 (fun w' => w'.cell? ⟨w.heap.size, 2, none⟩ = some (.slice (some ⟨bb, off, none⟩) hs.length c) ∧ w'.cell? ⟨bb, off + j, none⟩ = some (.string hj') ∧ w'.cell? ⟨bb, off + k, none⟩ = some (.string hk'))
                  (first | go_keep | exact HKJ.out _ (HB1.out.trans ((((Below.refl _ _).drew).trans hb2).mono HB1.out.size)))
                  (first | (go_at_call 53; refine (CM.out _).mono ?_; rintro o w2 ⟨rfl, hb2⟩))
                all_goals
                  go_wp2_with fail
                  go_meet
                  exact ⟨by rw [← HGX.out, HLG.out], HB1.out.trans ((((Below.refl _ _).drew).trans hb2).mono HB1.out.size)⟩
              · obtain rfl : k = 0 := by omega
                have h0d : decide ((0 : Int) < ((0 : Nat) : Int)) = false := rfl
                go_quiet (fail)
                go_wp2_with fail
                go_meet
                exact ⟨by simp [prevH, geP_none], dN HB1.out _⟩
            case rest =>
              obtain ⟨rfl, hb6⟩ := hcut
              have HB6 := hid hb6
              have hg := HGG.out
              clear hb6 HGG
              obtain ⟨x1, x2⟩ := KK.out _ HB6.out
              cases hge : geP (prevH hs k) hk' with
              | true =>
                rw [hge, if_pos rfl] at hg
                have hX := HX.out
                rw [hg, if_pos (by decide)] at hX
                subst hX
                clear hg
                go_wp2_with fail
                go_ret
                exact ⟨rfl, HB0.out.trans (HB6.out.mono HB0.out.size)⟩
              | false =>
                rw [hge, if_neg (by simp)] at hg
                have HGN := hid hg
                clear hg
                go_wp2_with fail
                go_roundw
                case rel => exact ⟨k + 1, by go_num, by omega, HGN.out, HB6.out⟩
                case measure => simp [intOf]; omega
        · obtain rfl : k = hs.length := by omega
          have h1i : ¬ ((hs.length : Int) < (hs.length : Int)) := by omega
          have hg := HG.out
          rw [List.drop_length, hGo_nil] at hg
          have hX := HX.out
          rw [hg, if_neg (by simp)] at hX
          clear hg HG HX hk
          cases sh with
          | true =>
            rw [if_neg (by simp)] at hX
            by_cases h0 : hs.length = 0
            · have h0b : ((hs.length : Int) == 0) = true := by simp [h0]
              have h0d : ((hs.length : Int) = 0) := by omega
              rw [if_pos (by simp [h0])] at hX
              subst hX
              go_wp2_with fail
              go_ret
              exact ⟨rfl, HB0.out.trans (HB.out.mono HB0.out.size)⟩
            · have h0b : ((hs.length : Int) == 0) = false := by rw [beq_eq_false_iff_ne]; omega
              have h0d : ¬ ((hs.length : Int) = 0) := by omega
              rw [if_neg (by simp [h0])] at hX
              subst hX
              clear h0
              go_wp2_with fail
              go_ret
              exact ⟨rfl, HB0.out.trans (HB.out.mono HB0.out.size)⟩
          | false =>
            by_cases h1 : 1 < hs.length
            · have h1d : (1 : Int) < (hs.length : Int) := by omega
              rw [if_pos (by simp [h1])] at hX
              subst hX
              clear h1
              go_wp2_with fail
              go_ret
              exact ⟨rfl, HB0.out.trans (HB.out.mono HB0.out.size)⟩
            · have h1d : ¬ ((1 : Int) < (hs.length : Int)) := by omega
              rw [if_neg (by simp [h1]), if_neg (by simp)] at hX
              subst hX
              clear h1
              go_wp2_with fail
              go_ret
              exact ⟨rfl, HB0.out.trans (HB.out.mono HB0.out.size)⟩
end Go.Proofs.YtfgecaphhdedcaaGreatDoor
namespace Go.Proofs.YtfgecaphhdedcaaGreatDoor
open Go.RowKit

set_option maxRecDepth 100000 in
set_option maxHeartbeats 3200000 in
theorem parse34_any (s : Bs) (hs : s.length ≤ 1000000) (w : World) :
    Calls Tryz.prog 10 #[.string (strB s)] w fun o w' => ∃ A c, o = .returned (.tuple #[.agg (lkCells (if ldOk 65536 s then ldLk 65536 s else ⟨0, false, []⟩) A c), .bool (if ldOk 65536 s then true else false)]) ∧
      w'.ownsRow w.heap.size 42 1 (.slice A (if ldOk 65536 s then ldLk 65536 s else ⟨0, false, []⟩).holders.length c) (if ldOk 65536 s then ldLk 65536 s else ⟨0, false, []⟩).holders.length ((if ldOk 65536 s then ldLk 65536 s else ⟨0, false, []⟩).holders.map (.string ·)) ∧ Below w.heap.size w w' := by
  have hcv2 := fun w s => run_bytes_of_string (P := Tryz.prog) w 9 54 5 s Tryz.underlying9 Tryz.underlying54 Tryz.underlying5
  have NR := hid (fun (w' : World) A n c (hA : A = none → n = 0 ∧ c = 0) (hs' : Sl w' w'.heap.size 1 A n c (s.map u8v)) => newReader_any A n c s (by omega) hA w' hs')
  have RE := hid (show ∀ (w' : World) g, Rd w' g s 0 0 → Calls Tryz.prog 33 #[.pointer (some ⟨g, 0, none⟩), .int .i64 1073741824] w' fun o w2 => o = .returned (.int .i64 (ldE s).1) ∧ Rd w2 g s (ldE s).2.1 (ldE s).2.2 ∧ w'.grownBy w2 (some g) from fun w' g h => rnumber_any g s 0 0 1073741824 w' h)
  have RF := hid (show ∀ (w' : World) g, Rd w' g s (ldE s).2.1 (ldE s).2.2 → Calls Tryz.prog 34 #[.pointer (some ⟨g, 0, none⟩)] w' fun o w2 => o = .returned (.bool (ldF s).1) ∧ Rd w2 g s (ldF s).2.1 (ldF s).2.2 ∧ w'.grownBy w2 (some g) from fun w' g h => rflag_any g s _ _ w' h)
  have RN := hid (show ∀ (w' : World) g, Rd w' g s (ldF s).2.1 (ldF s).2.2 → Calls Tryz.prog 33 #[.pointer (some ⟨g, 0, none⟩), .int .i64 32] w' fun o w2 => o = .returned (.int .i64 (ldN s).1) ∧ Rd w2 g s (ldN s).2.1 (ldN s).2.2 ∧ w'.grownBy w2 (some g) from fun w' g h => rnumber_any g s _ _ 32 w' h)
  have RT := hid (fun w' g a e (h : Rd w' g s a e) => rtext_any g s a e 65536 w' h)
  have RC := hid (fun w' g a e (h : Rd w' g s a e) => rclose_any g s a e w' h)
  have hN32 : (ldN s).1 ≤ 32 := rdNum_most (most := 32) s _ _
  have hsz : (strB s).size = s.length := rfl
  obtain ⟨i0, hi, hz0, hz1, hz2⟩ := info_parts Tryz.info_lin
  have HS := hid hs
  generalize hXL : (if ldOk 65536 s then ldLk 65536 s else ⟨0, false, []⟩) = XL
  generalize hXE : (if ldOk 65536 s then true else false) = XE
  have HXL := hid hXL
  have HXE := hid hXE
  clear hXL hXE
  go_enter Tryz.func10, Tryz.ntmps10
  go_upto_region 3 with (first
    | (go_at_call 32; refine (NR.out _ _ _ _ (fun h => by cases h) (sl_str _ _ s _ _ (by simp) (grownCap_ge _ _ _ _) (grownCap_le_maxLen _ _ _ _ (by unfold maxLen; omega)) _ (Below.refl _ _).drew)).mono ?_; rintro o w1 ⟨g, rfl, hr, hg, hb1⟩; have HR := hid hr; have HLG := hid hg; have HBE := hid ((((Below.refl w.heap.size w).alloc (Nat.le_refl _) _).alloc (by simp) _).drew.trans (hb1.mono (by simp; omega))); have HRE := hid ((((Blk.new w _ _).alloc _).drew).below hb1 (by simp; omega)); clear hr hg hb1)
    | (go_at_call 33; refine (RE.out _ g HR.out).mono ?_; rintro o w2 ⟨rfl, hr2, hg2⟩; have HRE2 := hid (HR.out.keeps HRE.out (by decide) hg2); have HBE2 := hid (below_rd HBE.out hg2 (by have := HLG.out; simp at this; omega) HBE.out.size); have HR2 := hid hr2; clear hr2 hg2)
    | (go_at_call 34; refine (RF.out _ g HR2.out).mono ?_; rintro o w3 ⟨rfl, hr3, hg3⟩; have HRE3 := hid (HR2.out.keeps HRE2.out (by decide) hg3); have HBE3 := hid (below_rd HBE2.out hg3 (by have := HLG.out; simp at this; omega) HBE2.out.size); have HR3 := hid hr3; clear hr3 hg3))
  have hlg : w.heap.size < g := by have := HLG.out; simp at this; omega
  have h4 : LdAt w (w3.alloc (.cells #[.int .i64 (ldE s).1, .bool (ldF s).1, .slice none 0 0] 24)) g w3.heap.size s (ldF s).2.1 (ldF s).2.2 (ldE s).1 (ldF s).1 none 0 [] :=
    ⟨HR3.out.keep ((Below.refl _ _).alloc (Nat.le_refl _) _), Blk.new _ _ _, World.ownsRow_nil _ _ _ _, HRE3.out.alloc _, HRE3.out.lt, hlg, HBE3.out.alloc HBE3.out.size _⟩
  have H4 := hid h4
  clear h4 HR3 HRE3 HBE3 HR2 HRE2 HBE2 HR HRE HBE
  go_wp2_with (go_at_call 33; refine (RN.out _ g H4.out.rd).mono ?_; rintro o w5 ⟨rfl, hr5, hg5⟩; have H5 := hid (H4.out.read hr5 hg5); clear hr5 hg5)
  obtain ⟨lb, hlb⟩ : ∃ x, x = w3.heap.size := ⟨_, rfl⟩
  rw [← hlb] at H5 ⊢
  clear hlb H4
  go_loopw [7] (fun iv wr => ∃ (k a : Nat) (e : Int) (hs : List ByteArray) (A : Option Addr) (c : Nat), iv = .int .i64 k ∧ k ≤ (ldN s).1 ∧ hs.length = k ∧ ldH 65536 s = lkGo 65536 s ((ldN s).1 - k) a e hs ∧ LdAt w wr g lb s a e (ldE s).1 (ldF s).1 A c hs) (fun iv _ => (ldN s).1 - (intOf iv).toNat)
  case atStart => exact ⟨0, _, _, [], none, 0, rfl, Nat.zero_le _, rfl, by rw [Nat.sub_zero]; rfl, H5.out⟩
  case round =>
    obtain ⟨k, a, e, hl, A, c, rfl, hk, hlen, hgo, hat⟩ := hrel
    subst hlen
    have HAT := hid hat
    have HGO := hid hgo
    have c2 : wr.cell? ⟨lb, 2, none⟩ = some (.slice A hl.length c) := hat.lk.cell 2
    clear hat hgo
    by_cases hkN : hl.length < (ldN s).1
    · have h1i : (hl.length : Int) < ((ldN s).1 : Int) := by omega
      have hNk : (ldN s).1 - hl.length = ((ldN s).1 - (hl.length + 1)) + 1 := by omega
      have hgo := HGO.out
      rw [hNk, lkGo_succ] at hgo
      have HG2 := hid hgo
      have HATD := hid (HAT.out.kept (Below.refl _ _).drew)
      have RT1 := hid (RT.out wr.drew g a e HATD.out.rd)
      clear hgo hNk HGO
      generalize (rdTxt 65536 s a e).1 = tx at *
      generalize (rdTxt 65536 s a e).2.1 = a' at *
      generalize (rdTxt 65536 s a e).2.2 = e' at *
      have hbs := HAT.out.be.size
      have hkm : hl.length ≤ 32 := by omega
      go_upto_region 7 with fail
      go_region_law (first
        | (refine step_append_gen _ rfl (.tmp 24) (.tmp 27) 22 rfl w.heap.size 42 i0 (.string ⟨#[]⟩) 1 16 Tryz.underlying22 hi hz0 hz1 hz2 rfl (by decide) _ _ _ rfl (H6.out.ow.alloc _) (some ⟨w6.heap.size, 0, none⟩) 1 1 [.string (strB tx)] rfl rfl (fun h => by cases h) (fun ad h => by cases h; exact cells_new w6 #[.string (strB tx)] _) (by simp [Value.oneCell']) (by unfold maxLen; omega) (by omega) (by have := H6.out.be.size; simp; omega) ?_; intro v7 w7 ho7 hg7; obtain ⟨A7, c7, rfl, -, -⟩ := own_shape ho7; obtain ⟨hfin, hlk7⟩ := H6.out.push ho7 hg7; have HF := hid hfin; have z7 : w7.cell? ⟨lb, 2, none⟩ = some (.slice A hl.length c) := hlk7.cell 2; have f7 := hlk7.frozen 2; clear ho7 hg7 hfin hlk7)
        | (go_simp; go_at_call 35; refine RT1.out.mono ?_; rintro o w6 ⟨rfl, hr6, hg6⟩; have H6 := hid (HATD.out.read hr6 hg6); have z6 : w6.cell? ⟨lb, 2, none⟩ = some (.slice A hl.length c) := H6.out.lk.cell 2; have z6a : (w6.alloc (.cells #[.string (strB tx)] 42)).cell? ⟨lb, 2, none⟩ = some (.slice A hl.length c) := (H6.out.lk.alloc _).cell 2; clear hr6 hg6))
      all_goals
        go_wp2_with fail
        go_roundw
        case rel => exact ⟨hl.length + 1, a', e', hl ++ [strB tx], A7, c7, by go_num, by omega, by simp, HG2.out, HF.out⟩
        case measure => simp [intOf]; omega
    · have hkl : hl.length = (ldN s).1 := by omega
      have h1i : ¬ ((hl.length : Int) < ((ldN s).1 : Int)) := by omega
      have hgo := HGO.out
      rw [hkl, Nat.sub_self, lkGo_zero] at hgo
      have hLk : ldLk 65536 s = ⟨(ldE s).1, (ldF s).1, hl⟩ := by unfold ldLk; rw [hgo]
      have hOk : ldOk 65536 s ↔ rdEnd s a e = 0 ∧ checkL ⟨(ldE s).1, (ldF s).1, hl⟩ = 0 := by unfold ldOk; rw [hLk, hgo]
      have hszs : ∀ h ∈ hl, h.size ≤ 1000000 := by
        have := lkGo_size (most := 65536) HS.out (ldN s).1 (ldN s).2.1 (ldN s).2.2 [] (fun _ h => by simp at h)
        rw [show lkGo 65536 s (ldN s).1 (ldN s).2.1 (ldN s).2.2 [] = (hl, a, e) from hgo] at this
        exact this
      obtain ⟨A', c', hv, hrow⟩ := RowN.of_own HAT.out.ow
      cases hv
      have HROW := hid hrow
      have HRN := hid (show ∀ m, RowN (wr.drewN m) A hl.length c hl from fun m => hrow.below (dN (Below.refl _ _) m))
      have CK0 := fun w' h => check34_any ⟨(ldE s).1, (ldF s).1, hl⟩ A c (fun x hx => by have := hszs x hx; unfold maxLen; omega) w' h
      unfold lkCells at CK0
      dsimp only at CK0
      have c0 : wr.cell? ⟨lb, 0, none⟩ = some (.int .i64 (ldE s).1) := HAT.out.lk.cell 0
      have c1 : wr.cell? ⟨lb, 1, none⟩ = some (.bool (ldF s).1) := HAT.out.lk.cell 1
      have RCA := hid (RC.out wr g a e HAT.out.rd)
      have HLK := hid hLk
      have HOK := hid hOk
      clear hgo hLk hOk hrow HGO hszs hkl
      generalize hck : checkL ⟨(ldE s).1, (ldF s).1, hl⟩ = ck at *
      have CK := hid CK0
      clear CK0 hck
      by_cases hz : rdEnd s a e = 0
      · have hzb : (rdEnd s a e != 0) = false := by simp [hz]
        by_cases hc0 : ck = 0
        · have hyes : ldOk 65536 s := HOK.out.2 ⟨hz, hc0⟩
          have hckb : (ck != 0) = false := by simp [hc0]
          have hx1 := HXL.out
          have hx2 := HXE.out
          rw [if_pos hyes, HLK.out] at hx1
          rw [if_pos hyes] at hx2
          subst hx1 hx2
          clear hyes hz hc0 HXL HXE
          go_wp2_with (first | (go_at_call 36; refine (RCA.out).mono ?_; rintro o w6 ⟨rfl, nq, rfl⟩) | (go_at_call 24; refine (CK.out _ (HRN.out _)).mono ?_; rintro o w7 ⟨rfl, hb7⟩; have H7 := hid ((HAT.out.kept (dN (Below.refl _ _) nq)).kept hb7); have n0 : w7.cell? ⟨lb, 0, none⟩ = some (.int .i64 (ldE s).1) := H7.out.lk.cell 0; have n1 : w7.cell? ⟨lb, 1, none⟩ = some (.bool (ldF s).1) := H7.out.lk.cell 1; have n2 : w7.cell? ⟨lb, 2, none⟩ = some (.slice A hl.length c) := H7.out.lk.cell 2; have HR7 := hid ((HRN.out nq).below hb7); clear hb7) | (refine wpList_store_row rfl 24 _ _ rfl w.heap.size #[.int .i64 (ldE s).1, .bool (ldF s).1, .slice A hl.length c] rfl rfl 24 #[.int .i64 0, .bool false, .slice none 0 0] H7.out.re rfl rfl (one3 _ _ _ _ _) ?_))
          have hrf : (w7.setRow w.heap.size #[.int .i64 (ldE s).1, .bool (ldF s).1, .slice A hl.length c]).ownsRow w.heap.size 42 1 (.slice A hl.length c) hl.length (hl.map (.string ·)) := ownsRow_setRow H7.out.ow H7.out.re (by decide)
          refine bodyPost_ret (v := .tuple #[.agg #[.int .i64 (ldE s).1, .bool (ldF s).1, .slice A hl.length c], .bool true]) ?_ ?_ ?_
          · exact results_cell_two rfl _ _ w.heap.size 24 #[.int .i64 (ldE s).1, .bool (ldF s).1, .slice A hl.length c] (0, 0) _ _ rfl rfl (setRow_heap _ _ _ _ _ _ H7.out.re) Tryz.underlying24 rfl (by kernel_rfl)
          · rfl
          · exact ⟨A, c, rfl, hrf, below_setRow H7.out.be (Nat.le_refl _) _⟩
        · have hckb : (ck != 0) = true := by simp [hc0]
          have hno : ¬ ldOk 65536 s := fun h => hc0 (HOK.out.1 h).2
          have hx1 := HXL.out
          have hx2 := HXE.out
          rw [if_neg hno] at hx1 hx2
          subst hx1 hx2
          clear hno HXL HXE
          clear hz hc0
          go_wp2_with (first | (go_at_call 36; refine (RCA.out).mono ?_; rintro o w6 ⟨rfl, nq, rfl⟩) | (go_at_call 24; refine (CK.out _ (HRN.out _)).mono ?_; rintro o w7 ⟨rfl, hb7⟩; have H7 := hid ((HAT.out.kept (dN (Below.refl _ _) nq)).kept hb7); have n0 : w7.cell? ⟨lb, 0, none⟩ = some (.int .i64 (ldE s).1) := H7.out.lk.cell 0; have n1 : w7.cell? ⟨lb, 1, none⟩ = some (.bool (ldF s).1) := H7.out.lk.cell 1; have n2 : w7.cell? ⟨lb, 2, none⟩ = some (.slice A hl.length c) := H7.out.lk.cell 2; have HR7 := hid ((HRN.out nq).below hb7); clear hb7) | (refine wpList_store_row rfl 24 _ _ rfl w.heap.size #[.int .i64 0, .bool false, .slice none 0 0] rfl rfl 24 #[.int .i64 0, .bool false, .slice none 0 0] H7.out.re rfl rfl (one3 _ _ _ _ _) ?_))
          refine bodyPost_ret (v := .tuple #[.agg #[.int .i64 0, .bool false, .slice none 0 0], .bool false]) ?_ ?_ ?_
          · exact results_cell_two rfl _ _ w.heap.size 24 #[.int .i64 0, .bool false, .slice none 0 0] (0, 0) _ _ rfl rfl (setRow_heap _ _ _ _ _ _ H7.out.re) Tryz.underlying24 rfl (by kernel_rfl)
          · rfl
          · exact ⟨none, 0, rfl, World.ownsRow_nil _ _ _ _, below_setRow H7.out.be (Nat.le_refl _) _⟩
      · have hzb : (rdEnd s a e != 0) = true := by simp [hz]
        have hno : ¬ ldOk 65536 s := fun h => hz (HOK.out.1 h).1
        have hx1 := HXL.out
        have hx2 := HXE.out
        rw [if_neg hno] at hx1 hx2
        subst hx1 hx2
        clear hno HXL HXE
        clear hz
        go_wp2_with (first | (go_at_call 36; refine (RCA.out).mono ?_; rintro o w6 ⟨rfl, nq, rfl⟩) | (refine wpList_store_row rfl 24 _ _ rfl w.heap.size #[.int .i64 0, .bool false, .slice none 0 0] rfl rfl 24 #[.int .i64 0, .bool false, .slice none 0 0] HAT.out.re rfl rfl (one3 _ _ _ _ _) ?_))
        refine bodyPost_ret (v := .tuple #[.agg #[.int .i64 0, .bool false, .slice none 0 0], .bool false]) ?_ ?_ ?_
        · exact results_cell_two rfl _ _ w.heap.size 24 #[.int .i64 0, .bool false, .slice none 0 0] (0, 0) _ _ rfl rfl (setRow_heap _ _ _ _ _ _ HAT.out.re) Tryz.underlying24 rfl (by kernel_rfl)
        · rfl
        · exact ⟨none, 0, rfl, World.ownsRow_nil _ _ _ _, below_setRow (dN HAT.out.be nq) (Nat.le_refl _) _⟩
end Go.Proofs.YtfgecaphhdedcaaGreatDoor
