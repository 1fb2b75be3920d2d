/-
  APPEND OF A CUT OF A ROW OF STRUCTS ONTO A ROW OF ONE'S OWN, in a region that draws its order. No function of the program is walked here.
  ROWS OF THE REFERENCE OF LAYER 5. No function of the program is walked here.
-/
import Derived.Test.YtfdbanhbegngoaaGreatDoorEl
import Derived.Deep.RegionLaw
import Derived.Deep.AppendLies
namespace Go.Proofs.YtfdbanhbegngoaaGreatDoor
open Go.RowKit

section
variable {P : Program} (w : World)
theorem run_append_gen (t ty : TypeId) (base : Nat) (e : TypeId) (i : TypeInfo) (z : Value) (size bytes : Nat) (ht : P.underlying t = some (.slice e)) (hi : P.info? e = some i) (hz : i.zero = some z)
    (hsize : i.size = size) (hby : i.bytes = bytes) (hzs : z.cells.size = size) (hsz : 0 < size)
    (v : Value) (n : Nat) (xs : List Value) (hown : w.ownsRow base e size v n xs)
    (A : Option Addr) (m c : Nat) (news : List Value) (hl : news.length = m * size) (hA : A = none → m = 0 ∧ c = 0) (hnews : ∀ ad, A = some ad → ∀ j u, news[j]? = some u → w.cell? (ad.add j) = some u) (h1 : ∀ u ∈ news, u.oneCell' = true)
    (h63 : n + m ≤ maxLen) (hbytes : (n + m) * bytes ≤ 140737488355328) (hbase : base ≤ w.heap.size) :
    ∃ v' w', (Builtin.append_ #[t, t] ty #[v, .slice A m c]).run P w = .ok v' w' ∧ w'.ownsRow base e size v' (n + m) (xs ++ news) ∧ w.grownBy w' v.ownBlock := by
  cases A with
  | none =>
    obtain ⟨rfl, rfl⟩ := hA rfl
    have : news = [] := List.eq_nil_of_length_eq_zero (by simpa using hl)
    subst this
    refine ⟨v, w, run_append_owned_none w base t ty e i size ht hi v n xs hown, by simpa using hown, ⟨rfl, rfl, rfl, Nat.le_refl _, fun _ _ _ => rfl⟩⟩
  | some ad =>
    obtain ⟨v', w', h, h2, h3, _⟩ := run_append_own (P := P) w base t ty e i z size bytes ht hi hz hsize hby hzs hsz v n xs hown ad m c news hl (hnews ad rfl) h1 h63 hbytes hbase
    exact ⟨v', w', h, h2, h3⟩

theorem step_append_gen {ops : Array Oper} {o : Oper} {a : Act} {K : Act → World → Prop} {Q : Exit → Act → World → Prop} {E : Prop} (hgd : o.guard = none) (s x : Operand) (t : TypeId)
    (ho : o.op = .call { callee := .builtin .append, args := #[s, x], argTypes := #[t, t] })
    (base : Nat) (e : TypeId) (i : TypeInfo) (z : Value) (size bytes : Nat) (ht : P.underlying t = some (.slice e)) (hi : P.info? e = some i) (hz : i.zero = some z)
    (hsize : i.size = size) (hby : i.bytes = bytes) (hzs : z.cells.size = size) (hsz : 0 < size)
    (v : Value) (n : Nat) (xs : List Value) (hs : a.eval s = v) (hown : w.ownsRow base e size v n xs)
    (A : Option Addr) (m c : Nat) (news : List Value) (hx : a.eval x = .slice A m c) (hl : news.length = m * size) (hA : A = none → m = 0 ∧ c = 0) (hnews : ∀ ad, A = some ad → ∀ j u, news[j]? = some u → w.cell? (ad.add j) = some u) (h1 : ∀ u ∈ news, u.oneCell' = true)
    (h63 : n + m ≤ maxLen) (hbytes : (n + m) * bytes ≤ 140737488355328) (hbase : base ≤ w.heap.size)
    (h : ∀ v' w', w'.ownsRow base e size v' (n + m) (xs ++ news) → w.grownBy w' v.ownBlock → K (a.put o.dst v') w') :
    if Region.wanted o (yielded ops a.tmps) = true then Oper.wp P o a w K Q else E := by
  rw [if_pos (by simp [Region.wanted, hgd])]
  obtain ⟨v', w', hr, h2, h3⟩ := run_append_gen (P := P) w t o.type base e i z size bytes ht hi hz hsize hby hzs hsz v n xs hown A m c news hl hA hnews h1 h63 hbytes hbase
  unfold Oper.wp execOp
  simp only [ho, resolve, invoke, builtin, Sem.run_bind, Sem.run_pure, Result.andThen_ok, List.map_toArray, List.map_cons, List.map_nil, hs, hx, hr]
  exact h v' w' h2 h3
theorem wpList_append_gen {ops : Array Oper} {rest : List Oper} {o : Oper} {a : Act} {Q : Exit → Act → World → Prop} (hgd : o.guard = none) (s x : Operand) (t : TypeId)
    (ho : o.op = .call { callee := .builtin .append, args := #[s, x], argTypes := #[t, t] })
    (base : Nat) (e : TypeId) (i : TypeInfo) (z : Value) (size bytes : Nat) (ht : P.underlying t = some (.slice e)) (hi : P.info? e = some i) (hz : i.zero = some z)
    (hsize : i.size = size) (hby : i.bytes = bytes) (hzs : z.cells.size = size) (hsz : 0 < size)
    (v : Value) (n : Nat) (xs : List Value) (hs : a.eval s = v) (hown : w.ownsRow base e size v n xs)
    (A : Option Addr) (m c : Nat) (news : List Value) (hx : a.eval x = .slice A m c) (hl : news.length = m * size) (hA : A = none → m = 0 ∧ c = 0) (hnews : ∀ ad, A = some ad → ∀ j u, news[j]? = some u → w.cell? (ad.add j) = some u) (h1 : ∀ u ∈ news, u.oneCell' = true)
    (h63 : n + m ≤ maxLen) (hbytes : (n + m) * bytes ≤ 140737488355328) (hbase : base ≤ w.heap.size)
    (h : ∀ v' w', w'.ownsRow base e size v' (n + m) (xs ++ news) → w.grownBy w' v.ownBlock → wpList P ops Q rest (a.put o.dst v') w') : wpList P ops Q (o :: rest) a w := by
  refine wpList_plain hgd fun _ hK => ?_
  obtain ⟨v', w', hr, h2, h3⟩ := run_append_gen (P := P) w t o.type base e i z size bytes ht hi hz hsize hby hzs hsz v n xs hown A m c news hl hA hnews h1 h63 hbytes hbase
  unfold Oper.wp execOp
  simp only [ho, resolve, invoke, builtin, Sem.run_bind, Sem.run_pure, Result.andThen_ok, List.map_toArray, List.map_cons, List.map_nil, hs, hx, hr]
  exact hK _ _ (h v' w' h2 h3)
end
end Go.Proofs.YtfdbanhbegngoaaGreatDoor
namespace Go.Proofs.YtfdbanhbegngoaaGreatDoor
open Go.RowKit

/-- A slice value that reads as a list of objects. -/
structure RowE (w : World) (A : Option Addr) (n c : Nat) (l : EL) : Prop where
  s : Sl w w.heap.size 6 A n c (l.flatMap eCells)
  z : A = none → c = 0
  ty : ∀ ad, A = some ad → ∃ cs, w.heap[ad.block]? = some (.cells cs 68 (0, 0))
theorem RowE.below {w w' : World} {A : Option Addr} {n c : Nat} {l : EL} (h : RowE w A n c l) (hb : Below w.heap.size w w') : RowE w' A n c l :=
  ⟨(h.1.below hb).more hb.size, h.2, fun ad e => by
    obtain ⟨cs, hc⟩ := h.3 ad e
    exact ⟨cs, (hb.block _ (Array.getElem?_eq_some_iff.1 hc).1).trans hc⟩⟩
def RPost (w : World) (e : Int) (l : EL) (o : Ending) (w' : World) : Prop := ∃ A n c, o = .returned (.tuple #[.slice A n c, .int .i64 e]) ∧ (e ≠ 0 → A = none ∧ n = 0 ∧ c = 0) ∧ (e = 0 → RowE w' A n c l) ∧ Below w.heap.size w w'
theorem Tryz.info_E : (Tryz.prog.info? 68).map (fun i => (i.zero, i.size, i.bytes)) = some (some (.agg #[.int .i64 0, .string ⟨#[]⟩, .int .i64 0, .int .i64 0, .string ⟨#[]⟩, .string ⟨#[]⟩]), 6, 72) := by kernel_rfl

theorem RowE.of_own {w : World} {base n : Nat} {v : Value} {l : EL} (h : w.ownsRow base 68 6 v n (l.flatMap eCells)) : ∃ A c, v = .slice A n c ∧ RowE w A n c l := by
  obtain ⟨A, c, hv, hs⟩ := Sl.of_own h
  refine ⟨A, c, hv, hs, fun e => ?_, fun ad e => ?_⟩
  · subst e hv
    rcases h.2 with ⟨h1, _⟩ | ⟨g, cap, cur, h1, _⟩
    · cases h1; rfl
    · cases h1
  · subst e hv
    rcases h.2 with ⟨h1, _⟩ | ⟨g, cap, cur, h1, _, hh, _⟩
    · cases h1
    · cases h1
      exact ⟨cur, hh⟩
theorem eCells_one (l : EL) : ∀ u ∈ l.flatMap eCells, u.oneCell' = true := by
  intro u hu
  obtain ⟨x, _, hx⟩ := List.mem_flatMap.1 hu
  simp only [eCells, nmCells, List.cons_append, List.nil_append, List.mem_cons, List.not_mem_nil, or_false] at hx
  rcases hx with rfl | rfl | rfl | rfl | rfl | rfl <;> rfl
theorem addr_add (b off j : Nat) : (⟨b, off, none⟩ : Addr).add j = ⟨b, off + j, none⟩ := by
  unfold Addr.add; split <;> simp_all
/-- The cells of a cut. -/
theorem RowE.cut {w W' : World} {b off n c : Nat} {l : EL} (h : RowE w (some ⟨b, off, none⟩) n c l) (hb : Below w.heap.size w W') (k m : Nat) (hkm : k + m ≤ l.length) :
    ∀ j u, (((l.drop k).take m).flatMap eCells)[j]? = some u → W'.cell? ((⟨b, off + k * 6, none⟩ : Addr).add j) = some u := by
  intro j u hu
  obtain ⟨h1, h2, _⟩ := h
  obtain ⟨e1, e2, e3⟩ := (h1.below hb).elem eCells_len (by decide)
  have hj : j < m * 6 := by
    have := (List.getElem?_eq_some_iff.1 hu).1
    rw [flat_len eCells 6 eCells_len, List.length_take, List.length_drop] at this
    omega
  have hq : j / 6 < m := by omega
  have hlen : j / 6 < ((l.drop k).take m).length := by rw [List.length_take, List.length_drop]; omega
  rw [show j = j / 6 * 6 + j % 6 by omega, flat_get eCells 6 eCells_len _ _ _ (by omega) hlen] at hu
  rw [List.getElem_take, List.getElem_drop] at hu
  rcases e3 with rfl | ⟨b', off', hA, hb', hc⟩
  · simp at hkm; omega
  · cases hA
    rw [addr_add]
    have := hc (k + j / 6) (j % 6) u (by omega) (by omega) hu
    rw [show off + k * 6 + j = off + (k + j / 6) * 6 + j % 6 by omega]
    exact this
end Go.Proofs.YtfdbanhbegngoaaGreatDoor
