/-
  FROM A WALK OVER CELLS TO THE STATEMENT'S OWN FORM: what every law of this seat takes: arguments opened, the conclusion shut. No function of the program is walked here.
-/
import Derived.Test.YtnbgfalhmnbefaaGreatDoorFill
import Derived.Test.YtnbgfalhmnbefaaGreatDoorCards
import Derived.Test.YtnbgfalhmnbefaaGreatDoorTie
import Derived.ProofKit
import Derived.OpenShut
import Derived.LaidMore
import Derived.Lay
import Derived.SevenTiedAt
import Derived.Stop.Joined
import Derived.Conc.Holds
import Derived.ChangeStays
import Derived.Deep.Slices
import Derived.Below
namespace Go.Proofs.YtnbgfalhmnbefaaGreatDoor
open Go.ChangeShapes Go.WideShapes Go.ChangeAt Go.RowKit Go.Deep
set_option maxRecDepth 100000

theorem own : ownKnob Tryz.prog.godebug = none := by kernel_rfl
theorem laidOutT : laidOutB Tryz.prog = true := by kernel_rfl

theorem leaving_of_handed {a : Assume} {C : Checked} {os : Os} {f : FuncId} {r : Reach} {Pre : World → Array Value → Prop} {Post : World → Array Value → Value → World → Prop} (h : ReturnsInHanded a C os f r Pre Post) : ReturnsInLeavingWide a C os f r Pre Post := fun enter => by
  obtain ⟨h1, h2, h3, h4, h5⟩ := h enter
  refine ⟨h1, h2, h3, h4, fun w tape i hf => ?_⟩
  obtain ⟨n, v, w', e1, e2, e3, e4, ⟨j, last, j1, j2, ⟨⟨q1, q2⟩, q3, q4⟩⟩, e6⟩ := h5 w tape i hf
  refine ⟨n, v, w', e1, e2, e3, e4, ⟨j, last, j1, j2, q3, ⟨fun g hg => ⟨0, ?_⟩, q2⟩, q4⟩, e6⟩
  have h9 := List.all_eq_true.1 q1 g hg
  have h10 : g.status = .finished := by
    revert h9
    cases g.status <;> simp
    all_goals (intro h; cases h)
  exact h10

/-- A tied card of a row whose call can start goroutines. -/
theorem holds_tied_goes (Lk : Looks) {p : Pinned} {s : OpenSpec} {c : OpenClaim} (kinds : List LaidKind) (tests : Bool) (har : Bool × String) (lk : Bool)
    (hc : c.holds p s) (hw : c.wfByText s = true) (htie : c.laidByTextAt Lk p kinds tests)
    (hst : c.start = .entering) (hnb : c.noBlocks = false ∧ c.again = false) (hm : p.checked.prog.mainIs = some (har.1, har.2.toList)) (hn : (!har.1 && har.2.isEmpty && !lk) = false)
    (hl : ∀ f fn, p.checked.prog.funcNamed c.func = some f → p.checked.prog.funcs[f]? = some fn → lk = p.checked.prog.looks [] ∧ ∀ (j : Nat) t, fn.params[j]? = some t → p.checked.prog.wantsStandIn t = false)
    (hg : true = c.goesBy p.checked.prog) :
    Claim7.holds p (.plain s) { stood := { row := c, standIns := [], harness := har, looks := lk }, kinds := [], alts := [], goes := true, laidByText := true, laidKinds := kinds, laidTests := tests, laidLooks := Lk } := by
  have h6 : ∀ r : OpenClaim, Claim7.isSixth { stood := { row := r, standIns := [], harness := har, looks := lk }, kinds := [] } = false := fun r => by simpa [Claim7.isSixth] using hn
  refine ⟨Claim7.tied_new_at Lk kinds tests (Claim7.new_of_sixth hc har lk hst hnb hm (h6 c) hl) hw, fun D hD => ?_, htie, (fun h => by cases h), hg⟩
  cases hD

section
variable {H : Type} {enc : TypeId × Value → H} {P : Program}
theorem trodAll_stays (hl : laidOutB P = true) {W W' : World} {sp' : Nat → Bool} : ∀ {ts : List TypeId} {vs : List Value} {ds : List (DataW H)} {ps : List MemPlace},
    (∀ t ∈ ts, P.readableRec t = true ∧ t < P.types.size) → DataW.TrodAll enc P W 0 (fun _ => true) true ts vs ds ps → (∀ p ∈ ps, W.sameAt W' p) → (∀ p ∈ ps, sp' p.block = true) → DataW.TrodAll enc P W' 0 sp' true ts vs ds ps
  | [], vs, ds, ps, _, h, _, _ => by
    obtain ⟨rfl, rfl, rfl⟩ := trodAll_nil h
    exact trodAll_mk0
  | t :: ts, vs, ds, ps, hr, h, hs, hp => by
    obtain ⟨v, vs', d, ds', p, q, rfl, rfl, rfl, ⟨n, h0⟩, h1⟩ := trodAll_cons h
    obtain ⟨r1, r2⟩ := hr t (by simp)
    exact trodAll_cons_mk ⟨n, DataW.trod_stays (kids_book hl r1) (book_sized r1) (fun e => by cases e) ⟨r2, book_self t⟩ h0 (fun x hx => hs x (List.mem_append_left _ hx)) (fun x hx => hp x (List.mem_append_left _ hx))⟩
      (trodAll_stays hl (fun t ht => hr t (by simp [ht])) h1 (fun x hx => hs x (List.mem_append_right _ hx)) (fun x hx => hp x (List.mem_append_right _ hx)))

theorem post_of_below {f : Func} {s : ChangeSpec} {apart fresh handsOn again : Bool} {W W' : World} {args : Array Value} {v : Value} {ds gs : List (DataW H)} {before pa pv : List MemPlace}
    (hW : DataW.Whole enc P f.params.toList s.vars apart W args.toList ds gs before)
    (hres : ∀ (b : Nat) (sp : Nat → Bool) (hd : Bool), DataW.TrodAll enc P W' b sp hd f.resultTypes.toList (v.resultList f.resultTypes.size) (s.fn H (ds ++ gs)).results [])
    (hargs : ∀ sp : Nat → Bool, (∀ p ∈ before, sp p.block = true) → DataW.TrodAll enc P W' 0 sp true f.params.toList args.toList (s.fn H (ds ++ gs)).args pa)
    (hvars : ∀ sp : Nat → Bool, (∀ p ∈ before, sp p.block = true) → DataW.TrodVars enc P W' sp s.vars (s.fn H (ds ++ gs)).vars pv)
    (hps : before = pa ++ pv) (hb : Below W.heap.size W W')
    (hok : ∀ (j : Nat) (t : TypeId) (r : Value), f.resultTypes[j]? = some t → (v.resultList f.resultTypes.size)[j]? = some r → Value.okWide P W' .any 0 t r) :
    s.post enc P f apart fresh handsOn again W args v W' := by
  have hlt : ∀ p ∈ before, p.block < W.heap.size := fun p hp => hW.lt p hp
  have hold : ∀ p ∈ before, (fun b => decide (b < W.heap.size)) p.block = true := fun p hp => by simpa using hlt p hp
  refine ⟨ds, gs, before, [], pa, pv, hW, hres _ _ _, hargs _ hold, hvars _ hold, World.keptBut_mono (fun p hp => ⟨hp, ?_⟩) (hb.frame (· ∈ before)), fun _ => ?_⟩
  · rw [hps, List.mem_append] at hp
    exact Or.inr hp
  · obtain ⟨_, _, _, _, _, hz, hn⟩ := hW
    refine ⟨hok, _, _, ([] ++ pa) ++ pv, ⟨[] ++ pa, pv, trodAll_append (hargs _ (fun _ _ => rfl)) (hres _ _ _), hvars _ (fun _ _ => rfl), rfl, ?_, ?_⟩, ?_⟩
    · intro b off hp
      have hin : MemPlace.cell b off ∈ before := by rw [hps]; simpa using hp
      rw [hb.frozen (hlt _ hin)]
      exact hz b off hin
    · intro ha
      have := hn ha
      rw [hps] at this
      simpa using this
    · intro p hp _
      rw [hps]
      simpa using hp
theorem sameAt_below {W W' : World} (hb : Below W.heap.size W W') : ∀ {p : MemPlace}, p.block < W.heap.size → W.sameAt W' p
  | .cell b off, h => hb.cell (p := ⟨b, off, none⟩) h
  | .map b, h => hb.block b h
end

/-- A law's last step: it returned true, and nothing that was there has changed. -/
theorem law_post {H : Type} {enc : TypeId × Value → H} {f : Func} {s : ChangeSpec} {W W' : World} {args : Array Value} {ds gs : List (DataW H)} {before : List MemPlace}
    (hr : ∀ t ∈ f.params.toList, Tryz.prog.readableRec t = true ∧ t < Tryz.prog.types.size) (hvars : s.vars = []) (hfn : (s.fn H (ds ++ gs)).results = [.lit (.bool true)] ∧ (s.fn H (ds ++ gs)).args = ds ∧ (s.fn H (ds ++ gs)).vars = []) (hres : f.resultTypes = #[4])
    (hW : DataW.Whole enc Tryz.prog f.params.toList s.vars false W args.toList ds gs before) (hb : Below W.heap.size W W') :
    s.post enc Tryz.prog f false true false false W args (.bool true) W' := by
  obtain ⟨f1, f2, f3⟩ := hfn
  have hlt : ∀ p ∈ before, p.block < W.heap.size := fun p hp => hW.lt p hp
  have hW' := hW
  obtain ⟨p, q, hA, hV, rfl, hfz, hnd⟩ := hW
  rw [hvars] at hV
  obtain ⟨rfl, rfl⟩ := trodVars_none hV
  refine post_of_below (pa := p) (pv := []) hW' ?_ ?_ ?_ rfl hb ?_
  · intro b sp hd
    rw [f1, hres]
    exact trodAll_cons_mk (shut_bool Tryz.underlying4 _) trodAll_mk0
  · intro sp hsp
    rw [f2]
    exact trodAll_stays laidOutT hr hA (fun x hx => sameAt_below hb (hlt x (by simpa using hx))) (fun x hx => hsp x (by simpa using hx))
  · intro sp hsp
    rw [f3, hvars]
    rfl
  · exact ok_one hres rfl (okWide_bool_mk Tryz.underlying4 _)

section
variable {H : Type} {enc : TypeId × Value → H} {W : World} {base : Nat} {spare : Nat → Bool} {held : Bool}
theorem open_N {n : Nat} {cs : List Value} {x : DataW H × List MemPlace} (h : DataW.trod enc Tryz.prog W base spare held n 24 cs = some x) : ∃ m : Nm, cs = nmCells m ∧ m.owner.size ≤ maxLen ∧ m.text.size ≤ maxLen := by
  obtain ⟨xs, k, _, _, hl, hxl, hf⟩ := DataW.trod_struct Tryz.underlying24 h
  have hC : Tryz.prog.cellsOf 24 = 5 := by kernel_rfl
  have c1 : Tryz.prog.cellsOf 3 = 1 := by kernel_rfl
  have c2 : Tryz.prog.cellsOf 9 = 1 := by kernel_rfl
  rw [hC] at hl
  match cs, hl with
  | [a, b, c, d, e], _ =>
    match xs, hxl with
    | [x0, x1, x2, x3, x4], _ =>
      have g0 : DataW.trod enc Tryz.prog W base spare held k 3 ((([a, b, c, d, e] : List Value).drop 0).take (Tryz.prog.cellsOf 3)) = some x0 := hf 0 _ rfl
      rw [c1] at g0
      have g1 : DataW.trod enc Tryz.prog W base spare held k 9 ((([a, b, c, d, e] : List Value).drop 1).take (Tryz.prog.cellsOf 9)) = some x1 := hf 1 _ rfl
      rw [c2] at g1
      have g2 : DataW.trod enc Tryz.prog W base spare held k 3 ((([a, b, c, d, e] : List Value).drop 2).take (Tryz.prog.cellsOf 3)) = some x2 := hf 2 _ rfl
      rw [c1] at g2
      have g3 : DataW.trod enc Tryz.prog W base spare held k 3 ((([a, b, c, d, e] : List Value).drop 3).take (Tryz.prog.cellsOf 3)) = some x3 := hf 3 _ rfl
      rw [c1] at g3
      have g4 : DataW.trod enc Tryz.prog W base spare held k 9 ((([a, b, c, d, e] : List Value).drop 4).take (Tryz.prog.cellsOf 9)) = some x4 := hf 4 _ rfl
      rw [c2] at g4
      obtain ⟨z0, e0, _⟩ := DataW.trod_int Tryz.underlying3 g0
      obtain ⟨z1, e1, _, l1⟩ := DataW.trod_string Tryz.underlying9 g1
      obtain ⟨z2, e2, _⟩ := DataW.trod_int Tryz.underlying3 g2
      obtain ⟨z3, e3, _⟩ := DataW.trod_int Tryz.underlying3 g3
      obtain ⟨z4, e4, _, l4⟩ := DataW.trod_string Tryz.underlying9 g4
      simp at e0 e1 e2 e3 e4
      subst e0 e1 e2 e3 e4
      exact ⟨⟨z0, z1, z2, z3, z4⟩, rfl, l1, l4⟩
theorem open_C {n : Nat} {cs : List Value} {x : DataW H × List MemPlace} (h : DataW.trod enc Tryz.prog W base spare held n 54 cs = some x) : ∃ c : Ch, cs = chCells c ∧ c.name.owner.size ≤ maxLen ∧ c.name.text.size ≤ maxLen ∧ c.value.size ≤ maxLen := by
  obtain ⟨xs, k, _, _, hl, hxl, hf⟩ := DataW.trod_struct Tryz.underlying54 h
  have hC : Tryz.prog.cellsOf 54 = 7 := by kernel_rfl
  have c1 : Tryz.prog.cellsOf 24 = 5 := by kernel_rfl
  have c2 : Tryz.prog.cellsOf 9 = 1 := by kernel_rfl
  have c3 : Tryz.prog.cellsOf 4 = 1 := by kernel_rfl
  rw [hC] at hl
  match cs, hl with
  | [a, b, c, d, e, f, g], _ =>
    match xs, hxl with
    | [x0, x1, x2], _ =>
      have g0 : DataW.trod enc Tryz.prog W base spare held k 24 ((([a, b, c, d, e, f, g] : List Value).drop 0).take (Tryz.prog.cellsOf 24)) = some x0 := hf 0 _ rfl
      rw [c1] at g0
      have g1 : DataW.trod enc Tryz.prog W base spare held k 9 ((([a, b, c, d, e, f, g] : List Value).drop 5).take (Tryz.prog.cellsOf 9)) = some x1 := hf 1 _ rfl
      rw [c2] at g1
      have g2 : DataW.trod enc Tryz.prog W base spare held k 4 ((([a, b, c, d, e, f, g] : List Value).drop 6).take (Tryz.prog.cellsOf 4)) = some x2 := hf 2 _ rfl
      rw [c3] at g2
      obtain ⟨m, e0, l1, l2⟩ := open_N g0
      obtain ⟨z1, e1, _, l3⟩ := DataW.trod_string Tryz.underlying9 g1
      obtain ⟨z2, e2, _⟩ := DataW.trod_bool Tryz.underlying4 g2
      simp [nmCells] at e0 e1 e2
      obtain ⟨rfl, rfl, rfl, rfl, rfl⟩ := e0
      subst e1 e2
      exact ⟨⟨m, z1, z2⟩, rfl, l1, l2, l3⟩
/-- An argument that is a change. -/
theorem open_Cv {r : Reach} {b0 : Nat} {v : Value} {d : DataW H} {p : List MemPlace} (hv : Value.okWide Tryz.prog W r b0 54 v) (h : DataW.Trod enc Tryz.prog W base spare held 54 v d p) : ∃ c : Ch, v = chV c ∧ strOk [c] := by
  obtain ⟨cs, rfl, hsz⟩ := okWide_struct Tryz.underlying54 hv
  obtain ⟨n, hn⟩ := h
  obtain ⟨c, e, l1, l2, l3⟩ := open_C hn
  refine ⟨c, ?_, ?_⟩
  · have : cs.toList = chCells c := e
    unfold chV
    rw [← Array.toArray_toList (xs := cs), this]
    rfl
  · intro x hx
    simp only [List.mem_cons, List.not_mem_nil, or_false] at hx
    subst hx
    exact ⟨l1, l2, l3⟩
/-- An argument that is a name. -/
theorem open_Nv {r : Reach} {b0 : Nat} {v : Value} {d : DataW H} {p : List MemPlace} (hv : Value.okWide Tryz.prog W r b0 24 v) (h : DataW.Trod enc Tryz.prog W base spare held 24 v d p) : ∃ m : Nm, v = nmV m ∧ m.owner.size ≤ maxLen ∧ m.text.size ≤ maxLen := by
  obtain ⟨cs, rfl, hsz⟩ := okWide_struct Tryz.underlying24 hv
  obtain ⟨n, hn⟩ := h
  obtain ⟨m, e, l1, l2⟩ := open_N hn
  refine ⟨m, ?_, l1, l2⟩
  have : cs.toList = nmCells m := e
  unfold nmV
  rw [← Array.toArray_toList (xs := cs), this]
  rfl
end
theorem strOk_nil : strOk [] := fun x hx => by cases hx
theorem spot_of_cell {w : World} {a : Addr} {v : Value} (h : w.cell? a = some v) : a = ⟨a.block, a.off, none⟩ := by
  obtain ⟨b, o, s⟩ := a
  cases s with
  | none => rfl
  | some s =>
    unfold World.cell? at h
    simp only at h
    split at h <;> simp at h
/-- An argument that is a slice of changes. -/
theorem open_Cs {H : Type} {enc : TypeId × Value → H} {W : World} {base b0 : Nat} {r : Reach} {v : Value} {d : DataW H} {p : List MemPlace} (hv : Value.okWide Tryz.prog W r b0 22 v) (h : DataW.Trod enc Tryz.prog W base (fun _ => true) true 22 v d p) :
    ∃ (A : Option Addr) (n c : Nat) (l : List Ch), v = .slice A n c ∧ RowC W A n c l ∧ strOk l := by
  obtain ⟨k, hk⟩ := h
  have hC : Tryz.prog.cellsOf 54 = 7 := by kernel_rfl
  obtain ⟨A, n, c, rfl⟩ : ∃ A n c, v = .slice A n c := okWide_slice Tryz.underlying22 hv
  rcases open_slice Tryz.underlying22 hk with ⟨h0, _⟩ | ⟨a, len, cap, m, k', D, Pl, h0, hb, hl, hm, hmm, _, hi⟩
  · simp [Value.cells] at h0
    obtain ⟨rfl, rfl, rfl⟩ := h0
    exact ⟨none, 0, 0, [], rfl, Sl.nil _ _ _, strOk_nil⟩
  · simp [Value.cells] at h0
    obtain ⟨rfl, rfl, rfl⟩ := h0
    have hlen : n ≤ m := by rw [hmm]; simpa using hl
    have H0 : ∀ q, q ≤ n → ∃ l : List Ch, l.length = q ∧ strOk l ∧ ∀ i j u, (hi' : i < l.length) → (chCells l[i])[j]? = some u → W.cell? ((a.add (i * 7)).add j) = some u := by
      intro q
      induction q with
      | zero => exact fun _ => ⟨[], rfl, strOk_nil, fun i j u hi' => by simp at hi'⟩
      | succ q ih =>
        intro hq
        obtain ⟨l, e1, e2, e3⟩ := ih (by omega)
        obtain ⟨cs', hc', ht'⟩ := hi q (by omega)
        rw [hC] at hc'
        obtain ⟨ch, e4, l1, l2, l3⟩ := open_C ht'
        obtain ⟨_, hcl, hat⟩ := World.cells?_some hc'
        refine ⟨l ++ [ch], by simp [e1], ?_, ?_⟩
        · intro x hx
          rcases List.mem_append.1 hx with hx | hx
          · exact e2 x hx
          · simp only [List.mem_cons, List.not_mem_nil, or_false] at hx
            subst hx
            exact ⟨l1, l2, l3⟩
        · intro i j u hi' hu
          by_cases hiq : i < l.length
          · rw [List.getElem_append_left hiq] at hu
            exact e3 i j u hiq hu
          · have : i = q := by simp at hi'; omega
            subst this
            rw [List.getElem_append_right (by omega)] at hu
            simp only [e1, Nat.sub_self, List.getElem_cons_zero] at hu
            have hj : j < 7 := by have := (List.getElem?_eq_some_iff.1 hu).1; rw [chCells_len] at this; exact this
            rw [hat j hj, e4]
            exact hu
    obtain ⟨l, e1, e2, e3⟩ := H0 n (Nat.le_refl _)
    refine ⟨some a, n, c, l, rfl, ⟨by rw [flat_len chCells 7 chCells_len, e1], hl, hm, ?_⟩, e2⟩
    by_cases hz : n = 0
    · exact .inl hz
    · right
      have hfirst := e3 0 0 (.int .i64 (l[0]'(by omega)).name.kind) (by omega) rfl
      rw [Nat.zero_mul] at hfirst
      have ha0 : (a.add 0).add 0 = a := rfl
      rw [ha0] at hfirst
      have hsp := spot_of_cell hfirst
      refine ⟨a.block, a.off, by rw [← hsp], block_lt_of_cell hfirst, fun j u hu => ?_⟩
      have hj : j < n * 7 := by
        have := (List.getElem?_eq_some_iff.1 hu).1
        rw [flat_len chCells 7 chCells_len, e1] at this
        exact this
      have hq : j / 7 < l.length := by omega
      have hjj : j = j / 7 * 7 + j % 7 := by omega
      rw [hjj, flat_get chCells 7 chCells_len l (j / 7) (j % 7) (by omega) hq] at hu
      have := e3 (j / 7) (j % 7) u hq hu
      rw [hsp, addr_add, addr_add] at this
      rw [hjj, ← Nat.add_assoc]
      exact this
end Go.Proofs.YtnbgfalhmnbefaaGreatDoor
