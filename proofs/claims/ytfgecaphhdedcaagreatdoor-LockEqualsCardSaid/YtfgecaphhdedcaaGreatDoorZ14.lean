/-
  FROM A WALK OVER CELLS TO THE STATEMENT'S OWN FORM: what every law of this seat takes: arguments opened, the conclusion shut. No function of the program is walked here.
-/
import Derived.Test.YtfgecaphhdedcaaGreatDoorZ1
import Derived.Test.YtfgecaphhdedcaaGreatDoorCards
import Derived.Test.YtfgecaphhdedcaaGreatDoorTie
import Derived.ProofKit
import Derived.OpenShut
import Derived.LaidMore
import Derived.Lay
import Derived.SevenTiedAt
import Derived.Stop.Joined
import Derived.Conc.Holds
import Derived.ChangeStays
import Derived.Deep.Slices
import Derived.Below
import Derived.ChangeMaps5
namespace Go.Proofs.YtfgecaphhdedcaaGreatDoor
open Go.ChangeShapes Go.WideShapes Go.ChangeAt Go.RowKit Go.Deep
set_option maxRecDepth 100000

theorem own : ownKnob Tryz.prog.godebug = none := by kernel_rfl
theorem laidOutT : laidOutB Tryz.prog = true := by kernel_rfl

theorem leaving_of_handed {a : Assume} {C : Checked} {os : Os} {f : FuncId} {r : Reach} {Pre : World → Array Value → Prop} {Post : World → Array Value → Value → World → Prop} (h : ReturnsInHanded a C os f r Pre Post) : ReturnsInLeavingWide a C os f r Pre Post := fun enter => by
  obtain ⟨h1, h2, h3, h4, h5⟩ := h enter
  refine ⟨h1, h2, h3, h4, fun w tape i hf => ?_⟩
  obtain ⟨n, v, w', e1, e2, e3, e4, ⟨j, last, j1, j2, ⟨⟨q1, q2⟩, q3, q4⟩⟩, e6⟩ := h5 w tape i hf
  refine ⟨n, v, w', e1, e2, e3, e4, ⟨j, last, j1, j2, q3, ⟨fun g hg => ⟨0, ?_⟩, q2⟩, q4⟩, e6⟩
  have h9 := List.all_eq_true.1 q1 g hg
  have h10 : g.status = .finished := by
    revert h9
    cases g.status <;> simp
    all_goals (intro h; cases h)
  exact h10

/-- A tied card of a row whose call can start goroutines. -/
theorem holds_tied_goes (Lk : Looks) {p : Pinned} {s : OpenSpec} {c : OpenClaim} (kinds : List LaidKind) (tests : Bool) (har : Bool × String) (lk : Bool)
    (hc : c.holds p s) (hw : c.wfByText s = true) (htie : c.laidByTextAt Lk p kinds tests)
    (hst : c.start = .entering) (hnb : c.noBlocks = false ∧ c.again = false) (hm : p.checked.prog.mainIs = some (har.1, har.2.toList)) (hn : (!har.1 && har.2.isEmpty && !lk) = false)
    (hl : ∀ f fn, p.checked.prog.funcNamed c.func = some f → p.checked.prog.funcs[f]? = some fn → lk = p.checked.prog.looks [] ∧ ∀ (j : Nat) t, fn.params[j]? = some t → p.checked.prog.wantsStandIn t = false)
    (hg : true = c.goesBy p.checked.prog) :
    Claim7.holds p (.plain s) { stood := { row := c, standIns := [], harness := har, looks := lk }, kinds := [], alts := [], goes := true, laidByText := true, laidKinds := kinds, laidTests := tests, laidLooks := Lk } := by
  have h6 : ∀ r : OpenClaim, Claim7.isSixth { stood := { row := r, standIns := [], harness := har, looks := lk }, kinds := [] } = false := fun r => by simpa [Claim7.isSixth] using hn
  refine ⟨Claim7.tied_new_at Lk kinds tests (Claim7.new_of_sixth hc har lk hst hnb hm (h6 c) hl) hw, fun D hD => ?_, htie, (fun h => by cases h), hg⟩
  cases hD

section
variable {H : Type} {enc : TypeId × Value → H} {P : Program}
theorem trodAll_stays (hl : laidOutB P = true) {W W' : World} {sp' : Nat → Bool} : ∀ {ts : List TypeId} {vs : List Value} {ds : List (DataW H)} {ps : List MemPlace},
    (∀ t ∈ ts, P.readableRec t = true ∧ t < P.types.size) → DataW.TrodAll enc P W 0 (fun _ => true) true ts vs ds ps → (∀ p ∈ ps, W.sameAt W' p) → (∀ p ∈ ps, sp' p.block = true) → DataW.TrodAll enc P W' 0 sp' true ts vs ds ps
  | [], vs, ds, ps, _, h, _, _ => by
    obtain ⟨rfl, rfl, rfl⟩ := trodAll_nil h
    exact trodAll_mk0
  | t :: ts, vs, ds, ps, hr, h, hs, hp => by
    obtain ⟨v, vs', d, ds', p, q, rfl, rfl, rfl, ⟨n, h0⟩, h1⟩ := trodAll_cons h
    obtain ⟨r1, r2⟩ := hr t (by simp)
    exact trodAll_cons_mk ⟨n, DataW.trod_stays (kids_book hl r1) (book_sized r1) (fun e => by cases e) ⟨r2, book_self t⟩ h0 (fun x hx => hs x (List.mem_append_left _ hx)) (fun x hx => hp x (List.mem_append_left _ hx))⟩
      (trodAll_stays hl (fun t ht => hr t (by simp [ht])) h1 (fun x hx => hs x (List.mem_append_right _ hx)) (fun x hx => hp x (List.mem_append_right _ hx)))

theorem post_of_below {f : Func} {s : ChangeSpec} {apart fresh handsOn again : Bool} {W W' : World} {args : Array Value} {v : Value} {ds gs : List (DataW H)} {before pa pv : List MemPlace}
    (hW : DataW.Whole enc P f.params.toList s.vars apart W args.toList ds gs before)
    (hres : ∀ (b : Nat) (sp : Nat → Bool) (hd : Bool), DataW.TrodAll enc P W' b sp hd f.resultTypes.toList (v.resultList f.resultTypes.size) (s.fn H (ds ++ gs)).results [])
    (hargs : ∀ sp : Nat → Bool, (∀ p ∈ before, sp p.block = true) → DataW.TrodAll enc P W' 0 sp true f.params.toList args.toList (s.fn H (ds ++ gs)).args pa)
    (hvars : ∀ sp : Nat → Bool, (∀ p ∈ before, sp p.block = true) → DataW.TrodVars enc P W' sp s.vars (s.fn H (ds ++ gs)).vars pv)
    (hps : before = pa ++ pv) (hb : Below W.heap.size W W')
    (hok : ∀ (j : Nat) (t : TypeId) (r : Value), f.resultTypes[j]? = some t → (v.resultList f.resultTypes.size)[j]? = some r → Value.okWide P W' .any 0 t r) :
    s.post enc P f apart fresh handsOn again W args v W' := by
  have hlt : ∀ p ∈ before, p.block < W.heap.size := fun p hp => hW.lt p hp
  have hold : ∀ p ∈ before, (fun b => decide (b < W.heap.size)) p.block = true := fun p hp => by simpa using hlt p hp
  refine ⟨ds, gs, before, [], pa, pv, hW, hres _ _ _, hargs _ hold, hvars _ hold, World.keptBut_mono (fun p hp => ⟨hp, ?_⟩) (hb.frame (· ∈ before)), fun _ => ?_⟩
  · rw [hps, List.mem_append] at hp
    exact Or.inr hp
  · obtain ⟨_, _, _, _, _, hz, hn⟩ := hW
    refine ⟨hok, _, _, ([] ++ pa) ++ pv, ⟨[] ++ pa, pv, trodAll_append (hargs _ (fun _ _ => rfl)) (hres _ _ _), hvars _ (fun _ _ => rfl), rfl, ?_, ?_⟩, ?_⟩
    · intro b off hp
      have hin : MemPlace.cell b off ∈ before := by rw [hps]; simpa using hp
      rw [hb.frozen (hlt _ hin)]
      exact hz b off hin
    · intro ha
      have := hn ha
      rw [hps] at this
      simpa using this
    · intro p hp _
      rw [hps]
      simpa using hp
theorem sameAt_below {W W' : World} (hb : Below W.heap.size W W') : ∀ {p : MemPlace}, p.block < W.heap.size → W.sameAt W' p
  | .cell b off, h => hb.cell (p := ⟨b, off, none⟩) h
  | .map b, h => hb.block b h
end

/-- A law's last step: it returned true, and nothing that was there has changed. -/
theorem law_post {H : Type} {enc : TypeId × Value → H} {f : Func} {s : ChangeSpec} {W W' : World} {args : Array Value} {ds gs : List (DataW H)} {before : List MemPlace}
    (hr : ∀ t ∈ f.params.toList, Tryz.prog.readableRec t = true ∧ t < Tryz.prog.types.size) (hvars : s.vars = []) (hfn : (s.fn H (ds ++ gs)).results = [.lit (.bool true)] ∧ (s.fn H (ds ++ gs)).args = ds ∧ (s.fn H (ds ++ gs)).vars = []) (hres : f.resultTypes = #[4])
    (hW : DataW.Whole enc Tryz.prog f.params.toList s.vars false W args.toList ds gs before) (hb : Below W.heap.size W W') :
    s.post enc Tryz.prog f false true false false W args (.bool true) W' := by
  obtain ⟨f1, f2, f3⟩ := hfn
  have hlt : ∀ p ∈ before, p.block < W.heap.size := fun p hp => hW.lt p hp
  have hW' := hW
  obtain ⟨p, q, hA, hV, rfl, hfz, hnd⟩ := hW
  rw [hvars] at hV
  obtain ⟨rfl, rfl⟩ := trodVars_none hV
  refine post_of_below (pa := p) (pv := []) hW' ?_ ?_ ?_ rfl hb ?_
  · intro b sp hd
    rw [f1, hres]
    exact trodAll_cons_mk (shut_bool Tryz.underlying4 _) trodAll_mk0
  · intro sp hsp
    rw [f2]
    exact trodAll_stays laidOutT hr hA (fun x hx => sameAt_below hb (hlt x (by simpa using hx))) (fun x hx => hsp x (by simpa using hx))
  · intro sp hsp
    rw [f3, hvars]
    rfl
  · exact ok_one hres rfl (okWide_bool_mk Tryz.underlying4 _)

theorem spot_of_cell {w : World} {a : Addr} {v : Value} (h : w.cell? a = some v) : a = ⟨a.block, a.off, none⟩ := by
  obtain ⟨b, o, s⟩ := a
  cases s with
  | none => rfl
  | some s =>
    unfold World.cell? at h
    simp only at h
    split at h <;> simp at h
/-- An argument that is a slice of bytes. -/
theorem open_bytes {H : Type} {enc : TypeId × Value → H} {W : World} {base b0 : Nat} {r : Reach} {v : Value} {d : DataW H} {p : List MemPlace} (hv : Value.okWide Tryz.prog W r b0 54 v) (h : DataW.Trod enc Tryz.prog W base (fun _ => true) true 54 v d p) :
    ∃ (A : Option Addr) (n c : Nat) (l : Bs), v = .slice A n c ∧ Sl W W.heap.size 1 A n c (l.map u8v) ∧ (A = none → n = 0 ∧ c = 0) := by
  obtain ⟨k, hk⟩ := h
  have hC : Tryz.prog.cellsOf 5 = 1 := by kernel_rfl
  obtain ⟨A, n, c, rfl⟩ : ∃ A n c, v = .slice A n c := okWide_slice Tryz.underlying54 hv
  rcases open_ints Tryz.underlying54 Tryz.underlying5 hC hk with ⟨h0, _⟩ | ⟨a, len, cap, zs, h0, _, hl, hm, hz, _, hcell, hwz⟩
  · simp [Value.cells] at h0
    obtain ⟨rfl, rfl, rfl⟩ := h0
    exact ⟨none, 0, 0, [], rfl, Sl.nil _ _ _, fun _ => ⟨rfl, rfl⟩⟩
  · simp [Value.cells] at h0
    obtain ⟨rfl, rfl, rfl⟩ := h0
    simp only [if_true] at hz
    have hlen : ((zs.take n).map fun z => UInt8.ofNat z.toNat).length = n := by simp; omega
    refine ⟨some a, n, c, (zs.take n).map fun z => UInt8.ofNat z.toNat, rfl, ⟨by rw [List.length_map, hlen, Nat.mul_one], hl, hm, ?_⟩, fun h => by cases h⟩
    by_cases h0 : n = 0
    · exact .inl h0
    · right
      have hfirst := hcell 0 (by omega)
      have ha0 : a.add 0 = a := rfl
      rw [ha0] at hfirst
      have hsp := spot_of_cell hfirst
      refine ⟨a.block, a.off, by rw [← hsp], block_lt_of_cell hfirst, fun j u hu => ?_⟩
      have hj : j < n := by
        have := (List.getElem?_eq_some_iff.1 hu).1
        rw [List.length_map, hlen] at this
        exact this
      have hcj := hcell j (by omega)
      rw [hsp] at hcj
      rw [Addr.add_lit] at hcj
      rw [hcj]
      have hb := range_u8 hwz j
      have e : zs.getD j 0 = zs[j]'(by omega) := by simp [List.getD, List.getElem?_eq_getElem (show j < zs.length by omega)]
      have e2 : zs[j]?.getD 0 = zs[j]'(by omega) := by rw [List.getElem?_eq_getElem (show j < zs.length by omega)]; rfl
      rw [e2] at hb
      rw [e]
      simp only [List.getElem?_map, List.getElem?_take, if_pos hj, List.getElem?_eq_getElem (show j < zs.length by omega), Option.map_some] at hu
      rw [← hu]
      unfold u8v
      congr 2
      simp only [UInt8.toNat_ofNat']
      omega
end Go.Proofs.YtfgecaphhdedcaaGreatDoor
