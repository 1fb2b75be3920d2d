/-
  LAYER 1 (codec), WALKED: the Writer.
  LAYER 1 (codec), WALKED: the Writer's numbers.
  LAYER 1 (codec), WALKED: the Writer's bytes.
  LAYER 1 (codec), WALKED: the Writer's texts.
-/
import Derived.Test.YtfdbanhbegngoaaGreatDoorRdN
import Derived.Test.YtfdbanhbegngoaaGreatDoorCod
import Derived.Test.YtfdbanhbegngoaaGreatDoorCdc
namespace Go.Proofs.YtfdbanhbegngoaaGreatDoor
open Go.RowKit

/-- A writer of bytes, with an error. -/
def Wr (w : World) (B g : Nat) (b : Bs) (e : Int) : Prop :=
  B ≤ g ∧ ∃ v, Blk w g 124 #[v, .int .i64 e] ∧ w.ownsRow B 5 1 v b.length (b.map u8v)

/-- Nothing but rows of bytes and writers has changed. -/
def KeepT (w w' : World) : Prop := ∀ (k : Nat) (o : Obj), w.heap[k]? = some o → (∀ cs fr, o ≠ Obj.cells cs 5 fr) → (∀ cs fr, o ≠ Obj.cells cs 124 fr) → w'.heap[k]? = some o
theorem KeepT.refl (w : World) : KeepT w w := fun _ _ h _ _ => h
theorem KeepT.trans {a b c : World} (h : KeepT a b) (h' : KeepT b c) : KeepT a c := fun k o hk h1 h2 => h' k o (h k o hk h1 h2) h1 h2
theorem KeepT.below {w w' : World} (h : Below w.heap.size w w') : KeepT w w' := fun k _ hk _ _ => (h.block k (Array.getElem?_eq_some_iff.1 hk).1).trans hk
theorem KeepT.blk {w w' : World} {g : Nat} {t : TypeId} {cs : Array Value} (h : KeepT w w') (hk : Blk w g t cs) (h1 : t ≠ 5) (h2 : t ≠ 124) : Blk w' g t cs :=
  h g _ hk (fun cs fr e => by injection e with _ e; exact h1 e) (fun cs fr e => by injection e with _ e; exact h2 e)

set_option maxRecDepth 100000 in
set_option maxHeartbeats 1000000 in
theorem newWriter_any (w : World) :
    Calls Tryz.prog 32 #[] w fun o w' => o = .returned (.pointer (some ⟨w.heap.size, 0, none⟩)) ∧ Wr w' w.heap.size w.heap.size [] 0 ∧ Below w.heap.size w w' := by
  go_enter Tryz.func32, Tryz.ntmps32
  go_wp2_with fail
  go_ret
  exact ⟨rfl, ⟨Nat.le_refl _, _, Blk.new _ _ _, World.ownsRow_nil _ _ _ _⟩, (Below.refl _ _).alloc (Nat.le_refl _) _⟩

set_option maxRecDepth 100000 in
set_option maxHeartbeats 1000000 in
theorem wwrite_err (B g : Nat) (b : Bs) (e e' : Int) (he : e' ≠ 0) (w : World) (h : Wr w B g b e) :
    Calls Tryz.prog 70 #[.pointer (some ⟨g, 0, none⟩), .int .i64 e', .slice none 0 0] w fun o w' => o = .returned (.tuple #[]) ∧ Wr w' B g b (if e = 0 then e' else e) ∧ Below B w w' ∧ KeepT w w' := by
  obtain ⟨hBg, v, hk, ho⟩ := h
  have c1 : w.cell? ⟨g, 1, none⟩ = some (.int .i64 e) := hk.cell 1
  have f1 := hk.frozen 1
  have hne : v.ownBlock ≠ some g := fun hv => by
    rcases ho.2 with ⟨h1, -⟩ | ⟨g', cap, cur, h1, -, hh, -⟩
    · rw [h1] at hv; cases hv
    · rw [h1] at hv
      cases hv
      rw [hk] at hh
      simp at hh
  have heb : (e' != 0) = true := by simp [he]
  by_cases h0 : e = 0
  · subst h0
    clear he
    go_enter Tryz.func70, Tryz.ntmps70
    go_wp2_with fail
    refine bodyPost_ret (results_none rfl _ _ _) rfl ⟨rfl, ⟨hBg, v, hk.set_ 1 _, ownsRow_setCell_other ho hne _⟩, ?_⟩
    refine ⟨(Below.refl _ _).setCell hBg _, fun k o ho' h1 h2 => ?_⟩
    refine (heap_setCell_other w ⟨g, 1, none⟩ k _ (fun e => ?_)).trans ho'
    subst e
    rw [hk] at ho'
    exact h2 _ _ (Option.some.inj ho').symm
  · have h0b : (e != 0) = true := by simp [h0]
    rw [if_neg h0]
    clear he h0
    go_enter Tryz.func70, Tryz.ntmps70
    go_wp2_with fail
    refine bodyPost_ret (results_none rfl _ _ _) rfl ⟨rfl, ⟨hBg, v, hk, ho⟩, Below.refl _ _, KeepT.refl _⟩

/-- Append of any slice onto a row of one's own: where the new row lies. -/
theorem wpList_append_at {P : Program} (w : World) {ops : Array Oper} {rest : List Oper} {o : Oper} {a : Act} {Q : Exit → Act → World → Prop} (hgd : o.guard = none) (s x : Operand) (t : TypeId)
    (ho : o.op = .call { callee := .builtin .append, args := #[s, x], argTypes := #[t, t] })
    (base : Nat) (e : TypeId) (i : TypeInfo) (z : Value) (size bytes : Nat) (ht : P.underlying t = some (.slice e)) (hi : P.info? e = some i) (hz : i.zero = some z)
    (hsize : i.size = size) (hby : i.bytes = bytes) (hzs : z.cells.size = size) (hsz : 0 < size)
    (v : Value) (n : Nat) (xs : List Value) (hs : a.eval s = v) (hown : w.ownsRow base e size v n xs)
    (A : Option Addr) (m c : Nat) (news : List Value) (hx : a.eval x = .slice A m c) (hl : news.length = m * size) (hA : A = none → m = 0 ∧ c = 0) (hnews : ∀ ad, A = some ad → ∀ j u, news[j]? = some u → w.cell? (ad.add j) = some u) (h1 : ∀ u ∈ news, u.oneCell' = true)
    (h63 : n + m ≤ maxLen) (hbytes : (n + m) * bytes ≤ 140737488355328) (hbase : base ≤ w.heap.size)
    (h : ∀ v' w', w'.ownsRow base e size v' (n + m) (xs ++ news) → w.grownBy w' v.ownBlock → (v'.ownBlock = v.ownBlock ∨ v'.ownBlock = some w.heap.size) → wpList P ops Q rest (a.put o.dst v') w') : wpList P ops Q (o :: rest) a w := by
  refine wpList_plain hgd fun _ hK => ?_
  have hr : ∃ v' w', (Builtin.append_ #[t, t] o.type #[v, .slice A m c]).run P w = .ok v' w' ∧ w'.ownsRow base e size v' (n + m) (xs ++ news) ∧ w.grownBy w' v.ownBlock ∧ (v'.ownBlock = v.ownBlock ∨ v'.ownBlock = some w.heap.size) := by
    cases A with
    | none =>
      obtain ⟨rfl, rfl⟩ := hA rfl
      have : news = [] := List.eq_nil_of_length_eq_zero (by simpa using hl)
      subst this
      exact ⟨v, w, run_append_owned_none w base t o.type e i size ht hi v n xs hown, by simpa using hown, ⟨rfl, rfl, rfl, Nat.le_refl _, fun _ _ _ => rfl⟩, .inl rfl⟩
    | some ad =>
      obtain ⟨v', w', h, h2, h3, _, h5⟩ := run_append_own_at (P := P) w base t o.type e i z size bytes ht hi hz hsize hby hzs hsz v n xs hown ad m c news hl (hnews ad rfl) h1 h63 hbytes hbase
      exact ⟨v', w', h, h2, h3, h5⟩
  obtain ⟨v', w', hr, h2, h3, h4⟩ := hr
  unfold Oper.wp execOp
  simp only [ho, resolve, invoke, builtin, Sem.run_bind, Sem.run_pure, Result.andThen_ok, List.map_toArray, List.map_cons, List.map_nil, hs, hx, hr]
  exact hK _ _ (h v' w' h2 h3 h4)

/-- What the parts of a write are. -/
def PartOk (w : World) (v0 : Value) (v : Value) (l : Bs) : Prop :=
  ∃ A n c, v = .slice A n c ∧ Sl w w.heap.size 1 A n c (l.map u8v) ∧ (A = none → n = 0 ∧ c = 0) ∧ ∀ ad, A = some ad → (∃ cs fr, w.heap[ad.block]? = some (.cells cs 5 fr)) ∧ v0.ownBlock ≠ some ad.block

set_option maxRecDepth 100000 in
set_option maxHeartbeats 1000000 in
theorem wwrite_ok (B g : Nat) (b : Bs) (hBg : B ≤ g) (v0 : Value) (pb : Nat) (vs : List (Value × Bs)) (w : World) (hk : Blk w g 124 #[v0, .int .i64 0]) (ho : w.ownsRow B 5 1 v0 b.length (b.map u8v)) (_hBw : B ≤ w.heap.size)
    (hpb : ∃ cs, w.heap[pb]? = some (.cells cs 22 (0, 0))) (hpc : ∀ i (h : i < vs.length), w.cell? ⟨pb, i, none⟩ = some (vs[i].1))
    (hv : ∀ i (h : i < vs.length), PartOk w v0 vs[i].1 vs[i].2) (hlen : b.length + (vs.flatMap (·.2)).length ≤ 1000000000) (hvl : vs.length ≤ 1000) :
    Calls Tryz.prog 70 #[.pointer (some ⟨g, 0, none⟩), .int .i64 0, .slice (some ⟨pb, 0, none⟩) vs.length vs.length] w fun o w' => o = .returned (.tuple #[]) ∧ Wr w' B g (b ++ vs.flatMap (·.2)) 0 ∧ Below B w w' ∧ KeepT w w' := by
  have c1 : w.cell? ⟨g, 1, none⟩ = some (.int .i64 0) := hk.cell 1
  have f1 := hk.frozen 1
  obtain ⟨i0, hi, hz0, hz1, hz2⟩ := info_parts Tryz.info_u8
  obtain ⟨A0, n0, rfl, -, -⟩ := own_shape ho
  have hgl := hk.lt
  have HO := hid ho
  clear ho
  have HPC := hid hpc
  have HV := hid hv
  clear hpc hv
  have HL := hid hlen
  clear hlen
  go_enter Tryz.func70, Tryz.ntmps70
  go_wp2_with fail
  go_loopw [25] (fun iv wr => ∃ (j : Nat) (A : Option Addr) (c' : Nat), iv = .int .i64 j ∧ j ≤ vs.length ∧ Blk wr g 124 #[.slice A (b ++ (vs.take j).flatMap (·.2)).length c', .int .i64 0] ∧ wr.ownsRow B 5 1 (.slice A (b ++ (vs.take j).flatMap (·.2)).length c') (b ++ (vs.take j).flatMap (·.2)).length ((b ++ (vs.take j).flatMap (·.2)).map u8v) ∧ Below B w wr ∧
    (∀ m, m < w.heap.size → m ≠ g → (Value.slice A0 b.length n0).ownBlock ≠ some m → wr.heap[m]? = w.heap[m]?) ∧ (∀ x, (Value.slice A (b ++ (vs.take j).flatMap (·.2)).length c').ownBlock = some x → (Value.slice A0 b.length n0).ownBlock = some x ∨ w.heap.size ≤ x)) (fun iv _ => vs.length - (intOf iv).toNat)
  case atStart =>
    refine ⟨0, A0, n0, rfl, Nat.zero_le _, ?_, ?_, (Below.refl _ _).setCell hBg _, fun m _ h _ => Below.heap_setCell _ _ _ _ h, fun x hx => .inl ?_⟩
    · simpa using hk.set_ 1 (.int .i64 0)
    · have := ownsRow_setCell_other HO.out (a := ⟨g, 1, none⟩) (fun h => by
        rcases HO.out.2 with ⟨h2, -⟩ | ⟨g', cap, cur, h2, -, hh, -⟩
        · rw [h2] at h; cases h
        · rw [h2] at h; cases h; rw [hk] at hh; simp at hh) (.int .i64 0)
      simpa using this
    · simpa using hx
  case round =>
    obtain ⟨j, A, c', rfl, hj, hkr, hor, hBr, hkeep, hown⟩ := hrel
    by_cases h1 : j < vs.length
    · obtain ⟨Ap, np, cp, hpe, hps, hpA, hpn⟩ := HV.out j h1
      obtain ⟨pcs, hpcs⟩ := hpb
      have hcp := HPC.out j h1
      rw [hpe] at hcp
      have hty : ∀ x, (Value.slice A0 b.length n0).ownBlock = some x → ∃ cur, w.heap[x]? = some (.cells cur 5 (0, 0)) := fun x hx => by
        rcases HO.out.2 with ⟨h2, -⟩ | ⟨g', cap, cur, h2, -, hh, -⟩
        · rw [h2] at hx; cases hx
        · rw [h2] at hx; cases hx; exact ⟨cur, hh⟩
      have hpg : pb ≠ g := by rintro rfl; rw [hk] at hpcs; simp at hpcs
      have hpo : (Value.slice A0 b.length n0).ownBlock ≠ some pb := fun hx => by obtain ⟨cur, hc⟩ := hty _ hx; rw [hc] at hpcs; simp at hpcs
      have hgo : (Value.slice A0 b.length n0).ownBlock ≠ some g := fun hx => by obtain ⟨cur, hc⟩ := hty _ hx; rw [hk] at hc; simp at hc
      have hpl := (Array.getElem?_eq_some_iff.1 hpcs).1
      have hcw : wr.cell? ⟨pb, j, none⟩ = some (.slice Ap np cp) := by
        rw [← hcp]; exact World.cell?_of_block (hkeep pb hpl hpg hpo)
      have hN : ∀ ad, Ap = some ad → ∀ i u, (vs[j].2.map u8v)[i]? = some u → wr.cell? (ad.add i) = some u := by
        rintro ad rfl i u hu
        rcases hps.2.2.2 with h0 | ⟨bb, off, h, hbb, hc⟩
        · have : (vs[j].2.map u8v).length = 0 := by rw [hps.1, h0]
          rw [List.eq_nil_of_length_eq_zero this] at hu
          simp at hu
        · cases h
          obtain ⟨⟨cs, fr, hcs⟩, hne⟩ := hpn _ rfl
          have hp : (⟨bb, off, none⟩ : Addr).add i = ⟨bb, off + i, none⟩ := by unfold Addr.add; split <;> simp_all
          rw [hp, ← hc i u hu]
          exact World.cell?_of_block (hkeep bb hbb (by rintro rfl; rw [hk] at hcs; simp at hcs) hne)
      have hgr : (Value.slice A (b ++ (vs.take j).flatMap (·.2)).length c').ownBlock ≠ some g := fun hx => by
        rcases hown g hx with h2 | h2
        · exact hgo h2
        · omega
      have hst : b ++ (vs.take (j + 1)).flatMap (·.2) = (b ++ (vs.take j).flatMap (·.2)) ++ vs[j].2 := by
        rw [List.take_add_one, List.getElem?_eq_getElem h1, List.flatMap_append, List.append_assoc]; simp
      have hle : ((b ++ (vs.take j).flatMap (·.2)) ++ vs[j].2).length ≤ 1000000000 := by
        rw [← hst]
        have h3 : vs.flatMap (·.2) = (vs.take (j + 1)).flatMap (·.2) ++ (vs.drop (j + 1)).flatMap (·.2) := by rw [← List.flatMap_append, List.take_append_drop]
        have := HL.out
        rw [h3, List.length_append] at this
        rw [List.length_append]
        omega
      have hpl1 : (vs[j].2.map u8v).length = np * 1 := hps.1
      have HST := hid hst
      have hnp : vs[j].2.length = np := by simpa using hpl1
      rw [List.length_append, hnp] at hle
      clear hst
      generalize b ++ (vs.take j).flatMap (·.2) = acc at *
      generalize vs[j].2 = l at *
      have HN := hid hN; have HOR := hid hor; have HOW := hid hown; have HKP := hid hkeep; have HGR := hid hgr; have HL1 := hid hpl1; have HPA := hid hpA
      clear hN hor hown hkeep hgr hpl1 hpn hps hpe hcp hpA hty hpo hgo hpcs
      have hsz := hBr.size
      have hBs : B ≤ wr.heap.size := by omega
      have g0 := hkr.cell 0
      have HG0 := hid (show wr.cell? ⟨g, 0, none⟩ = some (.slice A acc.length c') from g0)
      have hg0 := HG0.out
      have h1i : (j : Int) < (vs.length : Int) := by omega
      clear g0
      go_wp2_with (at_builtin; refine wpList_append_at _ rfl (.tmp 33) (.tmp 34) _ rfl B 5 i0 (.int .u8 0) 1 1 Tryz.underlying22 hi hz0 hz1 hz2 rfl (by decide) (.slice A acc.length c') acc.length (acc.map u8v) rfl HOR.out Ap np cp (l.map u8v) rfl HL1.out HPA.out HN.out (by simp [u8v, Value.oneCell']) (by unfold maxLen; omega) (by omega) hBs ?_; intro v1 w1 ho1 hg1 hat1; obtain ⟨A1, c1', rfl, -, -⟩ := own_shape ho1; have hk1 := (hg1.block g hkr.lt (fun h => HGR.out h.symm)).trans hkr; have f10 := Blk.frozen hk1 0; have c10 : w1.cell? ⟨g, 0, none⟩ = some (.slice A acc.length c') := Blk.cell hk1 0; have HO1 := hid ho1; have HG1 := hid hg1; have HAT := hid hat1; clear ho1 hg1 hat1)
      go_roundw
      case rel =>
        have hal : (acc ++ l).length = acc.length + np := by rw [List.length_append, hnp]
        have hn1 : (Value.slice A1 (acc.length + np) c1').ownBlock ≠ some g := fun hx => by
          rcases HAT.out with h2 | h2
          · exact HGR.out (h2.symm.trans hx)
          · rw [h2] at hx; cases hx; exact absurd hkr.lt (Nat.lt_irrefl _)
        refine ⟨j + 1, A1, c1', by go_num, by omega, ?_, ?_, (Below.grown hBr HG1.out hBs (fun x hx => (HOR.out.lt x hx).1)).setCell hBg _, fun m hm1 hm2 hm3 => ?_, ?_⟩
        · rw [HST.out, hal]
          exact Blk.set_ hk1 0 _
        · rw [HST.out, hal, List.map_append]
          exact ownsRow_setCell_other HO1.out hn1 _
        · refine (Below.heap_setCell _ _ _ _ hm2).trans ((HG1.out.block m (by omega) (fun h => ?_)).trans (HKP.out m hm1 hm2 hm3))
          rcases HOW.out m h.symm with h2 | h2
          · exact hm3 h2
          · omega
        · rw [HST.out, hal]
          intro x hx
          rcases HAT.out with h2 | h2
          · exact HOW.out x (h2.symm.trans hx)
          · rw [h2] at hx; cases hx; exact .inr hsz
      case measure => simp [intOf]; omega
    · obtain rfl : j = vs.length := by omega
      have h1i : ¬ ((vs.length : Int) < (vs.length : Int)) := by omega
      rw [List.take_length] at hkr hor
      have HOR := hid hor
      have HKT := hid (show KeepT w wr from fun k o ho' h1 h2 => by
        have hkl := (Array.getElem?_eq_some_iff.1 ho').1
        refine (hkeep k hkl (fun e => ?_) (fun e => ?_)).trans ho'
        · subst e
          rw [hk] at ho'
          exact h2 _ _ (Option.some.inj ho').symm
        · rcases HO.out.2 with ⟨h3, -⟩ | ⟨g', cap, cur, h3, -, hh, -⟩
          · rw [h3] at e; cases e
          · rw [h3] at e; cases e
            rw [hh] at ho'
            exact h1 _ _ (Option.some.inj ho').symm)
      clear hor hown hkeep h1
      go_wp2_with fail
      go_end0
      exact ⟨rfl, ⟨hBg, _, hkr, HOR.out⟩, hBr, HKT.out⟩
end Go.Proofs.YtfdbanhbegngoaaGreatDoor
namespace Go.Proofs.YtfdbanhbegngoaaGreatDoor
open Go.RowKit

set_option maxRecDepth 100000 in
set_option maxHeartbeats 1000000 in
theorem wwrite_skip (B g : Nat) (b : Bs) (e e' : Int) (he : e ≠ 0) (ps : Value) (w : World) (h : Wr w B g b e) :
    Calls Tryz.prog 70 #[.pointer (some ⟨g, 0, none⟩), .int .i64 e', ps] w fun o w' => o = .returned (.tuple #[]) ∧ w = w' := by
  obtain ⟨_, v, hk, _⟩ := h
  have c1 : w.cell? ⟨g, 1, none⟩ = some (.int .i64 e) := hk.cell 1
  have h0b : (e != 0) = true := by simp [he]
  clear he
  go_enter Tryz.func70, Tryz.ntmps70
  go_wp2_with fail
  refine bodyPost_ret (results_none rfl _ _ _) rfl ⟨rfl, rfl⟩

/-- A fresh row is a part. -/
theorem PartOk.fresh {w0 w : World} {v0 : Value} {n0 : Nat} {xs0 : List Value} {B : Nat} {v : Value} {l : Bs} (h0 : w0.ownsRow B 5 1 v0 n0 xs0) (h : w.ownsRow w0.heap.size 5 1 v l.length (l.map u8v)) : PartOk w v0 v l := by
  obtain ⟨A, c, rfl, hs, hA⟩ := own_shape h
  refine ⟨A, _, c, rfl, hs, fun hn => ?_, fun ad ha => ⟨(hA ad ha).imp fun _ h => ⟨_, h⟩, fun hx => ?_⟩⟩
  · rcases h.2 with ⟨h1, h2⟩ | ⟨g', cap, cur, h2, -⟩
    · injection h1 with _ _ h1c; exact ⟨h2, h1c⟩
    · cases h2; cases hn
  · have h3 := (h0.lt _ hx).2
    rcases h.2 with ⟨h1, -⟩ | ⟨g', cap, cur, h2, hb, -⟩
    · injection h1 with h1a; rw [h1a] at ha; cases ha
    · cases h2; cases ha
      exact absurd h3 (Nat.not_lt.2 hb)

theorem wwrite_one (B g : Nat) (b : Bs) (e : Int) (l : Bs) (w0 W : World) (h : Wr w0 B g b e) (hBw : B ≤ w0.heap.size) (hB : Below w0.heap.size w0 W) (pb : Nat) (v : Value) (hpb : Blk W pb 22 #[v])
    (hown : W.ownsRow w0.heap.size 5 1 v l.length (l.map u8v)) (hlen : b.length + l.length ≤ 1000000000) :
    Calls Tryz.prog 70 #[.pointer (some ⟨g, 0, none⟩), .int .i64 0, .slice (some ⟨pb, 0, none⟩) 1 1] W fun o w' => o = .returned (.tuple #[]) ∧ Wr w' B g (if e = 0 then b ++ l else b) e ∧ Below B w0 w' ∧ KeepT w0 w' := by
  obtain ⟨hBg, v0, hk, ho⟩ := h
  have hk2 : Blk W g 124 #[v0, .int .i64 e] := (hB.block g hk.lt).trans hk
  have ho2 : W.ownsRow B 5 1 v0 b.length (b.map u8v) := ho.kept (gb_below hB (some w0.heap.size)) (.inr (fun h => by have := (ho.lt _ h).2; omega))
  by_cases h0 : e = 0
  · subst h0
    refine (wwrite_ok B g b hBg v0 pb [(v, l)] W hk2 ho2 (by have := hB.size; omega) ⟨_, hpb⟩ (fun i h => ?_) (fun i h => ?_) (by simpa using hlen) (by simp)).mono ?_
    · obtain rfl : i = 0 := by simpa using h
      exact hpb.cell 0
    · obtain rfl : i = 0 := by simpa using h
      exact PartOk.fresh ho hown
    · rintro o w' ⟨rfl, h1, h2, h3⟩
      refine ⟨rfl, by simpa using h1, (hB.mono hBw).trans h2, (KeepT.below hB).trans h3⟩
  · refine (wwrite_skip B g b e 0 h0 _ W ⟨hBg, v0, hk2, ho2⟩).mono ?_
    rintro o w' ⟨rfl, rfl⟩
    rw [if_neg h0]
    exact ⟨rfl, ⟨hBg, v0, hk2, ho2⟩, hB.mono hBw, KeepT.below hB⟩

set_option maxRecDepth 100000 in
set_option maxHeartbeats 1000000 in
theorem wnumberK (B g : Nat) (b : Bs) (e : Int) (u : Nat) (hu : u < 9223372036854775808) (hb : b.length ≤ 999999000) (w : World) (hBw : B ≤ w.heap.size) (h : Wr w B g b e) :
    Calls Tryz.prog 33 #[.pointer (some ⟨g, 0, none⟩), .int .i64 u] w fun o w' => o = .returned (.tuple #[]) ∧ Wr w' B g (if e = 0 then b ++ natL u else b) e ∧ Below B w w' ∧ KeepT w w' := by
  have hw : IntKind.u64.wrap (u : Int) = (u : Int) := wrap_u64 u (by omega)
  have HN := hid (natural_any u (by omega) w)
  have hu0 : ¬ ((u : Int) < 0) := by omega
  have hl := natL_ten (u := u) (by omega)
  have HWW := hid (fun (W : World) hB pb v hpb hown => wwrite_one B g b e (natL u) w W h hBw hB pb v hpb hown (by omega))
  clear h
  generalize (if e = 0 then b ++ natL u else b) = R at *
  go_enter Tryz.func33, Tryz.ntmps33
  go_wp2_with (first | (go_at_call 71; refine HN.out.mono ?_; rintro o w1 ⟨v, rfl, hown, hB1⟩; obtain ⟨A, c, rfl, hs, hA⟩ := own_shape hown; have HS := hid hs; have HOW := hid hown; have HB1 := hid hB1; clear hs hown hB1 hA) | (go_at_call 70; refine (HWW.out _ (HB1.out.alloc HB1.out.size _) _ _ (Blk.new _ _ _) (HOW.out.alloc _)).mono ?_; rintro o w2 ⟨rfl, hr1, hr2⟩; have HR1 := hid hr1; have HR2 := hid hr2; clear hr1 hr2))
  go_end0
  exact ⟨rfl, HR1.out, HR2.out⟩
theorem wnumber_any (B g : Nat) (b : Bs) (e : Int) (u : Nat) (hu : u < 9223372036854775808) (hb : b.length ≤ 999999000) (w : World) (hBw : B ≤ w.heap.size) (h : Wr w B g b e) :
    Calls Tryz.prog 33 #[.pointer (some ⟨g, 0, none⟩), .int .i64 u] w fun o w' => o = .returned (.tuple #[]) ∧ Wr w' B g (if e = 0 then b ++ natL u else b) e ∧ Below B w w' :=
  (wnumberK B g b e u hu hb w hBw h).mono fun _ _ ⟨h1, h2, h3, _⟩ => ⟨h1, h2, h3⟩
end Go.Proofs.YtfdbanhbegngoaaGreatDoor
namespace Go.Proofs.YtfdbanhbegngoaaGreatDoor
open Go.RowKit

set_option maxRecDepth 100000 in
set_option maxHeartbeats 1000000 in
theorem wbytes_any (B g : Nat) (b : Bs) (hb : b.length ≤ 1000000000) (w : World) (h : Wr w B g b 0) :
    Calls Tryz.prog 37 #[.pointer (some ⟨g, 0, none⟩)] w fun o w' => ∃ v, o = .returned (.tuple #[v, .int .i64 0]) ∧ w'.ownsRow w.heap.size 5 1 v b.length (b.map u8v) ∧ Below w.heap.size w w' := by
  obtain ⟨i0, hi, hz0, hz1, hz2⟩ := info_parts Tryz.info_u8
  obtain ⟨hBg, v0, hk, ho⟩ := h
  obtain ⟨A, c, rfl, hs, hA⟩ := own_shape ho
  have hAn : A = none → b.length = 0 ∧ c = 0 := fun hn => by
    rcases ho.2 with ⟨h1, h2⟩ | ⟨g', cap, cur, h2, -⟩
    · injection h1 with _ _ h1c; exact ⟨h2, h1c⟩
    · cases h2; cases hn
  have hcel : ∀ ad, A = some ad → ∀ j u, (b.map u8v)[j]? = some u → (w.alloc (.cells #[] 5)).cell? (ad.add j) = some u := by
    rintro ad rfl j u hu
    rcases (hs.below ((Below.refl w.heap.size w).alloc (Nat.le_refl _) (.cells #[] 5))).2.2.2 with h0 | ⟨bb, off, h, -, hc⟩
    · rw [show b = [] from List.eq_nil_of_length_eq_zero h0] at hu
      simp at hu
    · cases h
      have hp : (⟨bb, off, none⟩ : Addr).add j = ⟨bb, off + j, none⟩ := by unfold Addr.add; split <;> simp_all
      rw [hp]
      exact hc j u hu
  have HC := hid hcel
  have HAN := hid hAn
  have hB : Below w.heap.size w (w.alloc (.cells #[] 5)) := (Below.refl _ _).alloc (Nat.le_refl _) _
  have HO := hid (show (w.alloc (.cells #[] 5)).ownsRow w.heap.size 5 1 (.slice (some ⟨w.heap.size, 0, none⟩) 0 0) 0 [] from World.ownsRow_lit w #[] 0 (Nat.le_refl _) (by unfold maxLen; omega) rfl)
  have c0 : w.cell? ⟨g, 0, none⟩ = some (.slice A b.length c) := hk.cell 0
  have c1 : w.cell? ⟨g, 1, none⟩ = some (.int .i64 0) := hk.cell 1
  have c02 : (w.alloc (.cells #[] 5)).cell? ⟨g, 0, none⟩ = some (.slice A b.length c) := (hk.alloc _).cell 0
  clear hcel hAn hs hA ho
  go_enter Tryz.func37, Tryz.ntmps37
  go_wp2_with (at_builtin; refine wpList_append_gen _ rfl (.tmp 17) (.tmp 21) _ rfl w.heap.size 5 i0 (.int .u8 0) 1 1 Tryz.underlying22 hi hz0 hz1 hz2 rfl (by decide) (.slice (some ⟨w.heap.size, 0, none⟩) 0 0) 0 [] rfl HO.out A b.length c (b.map u8v) rfl (by simp) HAN.out HC.out (by simp [u8v, Value.oneCell']) (by unfold maxLen; omega) (by omega) (by simp) ?_; intro v1 w1 ho hg; obtain ⟨A1, c1, rfl, -, -⟩ := own_shape ho; have HO1 := hid ho; have HG := hid hg; clear hg ho)
  have hB1 : Below w.heap.size w w1 := Below.grown hB HG.out (by simp) (fun j e => (HO.out.lt j e).1)
  have ho1 := HO1.out
  rw [Nat.zero_add, List.nil_append] at ho1
  go_ret2
  exact ⟨_, rfl, ho1, hB1⟩
end Go.Proofs.YtfdbanhbegngoaaGreatDoor
namespace Go.Proofs.YtfdbanhbegngoaaGreatDoor
open Go.RowKit

theorem Sl.ofStr (w : World) (s : ByteArray) (cap : Nat) (h1 : s.size ≤ cap) (h2 : cap ≤ maxLen) (fr : Nat × Nat) :
    Sl (w.alloc (.cells (bytesRow s cap) 5 fr)) (w.heap.size + 1) 1 (some ⟨w.heap.size, 0, none⟩) s.size cap (s.data.toList.map u8v) := by
  refine ⟨by rw [List.length_map, Nat.mul_one, ba_size], h1, h2, .inr ⟨_, 0, rfl, by omega, fun j u hu => ?_⟩⟩
  have hj : j < s.data.size := by
    have := (List.getElem?_eq_some_iff.1 hu).1
    simpa using this
  have hh := heap_alloc_new w (.cells (bytesRow s cap) 5 fr)
  rw [Nat.zero_add, cell_of_row _ _ _ _ _ _ hh, bytesRow_at s cap j hj]
  simp only [List.getElem?_map, Array.getElem?_toList, Array.getElem?_eq_getElem hj, Option.map_some] at hu
  exact hu

theorem wwrite_many (B g : Nat) (b : Bs) (e : Int) (vs : List (Value × Bs)) (w0 W : World) (h : Wr w0 B g b e) (hBw : B ≤ w0.heap.size) (hB : Below w0.heap.size w0 W) (pb : Nat) (hpb : Blk W pb 22 (vs.map (·.1)).toArray)
    (hv : ∀ v0 n0 xs0, w0.ownsRow B 5 1 v0 n0 xs0 → ∀ i (h : i < vs.length), PartOk W v0 vs[i].1 vs[i].2) (hlen : b.length + (vs.flatMap (·.2)).length ≤ 1000000000) (hvl : vs.length ≤ 1000) :
    Calls Tryz.prog 70 #[.pointer (some ⟨g, 0, none⟩), .int .i64 0, .slice (some ⟨pb, 0, none⟩) vs.length vs.length] W fun o w' => o = .returned (.tuple #[]) ∧ Wr w' B g (if e = 0 then b ++ vs.flatMap (·.2) else b) e ∧ Below B w0 w' ∧ KeepT w0 w' := by
  obtain ⟨hBg, v0, hk, ho⟩ := h
  have hk2 : Blk W g 124 #[v0, .int .i64 e] := (hB.block g hk.lt).trans hk
  have ho2 : W.ownsRow B 5 1 v0 b.length (b.map u8v) := ho.kept (gb_below hB (some w0.heap.size)) (.inr (fun h => by have := (ho.lt _ h).2; omega))
  by_cases h0 : e = 0
  · subst h0
    refine (wwrite_ok B g b hBg v0 pb vs W hk2 ho2 (by have := hB.size; omega) ⟨_, hpb⟩ (fun i h => ?_) (hv v0 _ _ ho) hlen hvl).mono ?_
    · rw [hpb.cell i]
      simp [h]
    · rintro o w' ⟨rfl, h1, h2, h3⟩
      exact ⟨rfl, by simpa using h1, (hB.mono hBw).trans h2, (KeepT.below hB).trans h3⟩
  · refine (wwrite_skip B g b e 0 h0 _ W ⟨hBg, v0, hk2, ho2⟩).mono ?_
    rintro o w' ⟨rfl, rfl⟩
    rw [if_neg h0]
    exact ⟨rfl, ⟨hBg, v0, hk2, ho2⟩, hB.mono hBw, KeepT.below hB⟩

/-- The two parts of a text: its length, freshly written; its bytes, freshly made of a string. -/
theorem wtext_write (B g : Nat) (b : Bs) (e : Int) (s : ByteArray) (hs : s.size ≤ 16777216) (hb : b.length ≤ 900000000) (w w1 : World) (hBw : B ≤ w.heap.size) (h : Wr w B g b e) (hB1 : Below w.heap.size w w1) (v : Value)
    (hown : w1.ownsRow w.heap.size 5 1 v (natL s.size).length ((natL s.size).map u8v)) (cap : Nat) (h1 : s.size ≤ cap) (h2 : cap ≤ maxLen) (fr : Nat × Nat) :
    Calls Tryz.prog 70 #[.pointer (some ⟨g, 0, none⟩), .int .i64 0, .slice (some ⟨w1.heap.size + 1, 0, none⟩) 2 2] ((w1.alloc (.cells (bytesRow s cap) 5 fr)).alloc (.cells #[v, .slice (some ⟨w1.heap.size, 0, none⟩) s.size cap] 22)).drew
      fun o w' => o = .returned (.tuple #[]) ∧ Wr w' B g (if e = 0 then b ++ txtL s.data.toList else b) e ∧ Below B w w' ∧ KeepT w w' := by
  have hls : s.data.toList.length = s.size := (ba_size s).symm
  have hT : txtL s.data.toList = natL s.size ++ s.data.toList := by unfold txtL; rw [hls]
  have hl := natL_ten (u := s.size) (by omega)
  have hsz := hB1.size
  have b2 : Below w1.heap.size w1 ((w1.alloc (.cells (bytesRow s cap) 5 fr)).alloc (.cells #[v, .slice (some ⟨w1.heap.size, 0, none⟩) s.size cap] 22)).drew := (((Below.refl _ _).alloc (Nat.le_refl _) _).alloc (by simp) _).drew
  have b3 : Below (w1.heap.size + 1) (w1.alloc (.cells (bytesRow s cap) 5 fr)) ((w1.alloc (.cells (bytesRow s cap) 5 fr)).alloc (.cells #[v, .slice (some ⟨w1.heap.size, 0, none⟩) s.size cap] 22)).drew := ((Below.refl _ _).alloc (by simp) _).drew
  have key := wwrite_many B g b e [(v, natL s.size), (.slice (some ⟨w1.heap.size, 0, none⟩) s.size cap, s.data.toList)] w _ h hBw (hB1.trans (b2.mono hsz)) (w1.heap.size + 1) (Blk.drew (Blk.new_ _ _ _ (by simp)))
    (fun v0 n0 xs0 ho i hi => by
      rcases i with _ | _ | i
      · exact PartOk.fresh ho (hown.kept (gb_below b2 (some w1.heap.size)) (.inr (fun h => by have := (hown.lt _ h).2; omega)))
      · refine ⟨some ⟨w1.heap.size, 0, none⟩, s.size, cap, rfl, ((Sl.ofStr w1 s cap h1 h2 fr).below b3).more (by simp), (fun h => by cases h), fun ad ha => ?_⟩
        cases ha
        refine ⟨⟨bytesRow s cap, fr, ?_⟩, fun hx => ?_⟩
        · exact (b3.block w1.heap.size (by omega)).trans (heap_alloc_new w1 _)
        · have : w1.heap.size < w.heap.size := (ho.lt _ hx).2
          omega
      · simp at hi; omega) (by simp; omega) (by simp)
  simp only [List.flatMap_cons, List.flatMap_nil, List.append_nil, ← hT] at key
  exact key

set_option maxRecDepth 100000 in
set_option maxHeartbeats 1000000 in
theorem wtextK (B g : Nat) (b : Bs) (e : Int) (s : ByteArray) (hs : s.size ≤ 16777216) (hb : b.length ≤ 900000000) (w : World) (hBw : B ≤ w.heap.size) (h : Wr w B g b e) :
    Calls Tryz.prog 36 #[.pointer (some ⟨g, 0, none⟩), .string s] w fun o w' => o = .returned (.tuple #[]) ∧ Wr w' B g (if e = 0 then b ++ txtL s.data.toList else b) e ∧ Below B w w' ∧ KeepT w w' := by
  have hw : IntKind.u64.wrap (s.size : Int) = (s.size : Int) := wrap_u64 s.size (by omega)
  have HN := hid (natural_any s.size (by omega) w)
  have hcv2 := fun w s => run_bytes_of_string (P := Tryz.prog) w 9 22 5 s Tryz.underlying9 Tryz.underlying22 Tryz.underlying5
  have hu0 : ¬ ((16777216 : Int) < (s.size : Int)) := by omega
  have hl := natL_ten (u := s.size) (by omega)
  have HWW := hid (fun w1 v hB1 hown cap h1 h2 fr => wtext_write B g b e s hs hb w w1 hBw h hB1 v hown cap h1 h2 fr)
  clear h
  generalize (if e = 0 then b ++ txtL s.data.toList else b) = R at *
  go_enter Tryz.func36, Tryz.ntmps36
  go_wp2_with (first | (go_at_call 71; refine HN.out.mono ?_; rintro o w1 ⟨v, rfl, hown, hB1⟩; obtain ⟨A, c, rfl, hs, hA⟩ := own_shape hown; have HS := hid hs; have HOW := hid hown; have HB1 := hid hB1; clear hs hown hB1 hA) | (go_at_call 70; refine (HWW.out _ _ HB1.out HOW.out _ (grownCap_ge _ _ _ _) (grownCap_le_maxLen _ _ _ _ (by unfold maxLen; omega)) _).mono ?_; rintro o w2 ⟨rfl, hr1, hr2⟩; have HR1 := hid hr1; have HR2 := hid hr2; clear hr1 hr2))
  go_end0
  exact ⟨rfl, HR1.out, HR2.out⟩
theorem wtext_any (B g : Nat) (b : Bs) (e : Int) (s : ByteArray) (hs : s.size ≤ 16777216) (hb : b.length ≤ 900000000) (w : World) (hBw : B ≤ w.heap.size) (h : Wr w B g b e) :
    Calls Tryz.prog 36 #[.pointer (some ⟨g, 0, none⟩), .string s] w fun o w' => o = .returned (.tuple #[]) ∧ Wr w' B g (if e = 0 then b ++ txtL s.data.toList else b) e ∧ Below B w w' :=
  (wtextK B g b e s hs hb w hBw h).mono fun _ _ ⟨h1, h2, h3, _⟩ => ⟨h1, h2, h3⟩
end Go.Proofs.YtfdbanhbegngoaaGreatDoor
