/-
  LAYER 34 (lock), WALKED: slices.Insert at holders, its four roads.
  LAYER 34 (lock): slices.Insert at holders, out of the library's contracts: a row of one's own takes one more.
  LAYER 34 (lock), WALKED: slices.Delete at holders: a row of one's own loses one.
  LAYER 34 (lock), WALKED: others, the two closures of Acquire.
-/
import Derived.Test.YtfgecaphhdedcaaGreatDoorZ9
import Derived.Shelf.Spec.SlicesInsertGrow
import Derived.Test.YtfgecaphhdedcaaGreatDoorZ10
import Derived.Laws.EntriesVeiled
namespace Go.Proofs.YtfgecaphhdedcaaGreatDoor
open Go.RowKit Go.Lib

theorem Tryz.info_lin0 : (Tryz.prog.info? 42).map (fun i => (i.zero, i.size, i.bytes)) = some (some (.string ⟨#[]⟩), 1, 16) := by kernel_rfl
set_option maxHeartbeats 4000000 in
set_option maxRecDepth 100000 in
theorem lkIns_shift (b off n c i vb voff m vc : Nat) (cs vs : List Value) (w : World) (hi : i < n) (hm : 0 < m) (hroom : n + m ≤ c) (hc63 : c ≤ 9223372036854775807) (hvb : vb ≠ b)
    (hcl : cs.length = n) (hvl : vs.length = m)
    (hcs : ∀ j v, cs[j]? = some v → w.cell? ⟨b, off + j, none⟩ = some v) (hsp : ∀ j, j < n + m → (w.cell? ⟨b, off + j, none⟩).isSome = true) (hfz : ∀ j, j < n + m → w.frozen? ⟨b, off + j, none⟩ = false)
    (hvs : ∀ j v, vs[j]? = some v → w.cell? ⟨vb, voff + j, none⟩ = some v) (h1c : ∀ v ∈ cs, v.oneCell' = true) (h1v : ∀ v ∈ vs, v.oneCell' = true)
    (tA tB : TypeId) (kA kB : Nat) (hsa : w.shape? vb = some (tA, kA)) (hsb : w.shape? b = some (tB, kB)) (hkB : kB ≠ 0) (hfa : w.frozen? ⟨vb, voff, none⟩ = false) (hfe : w.frozen? ⟨vb, kA, none⟩ = false) :
    Calls Tryz.prog 48 #[.slice (some ⟨b, off, none⟩) n c, .int .i64 i, .slice (some ⟨vb, voff, none⟩) m vc] w fun e w' =>
      e = .returned (.slice (some ⟨b, off, none⟩) (n + m) c) ∧ w' = (w.drew.setCells b (off + (i + m)) (cs.drop i)).setCells b (off + i) vs := by
  have hz1 : ¬ ((m : Int) = 0) := by omega
  have hz2 : ¬ ((i : Int) = (n : Int)) := by omega
  have hsz : (Tryz.prog.info? 42).map (·.size) = some 1 := by
    obtain ⟨i0, hi0, h0, h1, h2⟩ := info_parts Tryz.info_lin0
    rw [hi0]; simp [h1]
  have hov : ∀ lb cb, (callFunc 75 #[.slice (some ⟨vb, voff, none⟩) m vc, .slice (some ⟨b, off + (i + m), none⟩) lb cb]).run Tryz.prog w = .ok (.value (.bool false)) w := fun lb cb => by
    rw [run_callFunc_extern Tryz.func75 (by kernel_rfl) (by kernel_rfl) (by kernel_rfl) (e := Extern.SlicesOverlaps.overlaps #[22, 22] #[4]) (by kernel_rfl),
      Lib.run_overlaps_apart w 22 4 42 Tryz.underlying22 1 Tryz.sizeOf42 ⟨vb, voff, none⟩ ⟨b, off + (i + m), none⟩ m vc lb cb hvb tA tB kA kB hsa hsb hkB hfa hfe]
    rfl
  have hdl : (cs.drop i).length = n - i := by rw [List.length_drop, hcl]
  have hw1 : IntKind.i64.wrap ((i : Int) + (m : Int)) = (i : Int) + (m : Int) := by rw [IntKind.wrap_i64]; omega
  have hb1 : (0 : Int) ≤ (i : Int) + (m : Int) := by omega
  have hin : i ≤ n := by omega
  have htn : ((i : Int) + (m : Int)).toNat = i + m := by omega
  have hb2 : ¬ (c = i + m) := by omega
  have hb3 : (i : Int) ≤ (n : Int) + (m : Int) := by omega
  have hb4 : ¬ (c = i) := by omega
  have hcp1 : ∀ ty dc sc, (Builtin.copy_ #[22, 22] ty #[.slice (some ⟨b, off + (i + m), none⟩) (n + m - (i + m)) dc, .slice (some ⟨b, off + i, none⟩) (n + m - i) sc]).run Tryz.prog w.drew = .ok (goInt (cs.drop i).length) (w.drew.setCells b (off + (i + m)) (cs.drop i)) := fun ty dc sc =>
    run_copy_cells w.drew _ _ ty 42 b (off + (i + m)) (n + m - (i + m)) dc ⟨b, off + i, none⟩ (n + m - i) sc (cs.drop i) Tryz.underlying22 hsz (by rw [hdl]; simp only [Nat.min_def]; split <;> omega)
      (fun j v hj => by rw [Addr.add_lit, Nat.add_assoc]; exact hcs (i + j) v (by rwa [List.getElem?_drop] at hj))
      (fun j hj => by rw [Nat.add_assoc]; exact hsp _ (by omega)) (fun j hj => by rw [Nat.add_assoc]; exact hfz _ (by omega)) (fun v hv => h1c v (List.mem_of_mem_drop hv))
  obtain ⟨W1, hW1⟩ : ∃ W1, W1 = w.drew.setCells b (off + (i + m)) (cs.drop i) := ⟨_, rfl⟩
  have hsp1 : ∀ k, k < n + m → (W1.cell? ⟨b, off + k, none⟩).isSome = true := fun k hk => by
    rw [hW1]
    exact isSome_setCells b _ _ _ (fun j hj => by rw [Nat.add_assoc]; exact hsp _ (by omega)) _ (hsp k hk)
  have hcp2 : ∀ (W : World), (∀ x, W.cell? x = W1.cell? x) → (∀ x, W.frozen? x = W1.frozen? x) → ∀ ty dc, (Builtin.copy_ #[22, 22] ty #[.slice (some ⟨b, off + i, none⟩) (n + m - i) dc, .slice (some ⟨vb, voff, none⟩) m vc]).run Tryz.prog W = .ok (goInt vs.length) (W.setCells b (off + i) vs) := fun W hWc hWf ty dc =>
    run_copy_cells W _ _ ty 42 b (off + i) (n + m - i) dc ⟨vb, voff, none⟩ m vc vs Tryz.underlying22 hsz (by rw [hvl]; simp only [Nat.min_def]; split <;> omega)
      (fun j v hj => by
        rw [Addr.add_lit, hWc, hW1, World.cell?_setCells_out b _ _ _ _ (fun h _ => absurd h hvb)]
        exact hvs j v hj)
      (fun j hj => by rw [hWc, Nat.add_assoc]; exact hsp1 _ (by omega)) (fun j hj => by rw [hWf, hW1, World.frozen?_setCells, Nat.add_assoc]; exact hfz _ (by omega)) h1v
  rw [← hW1] at hcp1
  go_enter Tryz.func48, Tryz.ntmps48
  go_wp2_with (simp only [hov])
  go_region_law (refine step_copy_runI rfl _ _ 22 22 rfl _ _ (by simp [Act.eval, Act.put]) (by simp [Act.eval, Act.put]) (hcp1 _ _ _) ?_)
  go_wp2_with (at_builtin; refine wpList_copy_runI _ rfl _ _ 22 22 rfl _ _ rfl rfl (hcp2 _ (fun _ => rfl) (fun _ => rfl) _ _) ?_)
  go_ret
  first | exact ⟨rfl, rfl⟩ | exact ⟨rfl, by rw [hW1]⟩

set_option maxHeartbeats 4000000 in
set_option maxRecDepth 100000 in
theorem lkIns_end_room (b off n c vb voff m vc : Nat) (vs : List Value) (w : World) (hm : 0 < m) (hroom : n + m ≤ c)
    (hvl : vs.length = m) (hsp : ∀ j, j < m → (w.cell? ⟨b, off + n + j, none⟩).isSome = true) (hfz : ∀ j, j < m → w.frozen? ⟨b, off + n + j, none⟩ = false)
    (hvs : ∀ j v, vs[j]? = some v → w.cell? ⟨vb, voff + j, none⟩ = some v) (h1v : ∀ v ∈ vs, v.oneCell' = true) :
    Calls Tryz.prog 48 #[.slice (some ⟨b, off, none⟩) n c, .int .i64 n, .slice (some ⟨vb, voff, none⟩) m vc] w fun e w' =>
      e = .returned (.slice (some ⟨b, off, none⟩) (n + m) c) ∧ w' = w.setCells b (off + n) vs := by
  have hz1 : ¬ ((m : Int) = 0) := by omega
  have hsrc : Src Tryz.prog 1 22 (.slice (some ⟨vb, voff, none⟩) m vc) m vs w := Src.ofSlice w Tryz.underlying22 ⟨vb, voff, none⟩ m vc vs (by omega) (fun j u hj => by rw [Addr.add_lit]; exact hvs j u hj) h1v
  go_enter Tryz.func48, Tryz.ntmps48
  go_wp2_with (at_builtin; refine wpList_append_room1 _ rfl _ _ 22 22 rfl 42 _ _ Tryz.underlying22 Tryz.info_lin0 b off n c rfl _ rfl m vs hsrc hroom (by rw [hvl]; exact hsp) (by rw [hvl]; exact hfz) ?_)
  go_ret
  exact ⟨rfl, rfl⟩

set_option maxHeartbeats 4000000 in
set_option maxRecDepth 100000 in
theorem lkIns_end_grow (base : Option Addr) (n c vb voff m vc : Nat) (cs vs : List Value) (w : World) (hm : 0 < m) (hnc : n ≤ c) (hroom : c < n + m) (hbig : (n + m) * 16 ≤ 140737488355328)
    (hcl : cs.length = n) (hvl : vs.length = m) (hnil : base = none → n = 0)
    (hcs : ∀ a, base = some a → ∀ j v, cs[j]? = some v → w.cell? (a.add j) = some v)
    (hvs : ∀ j v, vs[j]? = some v → w.cell? ⟨vb, voff + j, none⟩ = some v) (h1v : ∀ v ∈ vs, v.oneCell' = true) :
    Calls Tryz.prog 48 #[.slice base n c, .int .i64 n, .slice (some ⟨vb, voff, none⟩) m vc] w fun e w' =>
      e = .returned (.slice (some ⟨w.heap.size, 0, none⟩) (n + m) (grownCap w (n + m) c 42)) ∧
      w' = w.drew.alloc (.cells ((cs ++ vs).toArray ++ Builtin.zeroCells (Value.string ⟨#[]⟩).cells (grownCap w (n + m) c 42 - (n + m))) 42) := by
  obtain ⟨i0, hi0, hz0, hzs, hzb⟩ := info_parts Tryz.info_lin0
  have hz1 : ¬ ((m : Int) = 0) := by omega
  have hsrc : Src Tryz.prog i0.size 22 (.slice (some ⟨vb, voff, none⟩) m vc) m vs w := by
    rw [hzs]
    exact Src.ofSlice w Tryz.underlying22 ⟨vb, voff, none⟩ m vc vs (by omega) (fun j u hj => by rw [Addr.add_lit]; exact hvs j u hj) h1v
  have hold : (Builtin.firstCells i0.size n (.slice base n c)).run Tryz.prog w.drew = .ok cs.toArray w.drew := by
    rw [hzs]
    cases base with
    | none =>
      have h0 := hnil rfl
      subst h0
      rw [List.length_eq_zero_iff.1 hcl]
      exact run_firstCells_none w.drew 1 0 0 c
    | some a => exact run_firstCells_some w.drew 1 n a n c cs (by omega) (fun j v hj => hcs a rfl j v hj)
  have hrun : ∀ ty, (Builtin.append_ #[22, 22] ty #[.slice base n c, .slice (some ⟨vb, voff, none⟩) m vc]).run Tryz.prog w = _ := fun ty =>
    run_append_grow_src w 22 22 ty 42 i0 _ Tryz.underlying22 hi0 hz0 base n c cs hold _ m vs hsrc hroom (by omega) (by rw [hzb]; exact growslice_fits hroom hbig)
  go_enter Tryz.func48, Tryz.ntmps48
  cases base with
  | none =>
    have h0 := hnil rfl
    subst h0
    go_wp2_with (at_builtin; refine Lib.wpList_append_run _ rfl _ _ _ _ rfl _ _ rfl rfl _ _ (hrun _) ?_)
    go_ret
    exact ⟨rfl, rfl⟩
  | some a =>
    obtain ⟨ab, ao, asp⟩ := a
    go_wp2_with (at_builtin; refine Lib.wpList_append_run _ rfl _ _ _ _ rfl _ _ rfl rfl _ _ (hrun _) ?_)
    all_goals (go_ret; exact ⟨rfl, rfl⟩)

set_option maxHeartbeats 4000000 in
set_option maxRecDepth 100000 in
theorem lkIns_grow (b off n c i vb voff m vc : Nat) (cs vs : List Value) (w : World) (hi : i < n) (hm : 0 < m) (hnc : n ≤ c) (hroom : c < n + m) (hbig : (n + m) * 16 ≤ 140737488355328)
    (hcl : cs.length = n) (hvl : vs.length = m)
    (hcs : ∀ j v, cs[j]? = some v → w.cell? ⟨b, off + j, none⟩ = some v)
    (hvs : ∀ j v, vs[j]? = some v → w.cell? ⟨vb, voff + j, none⟩ = some v) (h1c : ∀ v ∈ cs, v.oneCell' = true) (h1v : ∀ v ∈ vs, v.oneCell' = true) :
    Calls Tryz.prog 48 #[.slice (some ⟨b, off, none⟩) n c, .int .i64 i, .slice (some ⟨vb, voff, none⟩) m vc] w fun e w' =>
      e = .returned (.slice (some ⟨w.heap.size, 0, none⟩) (n + m) (grownCap w (n + m) c 42)) ∧
      w' = (((w.alloc (.cells ((cs.take i).toArray ++ Builtin.zeroCells (Value.string ⟨#[]⟩).cells (n + m - i) ++ Builtin.zeroCells (Value.string ⟨#[]⟩).cells (grownCap w (n + m) c 42 - (n + m))) 42)).drew.setCells w.heap.size i vs).drew).setCells w.heap.size (i + m) (cs.drop i) := by
  obtain ⟨i0, hi0, hz0, hzs, hzb⟩ := info_parts Tryz.info_lin0
  have hz1 : ¬ ((m : Int) = 0) := by omega
  have hz2 : ¬ ((i : Int) = (n : Int)) := by omega
  have hz3 : (c : Int) < (n : Int) + (m : Int) := by omega
  have hsz : (Tryz.prog.info? 42).map (·.size) = some 1 := by rw [hi0]; simp [hzs]
  have hbw : b < w.heap.size := block_lt_of_cell (hcs 0 _ (List.getElem?_eq_getElem (by omega)))
  have hvw : vb < w.heap.size := block_lt_of_cell (hvs 0 _ (List.getElem?_eq_getElem (by omega)))
  have hkk : (n : Int) + (m : Int) - (i : Int) = ((n + m - i : Nat) : Int) := by omega
  have hik : i + (n + m - i) = n + m := by omega
  have hold : (Builtin.firstCells i0.size i (.slice (some ⟨b, off, none⟩) i c)).run Tryz.prog w.drew = .ok (cs.take i).toArray w.drew := by
    rw [hzs]
    exact run_firstCells_some w.drew 1 i ⟨b, off, none⟩ i c (cs.take i) (by rw [List.length_take]; omega) (fun j v hj => by
      rw [Addr.add_lit]
      rw [List.getElem?_take] at hj
      split at hj
      · exact hcs j v hj
      · cases hj)
  have hrz : ∀ ty, (Builtin.append_ #[22, 3] ty #[.slice (some ⟨b, off, none⟩) i c, .int .i64 ((n : Int) + (m : Int) - (i : Int))]).run Tryz.prog w =
      .ok (.slice (some ⟨w.heap.size, 0, none⟩) (n + m) (grownCap w (n + m) c 42)) (w.drew.alloc (.cells ((cs.take i).toArray ++ Builtin.zeroCells (Value.string ⟨#[]⟩).cells (n + m - i) ++ Builtin.zeroCells (Value.string ⟨#[]⟩).cells (grownCap w (n + m) c 42 - (n + m))) 42)) := fun ty => by
    have h := Lib.run_append_grow_zeros w 22 3 ty 42 i0 _ .i64 .i64 Tryz.underlying22 Tryz.underlying3 hi0 hz0 (some ⟨b, off, none⟩) i c (cs.take i) hold (n + m - i) (by omega) (by omega) (by omega) (by omega) (by rw [hzb]; omega) (by rw [hzb, hik]; exact growslice_fits hroom hbig)
    rw [hik] at h
    rw [hkk]
    exact h
  obtain ⟨G, hG⟩ : ∃ G, G = grownCap w (n + m) c 42 := ⟨_, rfl⟩
  obtain ⟨ROW, hROW⟩ : ∃ ROW : Array Value, ROW = (cs.take i).toArray ++ Builtin.zeroCells (Value.string ⟨#[]⟩).cells (n + m - i) ++ Builtin.zeroCells (Value.string ⟨#[]⟩).cells (G - (n + m)) := ⟨_, rfl⟩
  rw [← hG] at hrz ⊢
  rw [← hROW] at hrz ⊢
  have hRl : n + m ≤ ROW.size := by
    rw [hROW]
    simp [Builtin.zeroCells, Value.cells]
    omega
  obtain ⟨W1, hW1⟩ : ∃ W1, W1 = w.drew.alloc (.cells ROW 42) := ⟨_, rfl⟩
  rw [← hW1] at hrz
  have hN : ∀ j, j < n + m → (W1.cell? ⟨w.heap.size, j, none⟩).isSome = true := fun j hj => by
    rw [hW1, World.cell?_alloc_at (w := w.drew) ROW _ w.heap.size j rfl, Array.getElem?_eq_getElem (by omega)]; rfl
  have hNf : ∀ j, W1.frozen? ⟨w.heap.size, j, none⟩ = false := fun j => by rw [hW1]; exact World.frozen?_alloc_at (w := w.drew) ROW _ w.heap.size j rfl
  have hOb : ∀ j v, w.cell? ⟨b, j, none⟩ = some v → W1.cell? ⟨b, j, none⟩ = some v := fun j v h => by rw [hW1, World.cell?_alloc_past (w := w.drew) _ b j hbw]; exact h
  have hOv : ∀ j v, w.cell? ⟨vb, j, none⟩ = some v → W1.cell? ⟨vb, j, none⟩ = some v := fun j v h => by rw [hW1, World.cell?_alloc_past (w := w.drew) _ vb j hvw]; exact h
  have hcpA : ∀ (W : World), (∀ x, W.cell? x = W1.cell? x) → (∀ x, W.frozen? x = W1.frozen? x) → ∀ ty dc, (Builtin.copy_ #[22, 22] ty #[.slice (some ⟨w.heap.size, i, none⟩) (n + m - i) dc, .slice (some ⟨vb, voff, none⟩) m vc]).run Tryz.prog W = .ok (goInt vs.length) (W.setCells w.heap.size i vs) := fun W hWc hWf ty dc =>
    run_copy_cells W _ _ ty 42 w.heap.size i (n + m - i) dc ⟨vb, voff, none⟩ m vc vs Tryz.underlying22 hsz (by rw [hvl]; simp only [Nat.min_def]; split <;> omega)
      (fun j v hj => by rw [Addr.add_lit, hWc]; exact hOv _ v (hvs j v hj))
      (fun j hj => by rw [hWc]; exact hN _ (by omega)) (fun j hj => by rw [hWf]; exact hNf _) h1v
  have hGn : n + m ≤ G := by rw [hG]; exact grownCap_ge w _ _ _
  have hG63 : G ≤ 9223372036854775807 := by
    have := grownCap_le_maxLen w (n + m) c 42 (by unfold maxLen; omega)
    rw [← hG] at this
    unfold maxLen at this
    omega
  have hGi : ¬ (G = i) := by omega
  have hGim : ¬ (G = i + m) := by omega
  have hci : ¬ (c = i) := by omega
  have hbN : b ≠ w.heap.size := by omega
  have hdl : (cs.drop i).length = n - i := by rw [List.length_drop, hcl]
  have hcpB : ∀ (W : World), (∀ x, W.cell? x = (W1.setCells w.heap.size i vs).cell? x) → (∀ x, W.frozen? x = (W1.setCells w.heap.size i vs).frozen? x) → ∀ ty dc sc, (Builtin.copy_ #[22, 22] ty #[.slice (some ⟨w.heap.size, i + m, none⟩) (n + m - (i + m)) dc, .slice (some ⟨b, off + i, none⟩) (n - i) sc]).run Tryz.prog W = .ok (goInt (cs.drop i).length) (W.setCells w.heap.size (i + m) (cs.drop i)) := fun W hWc hWf ty dc sc =>
    run_copy_cells W _ _ ty 42 w.heap.size (i + m) (n + m - (i + m)) dc ⟨b, off + i, none⟩ (n - i) sc (cs.drop i) Tryz.underlying22 hsz (by rw [hdl]; simp only [Nat.min_def]; split <;> omega)
      (fun j v hj => by
        rw [Addr.add_lit, hWc, World.cell?_setCells_out _ _ _ _ _ (fun h _ => absurd h hbN), Nat.add_assoc]
        exact hOb _ v (hcs (i + j) v (by rwa [List.getElem?_drop] at hj)))
      (fun j hj => by rw [hWc]; exact isSome_setCells _ _ _ _ (fun t ht => hN _ (by omega)) _ (hN _ (by omega)))
      (fun j hj => by rw [hWf, World.frozen?_setCells]; exact hNf _) (fun v hv => h1c v (List.mem_of_mem_drop hv))
  subst hW1
  have hE1 : ∀ x, ((w.alloc (.cells ROW 42)).drew).cell? x = (w.drew.alloc (.cells ROW 42)).cell? x := fun x => rfl
  have hE2 : ∀ x, ((w.alloc (.cells ROW 42)).drew).frozen? x = (w.drew.alloc (.cells ROW 42)).frozen? x := fun x => rfl
  have hF1 : ∀ x, (((w.alloc (.cells ROW 42)).drew.setCells w.heap.size i vs).drew).cell? x = ((w.drew.alloc (.cells ROW 42)).setCells w.heap.size i vs).cell? x := fun x => rfl
  have hF2 : ∀ x, (((w.alloc (.cells ROW 42)).drew.setCells w.heap.size i vs).drew).frozen? x = ((w.drew.alloc (.cells ROW 42)).setCells w.heap.size i vs).frozen? x := fun x => rfl
  have hw1 : IntKind.i64.wrap ((i : Int) + (m : Int)) = (i : Int) + (m : Int) := by rw [IntKind.wrap_i64]; omega
  have hb1 : (0 : Int) ≤ (i : Int) + (m : Int) := by omega
  have hin : i ≤ n := by omega
  have htn : ((i : Int) + (m : Int)).toNat = i + m := by omega
  have hb3 : (i : Int) ≤ (n : Int) := by omega
  clear hkk hik hold hROW hG hRl
  go_enter Tryz.func48, Tryz.ntmps48
  go_wp2_with (first
    | (at_builtin; refine Lib.wpList_append_run _ rfl _ _ _ _ rfl _ _ rfl rfl _ _ (hrz _) ?_)
    | (at_builtin; refine wpList_copy_runI _ rfl _ _ 22 22 rfl _ _ rfl rfl (hcpA _ hE1 hE2 _ _) ?_)
    | (at_builtin; refine wpList_copy_runI _ rfl _ _ 22 22 rfl _ _ rfl rfl (hcpB _ (fun _ => rfl) (fun _ => rfl) _ _ _) ?_))
  go_region_law (refine step_copy_runI rfl _ _ 22 22 rfl (.slice (some ⟨w.heap.size, i + m, none⟩) (n + m - (i + m)) (G - (i + m))) (.slice (some ⟨b, off + i, none⟩) (n - i) (c - i)) (by simp [Act.eval, Act.put]) (by simp [Act.eval, Act.put]) (hcpB _ hF1 hF2 3 (G - (i + m)) (c - i)) ?_)
  go_wp2
  go_ret
  exact ⟨rfl, rfl⟩
end Go.Proofs.YtfgecaphhdedcaaGreatDoor
namespace Go.Proofs.YtfgecaphhdedcaaGreatDoor
open Go.RowKit

/-- Storing a row of cells into a block of one's own. -/
theorem setCells_blk {g : Nat} {t : TypeId} : ∀ (vs : List Value) (o : Nat) (w : World) (cs : Array Value), Blk w g t cs → ∃ cs', Blk (w.setCells g o vs) g t cs' ∧ cs'.size = cs.size ∧ ∀ j, cs'[j]? = if o ≤ j ∧ j < o + vs.length ∧ j < cs.size then vs[j - o]? else cs[j]?
  | [], o, w, cs, h => ⟨cs, h, rfl, fun j => by rw [if_neg (by simp only [List.length_nil]; omega)]⟩
  | v :: r, o, w, cs, h => by
    obtain ⟨cs', h1, h2, h3⟩ := setCells_blk r (o + 1) _ _ (h.set_ o v)
    refine ⟨cs', h1, by rw [h2]; simp, fun j => ?_⟩
    rw [h3 j]
    simp only [Array.size_setIfInBounds, Array.getElem?_setIfInBounds, List.length_cons]
    by_cases hj : j = o
    · subst hj
      rw [if_neg (by omega)]
      by_cases hs : j < cs.size
      · simp [hs]
      · simp [hs]
    · by_cases hc : o + 1 ≤ j ∧ j < o + 1 + r.length ∧ j < cs.size
      · rw [if_pos hc, if_pos (by omega), show j - o = (j - (o + 1)) + 1 by omega, List.getElem?_cons_succ]
      · rw [if_neg hc, if_neg (by omega), if_neg (by omega)]
theorem setCells_grown (g : Nat) : ∀ (vs : List Value) (o : Nat) (w : World), w.grownBy (w.setCells g o vs) (some g)
  | [], _, w => World.grownBy.refl w _
  | v :: r, o, w => World.grownBy.trans (b := w.setCell ⟨g, o, none⟩ v) ⟨rfl, rfl, rfl, by simp, fun k _ hk => Below.heap_setCell w _ _ k (fun e => hk (by rw [e]))⟩ (setCells_grown g r (o + 1) _)
theorem grown_drew (w : World) (row : Option Nat) : w.grownBy w.drew row := ⟨rfl, rfl, rfl, Nat.le_refl _, fun _ _ _ => rfl⟩
theorem own_mk {w : World} {g base n cap : Nat} {t : TypeId} {cs : Array Value} {xs : List Value} (h : Blk w g t cs) (hb : base ≤ g) (hn : n ≤ cap) (hm : cap ≤ maxLen) (hs : cs.size = cap) (hx : xs.length = n) (hj : ∀ j, j < n → cs[j]? = xs[j]?) : w.ownsRow base t 1 (.slice (some ⟨g, 0, none⟩) n cap) n xs := by
  refine ⟨by omega, .inr ⟨g, cap, cs, rfl, hb, h, hn, hm, by omega, ?_⟩⟩
  apply List.ext_getElem?
  intro j
  rw [List.getElem?_take]
  by_cases hjn : j < n * 1
  · rw [if_pos hjn, Array.getElem?_toList, hj j (by omega)]
  · rw [if_neg hjn, List.getElem?_eq_none (by omega)]
theorem shape_blk {w : World} {g : Nat} {t : TypeId} {cs : Array Value} (h : Blk w g t cs) : w.shape? g = some (t, cs.size) := by
  unfold Blk at h
  simp [World.shape?, h]

def insAt (hs : List ByteArray) (i : Nat) (who : ByteArray) : List ByteArray := hs.take i ++ who :: hs.drop i
theorem insAt_get (hs : List ByteArray) (i : Nat) (who : ByteArray) (hi : i ≤ hs.length) (j : Nat) : ((insAt hs i who).map (Value.string ·))[j]? = if j < i then (hs.map (Value.string ·))[j]? else if j = i then some (.string who) else (hs.map (Value.string ·))[j - 1]? := by
  unfold insAt
  rw [List.map_append, List.map_cons, List.map_take, List.map_drop]
  have hl : ((hs.map (Value.string ·)).take i).length = i := by rw [List.length_take, List.length_map]; omega
  by_cases h1 : j < i
  · rw [if_pos h1, List.getElem?_append_left (by omega), List.getElem?_take, if_pos h1]
  · rw [if_neg h1, List.getElem?_append_right (by omega), hl]
    by_cases h2 : j = i
    · subst h2; simp
    · rw [if_neg h2, show j - i = (j - i - 1) + 1 by omega, List.getElem?_cons_succ, List.getElem?_drop]
      congr 1
      omega
theorem insAt_len (hs : List ByteArray) (i : Nat) (who : ByteArray) (hi : i ≤ hs.length) : ((insAt hs i who).map (Value.string ·)).length = hs.length + 1 := by
  unfold insAt
  simp only [List.length_map, List.length_append, List.length_take, List.length_cons, List.length_drop]
  omega

theorem lkInsert_any (base : Nat) (A : Option Addr) (c : Nat) (hs : List ByteArray) (i : Nat) (hi : i ≤ hs.length) (who : ByteArray) (vb : Nat) (hn : hs.length ≤ 1000000) (w : World)
    (ho : w.ownsRow base 42 1 (.slice A hs.length c) hs.length (hs.map (.string ·))) (hb : base ≤ w.heap.size) (hv : Blk w vb 42 #[.string who]) (hne : ∀ ad, A = some ad → ad.block ≠ vb) :
    Calls Tryz.prog 48 #[.slice A hs.length c, .int .i64 i, .slice (some ⟨vb, 0, none⟩) 1 1] w fun o w' => ∃ v, o = .returned v ∧ w'.ownsRow base 42 1 v (hs.length + 1) ((insAt hs i who).map (.string ·)) ∧ w.grownBy w' (Value.slice A hs.length c).ownBlock := by
  have hvs : ∀ j v, [Value.string who][j]? = some v → w.cell? ⟨vb, 0 + j, none⟩ = some v := by
    intro j v hj
    rw [Nat.zero_add, hv.cell j, ← hj]
    cases j <;> simp
  have h1v : ∀ v ∈ [Value.string who], v.oneCell' = true := by simp [Value.oneCell']
  have h1c : ∀ v ∈ hs.map (Value.string ·), v.oneCell' = true := by
    intro v hv
    obtain ⟨x, -, rfl⟩ := List.mem_map.1 hv
    rfl
  have hcl : (hs.map (Value.string ·)).length = hs.length := by simp
  obtain ⟨ho1, ho2⟩ := ho
  rcases ho2 with ⟨h0, hl0⟩ | ⟨g, cap, cur, h0, hg, hh, hnc, hcm, hsz, htk⟩
  · have hnil : hs = [] := List.eq_nil_of_length_eq_zero hl0
    subst hnil
    have hi0 : i = 0 := by simpa using hi
    subst hi0
    cases h0
    have K := lkIns_end_grow none 0 0 vb 0 1 1 [] [.string who] w (by omega) (Nat.le_refl _) (by omega) (by omega) rfl rfl (fun _ => rfl) (fun _ h => by cases h) hvs h1v
    refine K.mono ?_
    rintro o w' ⟨rfl, rfl⟩
    refine ⟨_, rfl, own_mk (Blk.new_ w.drew _ _ rfl) hb (grownCap_ge _ _ _ _) (grownCap_le_maxLen _ _ _ _ (by unfold maxLen; simp)) ?_ (insAt_len [] 0 who (by simp)) ?_, (grown_drew w _).trans (World.grownBy_alloc _ _ _)⟩
    · have := grownCap_ge w (0 + 1) 0 42
      simp [Builtin.zeroCells, Value.cells]
      show 1 + (grownCap w (0 + 1) 0 42 - 1) = grownCap w (0 + 1) 0 42
      omega
    · intro j hj
      have : j = 0 := by simpa using hj
      subst this
      rw [Array.getElem?_append_left (by simp)]
      simp [insAt]
  · cases h0
    have hgl : g < w.heap.size := (Array.getElem?_eq_some_iff.1 hh).1
    have hgv : vb ≠ g := fun e => hne _ rfl e.symm
    have bg : Blk w g 42 cur := hh
    have hsz' : cur.size = c := by omega
    have hcell : ∀ j v, (hs.map (Value.string ·))[j]? = some v → w.cell? ⟨g, 0 + j, none⟩ = some v := by
      intro j v hj
      rw [Nat.zero_add, bg.cell j, ← Array.getElem?_toList]
      rw [← htk, List.getElem?_take] at hj
      split at hj
      · exact hj
      · cases hj
    have hcur : ∀ j, j < hs.length → cur[j]? = (hs.map (Value.string ·))[j]? := by
      intro j hj
      rw [← htk, List.getElem?_take, if_pos (by omega), Array.getElem?_toList]
    unfold maxLen at hcm
    by_cases hin : i = hs.length
    · subst hin
      by_cases hroom : hs.length + 1 ≤ c
      · have K := lkIns_end_room g 0 hs.length c vb 0 1 1 [.string who] w (by omega) hroom rfl (fun j hj => by rw [bg.cell]; simp; omega) (fun j _ => bg.frozen _) hvs h1v
        refine K.mono ?_
        rintro o w' ⟨rfl, rfl⟩
        obtain ⟨cs', q1, q2, q3⟩ := setCells_blk [.string who] (0 + hs.length) w cur bg
        refine ⟨_, rfl, own_mk q1 hg hroom (by unfold maxLen; omega) (by omega) (insAt_len hs _ who (Nat.le_refl _)) ?_, setCells_grown g _ _ w⟩
        intro j hj
        rw [q3 j, insAt_get hs _ who (Nat.le_refl _) j]
        by_cases h1 : j < hs.length
        · rw [if_neg (by omega), if_pos h1, hcur j h1]
        · obtain rfl : j = hs.length := by omega
          rw [if_pos (by simp; omega), if_neg (by omega), if_pos rfl]
          simp
      · have K := lkIns_end_grow (some ⟨g, 0, none⟩) hs.length c vb 0 1 1 (hs.map (.string ·)) [.string who] w (by omega) hnc (by omega) (by omega) hcl rfl (fun h => by cases h) (fun ad e j v hj => by cases e; rw [Addr.add_lit]; exact hcell j v hj) hvs h1v
        refine K.mono ?_
        rintro o w' ⟨rfl, rfl⟩
        refine ⟨_, rfl, own_mk (Blk.new_ w.drew _ _ rfl) hb (grownCap_ge _ _ _ _) (grownCap_le_maxLen _ _ _ _ (by unfold maxLen; omega)) ?_ (insAt_len hs _ who (Nat.le_refl _)) ?_, (grown_drew w _).trans (World.grownBy_alloc _ _ _)⟩
        · have := grownCap_ge w (hs.length + 1) c 42
          simp [Builtin.zeroCells, Value.cells]
          show hs.length + 1 + (grownCap w (hs.length + 1) c 42 - (hs.length + 1)) = grownCap w (hs.length + 1) c 42
          omega
        · intro j hj
          rw [insAt_get hs _ who (Nat.le_refl _) j, Array.getElem?_append_left (by simp; omega)]
          simp only [List.getElem?_toArray]
          by_cases h1 : j < hs.length
          · rw [if_pos h1, List.getElem?_append_left (by simpa using h1)]
          · obtain rfl : j = hs.length := by omega
            rw [if_neg h1, if_pos rfl, List.getElem?_append_right (by simp)]
            simp
    · by_cases hroom : hs.length + 1 ≤ c
      · have K := lkIns_shift g 0 hs.length c i vb 0 1 1 (hs.map (.string ·)) [.string who] w (by omega) (by omega) hroom (by omega) hgv hcl rfl hcell (fun j hj => by rw [Nat.zero_add, bg.cell]; simp; omega) (fun j _ => bg.frozen _) hvs h1c h1v
          42 42 1 c (by simpa using shape_blk hv) (by rw [shape_blk bg, hsz']) (by omega) (hv.frozen _) (hv.frozen _)
        refine K.mono ?_
        rintro o w' ⟨rfl, rfl⟩
        have bd : Blk w.drew g 42 cur := bg
        obtain ⟨cs1, q1, q2, q3⟩ := setCells_blk ((hs.map (Value.string ·)).drop i) (0 + (i + 1)) w.drew cur bd
        obtain ⟨cs2, r1, r2, r3⟩ := setCells_blk [.string who] (0 + i) _ cs1 q1
        refine ⟨_, rfl, own_mk r1 hg hroom (by unfold maxLen; omega) (by omega) (insAt_len hs _ who hi) ?_, ((grown_drew w _).trans (setCells_grown g _ _ _)).trans (setCells_grown g _ _ _)⟩
        intro j hj
        rw [r3 j, q3 j, insAt_get hs _ who hi j]
        simp only [List.length_cons, List.length_nil, List.length_drop, List.length_map]
        by_cases h1 : j < i
        · rw [if_neg (by omega), if_neg (by omega), if_pos h1, hcur j (by omega)]
        · by_cases h2 : j = i
          · subst h2
            rw [if_pos (by omega), if_neg (by omega), if_pos rfl]
            simp
          · rw [if_neg (by omega), if_pos (by omega), if_neg h1, if_neg h2, List.getElem?_drop]
            congr 1
            omega
      · have K := lkIns_grow g 0 hs.length c i vb 0 1 1 (hs.map (.string ·)) [.string who] w (by omega) (by omega) hnc (by omega) (by omega) hcl rfl hcell hvs h1c h1v
        refine K.mono ?_
        rintro o w' ⟨rfl, rfl⟩
        have hcg := grownCap_ge w (hs.length + 1) c 42
        have hcm2 := grownCap_le_maxLen w (hs.length + 1) c 42 (by unfold maxLen; omega)
        have b0 := Blk.new_ w 42 (((hs.map (Value.string ·)).take i).toArray ++ Builtin.zeroCells (Value.string ⟨#[]⟩).cells (hs.length + 1 - i) ++ Builtin.zeroCells (Value.string ⟨#[]⟩).cells (grownCap w (hs.length + 1) c 42 - (hs.length + 1))) rfl
        have e0 : (((hs.map (Value.string ·)).take i).toArray ++ Builtin.zeroCells (Value.string ⟨#[]⟩).cells (hs.length + 1 - i) ++ Builtin.zeroCells (Value.string ⟨#[]⟩).cells (grownCap w (hs.length + 1) c 42 - (hs.length + 1))).size = grownCap w (hs.length + 1) c 42 := by
          simp [Builtin.zeroCells, Value.cells]
          omega
        have e1 : ∀ j, j < i → (((hs.map (Value.string ·)).take i).toArray ++ Builtin.zeroCells (Value.string ⟨#[]⟩).cells (hs.length + 1 - i) ++ Builtin.zeroCells (Value.string ⟨#[]⟩).cells (grownCap w (hs.length + 1) c 42 - (hs.length + 1)))[j]? = (hs.map (Value.string ·))[j]? := by
          intro j hj
          rw [Array.getElem?_append_left (by simp; omega), Array.getElem?_append_left (by simp; omega), List.getElem?_toArray, List.getElem?_take, if_pos hj]
        generalize ((hs.map (Value.string ·)).take i).toArray ++ Builtin.zeroCells (Value.string ⟨#[]⟩).cells (hs.length + 1 - i) ++ Builtin.zeroCells (Value.string ⟨#[]⟩).cells (grownCap w (hs.length + 1) c 42 - (hs.length + 1)) = ROW at *
        obtain ⟨cs1, q1, q2, q3⟩ := setCells_blk [.string who] i _ ROW (b0.drew)
        obtain ⟨cs2, r1, r2, r3⟩ := setCells_blk ((hs.map (Value.string ·)).drop i) (i + 1) _ cs1 (q1.drew)
        refine ⟨_, rfl, own_mk r1 hb hcg hcm2 (by omega) (insAt_len hs _ who hi) ?_, ?_⟩
        · intro j hj
          rw [r3 j, q3 j, insAt_get hs _ who hi j]
          simp only [List.length_cons, List.length_nil, List.length_drop, List.length_map]
          by_cases h1 : j < i
          · rw [if_neg (by omega), if_neg (by omega), if_pos h1, e1 j h1]
          · by_cases h2 : j = i
            · subst h2
              rw [if_neg (by omega), if_pos (by omega), if_neg (by omega), if_pos rfl]
              simp
            · rw [if_pos (by omega), if_neg h1, if_neg h2, List.getElem?_drop]
              congr 1
              omega
        · have key : ∀ W : World, w.grownBy W (some w.heap.size) → w.grownBy W (some g) := fun W h => ⟨h.os, h.tape, h.output, h.size, fun k hk _ => h.block k hk (by simp; omega)⟩
          exact key _ (((((World.grownBy_alloc w _ _).trans (grown_drew _ _)).trans (setCells_grown _ _ _ _)).trans (grown_drew _ _)).trans (setCells_grown _ _ _ _))
end Go.Proofs.YtfgecaphhdedcaaGreatDoor
namespace Go.Proofs.YtfgecaphhdedcaaGreatDoor
open Go.RowKit Go.Lib

def delAt (hs : List ByteArray) (i : Nat) : List ByteArray := hs.take i ++ hs.drop (i + 1)
theorem delAt_len (hs : List ByteArray) (i : Nat) (hi : i < hs.length) : ((delAt hs i).map (Value.string ·)).length = hs.length - 1 := by
  unfold delAt
  simp only [List.length_map, List.length_append, List.length_take, List.length_drop]
  omega
theorem delAt_get (hs : List ByteArray) (i : Nat) (hi : i < hs.length) (j : Nat) : ((delAt hs i).map (Value.string ·))[j]? = if j < i then (hs.map (Value.string ·))[j]? else (hs.map (Value.string ·))[j + 1]? := by
  unfold delAt
  rw [List.map_append, List.map_take, List.map_drop]
  have hl : ((hs.map (Value.string ·)).take i).length = i := by rw [List.length_take, List.length_map]; omega
  by_cases h1 : j < i
  · rw [if_pos h1, List.getElem?_append_left (by omega), List.getElem?_take, if_pos h1]
  · rw [if_neg h1, List.getElem?_append_right (by omega), hl, List.getElem?_drop]
    congr 1
    omega

set_option maxHeartbeats 4000000 in
set_option maxRecDepth 100000 in
theorem lkDelete_any (base : Nat) (A : Option Addr) (c : Nat) (hs : List ByteArray) (i : Nat) (hi : i < hs.length) (hn : hs.length ≤ 1000000) (w : World)
    (ho : w.ownsRow base 42 1 (.slice A hs.length c) hs.length (hs.map (.string ·))) :
    Calls Tryz.prog 43 #[.slice A hs.length c, .int .i64 i, .int .i64 (i + 1)] w fun o w' => o = .returned (.slice A (hs.length - 1) c) ∧ w'.ownsRow base 42 1 (.slice A (hs.length - 1) c) (hs.length - 1) ((delAt hs i).map (.string ·)) ∧ w.grownBy w' (Value.slice A hs.length c).ownBlock := by
  obtain ⟨i0, hi0, hz0, hz1, hz2⟩ := info_parts Tryz.info_lin0
  obtain ⟨ho1, ho2⟩ := ho
  rcases ho2 with ⟨h0, hl0⟩ | ⟨g, cap, cur, h0, hg, hh, hnc, hcm, hsz, htk⟩
  · omega
  · cases h0
    have bg : Blk w g 42 cur := hh
    have hsz' : cur.size = c := by omega
    have hcur : ∀ j, j < hs.length → cur[j]? = (hs.map (Value.string ·))[j]? := by
      intro j hj
      rw [← htk, List.getElem?_take, if_pos (by omega), Array.getElem?_toList]
    unfold maxLen at hcm
    obtain ⟨m, hm⟩ : ∃ m, hs.length = i + 1 + m := ⟨hs.length - (i + 1), by omega⟩
    -- the cells that move
    obtain ⟨news, hnews⟩ : ∃ news, news = (hs.map (Value.string ·)).drop (i + 1) := ⟨_, rfl⟩
    have hlen : news.length = m := by rw [hnews, List.length_drop, List.length_map]; omega
    obtain ⟨B, hB, hsrc⟩ : ∃ B : Addr, (if c = i + 1 then some (⟨g, 0, none⟩ : Addr) else some ⟨g, i + 1, none⟩) = some B ∧ Hid (∀ t u, news[t]? = some u → w.drew.cell? (B.add t) = some u) := by
      by_cases h : c = i + 1
      · refine ⟨⟨g, 0, none⟩, by simp [h], fun t u hu => ?_⟩
        have h0 : news.length = 0 := by rw [hlen]; omega
        rw [List.length_eq_zero_iff.1 h0] at hu
        simp at hu
      · refine ⟨⟨g, i + 1, none⟩, by simp [h], fun t u hu => ?_⟩
        have ht : t < m := by
          have := (List.getElem?_eq_some_iff.1 hu).1
          rwa [hlen] at this
        rw [hnews, List.getElem?_drop, ← hcur (i + 1 + t) (by omega)] at hu
        rw [Addr.add_lit]
        exact (bg.cell _).trans hu
    have s1 : Hid (news.length = m * 1) := hid (by omega)
    have s2 : Hid (∀ u ∈ news, u.oneCell' = true) := by
      intro u hu
      rw [hnews] at hu
      obtain ⟨x, _, rfl⟩ := List.mem_map.1 (List.mem_of_mem_drop hu)
      rfl
    have s3 : Hid (∀ t, t < news.length → (w.drew.cell? ⟨g, 0 + i * 1 + t, none⟩).isSome = true ∧ w.drew.frozen? ⟨g, 0 + i * 1 + t, none⟩ = false) := by
      intro t ht
      rw [hlen] at ht
      refine ⟨?_, bg.frozen _⟩
      show (w.cell? _).isSome = true
      rw [bg.cell]
      simp
      omega
    have hw1 : w.drew.setCells g (0 + i * 1) news = w.drew.setCells g i news := by rw [Nat.zero_add, Nat.mul_one]
    obtain ⟨W1, hW1⟩ : ∃ W1, W1 = w.drew.setCells g (0 + i * 1) news := ⟨_, rfl⟩
    obtain ⟨cs1, q1, q2, q3⟩ := setCells_blk news i w.drew cur bg
    rw [← hw1, ← hW1] at q1
    have hcl : ∀ ty, (Builtin.clear_ #[22] ty #[.slice (some ⟨g, i + m, none⟩) (hs.length - (i + m)) (c - (i + m))]).run Tryz.prog W1 = .ok (.tuple #[]) (W1.setCells g (i + m) (List.replicate (hs.length - (i + m)) (.string ⟨#[]⟩))) :=
      fun ty => Lib.run_clear_slice W1 _ _ ty _ Tryz.underlying22 Tryz.zeroValue42 rfl rfl g (i + m) _ _ (by omega) (fun t ht => by rw [q1.cell]; simp; omega) (fun t ht => q1.frozen _)
    obtain ⟨cs2, r1, r2, r3⟩ := setCells_blk (List.replicate (hs.length - (i + m)) (.string ⟨#[]⟩)) (i + m) W1 cs1 q1
    have hW : Hid (W1 = w.drew.setCells g (0 + i * 1) news) := hW1
    have hgw : w.grownBy W1 (some g) := by rw [hW1]; exact (grown_drew w _).trans (setCells_grown g _ _ _)
    have HF := hid (show (W1.setCells g (i + m) (List.replicate (hs.length - (i + m)) (.string ⟨#[]⟩))).ownsRow base 42 1 (.slice (some ⟨g, 0, none⟩) (hs.length - 1) c) (hs.length - 1) ((delAt hs i).map (.string ·)) ∧ w.grownBy (W1.setCells g (i + m) (List.replicate (hs.length - (i + m)) (.string ⟨#[]⟩))) (some g) from by
      refine ⟨own_mk r1 hg (by omega) (by unfold maxLen; omega) (by omega) (delAt_len hs i (by omega)) ?_, hgw.trans (setCells_grown g _ _ _)⟩
      intro j hj
      rw [r3 j, q3 j, delAt_get hs i (by omega) j, hlen]
      rw [if_neg (by omega)]
      by_cases h1 : j < i
      · rw [if_neg (by omega), if_pos h1, hcur j (by omega)]
      · rw [if_pos (by omega), if_neg h1, hnews, List.getElem?_drop]
        congr 1
        omega)
    have hin : i ≤ hs.length := by omega
    have hic : i ≤ c := by omega
    have hjc : i + 1 ≤ c := by omega
    have hnm : hs.length - (i + 1) = m := by omega
    have hn1 : hs.length - 1 = i + m := by omega
    have HN1 := hid hn1
    have hi1 : (i : Int) + 1 ≤ (hs.length : Int) := by omega
    have hi01 : (0 : Int) ≤ (i : Int) + 1 := by omega
    have ht1 : ((i : Int) + 1).toNat = i + 1 := by omega
    have hne : ((i : Int) == (i : Int) + 1) = false := by rw [beq_eq_false_iff_ne]; omega
    have hne2 : ¬ (i : Int) = (i : Int) + 1 := by omega
    clear hW1 hw1 q1 q2 q3 r1 r2 r3 hnews hlen bg hh htk hsz hsz' hcur hgw hn1 hm ho1
    generalize hs.length = n at *
    go_enter Tryz.func43, Tryz.ntmps43
    go_wp2_with fail
    go_region_law (refine step_append_room rfl (.tmp 22) (.tmp 25) 22 rfl 42 i0 1 Tryz.underlying22 hi0 hz1 g 0 i c (by simp [Act.eval, Act.put]) B m (c - (i + 1)) news (by simp [Act.eval, Act.put]) s1.out hsrc.out s2.out (by omega) s3.out ?_; rw [← hW.out])
    go_wp2_with fail
    go_ret
    refine ⟨?_, ?_⟩
    · rw [HN1.out]; rfl
    · exact HF.out
end Go.Proofs.YtfgecaphhdedcaaGreatDoor
namespace Go.Proofs.YtfgecaphhdedcaaGreatDoor
open Go.RowKit

set_option maxHeartbeats 1000000 in
theorem others_any (l : Lk) (A : Option Addr) (c : Nat) (b : Bool) (hb : b = true → 0 < l.holders.length) (hn : l.holders.length ≤ 1000000) (w : World) :
    Calls Tryz.prog 46 #[.agg (lkCells l A c), .bool b] w fun o w' => o = .returned (.int .i64 (othersL l b)) ∧ Below w.heap.size w w' := by
  obtain ⟨E, S, HS⟩ := l
  unfold lkCells othersL
  dsimp only at *
  cases b with
  | true =>
    have h0 := hb rfl
    obtain ⟨j, hj⟩ : ∃ j, HS.length = j + 1 := ⟨HS.length - 1, by omega⟩
    have e : ((HS.length - (if (true : Bool) = true then 1 else 0) : Nat) : Int) = (HS.length : Int) - 1 := by simp; omega
    rw [e]
    have h1 : (1 : Int) ≤ (HS.length : Int) := by omega
    clear e hj hb
    go_enter Tryz.func46, Tryz.ntmps46
    go_wp2_with fail
    go_ret
    exact ⟨rfl, (Below.refl _ _).alloc (Nat.le_refl _) _⟩
  | false =>
    have e : ((HS.length - (if (false : Bool) = true then 1 else 0) : Nat) : Int) = (HS.length : Int) := by simp
    rw [e]
    clear e hb
    go_enter Tryz.func46, Tryz.ntmps46
    go_wp2_with fail
    go_ret
    exact ⟨rfl, (Below.refl _ _).alloc (Nat.le_refl _) _⟩
def aloneE (l : Lk) (b : Bool) : Int := if 0 < othersL l b then 19 else 0
def togE (l : Lk) (b : Bool) : Int := if othersL l b = 32 then 9 else 0
set_option maxHeartbeats 1000000 in
theorem alone_any (lb hb : Nat) (l : Lk) (A : Option Addr) (c : Nat) (b : Bool) (h0 : b = true → 0 < l.holders.length) (hn : l.holders.length ≤ 1000000) (w : World) (h1 : Blk w lb 24 (lkCells l A c)) (h2 : Blk w hb 4 #[.bool b]) :
    Calls Tryz.prog 45 #[.pointer (some ⟨lb, 0, none⟩), .pointer (some ⟨hb, 0, none⟩)] w fun o w' => o = .returned (.int .i64 (aloneE l b)) ∧ Below w.heap.size w w' := by
  have OT := hid (fun w' => others_any l A c b h0 hn w')
  have hX : aloneE l b = if 0 < othersL l b then 19 else 0 := rfl
  have q0 : w.cell? ⟨lb, 0, none⟩ = some (.int .i64 l.epoch) := h1.cell 0
  have q1 : w.cell? ⟨lb, 1, none⟩ = some (.bool l.shared) := h1.cell 1
  have q2 : w.cell? ⟨lb, 2, none⟩ = some (.slice A l.holders.length c) := h1.cell 2
  have q3 : w.cell? ⟨hb, 0, none⟩ = some (.bool b) := h2.cell 0
  clear h1 h2
  unfold lkCells at *
  generalize aloneE l b = X at *
  generalize othersL l b = ot at *
  by_cases ho : 0 < ot
  · rw [if_pos ho] at hX
    subst hX
    have hoi : (0 : Int) < (ot : Int) := by omega
    clear ho
    go_enter Tryz.func45, Tryz.ntmps45
    go_wp2_with (go_at_call 46; refine (OT.out _).mono ?_; rintro o w2 ⟨rfl, hb2⟩)
    go_ret
    exact ⟨rfl, hb2⟩
  · rw [if_neg ho] at hX
    subst hX
    have hoi : ¬ (0 : Int) < (ot : Int) := by omega
    clear ho
    go_enter Tryz.func45, Tryz.ntmps45
    go_wp2_with (go_at_call 46; refine (OT.out _).mono ?_; rintro o w2 ⟨rfl, hb2⟩)
    go_ret
    exact ⟨rfl, hb2⟩
set_option maxHeartbeats 1000000 in
theorem tog_any (lb hb : Nat) (l : Lk) (A : Option Addr) (c : Nat) (b : Bool) (h0 : b = true → 0 < l.holders.length) (hn : l.holders.length ≤ 1000000) (w : World) (h1 : Blk w lb 24 (lkCells l A c)) (h2 : Blk w hb 4 #[.bool b]) :
    Calls Tryz.prog 47 #[.pointer (some ⟨lb, 0, none⟩), .pointer (some ⟨hb, 0, none⟩)] w fun o w' => o = .returned (.int .i64 (togE l b)) ∧ Below w.heap.size w w' := by
  have OT := hid (fun w' => others_any l A c b h0 hn w')
  have hX : togE l b = if othersL l b = 32 then 9 else 0 := rfl
  have q0 : w.cell? ⟨lb, 0, none⟩ = some (.int .i64 l.epoch) := h1.cell 0
  have q1 : w.cell? ⟨lb, 1, none⟩ = some (.bool l.shared) := h1.cell 1
  have q2 : w.cell? ⟨lb, 2, none⟩ = some (.slice A l.holders.length c) := h1.cell 2
  have q3 : w.cell? ⟨hb, 0, none⟩ = some (.bool b) := h2.cell 0
  clear h1 h2
  unfold lkCells at *
  generalize togE l b = X at *
  generalize othersL l b = ot at *
  by_cases ho : ot = 32
  · rw [if_pos ho] at hX
    subst hX
    have hoi : ((ot : Int) == 32) = true := by rw [beq_iff_eq]; omega
    have hoe : (ot : Int) = 32 := by omega
    clear ho
    go_enter Tryz.func47, Tryz.ntmps47
    go_wp2_with (go_at_call 46; refine (OT.out _).mono ?_; rintro o w2 ⟨rfl, hb2⟩)
    go_ret
    exact ⟨rfl, hb2⟩
  · rw [if_neg ho] at hX
    subst hX
    have hoi : ((ot : Int) == 32) = false := by rw [beq_eq_false_iff_ne]; omega
    have hoe : ¬ (ot : Int) = 32 := by omega
    clear ho
    go_enter Tryz.func47, Tryz.ntmps47
    go_wp2_with (go_at_call 46; refine (OT.out _).mono ?_; rintro o w2 ⟨rfl, hb2⟩)
    go_ret
    exact ⟨rfl, hb2⟩
end Go.Proofs.YtfgecaphhdedcaaGreatDoor
