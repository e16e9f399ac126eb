/-
  slices.Insert at rows of cells (three cells of the memory each): the contract that the evaluator asks of it.
-/
import Derived.Test.YtfjloeemhiffgaaProg
import Derived.Test.YtfjloeemhiffgaaSymIns
import Derived.Shelf.Spec.SlicesInsertGrow
import Derived.Lib.Small
import Derived.Lib.Walk
set_option linter.unusedVariables false
set_option linter.unusedSimpArgs false
namespace Go.Proofs
open Go Go.Shelf Go.RowKit Go.Lib Go.Sym

theorem run_copyS {P : Program} {dT sT ty elem : TypeId} {s : Nat} (hu : P.underlying dT = some (.slice elem)) (hs : ∀ w, (Go.sizeOf elem).run P w = .ok s w)
    {w : World} {b o b' o' dLen dCap sLen sCap m : Nat} {c c' : Array Value} {E E' : TypeId} {z z' : Nat × Nat} (hb : w.heap[b]? = some (.cells c E z)) (hz : unfrozen z c.size) (hb' : w.heap[b']? = some (.cells c' E' z'))
    (hm : m = Nat.min sLen dLen) (hso : o' + m * s ≤ c'.size) (hdo : o + m * s ≤ c.size) (h1 : ∀ (k : Nat) (u : Value), k < m * s → c'[o' + k]? = some u → u.oneCell = true) :
    (Builtin.copy_ #[dT, sT] ty #[.slice (some ⟨b, o, none⟩) dLen dCap, .slice (some ⟨b', o', none⟩) sLen sCap]).run P w =
      .ok (goInt m) (setBlk w b (.cells (wr c o (c'.extract o' (o' + m * s)).toList) E z)) := by
  have hl := Go.Sym.run_loadCells P (n := m * s) hb' hso
  have hlen : (c'.extract o' (o' + m * s)).toList.length = m * s := by rw [Array.length_toList]; exact ext_size _ _ _ hso
  have hst := run_storeCells P b E z (c'.extract o' (o' + m * s)).toList w c o 0 hb hz (by rw [hlen]; omega) (fun u hu => by
    obtain ⟨k, hk, rfl⟩ := List.getElem_of_mem hu
    have := ext_get c' o' (m * s) k hso
    rw [hlen] at hk
    rw [if_pos hk] at this
    refine h1 k _ hk (this.symm.trans ?_)
    rw [← Array.getElem?_toList]; exact List.getElem?_eq_getElem _)
  have hst' : (storeCells ⟨b, o, none⟩ (c'.extract o' (o' + m * s)).toList).run P w = .ok () (setBlk w b (.cells (wr c o (c'.extract o' (o' + m * s)).toList) E z)) := by
    rw [hst]
    congr 1
    split
    · rename_i h; rw [h]; exact (setBlk_self hb).symm
    · rfl
  obtain ⟨l, hl2⟩ : ∃ l, l = c'.extract o' (o' + m * s) := ⟨_, rfl⟩
  rw [← hl2] at hl hst' ⊢
  simp [Builtin.copy_, run_underlying hu, Builtin.lenOf, Builtin.firstCells, hs, ← hm, hl, hst']

theorem unf {z : Nat × Nat} {n m : Nat} (h : unfrozen z n) (hm : m ≤ n) : unfrozen z m := fun o ho => h o (by omega)
theorem frz {w : World} {b : Nat} {c : Array Value} {E : TypeId} {z : Nat × Nat} (hb : w.heap[b]? = some (.cells c E z)) {n o : Nat} (hz : unfrozen z n) (ho : o < n) : w.frozen? ⟨b, o, none⟩ = false := by
  have := hz o ho
  simp only [World.frozen?, hb]
  cases hd : decide (z.1 ≤ o) && decide (o < z.2) with
  | false => rfl
  | true => simp at hd; exact absurd hd this
theorem shp {w : World} {b : Nat} {c : Array Value} {E : TypeId} {z : Nat × Nat} (hb : w.heap[b]? = some (.cells c E z)) : w.shape? b = some (E, c.size) := by
  simp [World.shape?, hb]

set_option maxHeartbeats 4000000 in
set_option maxRecDepth 100000 in
theorem Try.ins_shift (w : World) (b off n c i vb voff vc m : Nat) (hm : m = 1) (cs : Array Value) (E : TypeId) (z : Nat × Nat) (cv : Array Value) (Ev : TypeId) (zv : Nat × Nat) (hi : i < n) (hroom : n + m ≤ c) (hn : n < maxLen') (hvb : vb ≠ b)
    (hb : w.heap[b]? = some (.cells cs E z)) (hz : unfrozen z (cs.size + (3 - 1))) (hsz : off + c * 3 ≤ cs.size) (h1 : ∀ (j : Nat) (u : Value), cs[j]? = some u → u.oneCell = true)
    (hbv : w.heap[vb]? = some (.cells cv Ev zv)) (hzv : unfrozen zv (cv.size + (3 - 1))) (hszv : voff + m * 3 ≤ cv.size) (h1v : ∀ (j : Nat) (u : Value), cv[j]? = some u → u.oneCell = true) :
    Calls Try.prog 140 #[.slice (some ⟨b, off, none⟩) n c, .int .i64 i, .slice (some ⟨vb, voff, none⟩) m vc] w fun e w' => e = .returned (.slice (some ⟨b, off, none⟩) (n + m) c) ∧
      w' = setBlk w.drew b (.cells (wr (wr cs (off + (i + m) * 3) (cs.extract (off + i * 3) (off + i * 3 + (n - i) * 3)).toList) (off + i * 3) (cv.extract voff (voff + m * 3)).toList) E z) := by
  have hmx : n + m ≤ 1099511627777 := by unfold maxLen' at hn; omega
  have hz1 : ¬ ((m : Int) = 0) := by omega
  have hz2 : ¬ ((i : Int) = (n : Int)) := by omega
  have hov : ∀ lb cb, (callFunc 152 #[.slice (some ⟨vb, voff, none⟩) m vc, .slice (some ⟨b, off + (i + m) * 3, none⟩) lb cb]).run Try.prog w = .ok (.value (.bool false)) w := fun lb cb => by
    rw [run_callFunc_extern Try.func152 (by kernel_rfl) (by kernel_rfl) (by kernel_rfl) (e := Extern.SlicesOverlaps.overlaps #[74, 74] #[4]) (by kernel_rfl),
      Lib.run_overlaps_apart w 74 4 120 Try.underlying74 3 Try.sizeOf120 ⟨vb, voff, none⟩ ⟨b, off + (i + m) * 3, none⟩ m vc lb cb hvb Ev E cv.size cs.size (shp hbv) (shp hb) (by omega) (frz hbv hzv (by omega)) (frz hbv hzv (by omega))]
    rfl
  have hw1 : IntKind.i64.wrap ((i : Int) + (m : Int)) = (i : Int) + (m : Int) := by rw [IntKind.wrap_i64]; omega
  have hw2 : IntKind.i64.wrap ((n : Int) + (m : Int)) = (n : Int) + (m : Int) := by rw [IntKind.wrap_i64]; omega
  have hb1 : (0 : Int) ≤ (i : Int) + (m : Int) := by omega
  have hin : i ≤ n := by omega
  have htn : ((i : Int) + (m : Int)).toNat = i + m := by omega
  have htn2 : ((n : Int) + (m : Int)).toNat = n + m := by omega
  have hb2 : ¬ (c = i + m) := by omega
  have hb3 : (i : Int) ≤ (n : Int) + (m : Int) := by omega
  have hb4 : ¬ (c = i) := by omega
  have hlt := (Array.getElem?_eq_some_iff.1 hb).1
  have hcp1 : ∀ ty dc sc, (Builtin.copy_ #[74, 74] ty #[.slice (some ⟨b, off + (i + m) * 3, none⟩) (n + m - (i + m)) dc, .slice (some ⟨b, off + i * 3, none⟩) (n + m - i) sc]).run Try.prog w.drew =
      .ok (goInt ((n - i : Nat) : Int)) (setBlk w.drew b (.cells (wr cs (off + (i + m) * 3) (cs.extract (off + i * 3) (off + i * 3 + (n - i) * 3)).toList) E z)) := fun ty dc sc =>
    run_copyS Try.underlying74 Try.sizeOf120 (w := w.drew) hb (unf hz (by omega)) hb (by simp only [Nat.min_def]; split <;> omega) (by omega) (by omega) (fun _ u _ h => h1 _ u h)
  obtain ⟨c1, hc1⟩ : ∃ c1, wr cs (off + (i + m) * 3) (cs.extract (off + i * 3) (off + i * 3 + (n - i) * 3)).toList = c1 := ⟨_, rfl⟩
  rw [hc1] at hcp1 ⊢
  have hc1s : c1.size = cs.size := by rw [← hc1, wr_size]
  clear hc1
  obtain ⟨W1, hW1⟩ : ∃ W1, setBlk w.drew b (.cells c1 E z) = W1 := ⟨_, rfl⟩
  rw [hW1] at hcp1
  have hcp2 : ∀ (W : World), W.heap = W1.heap → ∀ ty dc, (Builtin.copy_ #[74, 74] ty #[.slice (some ⟨b, off + i * 3, none⟩) (n + m - i) dc, .slice (some ⟨vb, voff, none⟩) m vc]).run Try.prog W =
      .ok (goInt ((m : Nat) : Int)) (setBlk W b (.cells (wr c1 (off + i * 3) (cv.extract voff (voff + m * 3)).toList) E z)) := fun W hW ty dc =>
    run_copyS Try.underlying74 Try.sizeOf120 (w := W) (by rw [hW, ← hW1]; exact setBlk_same hlt) (unf hz (by omega)) (c' := cv) (by rw [hW, ← hW1, setBlk_other hvb]; exact hbv) (by simp only [Nat.min_def]; split <;> omega) (by omega) (by omega) (fun _ u _ h => h1v _ u h)
  have mixed : Try.prog.follows Departure.mixedOrders = true := by kernel_rfl
  clear hm
  go_enter Try.func140, Try.ntmps140
  go_wp2_with (simp only [hov])
  go_region_law_o (refine step_copy_runI rfl _ _ 74 74 rfl _ _ (by simp [Act.eval, Act.put]) (by simp [Act.eval, Act.put]) (hcp1 _ _ _) ?_)
  go_wp2_with (at_builtin; refine wpList_copy_runI _ rfl _ _ 74 74 rfl _ _ rfl rfl (hcp2 _ rfl _ _) ?_)
  go_ret
  exact ⟨rfl, by rw [← hW1, setBlk_setBlk]; simp⟩

theorem Try.info120 : ∃ i zv, Try.prog.info? 120 = some i ∧ i.zero = some zv ∧ zv.cells.size = 3 ∧ (∀ (j : Nat) (u : Value), zv.cells[j]? = some u → u.oneCell = true) ∧ i.size = 3 ∧ i.bytes = 32 := by
  have h : (Try.prog.info? 120).map (fun i => (i.size, i.bytes, (i.zero.map fun v => v.cells.toList.map Value.oneCell))) = some (3, 32, some [true, true, true]) := by kernel_rfl
  cases hi : Try.prog.info? 120 with
  | none => rw [hi] at h; cases h
  | some i =>
    rw [hi] at h
    simp only [Option.map_some, Option.some.injEq, Prod.mk.injEq] at h
    obtain ⟨h1, h2, h3⟩ := h
    cases hz : i.zero with
    | none => rw [hz] at h3; cases h3
    | some zv =>
      rw [hz] at h3
      simp only [Option.map_some, Option.some.injEq] at h3
      have hl := congrArg List.length h3
      simp at hl
      refine ⟨i, zv, rfl, hz, hl, ?_, h1, h2⟩
      intro j u hu
      have hg : (zv.cells.toList.map Value.oneCell)[j]? = some u.oneCell := by rw [List.getElem?_map, Array.getElem?_toList, hu]; rfl
      rw [h3] at hg
      have : u.oneCell ∈ [true, true, true] := List.mem_of_getElem? hg
      simpa using this

/-- An append of what a Insert puts in. -/
theorem Try.app120 {w : World} {base : Option Addr} {n c vb voff m vc : Nat} {old : Array Value} {cv : Array Value} {Ev : TypeId} {zv : Nat × Nat}
    (hold : ∀ w' : World, w'.heap = w.heap → (Builtin.firstCells 3 n (.slice base n c)).run Try.prog w' = .ok old w') (hn : n + m ≤ maxLen')
    (hbv : w.heap[vb]? = some (.cells cv Ev zv)) (hszv : voff + m * 3 ≤ cv.size) : ∃ z : Array Value, z.size = 3 ∧ (∀ (j : Nat) (u : Value), z[j]? = some u → u.oneCell = true) ∧ ∀ ty,
    (Builtin.append_ #[74, 74] ty #[.slice base n c, .slice (some ⟨vb, voff, none⟩) m vc]).run Try.prog w =
      if n + m ≤ c then (match base with | some a => (storeCells (a.add (n * 3)) (cv.extract voff (voff + m * 3)).toList).run Try.prog w | none => .ok () w).andThen fun _ w' => .ok (.slice base (n + m) c) w'
      else .ok (.slice (some ⟨w.heap.size, 0, none⟩) (n + m) (grownCap w (n + m) c 120)) (w.drew.alloc (.cells (old ++ cv.extract voff (voff + m * 3) ++ Builtin.zeroCells z (grownCap w (n + m) c 120 - (n + m))) 120)) := by
  obtain ⟨i, zv', hi, hz, hzs, hz1, hs, hby⟩ := Try.info120
  have e : tsize Try.prog 120 = 3 := by kernel_rfl
  refine ⟨zv'.cells, hzs, hz1, fun ty => ?_⟩
  have h := run_append (P := Try.prog) (tys := #[74, 74]) (t := 74) (ut := 74) (el := 120) (ty := ty) (d := .slice 120) (w := w) (base := base) (sLen := n) (sCap := c) (n := m) (x := .slice (some ⟨vb, voff, none⟩) m vc)
    (old := old) (new := cv.extract voff (voff + m * 3)) rfl Try.underlying74 Try.underlying74 (fun k => by simp) (by rw [e]; omega) (by simp [tbytes, hi, hby]) hi hz (by simp [Builtin.lenOf])
    (fun w' hw => by rw [e]; exact Go.Sym.run_loadCells Try.prog (by rw [hw]; exact hbv) hszv) (fun w' hw => by rw [e]; exact hold w' hw) hn
  rw [e] at h
  exact h

set_option maxHeartbeats 4000000 in
set_option maxRecDepth 100000 in
theorem Try.ins_end_room (w : World) (b off n c vb voff vc m : Nat) (hm : m = 1) (cs : Array Value) (E : TypeId) (z : Nat × Nat) (cv : Array Value) (Ev : TypeId) (zv : Nat × Nat) (hroom : n + m ≤ c) (hn : n < maxLen')
    (hb : w.heap[b]? = some (.cells cs E z)) (hz : unfrozen z (cs.size + (3 - 1))) (hsz : off + c * 3 ≤ cs.size)
    (hbv : w.heap[vb]? = some (.cells cv Ev zv)) (hszv : voff + m * 3 ≤ cv.size) (h1v : ∀ (j : Nat) (u : Value), cv[j]? = some u → u.oneCell = true) :
    Calls Try.prog 140 #[.slice (some ⟨b, off, none⟩) n c, .int .i64 n, .slice (some ⟨vb, voff, none⟩) m vc] w fun e w' => e = .returned (.slice (some ⟨b, off, none⟩) (n + m) c) ∧
      w' = setBlk w b (.cells (wr cs (off + n * 3) (cv.extract voff (voff + m * 3)).toList) E z) := by
  have hz1 : ¬ ((m : Int) = 0) := by omega
  have hold : ∀ w' : World, w'.heap = w.heap → (Builtin.firstCells 3 n (.slice (some ⟨b, off, none⟩) n c)).run Try.prog w' = .ok (cs.extract off (off + n * 3)) w' := fun w' hw =>
    Go.Sym.run_loadCells Try.prog (by rw [hw]; exact hb) (by omega)
  obtain ⟨zc, hzc, hz1', happ⟩ := Try.app120 (m := m) (vc := vc) hold (by omega) hbv hszv
  have hlen : (cv.extract voff (voff + m * 3)).toList.length = m * 3 := by rw [Array.length_toList]; exact ext_size _ _ _ hszv
  have hst := run_storeCells Try.prog b E z (cv.extract voff (voff + m * 3)).toList w cs (off + n * 3) 0 hb (unf hz (by omega)) (by rw [hlen]; omega) (fun u hu => by
    obtain ⟨k, hk, rfl⟩ := List.getElem_of_mem hu
    have := ext_get cv voff (m * 3) k hszv
    rw [hlen] at hk
    rw [if_pos hk] at this
    refine h1v (voff + k) _ (this.symm.trans ?_)
    rw [← Array.getElem?_toList]; exact List.getElem?_eq_getElem _)
  have hne : (cv.extract voff (voff + m * 3)).toList ≠ [] := fun h => by rw [h] at hlen; simp at hlen; omega
  rw [if_neg hne] at hst
  obtain ⟨c1, hc1⟩ : ∃ c1, wr cs (off + n * 3) (cv.extract voff (voff + m * 3)).toList = c1 := ⟨_, rfl⟩
  have hr : ∀ ty, (Builtin.append_ #[74, 74] ty #[.slice (some ⟨b, off, none⟩) n c, .slice (some ⟨vb, voff, none⟩) m vc]).run Try.prog w = .ok (.slice (some ⟨b, off, none⟩) (n + m) c) (setBlk w b (.cells c1 E z)) := fun ty => by
    rw [happ ty, if_pos hroom]
    simp only
    rw [add_none, hst, ← hc1]
    rfl
  rw [hc1]
  have mixed : Try.prog.follows Departure.mixedOrders = true := by kernel_rfl
  clear hm hold happ hlen hst hne hc1 hz1'
  go_enter Try.func140, Try.ntmps140
  go_wp2_with (at_builtin; refine Lib.wpList_append_run _ rfl _ _ _ _ rfl _ _ rfl rfl _ _ (hr _) ?_)
  go_ret
  exact ⟨rfl, rfl⟩

set_option maxHeartbeats 4000000 in
set_option maxRecDepth 100000 in
theorem Try.ins_end_grow (w : World) (base : Option Addr) (n vb voff vc m : Nat) (hm : m = 1) (cv : Array Value) (Ev : TypeId) (zv : Nat × Nat) (old : Array Value) (hn : n < maxLen')
    (hold : ∀ w' : World, w'.heap = w.heap → (Builtin.firstCells 3 n (.slice base n n)).run Try.prog w' = .ok old w')
    (hnil : 0 < n → ∃ b off, base = some ⟨b, off, none⟩) (hbv : w.heap[vb]? = some (.cells cv Ev zv)) (hszv : voff + m * 3 ≤ cv.size) :
    ∃ z : Array Value, z.size = 3 ∧ (∀ (j : Nat) (u : Value), z[j]? = some u → u.oneCell = true) ∧
    Calls Try.prog 140 #[.slice base n n, .int .i64 n, .slice (some ⟨vb, voff, none⟩) m vc] w fun e w' => e = .returned (.slice (some ⟨w.heap.size, 0, none⟩) (n + m) (grownCap w (n + m) n 120)) ∧
      w' = w.drew.alloc (.cells (old ++ cv.extract voff (voff + m * 3) ++ Builtin.zeroCells z (grownCap w (n + m) n 120 - (n + m))) 120) := by
  have hz1 : ¬ ((m : Int) = 0) := by omega
  obtain ⟨zc, hzc, hz1', happ⟩ := Try.app120 (m := m) (vc := vc) hold (by omega) hbv hszv
  refine ⟨zc, hzc, hz1', ?_⟩
  obtain ⟨ROW, hROW⟩ : ∃ ROW, old ++ cv.extract voff (voff + m * 3) ++ Builtin.zeroCells zc (grownCap w (n + m) n 120 - (n + m)) = ROW := ⟨_, rfl⟩
  have hr : ∀ ty, (Builtin.append_ #[74, 74] ty #[.slice base n n, .slice (some ⟨vb, voff, none⟩) m vc]).run Try.prog w = .ok (.slice (some ⟨w.heap.size, 0, none⟩) (n + m) (grownCap w (n + m) n 120)) (w.drew.alloc (.cells ROW 120)) := fun ty => by
    rw [happ ty, if_neg (by omega), hROW]
  rw [hROW]
  have mixed : Try.prog.follows Departure.mixedOrders = true := by kernel_rfl
  have hbase : base = none ∧ n = 0 ∨ ∃ a, base = some a := by
    cases base with
    | none => exact .inl ⟨rfl, by
        rcases Nat.eq_zero_or_pos n with h | h
        · exact h
        · obtain ⟨b, off, e⟩ := hnil h; cases e⟩
    | some a => exact .inr ⟨a, rfl⟩
  clear hm hold happ hROW hz1' hnil
  rcases hbase with ⟨rfl, rfl⟩ | ⟨⟨ab, ao, asp⟩, rfl⟩
  · go_enter Try.func140, Try.ntmps140
    go_wp2_with (at_builtin; refine Lib.wpList_append_run _ rfl _ _ _ _ rfl _ _ rfl rfl _ _ (hr _) ?_)
    go_ret
    simp only [Nat.zero_add]
    exact ⟨rfl, rfl⟩
  · go_enter Try.func140, Try.ntmps140
    go_wp2_with (at_builtin; refine Lib.wpList_append_run _ rfl _ _ _ _ rfl _ _ rfl rfl _ _ (hr _) ?_)
    all_goals (go_ret; exact ⟨rfl, rfl⟩)

theorem setBlk_alloc (w : World) (o o' : Obj) : setBlk (w.alloc o) w.heap.size o' = w.alloc o' := by
  unfold setBlk World.alloc
  congr 1
  apply Array.ext_getElem?
  intro k
  by_cases hk : w.heap.size = k
  · subst hk; simp
  · rw [Array.getElem?_setIfInBounds_ne hk]
    simp only [Array.getElem?_push]
    rw [if_neg (Ne.symm hk), if_neg (Ne.symm hk)]

set_option maxHeartbeats 4000000 in
set_option maxRecDepth 100000 in
theorem Try.ins_grow (w : World) (b off n i vb voff vc m : Nat) (hm : m = 1) (cs : Array Value) (E : TypeId) (z : Nat × Nat) (cv : Array Value) (Ev : TypeId) (zv : Nat × Nat) (hi : i < n) (hn : n < maxLen')
    (hb : w.heap[b]? = some (.cells cs E z)) (hsz : off + n * 3 ≤ cs.size) (h1 : ∀ (j : Nat) (u : Value), j < n * 3 → cs[off + j]? = some u → u.oneCell = true)
    (hbv : w.heap[vb]? = some (.cells cv Ev zv)) (hszv : voff + m * 3 ≤ cv.size) (h1v : ∀ (j : Nat) (u : Value), cv[j]? = some u → u.oneCell = true) :
    ∃ zc : Array Value, zc.size = 3 ∧ (∀ (j : Nat) (u : Value), zc[j]? = some u → u.oneCell = true) ∧
    Calls Try.prog 140 #[.slice (some ⟨b, off, none⟩) n n, .int .i64 i, .slice (some ⟨vb, voff, none⟩) m vc] w fun e w' => e = .returned (.slice (some ⟨w.heap.size, 0, none⟩) (n + m) (grownCap w (n + m) n 120)) ∧
      w' = (w.drewN 2).alloc (.cells (wr (wr (cs.extract off (off + i * 3) ++ Builtin.zeroCells zc (n + m - i) ++ Builtin.zeroCells zc (grownCap w (n + m) n 120 - (n + m))) (i * 3) (cv.extract voff (voff + m * 3)).toList) ((i + m) * 3) (cs.extract (off + i * 3) (off + i * 3 + (n - i) * 3)).toList) 120) := by
  obtain ⟨i0, zval, hi0, hz0, hzs, hz1', hzsz, hby⟩ := Try.info120
  refine ⟨zval.cells, hzs, hz1', ?_⟩
  have hmx : n + m ≤ 1099511627777 := by unfold maxLen' at hn; omega
  have hz1 : ¬ ((m : Int) = 0) := by omega
  have hz2 : ¬ ((i : Int) = (n : Int)) := by omega
  have hz3 : (n : Int) < (n : Int) + (m : Int) := by omega
  have hbw : b < w.heap.size := (Array.getElem?_eq_some_iff.1 hb).1
  have hvw : vb < w.heap.size := (Array.getElem?_eq_some_iff.1 hbv).1
  have hkk : (n : Int) + (m : Int) - (i : Int) = ((n + m - i : Nat) : Int) := by omega
  have hik : i + (n + m - i) = n + m := by omega
  have hold : (Builtin.firstCells i0.size i (.slice (some ⟨b, off, none⟩) i n)).run Try.prog w.drew = .ok (cs.extract off (off + i * 3)).toList.toArray w.drew := by
    rw [hzsz]
    exact Go.Sym.run_loadCells Try.prog (w := w.drew) hb (by omega)
  have hrz : ∀ ty, (Builtin.append_ #[74, 3] ty #[.slice (some ⟨b, off, none⟩) i n, .int .i64 ((n : Int) + (m : Int) - (i : Int))]).run Try.prog w =
      .ok (.slice (some ⟨w.heap.size, 0, none⟩) (n + m) (grownCap w (n + m) n 120)) (w.drew.alloc (.cells (cs.extract off (off + i * 3) ++ Builtin.zeroCells zval.cells (n + m - i) ++ Builtin.zeroCells zval.cells (grownCap w (n + m) n 120 - (n + m))) 120)) := fun ty => by
    have h := Lib.run_append_grow_zeros w 74 3 ty 120 i0 _ .i64 .i64 Try.underlying74 Try.underlying3 hi0 hz0 (some ⟨b, off, none⟩) i n _ hold (n + m - i) (by omega) (by omega) (by omega) (by omega) (by rw [hby]; omega) (by rw [hby, hik]; exact growslice_fits (by omega) (by omega))
    rw [hik] at h
    rw [hkk]
    exact h
  have hGn : n + m ≤ grownCap w (n + m) n 120 := grownCap_ge w _ _ _
  have hG63 : grownCap w (n + m) n 120 ≤ 9223372036854775807 := by
    have := grownCap_le_maxLen w (n + m) n 120 (by unfold maxLen; omega)
    unfold maxLen at this
    omega
  obtain ⟨G, hG⟩ : ∃ G, grownCap w (n + m) n 120 = G := ⟨_, rfl⟩
  rw [hG] at hrz hGn hG63 ⊢
  obtain ⟨ROW, hROW⟩ : ∃ ROW : Array Value, cs.extract off (off + i * 3) ++ Builtin.zeroCells zval.cells (n + m - i) ++ Builtin.zeroCells zval.cells (G - (n + m)) = ROW := ⟨_, rfl⟩
  rw [hROW] at hrz ⊢
  have hRl : (n + m) * 3 ≤ ROW.size := by
    rw [← hROW]
    simp only [Array.size_append, zeroCells_size, hzs, ext_size cs off (i * 3) (by omega)]
    omega
  obtain ⟨N, hN⟩ : ∃ N, w.heap.size = N := ⟨_, rfl⟩
  have hWN : ∀ o : Obj, (w.drew.alloc o).heap[N]? = some o := fun o => by rw [← hN]; exact alloc_new w.drew o
  have hWo : ∀ (o : Obj) (k : Nat), k < N → (w.drew.alloc o).heap[k]? = w.heap[k]? := fun o k hk => by exact alloc_block w.drew o k (by show k < w.heap.size; omega)
  have hcpA : ∀ (W : World), W.heap = (w.drew.alloc (.cells ROW 120)).heap → ∀ ty dc, (Builtin.copy_ #[74, 74] ty #[.slice (some ⟨N, i * 3, none⟩) (n + m - i) dc, .slice (some ⟨vb, voff, none⟩) m vc]).run Try.prog W =
      .ok (goInt ((m : Nat) : Int)) (setBlk W N (.cells (wr ROW (i * 3) (cv.extract voff (voff + m * 3)).toList) 120 (0, 0))) := fun W hW ty dc =>
    run_copyS Try.underlying74 Try.sizeOf120 (w := W) (by rw [hW]; exact hWN _) (fun o _ h => by simp only at h; omega) (c' := cv) (by rw [hW, hWo _ _ (by omega)]; exact hbv) (by simp only [Nat.min_def]; split <;> omega) (by omega) (by omega) (fun _ u _ h => h1v _ u h)
  obtain ⟨R1, hR1⟩ : ∃ R1, wr ROW (i * 3) (cv.extract voff (voff + m * 3)).toList = R1 := ⟨_, rfl⟩
  have hR1s : R1.size = ROW.size := by rw [← hR1, wr_size]
  rw [hR1] at hcpA ⊢
  have hcpB : ∀ (W : World), W.heap = (w.drew.alloc (.cells R1 120)).heap → ∀ ty dc sc, (Builtin.copy_ #[74, 74] ty #[.slice (some ⟨N, (i + m) * 3, none⟩) (n + m - (i + m)) dc, .slice (some ⟨b, off + i * 3, none⟩) (n - i) sc]).run Try.prog W =
      .ok (goInt ((n - i : Nat) : Int)) (setBlk W N (.cells (wr R1 ((i + m) * 3) (cs.extract (off + i * 3) (off + i * 3 + (n - i) * 3)).toList) 120 (0, 0))) := fun W hW ty dc sc =>
    run_copyS Try.underlying74 Try.sizeOf120 (w := W) (by rw [hW]; exact hWN _) (fun o _ h => by simp only at h; omega) (c' := cs) (by rw [hW, hWo _ _ (by omega)]; exact hb) (by simp only [Nat.min_def]; split <;> omega) (by omega) (by omega) (fun k u hk h => h1 (i * 3 + k) u (by omega) (by rw [← Nat.add_assoc]; exact h))
  obtain ⟨R2, hR2⟩ : ∃ R2, wr R1 ((i + m) * 3) (cs.extract (off + i * 3) (off + i * 3 + (n - i) * 3)).toList = R2 := ⟨_, rfl⟩
  rw [hR2] at hcpB ⊢
  have hgi : ¬ (G = i) := by omega
  have hgim : ¬ (G = i + m) := by omega
  have hni : ¬ (n = i) := by omega
  have hw1 : IntKind.i64.wrap ((i : Int) + (m : Int)) = (i : Int) + (m : Int) := by rw [IntKind.wrap_i64]; omega
  have hw2 : IntKind.i64.wrap ((n : Int) + (m : Int)) = (n : Int) + (m : Int) := by rw [IntKind.wrap_i64]; omega
  have hw3 : IntKind.i64.wrap ((n : Int) + (m : Int) - (i : Int)) = (n : Int) + (m : Int) - (i : Int) := by rw [IntKind.wrap_i64]; omega
  have hb1 : (0 : Int) ≤ (i : Int) + (m : Int) := by omega
  have hin : i ≤ n := by omega
  have htn : ((i : Int) + (m : Int)).toNat = i + m := by omega
  have hb3 : (i : Int) ≤ (n : Int) := by omega
  have hb5 : (i : Int) ≤ (n : Int) + (m : Int) := by omega
  have mixed : Try.prog.follows Departure.mixedOrders = true := by kernel_rfl
  have hA1 : ((w.alloc (.cells ROW 120)).drew).heap = (w.drew.alloc (.cells ROW 120)).heap := rfl
  have hfin : ∀ W : World, W = setBlk (setBlk (w.drew.alloc (.cells ROW 120)) N (.cells R1 120 (0, 0))).drew N (.cells R2 120 (0, 0)) → W = (w.drewN 2).alloc (.cells R2 120) := by
    intro W hW
    rw [hW, ← hN]
    have e1 : setBlk (w.drew.alloc (.cells ROW 120)) w.heap.size (.cells R1 120 (0, 0)) = w.drew.alloc (.cells R1 120) := setBlk_alloc w.drew _ _
    rw [e1]
    exact setBlk_alloc (w.drewN 2) _ _
  have hB1 : ∀ W : World, W.heap = (setBlk (w.drew.alloc (.cells ROW 120)) N (.cells R1 120 (0, 0))).heap → W.heap = (w.drew.alloc (.cells R1 120)).heap := by
    intro W hW
    rw [hW, ← hN]
    exact congrArg World.heap (setBlk_alloc w.drew _ _)
  have hB2 : (setBlk (w.alloc (.cells ROW 120)).drew N (.cells R1 120 (0, 0))).drew.heap = (w.drew.alloc (.cells R1 120)).heap := hB1 _ rfl
  have hB3 : (setBlk (w.alloc (.cells ROW 120)).drew N (.cells R1 120 (0, 0))).heap = (w.drew.alloc (.cells R1 120)).heap := hB1 _ rfl
  rw [hN] at hrz ⊢
  clear hm hkk hik hold hROW hG hRl hR1 hR2 hz1' hi0 hz0 hzs hzsz hby hN hWN hWo
  go_enter Try.func140, Try.ntmps140
  go_wp2_with (first
    | (at_builtin; refine Lib.wpList_append_run _ rfl _ _ _ _ rfl _ _ rfl rfl _ _ (hrz _) ?_)
    | (at_builtin; refine wpList_copy_runI _ rfl _ _ 74 74 rfl _ _ rfl rfl (hcpA _ hA1 _ _) ?_))
  go_region_law_o (refine step_copy_runI rfl _ _ 74 74 rfl (.slice (some ⟨N, (i + m) * 3, none⟩) (n + m - (i + m)) (G - (i + m))) (.slice (some ⟨b, off + i * 3, none⟩) (n - i) (n - i)) (by simp [Act.eval, Act.put]) (by simp [Act.eval, Act.put]) (hcpB _ hB2 3 (G - (i + m)) (n - i)) ?_)
  go_wp2
  go_ret
  exact ⟨rfl, hfin _ rfl⟩

theorem ext3 {c : Array Value} {s m k : Nat} (h : s + m ≤ c.size) (hk : k < m) : (c.extract s (s + m)).toList[k]? = c[s + k]? := by
  rw [Array.getElem?_toList, ext_get _ _ _ _ h, if_pos hk]
theorem ext3_len {c : Array Value} {s m : Nat} (h : s + m ≤ c.size) : (c.extract s (s + m)).toList.length = m := by
  rw [Array.length_toList]; exact ext_size _ _ _ h
theorem Try.insFn : InsFn Try.prog 140 3 where
  fn := ⟨_, Try.func140, by kernel_rfl, by kernel_rfl⟩
  pos := by omega
  room := by
    intro w b off n c i vb voff vc cs E z cv Ev zv hi hroom hn hvb hb hz hsz h1 hbv hzv hszv h1v
    by_cases hin : i < n
    · refine (Try.ins_shift w b off n c i vb voff vc 1 rfl cs E z cv Ev zv hin hroom hn hvb hb hz hsz h1 hbv hzv hszv h1v).mono ?_
      rintro e w' ⟨rfl, rfl⟩
      refine ⟨rfl, 1, _, rfl, by rw [wr_size, wr_size], fun k => ?_⟩
      have hA : off + i * 3 + (n - i) * 3 ≤ cs.size := by omega
      rw [wr_get _ _ _ _ (by rw [ext3_len hszv, wr_size]; omega), wr_get _ _ _ _ (by rw [ext3_len hA]; omega), ext3_len hszv, ext3_len hA]
      unfold insAt
      by_cases k1 : off + i * 3 ≤ k ∧ k < off + i * 3 + 1 * 3
      · rw [if_pos k1, if_pos (by omega), if_neg (by omega), if_pos (by omega), ext3 hszv (by omega)]
        congr 1; omega
      · rw [if_neg k1]
        by_cases k2 : off + (i + 1) * 3 ≤ k ∧ k < off + (i + 1) * 3 + (n - i) * 3
        · rw [if_pos k2, if_pos (by omega), if_neg (by omega), if_neg (by omega), if_pos (by omega), ext3 hA (by omega)]
          congr 1; omega
        · rw [if_neg k2]
          by_cases k3 : off ≤ k ∧ k < off + (n + 1) * 3
          · rw [if_pos k3, if_pos (by omega)]
            congr 1; omega
          · rw [if_neg k3]
    · obtain rfl : i = n := by omega
      refine (Try.ins_end_room w b off i c vb voff vc 1 rfl cs E z cv Ev zv hroom hn hb hz hsz hbv hszv h1v).mono ?_
      rintro e w' ⟨rfl, rfl⟩
      refine ⟨rfl, 0, _, rfl, by rw [wr_size], fun k => ?_⟩
      rw [wr_get _ _ _ _ (by rw [ext3_len hszv]; omega), ext3_len hszv]
      unfold insAt
      by_cases k1 : off + i * 3 ≤ k ∧ k < off + i * 3 + 1 * 3
      · rw [if_pos k1, if_pos (by omega), if_neg (by omega), if_pos (by omega), ext3 hszv (by omega)]
        congr 1; omega
      · rw [if_neg k1]
        by_cases k3 : off ≤ k ∧ k < off + (i + 1) * 3
        · rw [if_pos k3, if_pos (by omega)]
          congr 1; omega
        · rw [if_neg k3]
  full := by
    intro w base n i vb voff vc cv Ev zv old hi hn hos hold hsrc h1o hbv hzv hszv h1v
    have hge := grownCap_ge w (n + 1) n 120
    have hex : (cv.extract voff (voff + 1 * 3)).size = 1 * 3 := ext_size _ _ _ hszv
    by_cases hin : i < n
    · obtain ⟨b, off, cs, E, z, rfl, hb, hsz, hoc⟩ := hsrc (by omega)
      have h1 : ∀ (j : Nat) (u : Value), j < n * 3 → cs[off + j]? = some u → u.oneCell = true := fun j u hj hu => h1o j u ((hoc j hj).trans hu)
      obtain ⟨zc, hz3, hz1, hC⟩ := Try.ins_grow w b off n i vb voff vc 1 rfl cs E z cv Ev zv hin hn hb hsz h1 hbv hszv h1v
      refine hC.mono ?_
      rintro e w' ⟨rfl, rfl⟩
      obtain ⟨G, hG⟩ : ∃ G, grownCap w (n + 1) n 120 = G := ⟨_, rfl⟩
      rw [hG] at hge ⊢
      have hA : off + i * 3 + (n - i) * 3 ≤ cs.size := by omega
      have hX : off + i * 3 ≤ cs.size := by omega
      obtain ⟨ROW, hROW⟩ : ∃ ROW : Array Value, cs.extract off (off + i * 3) ++ Builtin.zeroCells zc (n + 1 - i) ++ Builtin.zeroCells zc (G - (n + 1)) = ROW := ⟨_, rfl⟩
      have hRs : ROW.size = G * 3 := by
        rw [← hROW]
        simp only [Array.size_append, zeroCells_size, hz3, ext_size cs off (i * 3) hX]
        omega
      have hRk : ∀ k, k < i * 3 → ROW[k]? = old[k]? := by
        intro k hk
        rw [← hROW, Array.append_assoc, Array.getElem?_append_left (by rw [ext_size cs off (i * 3) hX]; exact hk), ext_get _ _ _ _ hX, if_pos hk, hoc k (by omega)]
      have hR1 : ∀ (j : Nat) (u : Value), ROW[j]? = some u → u.oneCell = true := by
        intro j u hu
        rw [← hROW, Array.getElem?_append] at hu
        split at hu
        · rw [Array.getElem?_append] at hu
          split at hu
          · rename_i hj
            rw [ext_size cs off (i * 3) hX] at hj
            rw [ext_get _ _ _ _ hX, if_pos hj] at hu
            exact h1 j u (by omega) hu
          · exact zeroCells_one hz1 _ _ _ hu
        · exact zeroCells_one hz1 _ _ _ hu
      rw [hROW]
      have hget : ∀ k, (wr (wr ROW (i * 3) (cv.extract voff (voff + 1 * 3)).toList) ((i + 1) * 3) (cs.extract (off + i * 3) (off + i * 3 + (n - i) * 3)).toList)[k]? =
          if (i + 1) * 3 ≤ k ∧ k < (i + 1) * 3 + (n - i) * 3 then cs[off + i * 3 + (k - (i + 1) * 3)]? else if i * 3 ≤ k ∧ k < i * 3 + 1 * 3 then cv[voff + (k - i * 3)]? else ROW[k]? := by
        intro k
        rw [wr_get _ _ _ _ (by rw [ext3_len hA, wr_size]; omega), wr_get _ _ _ _ (by rw [ext3_len hszv]; omega), ext3_len hszv, ext3_len hA]
        by_cases k1 : (i + 1) * 3 ≤ k ∧ k < (i + 1) * 3 + (n - i) * 3
        · rw [if_pos k1, if_pos k1, ext3 hA (by omega)]
        · rw [if_neg k1, if_neg k1]
          by_cases k2 : i * 3 ≤ k ∧ k < i * 3 + 1 * 3
          · rw [if_pos k2, if_pos k2, ext3 hszv (by omega)]
          · rw [if_neg k2, if_neg k2]
      refine ⟨2, G, _, 120, rfl, rfl, hge, by rw [wr_size, wr_size]; omega, fun j u hu => ?_, fun k hk => ?_⟩
      · rw [hget] at hu
        split at hu
        · exact h1 (i * 3 + (j - (i + 1) * 3)) u (by omega) (by rw [← Nat.add_assoc]; exact hu)
        · split at hu
          · exact h1v _ u hu
          · exact hR1 _ u hu
      · rw [hget]
        unfold insAt
        by_cases k1 : (i + 1) * 3 ≤ k ∧ k < (i + 1) * 3 + (n - i) * 3
        · rw [if_pos k1, if_neg (by omega), if_neg (by omega), if_pos (by omega)]
          have := hoc (k - 3) (by omega)
          simp only
          rw [this]
          congr 1; omega
        · rw [if_neg k1]
          by_cases k2 : i * 3 ≤ k ∧ k < i * 3 + 1 * 3
          · rw [if_pos k2, if_neg (by omega), if_pos (by omega)]
          · rw [if_neg k2, if_pos (by omega), hRk k (by omega)]
    · obtain rfl : i = n := by omega
      obtain ⟨zc, hz3, hz1, hC⟩ := Try.ins_end_grow w base i vb voff vc 1 rfl cv Ev zv old hn hold (fun h => by obtain ⟨b, off, _, _, _, e, _⟩ := hsrc h; exact ⟨b, off, e⟩) hbv hszv
      refine hC.mono ?_
      rintro e w' ⟨rfl, rfl⟩
      refine ⟨1, _, _, 120, rfl, rfl, hge, ?_, fun j u hu => ?_, fun k hk => ?_⟩
      · simp only [Array.size_append, zeroCells_size, hz3, hex, hos]
        omega
      · rw [Array.getElem?_append] at hu
        split at hu
        · rw [Array.getElem?_append] at hu
          split at hu
          · exact h1o _ u hu
          · rename_i hj1 hj2
            simp only [Array.size_append, hex] at hj1
            rw [ext_get _ _ _ _ hszv, if_pos (by omega)] at hu
            exact h1v _ u hu
        · exact zeroCells_one hz1 _ _ _ hu
      · unfold insAt
        rw [Array.getElem?_append_left (by simp only [Array.size_append, hex, hos]; omega), Array.getElem?_append, hos]
        by_cases k1 : k < i * 3
        · rw [if_pos k1, if_pos k1]
        · rw [if_neg k1, if_neg k1, if_pos (by omega), ext_get _ _ _ _ hszv, if_pos (by omega)]
theorem Try.fnOk_insert {args : List V} {hp : List (Nat × Ob)} {nx : Nat} {v : V} {hp' : List (Nat × Ob)} {nx' : Nat} (h : libSem ⟨6, 3, 0⟩ args hp nx = some (v, hp', nx')) : FnOk Fence.wide Try.prog 140 args hp nx v hp' nx' :=
  fnOk_Ins (K := ⟨6, 3, 0⟩) Try.insFn rfl h

theorem Try.eqnil (a : Option Addr) (n cap : Nat) (w : World) : (binOp BinOp.eql 74 (.slice a n cap) (.slice none 0 0)).run Try.prog w = .ok (.bool a.isNone) w := by
  have key : ∀ D, (Op.equalIn (D + 1) 74 (.slice a n cap) (.slice none 0 0)).run Try.prog w = .ok a.isNone w := by
    intro D
    cases a <;> simp [Op.equalIn, run_underlying Try.underlying74]
  simp [binOp, Op.equal, Op.maxDepth, key]
set_option maxHeartbeats 4000000 in
set_option maxRecDepth 100000 in
theorem Try.clone_nil (w : World) (cap : Nat) : Calls Try.prog 137 #[.slice none 0 cap] w fun e w' => e = .returned (.slice none 0 0) ∧ w' = w := by
  have mixed : Try.prog.follows Departure.mixedOrders = true := by kernel_rfl
  have he : ∀ w, (binOp BinOp.eql 74 (.slice none 0 cap) (.slice none 0 0)).run Try.prog w = .ok (.bool true) w := fun w => Try.eqnil none 0 cap w
  go_enter Try.func137, Try.ntmps137
  go_wp2_with (simp only [he])
  go_ret
  exact ⟨rfl, rfl⟩
/-- The append within Clone. -/
theorem Try.app137 {w : World} {a : Addr} {n cap : Nat} {old : Array Value} (hold : ∀ w' : World, w'.heap = w.heap → (Builtin.firstCells 3 n (.slice (some a) n cap)).run Try.prog w' = .ok old w') (hn : n ≤ maxLen') (b : Nat) :
    ∃ z : Array Value, z.size = 3 ∧ (∀ (j : Nat) (u : Value), z[j]? = some u → u.oneCell = true) ∧ ∀ ty,
    (Builtin.append_ #[74, 74] ty #[.slice (some ⟨b, 0, none⟩) 0 0, .slice (some a) n cap]).run Try.prog w =
      if n = 0 then .ok (.slice (some ⟨b, 0, none⟩) 0 0) w
      else .ok (.slice (some ⟨w.heap.size, 0, none⟩) n (grownCap w n 0 120)) (w.drew.alloc (.cells (old ++ Builtin.zeroCells z (grownCap w n 0 120 - n)) 120)) := by
  obtain ⟨i, zv', hi, hz, hzs, hz1, hs, hby⟩ := Try.info120
  have e : tsize Try.prog 120 = 3 := by kernel_rfl
  refine ⟨zv'.cells, hzs, hz1, fun ty => ?_⟩
  have h := run_append (P := Try.prog) (tys := #[74, 74]) (t := 74) (ut := 74) (el := 120) (ty := ty) (d := .slice 120) (w := w) (base := some ⟨b, 0, none⟩) (sLen := 0) (sCap := 0) (n := n) (x := .slice (some a) n cap)
    (old := #[]) (new := old) rfl Try.underlying74 Try.underlying74 (fun k => by simp) (by rw [e]; omega) (by simp [tbytes, hi, hby]) hi hz (by simp [Builtin.lenOf])
    (fun w' hw => by rw [e]; exact hold w' hw) (fun w' hw => by simp [Builtin.firstCells, loadCells, loadCellsFrom]) (by omega)
  rw [h]
  by_cases hn0 : n = 0
  · subst hn0
    rw [if_pos (by omega), if_pos rfl]
    have ho : old = #[] := by
      have := hold w rfl
      simp [Builtin.firstCells, loadCells, loadCellsFrom] at this
      exact this
    subst ho
    simp [storeCells, Result.andThen]
  · rw [if_neg (by omega), if_neg hn0]
    simp
set_option maxHeartbeats 4000000 in
set_option maxRecDepth 100000 in
theorem Try.clone_some (w : World) (a : Addr) (n cap : Nat) {r : Value} {w2 : World} (hr : ∀ ty, (Builtin.append_ #[74, 74] ty #[.slice (some ⟨w.heap.size, 0, none⟩) 0 0, .slice (some a) n cap]).run Try.prog (w.alloc (.cells #[] 120)) = .ok r w2) :
    Calls Try.prog 137 #[.slice (some a) n cap] w fun e w' => e = .returned r ∧ w' = w2 := by
  have mixed : Try.prog.follows Departure.mixedOrders = true := by kernel_rfl
  have he : ∀ w, (binOp BinOp.eql 74 (.slice (some a) n cap) (.slice none 0 0)).run Try.prog w = .ok (.bool false) w := fun w => Try.eqnil (some a) n cap w
  go_enter Try.func137, Try.ntmps137
  go_wp2_with (first
    | simp only [he]
    | (at_builtin; refine Lib.wpList_append_run _ rfl _ _ _ _ rfl _ _ rfl rfl _ _ (hr _) ?_))
  go_ret
  exact ⟨rfl, rfl⟩
theorem Try.cloneFn : CloneFn Try.prog 137 3 120 where
  fn := ⟨_, Try.func137, by kernel_rfl, by kernel_rfl⟩
  pos := by omega
  nilc := Try.clone_nil
  emp := by
    intro w a cap
    obtain ⟨z, _, _, hr⟩ := Try.app137 (w := w.alloc (.cells #[] 120)) (a := a) (n := 0) (cap := cap) (old := #[]) (fun w' _ => by simp [Builtin.firstCells, loadCells, loadCellsFrom]) (by unfold maxLen'; omega) w.heap.size
    exact Try.clone_some w a 0 cap (fun ty => by rw [hr ty, if_pos rfl])
  ful := by
    intro w a n cap old hpos hn hos hold h1o
    obtain ⟨z, hz3, hz1, hr⟩ := Try.app137 (w := w.alloc (.cells #[] 120)) (cap := cap) hold hn w.heap.size
    refine (Try.clone_some w a n cap (fun ty => by rw [hr ty, if_neg (by omega)])).mono ?_
    rintro e w' ⟨rfl, rfl⟩
    have hge := grownCap_ge (w.alloc (.cells #[] 120)) n 0 120
    have e1 : (w.alloc (.cells #[] 120)).heap.size = w.heap.size + 1 := by
      unfold World.alloc
      simp
    refine ⟨1, _, _, by rw [e1], rfl, hge, ?_, fun j u hu => ?_, fun k hk => ?_⟩
    · simp only [Array.size_append, zeroCells_size, hz3, hos]; omega
    · rw [Array.getElem?_append] at hu
      split at hu
      · exact h1o _ u hu
      · exact zeroCells_one hz1 _ _ _ hu
    · rw [Array.getElem?_append_left (by omega)]
theorem Try.fnOk_clone {args : List V} {hp : List (Nat × Ob)} {nx : Nat} {v : V} {hp' : List (Nat × Ob)} {nx' : Nat} (h : libSem ⟨8, 3, 120⟩ args hp nx = some (v, hp', nx')) : FnOk Fence.wide Try.prog 137 args hp nx v hp' nx' :=
  fnOk_Clone (K := ⟨8, 3, 120⟩) Try.cloneFn rfl h
end Go.Proofs
