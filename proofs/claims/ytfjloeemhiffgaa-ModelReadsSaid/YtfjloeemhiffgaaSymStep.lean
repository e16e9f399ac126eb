/- DERIVED. Steps that write: a variable's cells, a row's element, a row that grows in its place; a row that is frozen. -/
import Derived.Test.YtfjloeemhiffgaaSymRel
set_option linter.unusedVariables false
set_option linter.unusedSimpArgs false
namespace Go.Sym

/-- Cells written, one after the other. -/
def wr (c : Array Value) (o : Nat) : List Value → Array Value
  | [] => c
  | u :: r => wr (c.setIfInBounds o u) (o + 1) r
theorem wr_size (us : List Value) : ∀ (c : Array Value) (o : Nat), (wr c o us).size = c.size := by
  induction us with
  | nil => intro c o; rfl
  | cons u r ih => intro c o; simp [wr, ih]
theorem wr_get (us : List Value) : ∀ (c : Array Value) (o k : Nat), o + us.length ≤ c.size → (wr c o us)[k]? = if o ≤ k ∧ k < o + us.length then us[k - o]? else c[k]? := by
  induction us with
  | nil => intro c o k _; simp [wr]; omega
  | cons u r ih =>
    intro c o k h
    simp only [List.length_cons] at h
    rw [wr, ih _ _ _ (by simp; omega)]
    by_cases h1 : o = k
    · subst h1
      rw [if_neg (by omega), if_pos (by simp)]
      simp [Array.getElem?_setIfInBounds, show o < c.size by omega]
    · rw [Array.getElem?_setIfInBounds_ne h1]
      by_cases h2 : o + 1 ≤ k ∧ k < o + 1 + r.length
      · rw [if_pos h2, if_pos (by simp; omega)]
        rw [show k - o = (k - (o + 1)) + 1 by omega, List.getElem?_cons_succ]
      · rw [if_neg h2, if_neg (by simp; omega)]

def setBlk (w : World) (b : Nat) (o : Obj) : World := { w with heap := w.heap.setIfInBounds b o }
theorem setBlk_same {w : World} {b : Nat} {o : Obj} (h : b < w.heap.size) : (setBlk w b o).heap[b]? = some o := by simp [setBlk, h]
theorem setBlk_other {w : World} {b k : Nat} {o : Obj} (h : k ≠ b) : (setBlk w b o).heap[k]? = w.heap[k]? := by
  simp [setBlk, Array.getElem?_setIfInBounds_ne (Ne.symm h)]

theorem setCell_eq {w : World} {b o : Nat} {c : Array Value} {E : TypeId} {z : Nat × Nat} (hb : w.heap[b]? = some (.cells c E z)) (u : Value) :
    w.setCell ⟨b, o, none⟩ u = setBlk w b (.cells (c.setIfInBounds o u) E z) := by
  obtain ⟨hlt, he⟩ := Array.getElem?_eq_some_iff.1 hb
  unfold World.setCell setBlk
  congr 1
  apply Array.ext_getElem?
  intro k
  by_cases hk : b = k
  · subst hk
    rw [Array.getElem?_modify, if_pos rfl, hb]
    simp [hlt]
  · rw [Array.getElem?_modify, if_neg hk, Array.getElem?_setIfInBounds_ne hk]

theorem setBlk_setBlk (w : World) (b : Nat) (o o' : Obj) : setBlk (setBlk w b o) b o' = setBlk w b o' := by
  simp [setBlk]

theorem add_none (b o i : Nat) : (⟨b, o, none⟩ : Addr).add i = ⟨b, o + i, none⟩ := by
  unfold Addr.add; split
  · simp [*]
  · rfl

/-- A row of stores. -/
theorem run_storeCells (P : Program) (b : Nat) (E : TypeId) (z : Nat × Nat) (us : List Value) : ∀ (w : World) (c : Array Value) (o i : Nat),
    w.heap[b]? = some (.cells c E z) → unfrozen z c.size → o + i + us.length ≤ c.size → (∀ u ∈ us, u.oneCell = true) →
    (storeCells ⟨b, o, none⟩ us i).run P w = .ok () (if us = [] then w else setBlk w b (.cells (wr c (o + i) us) E z)) := by
  induction us with
  | nil => intro w c o i hb hz hs h1; simp [storeCells, Sem.run, Pure.pure]
  | cons u r ih =>
    intro w c o i hb hz hs h1
    simp only [List.length_cons] at hs
    have hu : u.oneCell = true := h1 u (by simp)
    have hlt : o + i < c.size := by omega
    have hcell : w.cell? ⟨b, o + i, none⟩ = some c[o + i] := by simp [World.cell?, hb, hlt]
    have hfz : w.frozen? ⟨b, o + i, none⟩ = false := by
      have := hz (o + i) hlt
      simp only [World.frozen?, hb]
      cases hd : decide (z.1 ≤ o + i) && decide (o + i < z.2) with
      | false => rfl
      | true => simp at hd; exact absurd hd this
    have hst : (store ((⟨b, o, none⟩ : Addr).add i) u).run P w = .ok () (setBlk w b (.cells (c.setIfInBounds (o + i) u) E z)) := by
      rw [add_none, ← setCell_eq hb u]
      unfold store
      cases u <;> simp [Value.oneCell] at hu <;> simp [Sem.run, hcell, hfz]
    have hb' : (setBlk w b (.cells (c.setIfInBounds (o + i) u) E z)).heap[b]? = some (.cells (c.setIfInBounds (o + i) u) E z) := setBlk_same (Array.getElem?_eq_some_iff.1 hb).1
    rw [storeCells, Sem.run_bind, hst]
    simp only [Result.andThen]
    rw [ih _ _ o (i + 1) hb' (by simpa using hz) (by simp; omega) (fun x hx => h1 x (by simp [hx]))]
    simp only [setBlk_setBlk, wr, Nat.add_assoc]
    by_cases hr : r = []
    · subst hr; simp [wr]
    · simp [hr]

theorem ext_get (c : Array Value) (s m k : Nat) (h : s + m ≤ c.size) : (c.extract s (s + m))[k]? = if k < m then c[s + k]? else none := by
  rw [Array.getElem?_extract, Nat.min_eq_left h, show s + m - s = m by omega]
theorem ext_size (c : Array Value) (s m : Nat) (h : s + m ≤ c.size) : (c.extract s (s + m)).size = m := by
  rw [Array.size_extract, Nat.min_eq_left h]; omega

theorem run_loadCellsFrom (P : Program) (b o n : Nat) (w : World) (c : Array Value) (E : TypeId) (z : Nat × Nat) (hb : w.heap[b]? = some (.cells c E z)) : ∀ (m i : Nat) (acc : Array Value),
    o + i + m ≤ c.size → (loadCellsFrom ⟨b, o, none⟩ i m acc).run P w = .ok (acc ++ c.extract (o + i) (o + i + m)) w := by
  intro m
  induction m with
  | zero =>
    intro i acc h
    have e : c.extract (o + i) (o + i + 0) = #[] := by apply Array.ext_getElem?; intro k; rw [ext_get _ _ _ _ (by omega)]; simp
    rw [e]; simp [loadCellsFrom, Sem.run, Pure.pure]
  | succ m ih =>
    intro i acc h
    have hlt : o + i < c.size := by omega
    have hcell : w.cell? ⟨b, o + i, none⟩ = some c[o + i] := by simp [World.cell?, hb, hlt]
    have hl : (load ((⟨b, o, none⟩ : Addr).add i)).run P w = .ok c[o + i] w := by rw [add_none]; simp [load, Sem.run, hcell]
    rw [loadCellsFrom, Sem.run_bind, hl]
    simp only [Result.andThen]
    rw [ih (i + 1) _ (by omega)]
    congr 1
    apply Array.ext_getElem?
    intro k
    rw [Array.getElem?_append, Array.getElem?_append, ext_get _ _ _ _ (by omega), ext_get _ _ _ _ (by omega)]
    simp only [Array.size_push, Array.getElem?_push]
    by_cases h1 : k < acc.size
    · rw [if_pos (by omega), if_neg (by omega), if_pos h1]
    · by_cases h2 : k = acc.size
      · subst h2
        rw [if_pos (by omega), if_pos rfl, if_neg (by omega), if_pos (by omega)]
        simp [hlt]
      · rw [if_neg (by omega), if_neg h1]
        by_cases h3 : k - acc.size < m + 1
        · rw [if_pos (by omega), if_pos h3]
          congr 1; omega
        · rw [if_neg (by omega), if_neg h3]

theorem run_loadCells (P : Program) {b o n : Nat} {w : World} {c : Array Value} {E : TypeId} {z : Nat × Nat} (hb : w.heap[b]? = some (.cells c E z)) (h : o + n ≤ c.size) :
    (loadCells ⟨b, o, none⟩ n).run P w = .ok (c.extract o (o + n)) w := by
  rw [loadCells, run_loadCellsFrom P b o n w c E z hb n 0 #[] (by omega)]
  simp

/-- A block of the call's own is written: what lies under its number is told anew, as many cells as it had. -/
theorem evo_write {Γ : Cx} (H : HOk Γ) {id b base : Nat} (hl : live Γ.h id) (hr : Γ.ρ id = some (b, base)) {c c' : Array Value} {E : TypeId} {z : Nat × Nat} (hb : Γ.w.heap[b]? = some (.cells c E z))
    (hs : c'.size = c.size) (hz : ∀ o, Γ.Z b o → c'[o]? = c[o]?) (ob : Ob)
    (hv : ∀ cs', ob = .var cs' → ∃ cs, Γ.h id = some (.var cs) ∧ cs.length = cs'.length)
    (hrow : ∀ fz s xs', ob = .row fz s xs' → ∃ fz0 xs, Γ.h id = some (.row fz0 s xs) ∧ xs.length = xs'.length) (hd : ob ≠ .dead) (hnl : ∀ s fc c tm, ob ≠ .loop s fc c tm := by simp) (hnb : (∀ t e r s, ob ≠ .bld t e r s) ∧ ∀ o, ob ≠ .raw o := by simp) :
    Evo Γ { Γ with h := upd Γ.h id (some ob), w := setBlk Γ.w b (.cells c' E z) } := by
  have hlt := (Array.getElem?_eq_some_iff.1 hb).1
  have hlive : ∀ i, live (upd Γ.h id (some ob)) i → live Γ.h i := by
    rintro i ⟨o, e, h⟩
    by_cases hi : i = id
    · subst hi; exact hl
    · rw [upd_other _ _ hi] at e; exact ⟨o, e, h⟩
  refine ⟨fun _ h => h, fun i _ h => ⟨hlive i h, rfl⟩, ?_, ?_, ?_, ?_, ?_, ?_, ?_, ?_, fun _ _ h => .inl h, ?_, by simp [setBlk], rfl, rfl, rfl⟩
  rotate_left 3
  · intro i t e r s _ h
    by_cases hi : i = id
    · subst hi; simp only [upd_same, Option.some.injEq] at h; exact absurd h (hnb.1 _ _ _ _)
    · simp only [upd_other _ _ hi] at h; exact ⟨r, s, h⟩
  · intro i o _ h
    by_cases hi : i = id
    · subst hi; simp only [upd_same, Option.some.injEq] at h; exact absurd h (hnb.2 _)
    · simp only [upd_other _ _ hi] at h; exact ⟨o, h⟩
  rotate_left 4
  · intro i cs _ e
    by_cases hi : i = id
    · subst hi; simp only [upd_same, Option.some.injEq] at e; exact hv cs e
    · simp only [upd_other _ _ hi] at e; exact ⟨cs, e, rfl⟩
  · intro i fz s xs _ e
    by_cases hi : i = id
    · subst hi; simp only [upd_same, Option.some.injEq] at e; exact hrow fz s xs e
    · simp only [upd_other _ _ hi] at e; exact ⟨fz, xs, e, rfl⟩
  · intro i s fc c1 tm _ e
    by_cases hi : i = id
    · subst hi; simp only [upd_same, Option.some.injEq] at e; exact absurd e (hnl s fc c1 tm)
    · simp only [upd_other _ _ hi] at e; exact ⟨s, tm, e⟩
  · intro b' r1 hb1
    have hk : b' ≠ b := fun e => by subst e; rw [hb] at hb1; cases hb1
    exact ⟨r1, (setBlk_other hk).trans hb1, .refl r1⟩
  · intro i b' base' c1 E1 z1 _ _ hri hbi
    by_cases hk : b' = b
    · subst hk
      rw [hb] at hbi; cases hbi
      exact ⟨c', E, z, setBlk_same hlt, hs⟩
    · exact ⟨c1, E1, z1, (setBlk_other hk).trans hbi, rfl⟩
  · intro b' o hZ
    refine ⟨hZ, ?_⟩
    by_cases hk : b' = b
    · subst hk
      simp only [World.cell?, setBlk_same hlt, hb]
      simp [hz o hZ]
    · exact cell_of_block (setBlk_other hk)
  · intro k hk hno
    have hne : k ≠ b := fun e => hno id base hl (e ▸ hr)
    exact ⟨setBlk_other hne, fun i base' h => hno i base' (hlive i h)⟩

theorem ok_write {Γ : Cx} (H : HOk Γ) {id b base : Nat} (hl : live Γ.h id) (hr : Γ.ρ id = some (b, base)) {c c' : Array Value} {E : TypeId} {z : Nat × Nat} (hb : Γ.w.heap[b]? = some (.cells c E z))
    (hs : c'.size = c.size) (hz : ∀ o, Γ.Z b o → c'[o]? = c[o]?) (ob : Ob)
    (hv : ∀ cs', ob = .var cs' → ∃ cs, Γ.h id = some (.var cs) ∧ cs.length = cs'.length)
    (hrow : ∀ fz s xs', ob = .row fz s xs' → ∃ fz0 xs, Γ.h id = some (.row fz0 s xs) ∧ xs.length = xs'.length ∧ fz = fz0) (hd : ob ≠ .dead)
    (gv : ∀ cs', ob = .var cs' → VarOk { Γ with h := upd Γ.h id (some ob), w := setBlk Γ.w b (.cells c' E z) } id cs')
    (gr : ∀ fz s xs', ob = .row fz s xs' → RowOk { Γ with h := upd Γ.h id (some ob), w := setBlk Γ.w b (.cells c' E z) } id s xs') (hnl : ∀ s fc c tm, ob ≠ .loop s fc c tm := by simp) (hnb : (∀ t e r s, ob ≠ .bld t e r s) ∧ ∀ o, ob ≠ .raw o := by simp) :
    HOk { Γ with h := upd Γ.h id (some ob), w := setBlk Γ.w b (.cells c' E z) } := by
  have EV := evo_write H hl hr hb hs hz ob hv (fun fz s xs' e => let ⟨a, b, c, d, _⟩ := hrow fz s xs' e; ⟨a, b, c, d⟩) hd hnl hnb
  have hlive : ∀ i, live (upd Γ.h id (some ob)) i → live Γ.h i := by
    rintro i ⟨o, e, h⟩
    by_cases hi : i = id
    · subst hi; exact hl
    · rw [upd_other _ _ hi] at e; exact ⟨o, e, h⟩
  have hother : ∀ i, i ≠ id → live Γ.h i → ∀ b' base', Γ.ρ i = some (b', base') → b' ≠ b := fun i hi hli b' base' e eb => hi (H.inj i id b' base' base hli hl e (eb ▸ hr))
  have hB : ∀ i, isB (upd Γ.h id (some ob)) i → i ≠ id ∧ isB Γ.h i := by
    rintro i (⟨t, e', r, s, e⟩ | ⟨o, e⟩)
    all_goals
      by_cases hi : i = id
      · subst hi; simp only [upd_same, Option.some.injEq] at e; first | exact absurd e (hnb.1 _ _ _ _) | exact absurd e (hnb.2 _)
      · rw [upd_other _ _ hi] at e; first | exact ⟨hi, .inl ⟨_, _, _, _, e⟩⟩ | exact ⟨hi, .inr ⟨_, e⟩⟩
  refine H.step EV ?_ ?_ ?_ (fun i t e r s hb hr => ?_) (fun i hb => .inl (H.lt i (hB i hb).2.live)) (fun i j b bi bj hi hj => H.inj i j b bi bj (hlive i hi) (hlive j hj)) (fun i hi => H.lt i (hlive i hi)) ?_
  rotate_left 3
  · obtain ⟨hi, hbi⟩ := hB i (.inl ⟨_, _, _, _, hb⟩)
    obtain ⟨hj, hbj⟩ := hB r (.inr ⟨_, hr⟩)
    simp only [upd_other _ _ hi] at hb
    simp only [upd_other _ _ hj] at hr
    exact .inl ⟨H.lt i hbi.live, H.lt r hbj.live, hb, hr, fun b' base' h => setBlk_other (hother i hi hbi.live b' base' h), fun b' base' h => setBlk_other (hother r hj hbj.live b' base' h)⟩
  rotate_left 1
  · intro i cs e
    by_cases hi : i = id
    · subst hi; simp only [upd_same, Option.some.injEq] at e; exact .inr (gv cs e)
    · simp only [upd_other _ _ hi] at e
      exact .inl ⟨H.lt i (live_var e), e, fun b' base' h => setBlk_other (hother i hi (live_var e) b' base' h)⟩
  · intro i fz s xs e
    by_cases hi : i = id
    · subst hi; simp only [upd_same, Option.some.injEq] at e; exact .inr (gr fz s xs e)
    · simp only [upd_other _ _ hi] at e
      exact .inl ⟨H.lt i (live_row e), ⟨fz, e⟩, fun b' base' h => setBlk_other (hother i hi (live_row e) b' base' h)⟩
  · intro i s fc c1 tm e
    by_cases hi : i = id
    · subst hi; simp only [upd_same, Option.some.injEq] at e; exact absurd e (hnl s fc c1 tm)
    · simp only [upd_other _ _ hi] at e
      exact .inl ⟨H.lt i (live_loop e), e, fun b' base' h => setBlk_other (hother i hi (live_loop e) b' base' h)⟩
  · intro b' o hZ
    obtain ⟨h1, h2⟩ := H.z b' o hZ
    refine ⟨by simp [setBlk]; exact h1, fun i base' hli hri => ?_⟩
    obtain ⟨s, xs, e, ho⟩ := h2 i base' (hlive i hli) hri
    by_cases hi : i = id
    · subst hi
      simp only [upd_same]
      rcases live_cases hli with ⟨cs, ec⟩ | ⟨fz, s', xs', ec⟩ | ⟨s', fc, c1, tm, ec⟩ | ec
      · simp only [upd_same, Option.some.injEq] at ec
        obtain ⟨cs0, e0, _⟩ := hv cs ec
        rw [e] at e0; cases e0
      · simp only [upd_same, Option.some.injEq] at ec
        obtain ⟨fz0, xs0, e0, hlen, hf⟩ := hrow fz s' xs' ec
        rw [e] at e0; cases e0
        exact ⟨s, xs', by rw [ec, hf], by rw [← hlen]; exact ho⟩
      · simp only [upd_same, Option.some.injEq] at ec; exact absurd ec (hnl s' fc c1 tm)
      · exact absurd rfl (hB i ec).1
    · exact ⟨s, xs, by simp only [upd_other _ _ hi]; exact e, ho⟩

/-- A row is frozen: its elements will stay. -/
def Cx.froze (Γ : Cx) (id s : Nat) (xs : List V) : Cx :=
  { Γ with h := upd Γ.h id (some (.row true s xs)), Z := fun b o => Γ.Z b o ∨ ∃ base, Γ.ρ id = some (b, base) ∧ o < base + xs.length * s ∧ base ≤ o }
theorem step_freeze {Γ : Cx} (H : HOk Γ) {id s : Nat} {fz : Bool} {xs : List V} (e0 : Γ.h id = some (.row fz s xs)) : HOk (Γ.froze id s xs) ∧ Evo Γ (Γ.froze id s xs) := by
  have hl := live_row e0
  have hlive : ∀ i, live (upd Γ.h id (some (.row true s xs))) i → live Γ.h i := by
    rintro i ⟨o, e, h⟩
    by_cases hi : i = id
    · subst hi; exact hl
    · rw [upd_other _ _ hi] at e; exact ⟨o, e, h⟩
  have EV : Evo Γ (Γ.froze id s xs) := by
    refine ⟨fun _ h => h, fun i _ h => ⟨hlive i h, rfl⟩, ?_, ?_, ?_, (fun i t e r s1 _ h => by
        by_cases hi : i = id
        · subst hi; simp [Cx.froze, upd] at h
        · simp only [Cx.froze, upd_other _ _ hi] at h; exact ⟨r, s1, h⟩), (fun i o _ h => by
        by_cases hi : i = id
        · subst hi; simp [Cx.froze, upd] at h
        · simp only [Cx.froze, upd_other _ _ hi] at h; exact ⟨o, h⟩), fun _ r h => ⟨r, h, .refl r⟩, fun _ _ _ c E z _ _ _ h => ⟨c, E, z, h, rfl⟩, fun _ _ h => ⟨.inl h, rfl⟩, ?_, fun k _ hno => ⟨rfl, fun i base h => hno i base (hlive i h)⟩, Nat.le_refl _, rfl, rfl, rfl⟩
    · intro i cs _ e
      by_cases hi : i = id
      · subst hi; simp [Cx.froze, upd] at e
      · simp only [Cx.froze, upd_other _ _ hi] at e; exact ⟨cs, e, rfl⟩
    · intro i fz' s' xs' _ e
      by_cases hi : i = id
      · subst hi; simp only [Cx.froze, upd_same, Option.some.injEq, Ob.row.injEq] at e
        obtain ⟨_, rfl, rfl⟩ := e
        exact ⟨fz, xs, e0, rfl⟩
      · simp only [Cx.froze, upd_other _ _ hi] at e; exact ⟨fz', xs', e, rfl⟩
    · intro i s1 fc c1 tm _ e
      by_cases hi : i = id
      · subst hi; simp [Cx.froze, upd] at e
      · simp only [Cx.froze, upd_other _ _ hi] at e; exact ⟨s1, tm, e⟩
    · rintro b o (h | ⟨base, hr, _⟩)
      · exact .inl h
      · exact .inr (.inr ⟨id, base, hl, hr⟩)
  have hB : ∀ i, isB (Γ.froze id s xs).h i → i ≠ id ∧ isB Γ.h i := by
    rintro i (⟨t, e', r, s', e⟩ | ⟨o, e⟩)
    all_goals
      by_cases hi : i = id
      · subst hi; simp [Cx.froze, upd] at e
      · simp only [Cx.froze, upd_other _ _ hi] at e; first | exact ⟨hi, .inl ⟨_, _, _, _, e⟩⟩ | exact ⟨hi, .inr ⟨_, e⟩⟩
  refine ⟨H.step EV ?_ ?_ ?_ (fun i t e r s1 hb hr => ?_) (fun i hb => .inl (H.lt i (hB i hb).2.live)) (fun i j b bi bj hi hj => H.inj i j b bi bj (hlive i hi) (hlive j hj)) (fun i hi => H.lt i (hlive i hi)) ?_, EV⟩
  rotate_left 3
  · obtain ⟨hi, hbi⟩ := hB i (.inl ⟨_, _, _, _, hb⟩)
    obtain ⟨hj, hbj⟩ := hB r (.inr ⟨_, hr⟩)
    simp only [Cx.froze, upd_other _ _ hi] at hb
    simp only [Cx.froze, upd_other _ _ hj] at hr
    exact .inl ⟨H.lt i hbi.live, H.lt r hbj.live, hb, hr, fun _ _ _ => rfl, fun _ _ _ => rfl⟩
  rotate_left 1
  · intro i cs e
    by_cases hi : i = id
    · subst hi; simp [Cx.froze, upd] at e
    · simp only [Cx.froze, upd_other _ _ hi] at e; exact .inl ⟨H.lt i (live_var e), e, fun _ _ _ => rfl⟩
  · intro i fz' s' xs' e
    by_cases hi : i = id
    · subst hi; simp only [Cx.froze, upd_same, Option.some.injEq, Ob.row.injEq] at e
      obtain ⟨_, rfl, rfl⟩ := e
      exact .inl ⟨H.lt i hl, ⟨fz, e0⟩, fun _ _ _ => rfl⟩
    · simp only [Cx.froze, upd_other _ _ hi] at e; exact .inl ⟨H.lt i (live_row e), ⟨fz', e⟩, fun _ _ _ => rfl⟩
  · intro i s1 fc c1 tm e
    by_cases hi : i = id
    · subst hi; simp [Cx.froze, upd] at e
    · simp only [Cx.froze, upd_other _ _ hi] at e; exact .inl ⟨H.lt i (live_loop e), e, fun _ _ _ => rfl⟩
  · rintro b o (h | ⟨base, hr, ho, _⟩)
    · obtain ⟨h1, h2⟩ := H.z b o h
      refine ⟨h1, fun i base hli hri => ?_⟩
      obtain ⟨s', xs', e, ho⟩ := h2 i base (hlive i hli) hri
      by_cases hi : i = id
      · subst hi; rw [e0] at e; cases e
        exact ⟨s, xs, by simp [Cx.froze, upd], ho⟩
      · exact ⟨s', xs', by simp only [Cx.froze, upd_other _ _ hi]; exact e, ho⟩
    · refine ⟨H.there hl hr, fun i base' hli hri => ?_⟩
      obtain rfl : i = id := H.inj i id b base' base (hlive i hli) hl hri hr
      have : base' = base := by
        have hri' : Γ.ρ i = some (b, base') := hri
        rw [hr] at hri'; cases hri'; rfl
      subst this
      exact ⟨s, xs, by simp [Cx.froze, upd], ho⟩

/-- A row grows in its place: it goes over to a new number. -/
def Cx.grow (Γ : Cx) (id id' : Nat) (ob : Ob) (b base : Nat) (m : Nat → Prop) (o : Obj) : Cx :=
  { Γ with ρ := upd Γ.ρ id' (some (b, base)), h := upd (upd Γ.h id (some .dead)) id' (some ob), n := m, w := setBlk Γ.w b o }
theorem step_grow {Γ : Cx} (H : HOk Γ) {id id' b base s : Nat} {m : Nat → Prop} {fz : Bool} {xs ys : List V} {c c' : Array Value} {E : TypeId} {z : Nat × Nat} (e0 : Γ.h id = some (.row fz s xs)) (hr : Γ.ρ id = some (b, base))
    (hb : Γ.w.heap[b]? = some (.cells c E z)) (hs : c'.size = c.size) (hz : ∀ o, o < base + xs.length * s → c'[o]? = c[o]?) (hid : ¬ Γ.n id') (hm : (∀ i, Γ.n i → m i) ∧ m id')
    (gr : RowOk (Γ.grow id id' (.row fz s (xs ++ ys)) b base m (.cells c' E z)) id' s (xs ++ ys)) :
    HOk (Γ.grow id id' (.row fz s (xs ++ ys)) b base m (.cells c' E z)) ∧ Evo Γ (Γ.grow id id' (.row fz s (xs ++ ys)) b base m (.cells c' E z)) := by
  have hl := live_row e0
  have hlt := (Array.getElem?_eq_some_iff.1 hb).1
  have hidn : Γ.n id := H.lt id hl
  have hZ : ∀ o, Γ.Z b o → o < base + xs.length * s := by
    intro o h
    obtain ⟨s', xs', e, ho⟩ := (H.z b o h).2 id base hl hr
    rw [e0] at e; cases e; exact ho
  have hfz : ∀ o, Γ.Z b o → fz = true := by
    intro o h
    obtain ⟨s', xs', e, ho⟩ := (H.z b o h).2 id base hl hr
    rw [e0] at e; cases e; rfl
  have hlive : ∀ i, i ≠ id' → live (upd (upd Γ.h id (some .dead)) id' (some (.row fz s (xs ++ ys)))) i → i ≠ id ∧ live Γ.h i ∧ upd (upd Γ.h id (some .dead)) id' (some (.row fz s (xs ++ ys))) i = Γ.h i := by
    rintro i hi ⟨o, e, h⟩
    rw [upd_other _ _ hi] at e ⊢
    by_cases h2 : i = id
    · subst h2; rw [upd_same] at e; cases e; exact absurd rfl h
    · rw [upd_other _ _ h2] at e ⊢; exact ⟨h2, ⟨o, e, h⟩, rfl⟩
  have hother : ∀ i, i ≠ id → live Γ.h i → ∀ b' base', Γ.ρ i = some (b', base') → b' ≠ b := fun i hi hli b' base' e eb => hi (H.inj i id b' base' base hli hl e (eb ▸ hr))
  have hB : ∀ i, isB (Γ.grow id id' (.row fz s (xs ++ ys)) b base m (.cells c' E z)).h i → i ≠ id' ∧ i ≠ id ∧ isB Γ.h i := by
    rintro i (⟨t, e', r, s', e⟩ | ⟨o, e⟩)
    all_goals
      by_cases hi : i = id'
      · subst hi; simp [Cx.grow, upd] at e
      · by_cases h2 : i = id
        · subst h2; simp only [Cx.grow, upd_other _ _ hi, upd_same] at e; cases e
        · simp only [Cx.grow, upd_other _ _ hi, upd_other _ _ h2] at e; first | exact ⟨hi, h2, .inl ⟨_, _, _, _, e⟩⟩ | exact ⟨hi, h2, .inr ⟨_, e⟩⟩
  have EV : Evo Γ (Γ.grow id id' (.row fz s (xs ++ ys)) b base m (.cells c' E z)) := by
    refine ⟨hm.1, ?_, ?_, ?_, ?_, (fun i t e r s1 hi h => by
        obtain ⟨h1, h2, _⟩ := hB i (.inl ⟨_, _, _, _, h⟩)
        simp only [Cx.grow, upd_other _ _ h1, upd_other _ _ h2] at h; exact ⟨r, s1, h⟩), (fun i o hi h => by
        obtain ⟨h1, h2, _⟩ := hB i (.inr ⟨_, h⟩)
        simp only [Cx.grow, upd_other _ _ h1, upd_other _ _ h2] at h; exact ⟨o, h⟩), ?_, ?_, ?_, fun _ _ h => .inl h, ?_, by simp [Cx.grow, setBlk], rfl, rfl, rfl⟩
    · intro i hi h
      have hne : i ≠ id' := fun e => hid (e ▸ hi)
      obtain ⟨_, h1, _⟩ := hlive i hne h
      exact ⟨h1, by simp only [Cx.grow, upd_other _ _ hne]⟩
    · intro i cs hi e
      have hne : i ≠ id' := fun e => hid (e ▸ hi)
      obtain ⟨_, h1, h2⟩ := hlive i hne (live_var e)
      exact ⟨cs, h2.symm.trans e, rfl⟩
    · intro i fz' s' xs' hi e
      have hne : i ≠ id' := fun e => hid (e ▸ hi)
      obtain ⟨_, h1, h2⟩ := hlive i hne (live_row e)
      exact ⟨fz', xs', h2.symm.trans e, rfl⟩
    · intro i s1 fc c1 tm hi e
      have hne : i ≠ id' := fun e => hid (e ▸ hi)
      obtain ⟨_, h1, h2⟩ := hlive i hne (live_loop e)
      exact ⟨s1, tm, h2.symm.trans e⟩
    · intro b' r1 hb1
      have hk : b' ≠ b := fun e => by subst e; rw [hb] at hb1; cases hb1
      exact ⟨r1, (setBlk_other hk).trans hb1, .refl r1⟩
    · intro i b' base' c1 E1 z1 hi _ hri hbi
      by_cases hk : b' = b
      · subst hk
        rw [hb] at hbi; cases hbi
        exact ⟨c', E, z, setBlk_same hlt, hs⟩
      · exact ⟨c1, E1, z1, (setBlk_other hk).trans hbi, rfl⟩
    · intro b' o hZb
      refine ⟨hZb, ?_⟩
      by_cases hk : b' = b
      · subst hk
        simp only [Cx.grow, World.cell?, setBlk_same hlt, hb]
        simp [hz o (hZ o hZb)]
      · exact cell_of_block (setBlk_other hk)
    · intro k hk hno
      have hne : k ≠ b := fun e => hno id base hl (e ▸ hr)
      refine ⟨setBlk_other hne, fun i base' h hri => ?_⟩
      by_cases hi : i = id'
      · subst hi
        simp only [Cx.grow, upd_same, Option.some.injEq, Prod.mk.injEq] at hri
        exact hne hri.1.symm
      · simp only [Cx.grow, upd_other _ _ hi] at hri
        exact hno i base' (hlive i hi h).2.1 hri
  refine ⟨H.step EV ?_ ?_ ?_ (fun i t e r s1 hb hr => ?_) (fun i hb => .inl (H.lt i (hB i hb).2.2.live)) ?_ ?_ ?_, EV⟩
  rotate_left 3
  · obtain ⟨hi, hi1, hbi⟩ := hB i (.inl ⟨_, _, _, _, hb⟩)
    obtain ⟨hj, hj1, hbj⟩ := hB r (.inr ⟨_, hr⟩)
    simp only [Cx.grow, upd_other _ _ hi, upd_other _ _ hi1] at hb
    simp only [Cx.grow, upd_other _ _ hj, upd_other _ _ hj1] at hr
    exact .inl ⟨H.lt i hbi.live, H.lt r hbj.live, hb, hr, fun b' base' h => setBlk_other (hother i hi1 hbi.live b' base' h), fun b' base' h => setBlk_other (hother r hj1 hbj.live b' base' h)⟩
  rotate_left 3
  · intro i cs e
    by_cases hi : i = id'
    · subst hi; simp [Cx.grow, upd] at e
    · obtain ⟨h0, h1, h2⟩ := hlive i hi (live_var e)
      exact .inl ⟨H.lt i h1, h2.symm.trans e, fun b' base' h => setBlk_other (hother i h0 h1 b' base' h)⟩
  · intro i fz' s' xs' e
    by_cases hi : i = id'
    · subst hi; simp only [Cx.grow, upd_same, Option.some.injEq, Ob.row.injEq] at e
      obtain ⟨_, rfl, rfl⟩ := e
      exact .inr gr
    · obtain ⟨h0, h1, h2⟩ := hlive i hi (live_row e)
      exact .inl ⟨H.lt i h1, ⟨fz', h2.symm.trans e⟩, fun b' base' h => setBlk_other (hother i h0 h1 b' base' h)⟩
  · intro i s1 fc c1 tm e
    by_cases hi : i = id'
    · subst hi; simp [Cx.grow, upd] at e
    · obtain ⟨h0, h1, h2⟩ := hlive i hi (live_loop e)
      exact .inl ⟨H.lt i h1, h2.symm.trans e, fun b' base' h => setBlk_other (hother i h0 h1 b' base' h)⟩
  · intro i j b' bi bj hi hj ei ej
    by_cases h1 : i = id' <;> by_cases h2 : j = id'
    · omega
    · subst h1
      simp only [Cx.grow, upd_same, upd_other _ _ h2, Option.some.injEq, Prod.mk.injEq] at ei ej
      obtain ⟨h0, hlj, _⟩ := hlive j h2 hj
      exact absurd ei.1.symm (hother j h0 hlj b' bj ej)
    · subst h2
      simp only [Cx.grow, upd_same, upd_other _ _ h1, Option.some.injEq, Prod.mk.injEq] at ei ej
      obtain ⟨h0, hli, _⟩ := hlive i h1 hi
      exact absurd ej.1.symm (hother i h0 hli b' bi ei)
    · simp only [Cx.grow, upd_other _ _ h1, upd_other _ _ h2] at ei ej
      exact H.inj i j b' bi bj (hlive i h1 hi).2.1 (hlive j h2 hj).2.1 ei ej
  · intro i hi
    by_cases h1 : i = id'
    · subst h1; exact hm.2
    · exact hm.1 i (H.lt i (hlive i h1 hi).2.1)
  · intro b' o hZb
    obtain ⟨h1, h2⟩ := H.z b' o hZb
    refine ⟨by simp [Cx.grow, setBlk]; exact h1, fun i base' hli hri => ?_⟩
    by_cases hi : i = id'
    · subst hi
      simp only [Cx.grow, upd_same, Option.some.injEq, Prod.mk.injEq] at hri
      obtain ⟨rfl, rfl⟩ := hri
      refine ⟨s, xs ++ ys, by simp only [Cx.grow, upd_same]; rw [hfz o hZb], ?_⟩
      have := hZ o hZb
      simp only [List.length_append, Nat.add_mul]; omega
    · simp only [Cx.grow, upd_other _ _ hi] at hri
      obtain ⟨h0, hl1, he⟩ := hlive i hi hli
      obtain ⟨s', xs', e, ho⟩ := h2 i base' hl1 hri
      exact ⟨s', xs', he.trans e, ho⟩

/-- Of a row its first none are kept: it goes over to a new number. -/
def Cx.shrink (Γ : Cx) (id id' : Nat) (ob : Ob) (m : Nat → Prop) : Cx :=
  { Γ with ρ := upd Γ.ρ id' (Γ.ρ id), h := upd (upd Γ.h id (some .dead)) id' (some ob), n := m }
theorem step_shrink {Γ : Cx} (H : HOk Γ) {id id' s : Nat} {m : Nat → Prop} {xs : List V} (e0 : Γ.h id = some (.row false s xs)) (hid : ¬ Γ.n id') (hm : (∀ i, Γ.n i → m i) ∧ m id') :
    HOk (Γ.shrink id id' (.row false s []) m) ∧ Evo Γ (Γ.shrink id id' (.row false s []) m) := by
  have hl := live_row e0
  have hidn : Γ.n id := H.lt id hl
  have hfz : ∀ b base o, Γ.ρ id = some (b, base) → ¬ Γ.Z b o := by
    intro b base o hr h
    obtain ⟨s', xs', e, ho⟩ := (H.z b o h).2 id base hl hr
    rw [e0] at e; cases e
  have hlive : ∀ i, i ≠ id' → live (upd (upd Γ.h id (some .dead)) id' (some (.row false s []))) i → i ≠ id ∧ live Γ.h i ∧ upd (upd Γ.h id (some .dead)) id' (some (.row false s [])) i = Γ.h i := by
    rintro i hi ⟨o, e, h⟩
    rw [upd_other _ _ hi] at e ⊢
    by_cases h2 : i = id
    · subst h2; rw [upd_same] at e; cases e; exact absurd rfl h
    · rw [upd_other _ _ h2] at e ⊢; exact ⟨h2, ⟨o, e, h⟩, rfl⟩
  have hother : ∀ i, i ≠ id → live Γ.h i → ∀ b base b' base', Γ.ρ id = some (b, base) → Γ.ρ i = some (b', base') → b' ≠ b := fun i hi hli b base b' base' hr e eb => hi (H.inj i id b' base' base hli hl e (eb ▸ hr))
  have hB : ∀ i, isB (Γ.shrink id id' (.row false s []) m).h i → i ≠ id' ∧ i ≠ id ∧ isB Γ.h i := by
    rintro i (⟨t, e', r, s', e⟩ | ⟨o, e⟩)
    all_goals
      by_cases hi : i = id'
      · subst hi; simp [Cx.shrink, upd] at e
      · by_cases h2 : i = id
        · subst h2; simp only [Cx.shrink, upd_other _ _ hi, upd_same] at e; cases e
        · simp only [Cx.shrink, upd_other _ _ hi, upd_other _ _ h2] at e; first | exact ⟨hi, h2, .inl ⟨_, _, _, _, e⟩⟩ | exact ⟨hi, h2, .inr ⟨_, e⟩⟩
  have EV : Evo Γ (Γ.shrink id id' (.row false s []) m) := by
    refine ⟨hm.1, ?_, ?_, ?_, ?_, (fun i t e r s1 hi h => by
        obtain ⟨h1, h2, _⟩ := hB i (.inl ⟨_, _, _, _, h⟩)
        simp only [Cx.shrink, upd_other _ _ h1, upd_other _ _ h2] at h; exact ⟨r, s1, h⟩), (fun i o hi h => by
        obtain ⟨h1, h2, _⟩ := hB i (.inr ⟨_, h⟩)
        simp only [Cx.shrink, upd_other _ _ h1, upd_other _ _ h2] at h; exact ⟨o, h⟩), ?_, ?_, ?_, fun _ _ h => .inl h, ?_, Nat.le_refl _, rfl, rfl, rfl⟩
    · intro i hi h
      have hne : i ≠ id' := fun e => hid (e ▸ hi)
      obtain ⟨_, h1, _⟩ := hlive i hne h
      exact ⟨h1, by simp only [Cx.shrink, upd_other _ _ hne]⟩
    · intro i cs hi e
      have hne : i ≠ id' := fun e => hid (e ▸ hi)
      obtain ⟨_, h1, h2⟩ := hlive i hne (live_var e)
      exact ⟨cs, h2.symm.trans e, rfl⟩
    · intro i fz' s' xs' hi e
      have hne : i ≠ id' := fun e => hid (e ▸ hi)
      obtain ⟨_, h1, h2⟩ := hlive i hne (live_row e)
      exact ⟨fz', xs', h2.symm.trans e, rfl⟩
    · intro i s1 fc c1 tm hi e
      have hne : i ≠ id' := fun e => hid (e ▸ hi)
      obtain ⟨_, h1, h2⟩ := hlive i hne (live_loop e)
      exact ⟨s1, tm, h2.symm.trans e⟩
    · intro b' r1 hb1
      exact ⟨r1, hb1, .refl r1⟩
    · intro i b' base' c1 E1 z1 hi _ hri hbi
      exact ⟨c1, E1, z1, hbi, rfl⟩
    · intro b' o hZb
      exact ⟨hZb, rfl⟩
    · intro k hk hno
      refine ⟨rfl, fun i base' h hri => ?_⟩
      by_cases hi : i = id'
      · subst hi
        simp only [Cx.shrink, upd_same] at hri
        exact hno id base' hl hri
      · simp only [Cx.shrink, upd_other _ _ hi] at hri
        exact hno i base' (hlive i hi h).2.1 hri
  refine ⟨H.step EV ?_ ?_ ?_ (fun i t e r s1 hb hr => ?_) (fun i hb => .inl (H.lt i (hB i hb).2.2.live)) ?_ ?_ ?_, EV⟩
  rotate_left 3
  · obtain ⟨hi, hi1, hbi⟩ := hB i (.inl ⟨_, _, _, _, hb⟩)
    obtain ⟨hj, hj1, hbj⟩ := hB r (.inr ⟨_, hr⟩)
    simp only [Cx.shrink, upd_other _ _ hi, upd_other _ _ hi1] at hb
    simp only [Cx.shrink, upd_other _ _ hj, upd_other _ _ hj1] at hr
    exact .inl ⟨H.lt i hbi.live, H.lt r hbj.live, hb, hr, fun b' base' h => rfl, fun b' base' h => rfl⟩
  rotate_left 3
  · intro i cs e
    by_cases hi : i = id'
    · subst hi; simp [Cx.shrink, upd] at e
    · obtain ⟨h0, h1, h2⟩ := hlive i hi (live_var e)
      exact .inl ⟨H.lt i h1, h2.symm.trans e, fun b' base' h => rfl⟩
  · intro i fz' s' xs' e
    by_cases hi : i = id'
    · subst hi; simp only [Cx.shrink, upd_same, Option.some.injEq, Ob.row.injEq] at e
      obtain ⟨_, rfl, rfl⟩ := e
      refine .inr ?_
      rcases H.row id false s xs e0 with ⟨hn, _⟩ | ⟨b, base, c, E, z, hr, hb, hz, h0, hs, h1, _, _⟩
      · exact .inl ⟨by simp only [Cx.shrink, upd_same]; exact hn, rfl⟩
      · refine .inr ⟨b, base, c, E, z, by simp only [Cx.shrink, upd_same]; exact hr, hb, hz, h0, ?_, h1, ?_, ?_⟩
        · simp only [List.length_nil, Nat.zero_mul]; omega
        · intro i x hx; simp at hx
        · intro i x j y u hx; simp at hx
    · obtain ⟨h0, h1, h2⟩ := hlive i hi (live_row e)
      exact .inl ⟨H.lt i h1, ⟨fz', h2.symm.trans e⟩, fun b' base' h => rfl⟩
  · intro i s1 fc c1 tm e
    by_cases hi : i = id'
    · subst hi; simp [Cx.shrink, upd] at e
    · obtain ⟨h0, h1, h2⟩ := hlive i hi (live_loop e)
      exact .inl ⟨H.lt i h1, h2.symm.trans e, fun b' base' h => rfl⟩
  · intro i j b' bi bj hi hj ei ej
    by_cases h1 : i = id' <;> by_cases h2 : j = id'
    · omega
    · subst h1
      simp only [Cx.shrink, upd_same, upd_other _ _ h2] at ei ej
      obtain ⟨h0, hlj, _⟩ := hlive j h2 hj
      exact absurd rfl (hother j h0 hlj b' bi b' bj ei ej)
    · subst h2
      simp only [Cx.shrink, upd_same, upd_other _ _ h1] at ei ej
      obtain ⟨h0, hli, _⟩ := hlive i h1 hi
      exact absurd rfl (hother i h0 hli b' bj b' bi ej ei)
    · simp only [Cx.shrink, upd_other _ _ h1, upd_other _ _ h2] at ei ej
      exact H.inj i j b' bi bj (hlive i h1 hi).2.1 (hlive j h2 hj).2.1 ei ej
  · intro i hi
    by_cases h1 : i = id'
    · subst h1; exact hm.2
    · exact hm.1 i (H.lt i (hlive i h1 hi).2.1)
  · intro b' o hZb
    obtain ⟨h1, h2⟩ := H.z b' o hZb
    refine ⟨h1, fun i base' hli hri => ?_⟩
    by_cases hi : i = id'
    · subst hi
      simp only [Cx.shrink, upd_same] at hri
      exact absurd hZb (hfz b' base' o hri)
    · simp only [Cx.shrink, upd_other _ _ hi] at hri
      obtain ⟨h0, hl1, he⟩ := hlive i hi hli
      obtain ⟨s', xs', e, ho⟩ := h2 i base' hl1 hri
      exact ⟨s', xs', he.trans e, ho⟩

/-- A step that touches builders, and their rows, alone. -/
structure BStep (Γ : Cx) (Δ : Cx) (T : Nat → Prop) : Prop where
  Z : Δ.Z = Γ.Z
  m : ∀ i, Γ.n i → Δ.n i
  same : ∀ i, ¬ T i → Δ.h i = Γ.h i ∧ Δ.ρ i = Γ.ρ i
  old : ∀ i, T i → live Γ.h i → isB Γ.h i ∧ ∀ b base, Γ.ρ i = some (b, base) → ∃ c E z, Γ.w.heap[b]? = some (.cells c E z)
  new : ∀ i, T i → live Δ.h i → isB Δ.h i ∧ Δ.n i ∧ (∀ b base, Δ.ρ i = some (b, base) → b < Δ.w.heap.size ∧ (Γ.w.heap.size ≤ b ∨ ∃ j bj, T j ∧ live Γ.h j ∧ Γ.ρ j = some (b, bj)))
  kept : ∀ i, T i → Γ.n i → live Δ.h i → live Γ.h i ∧ Δ.ρ i = Γ.ρ i ∧ (∀ t e r s, Δ.h i = some (.bld t e r s) → ∃ r0 s0, Γ.h i = some (.bld t e r0 s0)) ∧ (∀ o, Δ.h i = some (.raw o) → ∃ o0, Γ.h i = some (.raw o0)) ∧
    ∀ b base c E z, Γ.ρ i = some (b, base) → Γ.w.heap[b]? = some (.cells c E z) → ∃ c' E' z', Δ.w.heap[b]? = some (.cells c' E' z') ∧ c'.size = c.size
  inj : ∀ i j b bi bj, T i → T j → live Δ.h i → live Δ.h j → Δ.ρ i = some (b, bi) → Δ.ρ j = some (b, bj) → i = j
  blk : ∀ k, k < Γ.w.heap.size → (∀ i base, T i → live Γ.h i → Γ.ρ i ≠ some (k, base)) → Δ.w.heap[k]? = Γ.w.heap[k]?
  size : Γ.w.heap.size ≤ Δ.w.heap.size
  os : Δ.w.os = Γ.w.os
  tape : Δ.w.tape = Γ.w.tape
  output : Δ.w.output = Γ.w.output
  bld : ∀ id t e r s, Δ.h id = some (.bld t e r s) → Δ.h r = some (.raw id) → (T id ∧ T r ∧ BldOk Δ id t e r s) ∨ (¬ T id ∧ ¬ T r)
theorem BStep.ok {Γ Δ : Cx} {T : Nat → Prop} (S : BStep Γ Δ T) (H : HOk Γ) : HOk Δ ∧ Evo Γ Δ := by
  classical
  -- a block of what is not touched
  have far : ∀ i b base, ¬ T i → live Γ.h i → Γ.ρ i = some (b, base) → Δ.w.heap[b]? = Γ.w.heap[b]? := by
    intro i b base hT hl hr
    refine S.blk b (H.there hl hr) fun j bj hTj hlj e => ?_
    exact hT ((H.inj i j b base bj hl hlj hr e) ▸ hTj)
  have lv : ∀ i, ¬ T i → live Δ.h i → live Γ.h i := by
    rintro i hT ⟨o, e, h⟩
    rw [(S.same i hT).1] at e
    exact ⟨o, e, h⟩
  have kind : ∀ i ob, Δ.h i = some ob → ob ≠ .dead → (∀ t e r s, ob ≠ .bld t e r s) → (∀ o, ob ≠ .raw o) → ¬ T i := by
    intro i ob e hd h1 h2 hT
    rcases (S.new i hT ⟨ob, e, hd⟩).1 with ⟨t, e', r, s, h⟩ | ⟨o, h⟩
    · rw [e] at h; cases h; exact h1 _ _ _ _ rfl
    · rw [e] at h; cases h; exact h2 _ rfl
  have hZ : ∀ b o, Γ.Z b o → Δ.w.heap[b]? = Γ.w.heap[b]? := by
    intro b o hz
    obtain ⟨h1, h2⟩ := H.z b o hz
    refine S.blk b h1 fun i base hT hl hr => ?_
    obtain ⟨s, xs, e, _⟩ := h2 i base hl hr
    rcases (S.old i hT hl).1 with ⟨t, e', r, s', h⟩ | ⟨o', h⟩ <;> (rw [e] at h; cases h)
  have E : Evo Γ Δ := by
    refine ⟨S.m, ?_, ?_, ?_, ?_, ?_, ?_, ?_, ?_, ?_, ?_, ?_, S.size, S.os, S.tape, S.output⟩
    · intro i hn hl
      by_cases hT : T i
      · have := S.kept i hT hn hl; exact ⟨this.1, this.2.1⟩
      · exact ⟨lv i hT hl, (S.same i hT).2⟩
    · intro i cs hn e
      have hT := kind i _ e (by simp) (by simp) (by simp)
      exact ⟨cs, by rw [← (S.same i hT).1]; exact e, rfl⟩
    · intro i fz s xs hn e
      have hT := kind i _ e (by simp) (by simp) (by simp)
      exact ⟨fz, xs, by rw [← (S.same i hT).1]; exact e, rfl⟩
    · intro i s fc c tm hn e
      have hT := kind i _ e (by simp) (by simp) (by simp)
      exact ⟨s, tm, by rw [← (S.same i hT).1]; exact e⟩
    · intro i t e r s hn h
      by_cases hT : T i
      · exact (S.kept i hT hn (live_bld h)).2.2.1 t e r s h
      · exact ⟨r, s, by rw [← (S.same i hT).1]; exact h⟩
    · intro i o hn h
      by_cases hT : T i
      · exact (S.kept i hT hn (live_raw h)).2.2.2.1 o h
      · exact ⟨o, by rw [← (S.same i hT).1]; exact h⟩
    · intro b r hb
      refine ⟨r, ?_, .refl r⟩
      rw [← hb]
      refine S.blk b (Array.getElem?_eq_some_iff.1 hb).1 fun i base hT hl hr => ?_
      obtain ⟨c, E, z, hc⟩ := (S.old i hT hl).2 b base hr
      rw [hb] at hc; cases hc
    · intro i b base c E z hn hl hr hb
      by_cases hT : T i
      · exact (S.kept i hT hn hl).2.2.2.2 b base c E z hr hb
      · exact ⟨c, E, z, (far i b base hT (lv i hT hl) hr).trans hb, rfl⟩
    · intro b o hz
      exact ⟨by rw [S.Z]; exact hz, cell_of_block (hZ b o hz)⟩
    · intro b o hz
      rw [S.Z] at hz; exact .inl hz
    · intro k hk hno
      refine ⟨S.blk k hk fun i base _ hl => hno i base hl, fun i base hl hr => ?_⟩
      by_cases hT : T i
      · rcases ((S.new i hT hl).2.2 k base hr).2 with h | ⟨j, bj, _, hlj, hj⟩
        · omega
        · exact hno j bj hlj hj
      · rw [(S.same i hT).2] at hr
        exact hno i base (lv i hT hl) hr
  refine ⟨H.step E ?_ ?_ ?_ ?_ ?_ ?_ ?_ ?_, E⟩
  · intro i cs e
    have hT := kind i _ e (by simp) (by simp) (by simp)
    rw [(S.same i hT).1] at e
    exact .inl ⟨H.lt i (live_var e), e, fun b base hr => far i b base hT (live_var e) hr⟩
  · intro i fz s xs e
    have hT := kind i _ e (by simp) (by simp) (by simp)
    rw [(S.same i hT).1] at e
    exact .inl ⟨H.lt i (live_row e), ⟨fz, e⟩, fun b base hr => far i b base hT (live_row e) hr⟩
  · intro i s fc c tm e
    have hT := kind i _ e (by simp) (by simp) (by simp)
    rw [(S.same i hT).1] at e
    exact .inl ⟨H.lt i (live_loop e), e, fun b base hr => far i b base hT (live_loop e) hr⟩
  · intro i t e r s hb hr
    rcases S.bld i t e r s hb hr with ⟨_, _, h⟩ | ⟨h1, h2⟩
    · exact .inr h
    · rw [(S.same i h1).1] at hb
      rw [(S.same r h2).1] at hr
      exact .inl ⟨H.lt i (live_bld hb), H.lt r (live_raw hr), hb, hr, fun b base h => far i b base h1 (live_bld hb) h, fun b base h => far r b base h2 (live_raw hr) h⟩
  · intro i hb
    by_cases hT : T i
    · exact .inr fun b base hr => ((S.new i hT hb.live).2.2 b base hr).1
    · exact .inl (H.lt i (lv i hT hb.live))
  · intro i j b bi bj hi hj ei ej
    by_cases h1 : T i <;> by_cases h2 : T j
    · exact S.inj i j b bi bj h1 h2 hi hj ei ej
    · rw [(S.same j h2).2] at ej
      have hlj := lv j h2 hj
      rcases ((S.new i h1 hi).2.2 b bi ei).2 with h | ⟨q, bq, hq, hlq, eq⟩
      · have := H.there hlj ej; omega
      · exact absurd hq ((H.inj j q b bj bq hlj hlq ej eq) ▸ h2)
    · rw [(S.same i h1).2] at ei
      have hli := lv i h1 hi
      rcases ((S.new j h2 hj).2.2 b bj ej).2 with h | ⟨q, bq, hq, hlq, eq⟩
      · have := H.there hli ei; omega
      · exact absurd hq ((H.inj i q b bi bq hli hlq ei eq) ▸ h1)
    · rw [(S.same i h1).2] at ei
      rw [(S.same j h2).2] at ej
      exact H.inj i j b bi bj (lv i h1 hi) (lv j h2 hj) ei ej
  · intro i hi
    by_cases hT : T i
    · exact (S.new i hT hi).2.1
    · exact S.m i (H.lt i (lv i hT hi))
  · intro b o hz
    rw [S.Z] at hz
    obtain ⟨h1, h2⟩ := H.z b o hz
    refine ⟨Nat.lt_of_lt_of_le h1 S.size, fun i base hl hr => ?_⟩
    by_cases hT : T i
    · rcases ((S.new i hT hl).2.2 b base hr).2 with h | ⟨q, bq, hq, hlq, eq⟩
      · omega
      · obtain ⟨s, xs, e, _⟩ := h2 q bq hlq eq
        rcases (S.old q hq hlq).1 with ⟨t, e', r, s', h⟩ | ⟨o', h⟩ <;> (rw [e] at h; cases h)
    · rw [(S.same i hT).2] at hr
      rw [(S.same i hT).1]
      exact h2 i base (lv i hT hl) hr
end Go.Sym
