/- DERIVED. Ranges over functions: a loop's record is laid, changed, struck; the blocks of the marks are shut; a round's slots. -/
import Derived.Test.YtfjloeemhiffgaaSymCode8
import Derived.RangeFuncIn
set_option linter.unusedVariables false
set_option linter.unusedSimpArgs false
namespace Go.Sym

/-- A block that is nobody's. -/
theorem step_other {Γ : Cx} (H : HOk Γ) (o : Obj) : HOk { Γ with w := Γ.w.alloc o } ∧ Evo Γ { Γ with w := Γ.w.alloc o } := by
  obtain ⟨H1, E1⟩ := step_ext H (Γ.w.alloc o) Γ.n (fun _ _ => False) (fun k hk => alloc_block _ _ _ hk) (by simp) rfl rfl rfl (fun _ h => h) (fun _ _ h => h.elim)
  have e : (fun b o => Γ.Z b o ∨ False) = Γ.Z := by funext b o; simp
  rw [e] at H1 E1
  exact ⟨H1, E1⟩

def Cx.newL (Γ : Cx) (id : Nat) (ob : Ob) (o : Obj) (m : Nat → Prop) : Cx :=
  { Γ with ρ := upd Γ.ρ id (some (Γ.w.heap.size, 0)), h := upd Γ.h id (some ob), n := m, w := Γ.w.alloc o }

/-- A loop's record is laid. -/
theorem step_newLoop {Γ : Cx} (H : HOk Γ) (id : Nat) (r : Loop) (fc : FC) (c : Code) (tm : List (Nat × V)) (m : Nat → Prop) (hid : ¬ Γ.n id) (hm : (∀ i, Γ.n i → m i) ∧ m id) (hi : LoopIs r .ready fc c)
    (hv : ∀ t v, look tm t = some v → VR Γ v (r.tmps.getD t undef)) : HOk (Γ.newL id (.loop .ready fc c tm) (.loop r) m) ∧ Evo Γ (Γ.newL id (.loop .ready fc c tm) (.loop r) m) := by
  have hne : ∀ i, Γ.n i → i ≠ id := fun i hi e => hid (e ▸ hi)
  have EV : Evo Γ (Γ.newL id (.loop .ready fc c tm) (.loop r) m) := by
    refine ⟨hm.1, ?_, ?_, ?_, ?_, (fun i t e r s1 hi h => by simp only [Cx.newL, upd_other _ _ (hne i hi)] at h; exact ⟨r, s1, h⟩), (fun i o hi h => by simp only [Cx.newL, upd_other _ _ (hne i hi)] at h; exact ⟨o, h⟩), fun b r h => ⟨r, (alloc_block _ _ _ (Array.getElem?_eq_some_iff.1 h).1).trans h, .refl r⟩, ?_, ?_, fun _ _ h => .inl h, ?_, by simp [Cx.newL], rfl, rfl, rfl⟩
    · rintro i hi ⟨o, e, h⟩
      simp only [Cx.newL, upd_other _ _ (hne i hi)] at e ⊢
      exact ⟨⟨o, e, h⟩, trivial⟩
    · intro i cs hi e
      simp only [Cx.newL, upd_other _ _ (hne i hi)] at e
      exact ⟨cs, e, rfl⟩
    · intro i fz s xs hi e
      simp only [Cx.newL, upd_other _ _ (hne i hi)] at e
      exact ⟨fz, xs, e, rfl⟩
    · intro i s fc c1 tm hi e
      simp only [Cx.newL, upd_other _ _ (hne i hi)] at e
      exact ⟨s, tm, e⟩
    · intro i b base c' E' z' hi hl hr hb
      refine ⟨c', E', z', ?_, rfl⟩
      exact (alloc_block _ _ _ (Array.getElem?_eq_some_iff.1 hb).1).trans hb
    · intro b o hz
      exact ⟨hz, cell_of_block (alloc_block _ _ _ (H.z b o hz).1)⟩
    · intro k hk hno
      refine ⟨alloc_block _ _ _ hk, ?_⟩
      rintro i base ⟨o, e, h⟩
      by_cases hi : i = id
      · subst hi; simp only [Cx.newL, upd_same]; intro e2; simp at e2; omega
      · simp only [Cx.newL, upd_other _ _ hi] at e ⊢
        exact hno i base ⟨o, e, h⟩
  have hlt : ∀ i, i ≠ id → live (Γ.newL id (.loop .ready fc c tm) (.loop r) m).h i → Γ.n i ∧ live Γ.h i := by
    rintro i hi ⟨o, e, h⟩
    simp only [Cx.newL, upd_other _ _ hi] at e
    exact ⟨H.lt i ⟨o, e, h⟩, ⟨o, e, h⟩⟩
  have hB : ∀ i, isB (Γ.newL id (.loop .ready fc c tm) (.loop r) m).h i → i ≠ id ∧ isB Γ.h i := by
    rintro i (⟨t, e', r, s', e⟩ | ⟨o, e⟩)
    all_goals
      by_cases hi : i = id
      · subst hi; simp [Cx.newL, upd] at e
      · simp only [Cx.newL, upd_other _ _ hi] at e; first | exact ⟨hi, .inl ⟨_, _, _, _, e⟩⟩ | exact ⟨hi, .inr ⟨_, e⟩⟩
  refine ⟨H.step EV ?_ ?_ ?_ (fun i t e r s1 hb hr => by
      obtain ⟨hi, hbi⟩ := hB i (.inl ⟨_, _, _, _, hb⟩)
      obtain ⟨hj, hbj⟩ := hB r (.inr ⟨_, hr⟩)
      simp only [Cx.newL, upd_other _ _ hi] at hb
      simp only [Cx.newL, upd_other _ _ hj] at hr
      exact .inl ⟨H.lt i hbi.live, H.lt r hbj.live, hb, hr, fun b base hb => alloc_block _ _ _ (H.there hbi.live hb), fun b base hb => alloc_block _ _ _ (H.there hbj.live hb)⟩) (fun i hb => .inl (H.lt i (hB i hb).2.live)) ?_ ?_ ?_, EV⟩
  · intro i cs e
    by_cases hi : i = id
    · subst hi; simp [Cx.newL, upd] at e
    · obtain ⟨h1, h2⟩ := hlt i hi (live_var e)
      simp only [Cx.newL, upd_other _ _ hi] at e
      exact .inl ⟨h1, e, fun b base hb => alloc_block _ _ _ (H.there h2 hb)⟩
  · intro i fz s xs e
    by_cases hi : i = id
    · subst hi; simp [Cx.newL, upd] at e
    · obtain ⟨h1, h2⟩ := hlt i hi (live_row e)
      simp only [Cx.newL, upd_other _ _ hi] at e
      exact .inl ⟨h1, ⟨fz, e⟩, fun b base hb => alloc_block _ _ _ (H.there h2 hb)⟩
  · intro i s fc' c' tm' e
    by_cases hi' : i = id
    · subst hi'
      simp only [Cx.newL, upd_same, Option.some.injEq, Ob.loop.injEq] at e
      obtain ⟨rfl, rfl, rfl, rfl⟩ := e
      exact .inr ⟨Γ.w.heap.size, r, by simp [Cx.newL], by simp only [Cx.newL]; exact alloc_new _ _, hi, fun t v ht => (hv t v ht).evo EV⟩
    · obtain ⟨h1, h2⟩ := hlt i hi' (live_loop e)
      simp only [Cx.newL, upd_other _ _ hi'] at e
      exact .inl ⟨h1, e, fun b base hb => alloc_block _ _ _ (H.there h2 hb)⟩
  · intro i j b bi bj hi hj ei ej
    by_cases h1 : i = id <;> by_cases h2 : j = id
    · omega
    · subst h1
      obtain ⟨_, hl⟩ := hlt j h2 hj
      simp only [Cx.newL, upd_same, upd_other _ _ h2, Option.some.injEq, Prod.mk.injEq] at ei ej
      have := H.there hl ej; omega
    · subst h2
      obtain ⟨_, hl⟩ := hlt i h1 hi
      simp only [Cx.newL, upd_same, upd_other _ _ h1, Option.some.injEq, Prod.mk.injEq] at ei ej
      have := H.there hl ei; omega
    · simp only [Cx.newL, upd_other _ _ h1, upd_other _ _ h2] at ei ej
      exact H.inj i j b bi bj (hlt i h1 hi).2 (hlt j h2 hj).2 ei ej
  · intro i hi
    by_cases h1 : i = id
    · subst h1; exact hm.2
    · exact hm.1 i (hlt i h1 hi).1
  · intro b o hz
    obtain ⟨h1, h2⟩ := H.z b o hz
    refine ⟨by simp [Cx.newL]; omega, fun i base hl hr => ?_⟩
    by_cases hi : i = id
    · subst hi
      simp only [Cx.newL, upd_same, Option.some.injEq, Prod.mk.injEq] at hr
      omega
    · obtain ⟨_, hl'⟩ := hlt i hi hl
      simp only [Cx.newL, upd_other _ _ hi] at hr ⊢
      exact h2 i base hl' hr

/-- A loop's record changes its state, or is struck. -/
theorem step_putLoop {Γ : Cx} (H : HOk Γ) {id l : Nat} {s : LS} {fc : FC} {c : Code} {tm : List (Nat × V)} {r r' : Loop} (e0 : Γ.h id = some (.loop s fc c tm)) (hr : Γ.ρ id = some (l, 0)) (hb : Γ.w.heap[l]? = some (.loop r)) (hs : SameLoop r r')
    (hv : ∀ t v, look tm t = some v → VR Γ v (r'.tmps.getD t undef)) {ob : Ob} (hob : ob = .dead ∨ ∃ s', ob = .loop s' fc c tm ∧ LoopIs r' s' fc c) :
    HOk { Γ with h := upd Γ.h id (some ob), w := Γ.w.putObj l (.loop r') } ∧ Evo Γ { Γ with h := upd Γ.h id (some ob), w := Γ.w.putObj l (.loop r') } := by
  have hl := live_loop e0
  have hlt := (Array.getElem?_eq_some_iff.1 hb).1
  have hnv : ∀ cs, ob ≠ .var cs := by rcases hob with rfl | ⟨s', rfl, _⟩ <;> simp
  have hnr : ∀ fz s xs, ob ≠ .row fz s xs := by rcases hob with rfl | ⟨s', rfl, _⟩ <;> simp
  have hlive : ∀ i, live (upd Γ.h id (some ob)) i → live Γ.h i := by
    rintro i ⟨o, e, h⟩
    by_cases hi : i = id
    · subst hi; exact hl
    · rw [upd_other _ _ hi] at e; exact ⟨o, e, h⟩
  have hother : ∀ i, i ≠ id → live Γ.h i → ∀ b' base', Γ.ρ i = some (b', base') → b' ≠ l := fun i hi hli b' base' e eb => hi (H.inj i id b' base' 0 hli hl e (eb ▸ hr))
  have hZ : ∀ o, ¬ Γ.Z l o := fun o hz => by
    obtain ⟨s', xs', e, _⟩ := (H.z l o hz).2 id 0 hl hr
    rw [e0] at e; cases e
  have hB : ∀ i, isB (upd Γ.h id (some ob)) i → i ≠ id ∧ isB Γ.h i := by
    rintro i (⟨t, e', r, s', e⟩ | ⟨o, e⟩)
    all_goals
      by_cases hi : i = id
      · subst hi; simp only [upd_same, Option.some.injEq] at e; rcases hob with rfl | ⟨s', rfl, _⟩ <;> cases e
      · rw [upd_other _ _ hi] at e; first | exact ⟨hi, .inl ⟨_, _, _, _, e⟩⟩ | exact ⟨hi, .inr ⟨_, e⟩⟩
  have EV : Evo Γ { Γ with h := upd Γ.h id (some ob), w := Γ.w.putObj l (.loop r') } := by
    refine ⟨fun _ h => h, fun i _ h => ⟨hlive i h, rfl⟩, ?_, ?_, ?_, (fun i t e r s1 _ h => by
        obtain ⟨hi, _⟩ := hB i (.inl ⟨_, _, _, _, h⟩)
        simp only [upd_other _ _ hi] at h; exact ⟨r, s1, h⟩), (fun i o _ h => by
        obtain ⟨hi, _⟩ := hB i (.inr ⟨_, h⟩)
        simp only [upd_other _ _ hi] at h; exact ⟨o, h⟩), ?_, ?_, ?_, fun _ _ h => .inl h, ?_, by simp, rfl, rfl, rfl⟩
    · intro i cs _ e
      by_cases hi : i = id
      · subst hi; simp only [upd_same, Option.some.injEq] at e; exact absurd e (hnv cs)
      · simp only [upd_other _ _ hi] at e; exact ⟨cs, e, rfl⟩
    · intro i fz s xs _ e
      by_cases hi : i = id
      · subst hi; simp only [upd_same, Option.some.injEq] at e; exact absurd e (hnr fz s xs)
      · simp only [upd_other _ _ hi] at e; exact ⟨fz, xs, e, rfl⟩
    · intro i s1 fc1 c1 tm1 _ e
      by_cases hi : i = id
      · subst hi
        simp only [upd_same, Option.some.injEq] at e
        rcases hob with rfl | ⟨s', rfl, _⟩
        · cases e
        · cases e; exact ⟨s, tm, e0⟩
      · simp only [upd_other _ _ hi] at e; exact ⟨s1, tm1, e⟩
    · intro b r1 h1
      by_cases hk : b = l
      · subst hk
        rw [hb] at h1; cases h1
        exact ⟨r', World.putObj_heap_same hlt, hs⟩
      · exact ⟨r1, (World.putObj_heap_other hk).trans h1, .refl r1⟩
    · intro i b base c1 E1 z1 _ _ _ hbi
      have hk : b ≠ l := fun e => by subst e; rw [hb] at hbi; cases hbi
      exact ⟨c1, E1, z1, (World.putObj_heap_other hk).trans hbi, rfl⟩
    · intro b o hz
      have hk : b ≠ l := fun e => hZ o (e ▸ hz)
      exact ⟨hz, cell_of_block (World.putObj_heap_other hk)⟩
    · intro k hk hno
      have hne : k ≠ l := fun e => hno id 0 hl (e ▸ hr)
      exact ⟨World.putObj_heap_other hne, fun i base' h => hno i base' (hlive i h)⟩
  refine ⟨H.step EV ?_ ?_ ?_ (fun i t e r s1 hb hr => by
      obtain ⟨hi, hbi⟩ := hB i (.inl ⟨_, _, _, _, hb⟩)
      obtain ⟨hj, hbj⟩ := hB r (.inr ⟨_, hr⟩)
      simp only [upd_other _ _ hi] at hb
      simp only [upd_other _ _ hj] at hr
      exact .inl ⟨H.lt i hbi.live, H.lt r hbj.live, hb, hr, fun b' base' h => World.putObj_heap_other (hother i hi hbi.live b' base' h), fun b' base' h => World.putObj_heap_other (hother r hj hbj.live b' base' h)⟩) (fun i hb => .inl (H.lt i (hB i hb).2.live)) (fun i j b bi bj hi hj => H.inj i j b bi bj (hlive i hi) (hlive j hj)) (fun i hi => H.lt i (hlive i hi)) ?_, EV⟩
  · intro i cs e
    by_cases hi : i = id
    · subst hi; simp only [upd_same, Option.some.injEq] at e; exact absurd e (hnv cs)
    · simp only [upd_other _ _ hi] at e
      exact .inl ⟨H.lt i (live_var e), e, fun b' base' h => World.putObj_heap_other (hother i hi (live_var e) b' base' h)⟩
  · intro i fz s xs e
    by_cases hi : i = id
    · subst hi; simp only [upd_same, Option.some.injEq] at e; exact absurd e (hnr fz s xs)
    · simp only [upd_other _ _ hi] at e
      exact .inl ⟨H.lt i (live_row e), ⟨fz, e⟩, fun b' base' h => World.putObj_heap_other (hother i hi (live_row e) b' base' h)⟩
  · intro i s1 fc1 c1 tm1 e
    by_cases hi : i = id
    · subst hi
      simp only [upd_same, Option.some.injEq] at e
      rcases hob with rfl | ⟨s', rfl, hi'⟩
      · cases e
      · cases e
        exact .inr ⟨l, r', hr, World.putObj_heap_same hlt, hi', fun t v ht => (hv t v ht).evo EV⟩
    · simp only [upd_other _ _ hi] at e
      exact .inl ⟨H.lt i (live_loop e), e, fun b' base' h => World.putObj_heap_other (hother i hi (live_loop e) b' base' h)⟩
  · intro b o hz
    obtain ⟨h1, h2⟩ := H.z b o hz
    refine ⟨by simp; exact h1, fun i base hli hri => ?_⟩
    obtain ⟨s', xs', e, ho⟩ := h2 i base (hlive i hli) hri
    by_cases hi : i = id
    · subst hi; rw [e0] at e; cases e
    · exact ⟨s', xs', by simp only [upd_other _ _ hi]; exact e, ho⟩

/-- The block of a mark is shut. -/
theorem step_shut {Γe Γ : Cx} {N : Nat} {st : St} {a : Act} (h : StR Γe N st a Γ) {r : Nat} (hlt : Γe.w.heap.size ≤ r) (hb : Γ.w.heap[r]? = some (.deferred (some []))) (hno : ∀ id base, live Γ.h id → Γ.ρ id ≠ some (r, base))
    {ds : List Deferred} (hd : Marks Γe { Γ with w := Γ.w.putObj r (.deferred none) } ds) : StR Γe N st { a with defers := ds } { Γ with w := Γ.w.putObj r (.deferred none) } := by
  have hrl := (Array.getElem?_eq_some_iff.1 hb).1
  have hcell : ∀ b o, (Γ.w.putObj r (.deferred none)).cell? ⟨b, o, none⟩ = Γ.w.cell? ⟨b, o, none⟩ := by
    intro b o
    by_cases hk : b = r
    · subst hk; simp [World.cell?, World.putObj_heap_same hrl, hb]
    · exact cell_of_block (World.putObj_heap_other hk)
  have hcells : ∀ {b : Nat} {c : Array Value} {E : TypeId} {z : Nat × Nat}, Γ.w.heap[b]? = some (.cells c E z) → (Γ.w.putObj r (.deferred none)).heap[b]? = some (.cells c E z) := by
    intro b c E z h
    have hk : b ≠ r := fun e => by subst e; rw [hb] at h; cases h
    exact (World.putObj_heap_other hk).trans h
  have hloop : ∀ {b : Nat} {l : Loop}, Γ.w.heap[b]? = some (.loop l) → (Γ.w.putObj r (.deferred none)).heap[b]? = some (.loop l) := by
    intro b l h
    have hk : b ≠ r := fun e => by subst e; rw [hb] at h; cases h
    exact (World.putObj_heap_other hk).trans h
  have E1 : Ev1 Γ { Γ with w := Γ.w.putObj r (.deferred none) } :=
    ⟨fun _ h => h, fun _ _ h => ⟨h, rfl⟩, fun _ cs _ h => ⟨cs, h, rfl⟩, fun _ fz _ xs _ h => ⟨fz, xs, h, rfl⟩, fun _ s _ _ tm _ h => ⟨s, tm, h⟩, fun _ _ _ r s _ h => ⟨r, s, h⟩, fun _ o _ h => ⟨o, h⟩, fun _ _ _ c E z _ _ _ h => ⟨c, E, z, hcells h, rfl⟩, fun b o hz => ⟨hz, hcell b o⟩⟩
  have HO := h.ok
  refine ⟨⟨?_, ?_, ?_, (fun id t e r s hb hr => by
      obtain ⟨b, p, v, hρ, hbk, hp, hv⟩ := HO.bld id t e r s hb hr
      refine ⟨b, p, v, hρ, hcells hbk, hp, ?_⟩
      rcases hv with hv | ⟨g, cap, cur, hg, hv, hbg, h3⟩
      · exact .inl hv
      · exact .inr ⟨g, cap, cur, hg, hv, hcells hbg, h3⟩), (fun id b base hb hr => by simp; exact HO.own id b base hb hr), HO.inj, HO.lt, ?_⟩, h.hp, h.n, ?_, fun t v hv => (h.tm t v hv).ev1 E1, h.sz, hd⟩
  · intro id cs e
    obtain ⟨b, c, E, z, hr, hbl, hz, hs, h1, hv⟩ := HO.var id cs e
    exact ⟨b, c, E, z, hr, hcells hbl, hz, hs, h1, fun j x u hj hu => (hv j x u hj hu).ev1 E1⟩
  · intro id fz s xs e
    rcases HO.row id fz s xs e with ⟨hr, hx⟩ | ⟨b, base, c, E, z, hr, hbl, hz, h0, hs, h1, hx, hv⟩
    · exact .inl ⟨hr, hx⟩
    · exact .inr ⟨b, base, c, E, z, hr, hcells hbl, hz, h0, hs, h1, hx, fun i x j y u hi hj hu => (hv i x j y u hi hj hu).evo E1.zc⟩
  · intro id s fc c tm e
    obtain ⟨b, l, hr, hbl, hi, hv⟩ := HO.loop id s fc c tm e
    exact ⟨b, l, hr, hloop hbl, hi, fun t v ht => (hv t v ht).ev1 E1⟩
  · intro b o hz
    obtain ⟨h1, h2⟩ := HO.z b o hz
    exact ⟨by simp; exact h1, h2⟩
  · have G := h.gone
    refine ⟨G.n, G.keep, G.var, G.row, G.loop, G.bld, G.raw, ?_, ?_, ?_, G.zn, ?_, by simp; exact G.size, G.os, G.tape, G.output⟩
    · intro b l hl
      obtain ⟨l', h1, h2⟩ := G.lp b l hl
      exact ⟨l', hloop h1, h2⟩
    · intro id b base c E z hi hl hr hbl
      obtain ⟨c', E', z', h1, h2⟩ := G.csize id b base c E z hi hl hr hbl
      exact ⟨c', E', z', hcells h1, h2⟩
    · intro b o hz
      obtain ⟨h1, h2⟩ := G.zc b o hz
      exact ⟨h1, (hcell b o).trans h2⟩
    · intro k hk hno'
      obtain ⟨h1, h2⟩ := G.blk k hk hno'
      exact ⟨(World.putObj_heap_other (by omega)).trans h1, h2⟩

/-- A function leaves: the marks are met. -/
theorem leaves_ok {F : Fence} {n : Nat} {P : Program} {fn : Func} {Γe : Cx} {N : Nat} {st : St} {R : Ending → World → Prop} : ∀ (rs : List Nat) (a : Act) (Γ : Cx), StR Γe N st a Γ → a.defers = rs.map (fun r => { target := .collected r, args := #[] }) →
    rs.Nodup → (∀ r ∈ rs, Γe.w.heap.size ≤ r ∧ r < Γ.w.heap.size ∧ Γ.w.heap[r]? = some (.deferred (some [])) ∧ ∀ id base, live Γ.h id → Γ.ρ id ≠ some (r, base)) →
    (∀ a' Γ', a'.tmps = a.tmps → StR Γe N st a' Γ' → ∃ v, (results fn a.tmps).run P Γ'.w = .ok v Γ'.w ∧ R (.returned v) Γ'.w) → LeavesInM F n P fn a.tmps R a.defers .returning Γ.w := by
  intro rs
  induction rs with
  | nil =>
    intro a Γ h hd _ _ hR
    rw [hd]
    exact hR a Γ rfl h
  | cons r rs ih =>
    intro a Γ h hd hnd hr hR
    obtain ⟨h1, h2, h3, h4⟩ := hr r (by simp)
    rw [List.nodup_cons] at hnd
    rw [hd]
    refine ⟨by simp, .inl ⟨r, _, rfl, run_takeDeferred h3, ?_⟩⟩
    have hr' : ∀ r' ∈ rs, Γe.w.heap.size ≤ r' ∧ r' < (Γ.w.putObj r (.deferred none)).heap.size ∧ (Γ.w.putObj r (.deferred none)).heap[r']? = some (.deferred (some [])) ∧ ∀ id base, live Γ.h id → Γ.ρ id ≠ some (r', base) := by
      intro r' hm
      obtain ⟨k1, k2, k3, k4⟩ := hr r' (by simp [hm])
      have hne : r' ≠ r := fun e => hnd.1 (e ▸ hm)
      exact ⟨k1, by simp; exact k2, (World.putObj_heap_other hne).trans k3, k4⟩
    have h' : StR Γe N st { a with defers := rs.map (fun r => { target := .collected r, args := #[] }) } { Γ with w := Γ.w.putObj r (.deferred none) } := step_shut h h1 h3 h4 ⟨rs, rfl, hnd.2, hr'⟩
    exact ih { a with defers := rs.map (fun r => { target := .collected r, args := #[] }) } _ h' rfl hnd.2 hr' fun a' Γ' ht h'' => hR a' Γ' ht h''

/-- yield's arguments in a round's slots. -/
theorem setps_ok {Γ : Cx} : ∀ (ds : List Nat) (ys : List V) (us : List Value) (tm : List (Nat × V)) (tmps : Array Value), ds.length = ys.length → ys.length = us.length → (∀ d ∈ ds, d < tmps.size) →
    (∀ t v, look tm t = some v → VR Γ v (tmps.getD t undef)) → (∀ (i : Nat) (v : V) (u : Value), ys[i]? = some v → us[i]? = some u → VR Γ v u) →
    (∀ t v, look (setps tm ds ys) t = some v → VR Γ v (((ds.zip us).foldl (fun tmps (t, a) => tmps.setIfInBounds t a) tmps).getD t undef)) ∧ ((ds.zip us).foldl (fun tmps (t, a) => tmps.setIfInBounds t a) tmps).size = tmps.size := by
  intro ds
  induction ds with
  | nil =>
    intro ys us tm tmps h1 h2 hd ht hy
    exact ⟨by simpa [setps] using ht, by simp⟩
  | cons d ds ih =>
    intro ys us tm tmps h1 h2 hd ht hy
    cases ys with
    | nil => simp at h1
    | cons y ys =>
      cases us with
      | nil => simp at h2
      | cons u us =>
        simp only [List.length_cons, Nat.add_right_cancel_iff] at h1 h2
        have hdl := hd d (by simp)
        obtain ⟨k1, k2⟩ := ih ys us (put tm d y) (tmps.setIfInBounds d u) h1 h2 (fun d' hm => by simp; exact hd d' (by simp [hm])) (by
          intro t v hv
          simp only [look_put] at hv
          rw [getD_put hdl]
          by_cases hdt : d = t
          · rw [if_pos hdt] at hv ⊢; cases hv; exact hy 0 _ _ rfl rfl
          · rw [if_neg hdt] at hv ⊢; exact ht t v hv) (fun i v u' hv hu => hy (i + 1) v u' (by simpa using hv) (by simpa using hu))
        refine ⟨?_, ?_⟩
        · simpa only [setps, List.zip_cons_cons, List.foldl_cons] using k1
        · simp only [List.zip_cons_cons, List.foldl_cons]; rw [k2]; simp
end Go.Sym
