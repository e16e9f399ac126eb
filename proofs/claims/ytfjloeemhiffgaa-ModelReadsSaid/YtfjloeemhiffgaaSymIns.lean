/- DERIVED. slices.Insert of one element, by a contract. -/
import Derived.Test.YtfjloeemhiffgaaSymBld
set_option linter.unusedVariables false
set_option linter.unusedSimpArgs false
namespace Go.Sym
open Go
variable {P : Program}

/-- Where the cells of a row with one element more come from. -/
def insAt (s i n : Nat) (old new : Nat → Option Value) (k : Nat) : Option Value :=
  if k < i * s then old k else if k < (i + 1) * s then new (k - i * s) else if k < (n + 1) * s then old (k - s) else none
/-- What is asked of an Insert at elements of s cells. -/
structure InsFn (P : Program) (f s : Nat) : Prop where
  fn : ∃ fn, P.funcs[f]? = some fn ∧ (fn.name == "runtime.NumGoroutine") = false ∧ fn.body.isNone = false
  pos : 0 < s
  room : ∀ (w : World) (b off n c i vb voff vc : Nat) (cs : Array Value) (E : TypeId) (z : Nat × Nat) (cv : Array Value) (Ev : TypeId) (zv : Nat × Nat), i ≤ n → n + 1 ≤ c → n < maxLen' → vb ≠ b →
    w.heap[b]? = some (.cells cs E z) → unfrozen z (cs.size + (s - 1)) → off + c * s ≤ cs.size → (∀ (j : Nat) (u : Value), cs[j]? = some u → u.oneCell = true) →
    w.heap[vb]? = some (.cells cv Ev zv) → unfrozen zv (cv.size + (s - 1)) → voff + 1 * s ≤ cv.size → (∀ (j : Nat) (u : Value), cv[j]? = some u → u.oneCell = true) →
    Calls P f #[.slice (some ⟨b, off, none⟩) n c, .int .i64 i, .slice (some ⟨vb, voff, none⟩) 1 vc] w fun e w' => e = .returned (.slice (some ⟨b, off, none⟩) (n + 1) c) ∧ ∃ q cs', w' = setBlk (w.drewN q) b (.cells cs' E z) ∧ cs'.size = cs.size ∧
      ∀ k, cs'[k]? = if off ≤ k ∧ k < off + (n + 1) * s then insAt s i n (fun j => cs[off + j]?) (fun j => cv[voff + j]?) (k - off) else cs[k]?
  full : ∀ (w : World) (base : Option Addr) (n i vb voff vc : Nat) (cv : Array Value) (Ev : TypeId) (zv : Nat × Nat) (old : Array Value), i ≤ n → n < maxLen' → old.size = n * s →
    (∀ w' : World, w'.heap = w.heap → (Builtin.firstCells s n (.slice base n n)).run P w' = .ok old w') →
    (0 < n → ∃ b off cs E z, base = some ⟨b, off, none⟩ ∧ w.heap[b]? = some (.cells cs E z) ∧ off + n * s ≤ cs.size ∧ ∀ k, k < n * s → old[k]? = cs[off + k]?) →
    (∀ (j : Nat) (u : Value), old[j]? = some u → u.oneCell = true) →
    w.heap[vb]? = some (.cells cv Ev zv) → unfrozen zv (cv.size + (s - 1)) → voff + 1 * s ≤ cv.size → (∀ (j : Nat) (u : Value), cv[j]? = some u → u.oneCell = true) →
    Calls P f #[.slice base n n, .int .i64 i, .slice (some ⟨vb, voff, none⟩) 1 vc] w fun e w' => ∃ q cap arr el, e = .returned (.slice (some ⟨w.heap.size, 0, none⟩) (n + 1) cap) ∧ w' = (w.drewN q).alloc (.cells arr el) ∧ n + 1 ≤ cap ∧ cap * s ≤ arr.size ∧
      (∀ (j : Nat) (u : Value), arr[j]? = some u → u.oneCell = true) ∧ ∀ k, k < (n + 1) * s → arr[k]? = insAt s i n (fun j => old[j]?) (fun j => cv[voff + j]?) k

/-- A row goes over to a new number, with other elements. -/
theorem step_alias {Γ : Cx} (H : HOk Γ) {id id' b base s : Nat} {m : Nat → Prop} {xs zs : List V} {c c' : Array Value} {E : TypeId} {z : Nat × Nat} (e0 : Γ.h id = some (.row false s xs)) (hr : Γ.ρ id = some (b, base))
    (hb : Γ.w.heap[b]? = some (.cells c E z)) (hs : c'.size = c.size) (hid : ¬ Γ.n id') (hm : (∀ i, Γ.n i → m i) ∧ m id')
    (gr : RowOk (Γ.grow id id' (.row false s zs) b base m (.cells c' E z)) id' s zs) :
    HOk (Γ.grow id id' (.row false s zs) b base m (.cells c' E z)) ∧ Evo Γ (Γ.grow id id' (.row false s zs) b base m (.cells c' E z)) := by
  have hl := live_row e0
  have hlt := (Array.getElem?_eq_some_iff.1 hb).1
  have hidn : Γ.n id := H.lt id hl
  have hZ : ∀ o, ¬ Γ.Z b o := by
    intro o h
    obtain ⟨s', xs', e, ho⟩ := (H.z b o h).2 id base hl hr
    rw [e0] at e; cases e
  have hlive : ∀ i, i ≠ id' → live (upd (upd Γ.h id (some .dead)) id' (some (.row false s zs))) i → i ≠ id ∧ live Γ.h i ∧ upd (upd Γ.h id (some .dead)) id' (some (.row false s zs)) i = Γ.h i := by
    rintro i hi ⟨o, e, h⟩
    rw [upd_other _ _ hi] at e ⊢
    by_cases h2 : i = id
    · subst h2; rw [upd_same] at e; cases e; exact absurd rfl h
    · rw [upd_other _ _ h2] at e ⊢; exact ⟨h2, ⟨o, e, h⟩, rfl⟩
  have hother : ∀ i, i ≠ id → live Γ.h i → ∀ b' base', Γ.ρ i = some (b', base') → b' ≠ b := fun i hi hli b' base' e eb => hi (H.inj i id b' base' base hli hl e (eb ▸ hr))
  have hB : ∀ i, isB (Γ.grow id id' (.row false s zs) b base m (.cells c' E z)).h i → i ≠ id' ∧ i ≠ id ∧ isB Γ.h i := by
    rintro i (⟨t, e', r, s', e⟩ | ⟨o, e⟩)
    all_goals
      by_cases hi : i = id'
      · subst hi; simp [Cx.grow, upd] at e
      · by_cases h2 : i = id
        · subst h2; simp only [Cx.grow, upd_other _ _ hi, upd_same] at e; cases e
        · simp only [Cx.grow, upd_other _ _ hi, upd_other _ _ h2] at e; first | exact ⟨hi, h2, .inl ⟨_, _, _, _, e⟩⟩ | exact ⟨hi, h2, .inr ⟨_, e⟩⟩
  have EV : Evo Γ (Γ.grow id id' (.row false s zs) b base m (.cells c' E z)) := by
    refine ⟨hm.1, ?_, ?_, ?_, ?_, (fun i t e r s1 hi h => by
        obtain ⟨h1, h2, _⟩ := hB i (.inl ⟨_, _, _, _, h⟩)
        simp only [Cx.grow, upd_other _ _ h1, upd_other _ _ h2] at h; exact ⟨r, s1, h⟩), (fun i o hi h => by
        obtain ⟨h1, h2, _⟩ := hB i (.inr ⟨_, h⟩)
        simp only [Cx.grow, upd_other _ _ h1, upd_other _ _ h2] at h; exact ⟨o, h⟩), ?_, ?_, ?_, fun _ _ h => .inl h, ?_, by simp [Cx.grow, setBlk], rfl, rfl, rfl⟩
    · intro i hi h
      have hne : i ≠ id' := fun e => hid (e ▸ hi)
      obtain ⟨_, h1, _⟩ := hlive i hne h
      exact ⟨h1, by simp only [Cx.grow, upd_other _ _ hne]⟩
    · intro i cs hi e
      have hne : i ≠ id' := fun e => hid (e ▸ hi)
      obtain ⟨_, h1, h2⟩ := hlive i hne (live_var e)
      exact ⟨cs, h2.symm.trans e, rfl⟩
    · intro i fz' s' xs' hi e
      have hne : i ≠ id' := fun e => hid (e ▸ hi)
      obtain ⟨_, h1, h2⟩ := hlive i hne (live_row e)
      exact ⟨fz', xs', h2.symm.trans e, rfl⟩
    · intro i s1 fc c1 tm hi e
      have hne : i ≠ id' := fun e => hid (e ▸ hi)
      obtain ⟨_, h1, h2⟩ := hlive i hne (live_loop e)
      exact ⟨s1, tm, h2.symm.trans e⟩
    · intro b' r1 hb1
      have hk : b' ≠ b := fun e => by subst e; rw [hb] at hb1; cases hb1
      exact ⟨r1, (setBlk_other hk).trans hb1, .refl r1⟩
    · intro i b' base' c1 E1 z1 hi _ hri hbi
      by_cases hk : b' = b
      · subst hk
        rw [hb] at hbi; cases hbi
        exact ⟨c', E, z, setBlk_same hlt, hs⟩
      · exact ⟨c1, E1, z1, (setBlk_other hk).trans hbi, rfl⟩
    · intro b' o hZb
      refine ⟨hZb, ?_⟩
      by_cases hk : b' = b
      · subst hk; exact absurd hZb (hZ o)
      · exact cell_of_block (setBlk_other hk)
    · intro k hk hno
      have hne : k ≠ b := fun e => hno id base hl (e ▸ hr)
      refine ⟨setBlk_other hne, fun i base' h hri => ?_⟩
      by_cases hi : i = id'
      · subst hi
        simp only [Cx.grow, upd_same, Option.some.injEq, Prod.mk.injEq] at hri
        exact hne hri.1.symm
      · simp only [Cx.grow, upd_other _ _ hi] at hri
        exact hno i base' (hlive i hi h).2.1 hri
  refine ⟨H.step EV ?_ ?_ ?_ (fun i t e r s1 hb hr => ?_) (fun i hb => .inl (H.lt i (hB i hb).2.2.live)) ?_ ?_ ?_, EV⟩
  rotate_left 3
  · obtain ⟨hi, hi1, hbi⟩ := hB i (.inl ⟨_, _, _, _, hb⟩)
    obtain ⟨hj, hj1, hbj⟩ := hB r (.inr ⟨_, hr⟩)
    simp only [Cx.grow, upd_other _ _ hi, upd_other _ _ hi1] at hb
    simp only [Cx.grow, upd_other _ _ hj, upd_other _ _ hj1] at hr
    exact .inl ⟨H.lt i hbi.live, H.lt r hbj.live, hb, hr, fun b' base' h => setBlk_other (hother i hi1 hbi.live b' base' h), fun b' base' h => setBlk_other (hother r hj1 hbj.live b' base' h)⟩
  rotate_left 3
  · intro i cs e
    by_cases hi : i = id'
    · subst hi; simp [Cx.grow, upd] at e
    · obtain ⟨h0, h1, h2⟩ := hlive i hi (live_var e)
      exact .inl ⟨H.lt i h1, h2.symm.trans e, fun b' base' h => setBlk_other (hother i h0 h1 b' base' h)⟩
  · intro i fz' s' xs' e
    by_cases hi : i = id'
    · subst hi; simp only [Cx.grow, upd_same, Option.some.injEq, Ob.row.injEq] at e
      obtain ⟨_, rfl, rfl⟩ := e
      exact .inr gr
    · obtain ⟨h0, h1, h2⟩ := hlive i hi (live_row e)
      exact .inl ⟨H.lt i h1, ⟨fz', h2.symm.trans e⟩, fun b' base' h => setBlk_other (hother i h0 h1 b' base' h)⟩
  · intro i s1 fc c1 tm e
    by_cases hi : i = id'
    · subst hi; simp [Cx.grow, upd] at e
    · obtain ⟨h0, h1, h2⟩ := hlive i hi (live_loop e)
      exact .inl ⟨H.lt i h1, h2.symm.trans e, fun b' base' h => setBlk_other (hother i h0 h1 b' base' h)⟩
  · intro i j b' bi bj hi hj ei ej
    by_cases h1 : i = id' <;> by_cases h2 : j = id'
    · omega
    · subst h1
      simp only [Cx.grow, upd_same, upd_other _ _ h2, Option.some.injEq, Prod.mk.injEq] at ei ej
      obtain ⟨h0, hlj, _⟩ := hlive j h2 hj
      exact absurd ei.1.symm (hother j h0 hlj b' bj ej)
    · subst h2
      simp only [Cx.grow, upd_same, upd_other _ _ h1, Option.some.injEq, Prod.mk.injEq] at ei ej
      obtain ⟨h0, hli, _⟩ := hlive i h1 hi
      exact absurd ej.1.symm (hother i h0 hli b' bi ei)
    · simp only [Cx.grow, upd_other _ _ h1, upd_other _ _ h2] at ei ej
      exact H.inj i j b' bi bj (hlive i h1 hi).2.1 (hlive j h2 hj).2.1 ei ej
  · intro i hi
    by_cases h1 : i = id'
    · subst h1; exact hm.2
    · exact hm.1 i (H.lt i (hlive i h1 hi).2.1)
  · intro b' o hZb
    obtain ⟨h1, h2⟩ := H.z b' o hZb
    refine ⟨by simp [Cx.grow, setBlk]; exact h1, fun i base' hli hri => ?_⟩
    by_cases hi : i = id'
    · subst hi
      simp only [Cx.grow, upd_same, Option.some.injEq, Prod.mk.injEq] at hri
      obtain ⟨rfl, rfl⟩ := hri
      exact absurd hZb (hZ o)
    · simp only [Cx.grow, upd_other _ _ hi] at hri
      obtain ⟨h0, hl1, he⟩ := hlive i hi hli
      obtain ⟨s', xs', e, ho⟩ := h2 i base' hl1 hri
      exact ⟨s', xs', he.trans e, ho⟩

/-- The elements of a row with one more, cell by cell. -/
theorem insL_cells {w : World} {Z : Nat → Nat → Prop} {s i : Nat} {xs : List V} {x : V} {old new cs : Nat → Option Value} (hs : 0 < s) (hi : i ≤ xs.length)
    (hlen : ∀ (i : Nat) (x : V), xs[i]? = some x → x.cells.length = s) (hx : x.cells.length = s)
    (ho : ∀ (i : Nat) (x : V) (j : Nat) (y : V) (u : Value), xs[i]? = some x → x.cells[j]? = some y → old (i * s + j) = some u → VP w Z y u)
    (hn : ∀ (j : Nat) (y : V) (u : Value), x.cells[j]? = some y → new j = some u → VP w Z y u)
    (hc : ∀ k, k < (xs.length + 1) * s → cs k = insAt s i xs.length old new k) :
    (∀ (k : Nat) (y : V), (insL xs i x)[k]? = some y → y.cells.length = s) ∧
    ∀ (k : Nat) (y : V) (j : Nat) (v : V) (u : Value), (insL xs i x)[k]? = some y → y.cells[j]? = some v → cs (k * s + j) = some u → VP w Z v u := by
  have hget : ∀ k, (insL xs i x)[k]? = if k < i then xs[k]? else if k = i then some x else xs[k - 1]? := by
    intro k
    unfold insL
    rw [List.getElem?_append, List.length_take, Nat.min_eq_left hi, List.getElem?_take]
    by_cases h1 : k < i
    · simp [h1]
    · rw [if_neg h1, if_neg h1]
      by_cases h2 : k = i
      · subst h2; simp
      · rw [if_neg h2, show k - i = (k - i - 1) + 1 by omega, List.getElem?_cons_succ, List.getElem?_drop]
        congr 1; omega
  have hL : ∀ (k : Nat) (y : V), (insL xs i x)[k]? = some y → y.cells.length = s := by
    intro k y hk
    rw [hget] at hk
    split at hk
    · exact hlen _ _ hk
    · split at hk
      · cases hk; exact hx
      · exact hlen _ _ hk
  refine ⟨hL, fun k y j v u hk hj hu => ?_⟩
  have hjs : j < s := by rw [← hL k y hk]; exact (List.getElem?_eq_some_iff.1 hj).1
  have hkn : k < xs.length + 1 := by
    have := (List.getElem?_eq_some_iff.1 hk).1
    unfold insL at this
    simp only [List.length_append, List.length_take, List.length_cons, List.length_drop] at this
    omega
  have hks : (k + 1) * s ≤ (xs.length + 1) * s := Nat.mul_le_mul_right _ hkn
  have hk1 : (k + 1) * s = k * s + s := by rw [Nat.add_mul, Nat.one_mul]
  rw [hc _ (by omega)] at hu
  unfold insAt at hu
  have hi1 : (i + 1) * s = i * s + s := by rw [Nat.add_mul, Nat.one_mul]
  rw [hget] at hk
  by_cases h1 : k < i
  · have : (k + 1) * s ≤ i * s := Nat.mul_le_mul_right _ h1
    rw [if_pos (by omega)] at hu
    rw [if_pos h1] at hk
    exact ho k y j v u hk hj hu
  · rw [if_neg h1] at hk
    have hik : i * s ≤ k * s := Nat.mul_le_mul_right _ (by omega)
    rw [if_neg (by omega)] at hu
    by_cases h2 : k = i
    · rw [if_pos h2] at hk
      cases hk
      subst h2
      rw [if_pos (by omega), show k * s + j - k * s = j by omega] at hu
      exact hn j v u hj hu
    · rw [if_neg h2] at hk
      have hik2 : (i + 1) * s ≤ k * s := Nat.mul_le_mul_right _ (by omega)
      have hkm : k * s = (k - 1) * s + s := by
        have : k = (k - 1) + 1 := by omega
        rw [this, Nat.add_mul, Nat.one_mul]; simp
      rw [if_neg (by omega), if_pos (by omega), show k * s + j - s = (k - 1) * s + j by omega] at hu
      exact ho (k - 1) y j v u hk hj hu

theorem ownRow_inv {Γ : Cx} {hp : List (Nat × Ob)} {x : V} {id s : Nat} {xs : List V} {u : Value} (hh : Γ.h = look hp) (h : ownRow x hp = some (id, s, xs)) (hv : VR Γ x u) :
    Γ.n id ∧ ∃ ys, Γ.h id = some (.row false s ys) ∧ xs = ys.take xs.length ∧ xs.length ≤ ys.length ∧ RefOk Γ id s 0 xs.length u ∧ elems Γ.h x = some (s, xs) := by
  unfold ownRow at h
  split at h
  · rename_i i
    split at h
    · rename_i s' xs' hid
      cases h
      have hΓ : Γ.h id = some (.row false s xs) := by rw [hh]; exact hid
      obtain ⟨_, hn, hr⟩ := hv.ref_inv
      exact ⟨hn, xs, hΓ, by simp, Nat.le_refl _, hr _ _ _ hΓ, by simp [elems, hΓ]⟩
    · cases h
  · rename_i i n
    split at h
    · rename_i s' xs' hid
      cases h
      have hΓ : Γ.h id = some (.row false s xs') := by rw [hh]; exact hid
      obtain ⟨_, hn, hr⟩ := hv.sub_inv
      obtain ⟨hle, hr⟩ := hr _ _ _ hΓ
      rw [Nat.zero_add] at hle
      have e : (xs'.take n).length = n := by rw [List.length_take]; omega
      exact ⟨hn, xs', hΓ, by rw [e], by omega, by rw [e]; exact hr, by simp [elems, hΓ]⟩
    · cases h
  · cases h

set_option maxHeartbeats 2000000 in
theorem fnOk_Ins {f : Nat} {K : Lk} (L : InsFn P f K.t) (hk : K.k = 6) {args : List V} {hp : List (Nat × Ob)} {nx : Nat} {v : V} {hp' : List (Nat × Ob)} {nx' : Nat}
    (h : libSem K args hp nx = some (v, hp', nx')) : FnOk Fence.wide P f args hp nx v hp' nx' := by
  unfold libSem at h
  rw [hk] at h
  simp only at h
  split at h
  · -- nothing yet
    rename_i nl sz y
    split at h
    · rename_i fz s' c hy
      rw [guardP_some] at h
      obtain ⟨rfl, h⟩ := h
      cases h
      refine ⟨L.fn, fun n Γ us H hh hn hargs => ?_⟩
      have hΓy : Γ.h y = some (.row fz K.t [c]) := by rw [hh]; exact hy
      obtain ⟨hl, hv⟩ := hargs
      obtain ⟨u0, u1, u2, rfl⟩ : ∃ u0 u1 u2, us = #[u0, u1, u2] := by
        match us, hl with
        | ⟨[a, b, c]⟩, _ => exact ⟨a, b, c, rfl⟩
      have h0 := (hv 0 _ u0 rfl rfl).sl_inv
      have h1 := (hv 1 _ u1 rfl rfl).int_inv
      subst h1
      obtain ⟨a, rfl⟩ : ∃ a, u0 = .slice a 0 0 := by
        cases h0 with
        | sl _ _ _ _ a cap hc hclip => obtain rfl := hclip rfl; exact ⟨a, rfl⟩
      obtain ⟨_, hyn, hro⟩ := (hv 2 _ u2 rfl rfl).ref_inv
      obtain ⟨ay, vc, rfl, hvc, _, hrow⟩ := hro fz K.t [c] hΓy
      obtain ⟨vb, vbase, cv, Ev, zv, hρv, rfl, hbv, hszv⟩ := hrow (by simp at hvc; omega)
      rcases H.row y fz K.t [c] hΓy with ⟨hnone, _⟩ | ⟨b', base', c', E', z', hρ', hb', hun, _, hle, h1c, hxl, hvp⟩
      · rw [hρv] at hnone; cases hnone
      rw [hρv] at hρ'; cases hρ'
      rw [hbv] at hb'; cases hb'
      have hfr : Fresh Γ.n nx := fun k hk _ => hn k hk
      have hold : ∀ w' : World, w'.heap = Γ.w.heap → (Builtin.firstCells K.t 0 (.slice a 0 0)).run P w' = .ok #[] w' := by
        intro w' _; cases a <;> simp [Builtin.firstCells, loadCells, loadCellsFrom]
      refine callsIn_wide.2 (Calls.mono (L.full Γ.w a 0 0 vb (vbase + 0 * K.t) vc cv Ev zv #[] (Nat.le_refl _) (by unfold maxLen'; omega) (by simp) hold (fun h => absurd h (by omega)) (by simp) hbv hun (by simp at hle ⊢; omega) h1c) ?_)
      rintro e w' ⟨q, cap, arr, el, rfl, rfl, hcap, harr, h1a, hget⟩
      simp only
      obtain ⟨H1, E1⟩ := step_same H (Γ.w.drewN q) Γ.n rfl rfl rfl rfl (fun _ h => h)
      have hz : ∀ b o, Γ.Z b o → Γ.Z b o ∧ (Γ.w.drewN q).cell? ⟨b, o, none⟩ = Γ.w.cell? ⟨b, o, none⟩ := fun b o h => ⟨h, rfl⟩
      have hI := insL_cells (w := Γ.w) (Z := Γ.Z) (s := K.t) (i := 0) (xs := []) (x := c) (old := fun j => (#[] : Array Value)[j]?) (new := fun j => cv[vbase + 0 * K.t + j]?) (cs := fun k => arr[k]?) L.pos (by simp) (by simp) (hxl 0 c rfl) (by simp)
        (fun j y u hy hu => hvp 0 c j y u rfl hy (by simpa using hu)) (fun k hk => hget k (by simpa using hk))
      have e1 : insL [] 0 c = [c] := rfl
      rw [e1] at hI
      have hC : RowC (Γ.w.drewN q) Γ.Z K.t [c] arr := by
        refine ⟨L.pos, ?_, h1a, hI.1, fun i x j y u hx hy hu => (hI.2 i x j y u hx hy hu).evo hz⟩
        have : (0 + 1) * K.t ≤ cap * K.t := Nat.mul_le_mul_right _ hcap
        simp at this ⊢; omega
      obtain ⟨Δ, hw, hh2, hn', hok, hev, hvr⟩ := new_row (b := nx) H1 hfr false hC el (0, 0) (fun o _ h => by simp only at h; omega) (cap := cap) (by simpa using hcap) harr
      refine ⟨Δ, hw, hok, ?_, ?_, E1.trans hev, ?_⟩
      · rw [hh2]; funext i; rw [look_put]
        by_cases hi : nx = i
        · subst hi; rw [if_pos rfl, upd_same]
        · rw [if_neg hi, upd_other _ _ (Ne.symm hi), ← hh]
      · intro k hk; rw [hn']; rintro (h | h)
        · exact hn k (by omega) h
        · omega
      · exact hvr
    · cases h
  · rename_i x i y hnot
    split at h
    · rename_i id s xs hown
      split at h
      · rename_i fz s' c hy
        rw [guardP_some] at h
        obtain ⟨⟨hne, hs1, hs2, hi0, hi, hlen⟩, h⟩ := h
        cases h
        subst hs1 hs2
        refine ⟨L.fn, fun n Γ us H hh hn hargs => ?_⟩
        have hΓy : Γ.h y = some (.row fz K.t [c]) := by rw [hh]; exact hy
        obtain ⟨hl, hv⟩ := hargs
        obtain ⟨u0, u1, u2, rfl⟩ : ∃ u0 u1 u2, us = #[u0, u1, u2] := by
          match us, hl with
          | ⟨[a, b, c]⟩, _ => exact ⟨a, b, c, rfl⟩
        have hx := hv 0 _ u0 rfl rfl
        have h1 := (hv 1 _ u1 rfl rfl).int_inv
        subst h1
        obtain ⟨hidn, ys, hid, htk, hle0, ⟨a, cap, rfl, hcap, hspot, hrowx⟩, hel⟩ := ownRow_inv hh hown hx
        obtain ⟨_, hyn, hro⟩ := (hv 2 _ u2 rfl rfl).ref_inv
        obtain ⟨ay, vc, rfl, hvc, _, hrow⟩ := hro fz K.t [c] hΓy
        obtain ⟨vb, vbase, cv, Ev, zv, hρv, rfl, hbv, hszv⟩ := hrow (by simp at hvc; omega)
        rcases H.row y fz K.t [c] hΓy with ⟨hnone, _⟩ | ⟨b', base', c', E', z', hρ', hb', hunv, _, hlev, h1cv, hxlv, hvpv⟩
        · rw [hρv] at hnone; cases hnone
        rw [hρv] at hρ'; cases hρ'
        rw [hbv] at hb'; cases hb'
        have hfr : Fresh Γ.n nx := fun k hk _ => hn k hk
        obtain ⟨j, rfl⟩ : ∃ j : Nat, i = (j : Int) := ⟨i.toNat, (Int.toNat_of_nonneg hi0).symm⟩
        simp only [Int.toNat_natCast] at hi ⊢
        have hvle : vbase + 0 * K.t + 1 * K.t ≤ cv.size := by simp at hlev ⊢; omega
        have hnew : ∀ (j : Nat) (y : V) (u : Value), c.cells[j]? = some y → cv[vbase + 0 * K.t + j]? = some u → VP Γ.w Γ.Z y u := fun j y u hy hu => hvpv 0 c j y u rfl hy (by simpa using hu)
        have hgx : ∀ (k : Nat) (z : V), xs[k]? = some z → ys[k]? = some z := by
          intro k z hz
          rw [htk, List.getElem?_take] at hz
          split at hz
          · exact hz
          · cases hz
        by_cases hfit : xs.length + 1 ≤ cap
        · obtain ⟨b, base, cs, E, z, hρ, ha, hb, hsz⟩ := hrowx (by omega)
          subst ha
          rcases H.row id false K.t ys hid with ⟨hnone, _⟩ | ⟨b', base', c', E', z', hρ', hb', hun, _, hle, h1c, hxl, hvp⟩
          · rw [hρ] at hnone; cases hnone
          rw [hρ] at hρ'; cases hρ'
          rw [hb] at hb'; cases hb'
          have hvb : vb ≠ b := fun e => hne (H.inj y id b vbase base (live_row hΓy) (live_row hid) (e ▸ hρv) hρ)
          have hlt := (Array.getElem?_eq_some_iff.1 hb).1
          have hsz2 : base + 0 * K.t + cap * K.t ≤ cs.size := by simpa using hsz
          refine callsIn_wide.2 (Calls.mono (L.room Γ.w b (base + 0 * K.t) xs.length cap j vb (vbase + 0 * K.t) vc cs E z cv Ev zv hi hfit hlen hvb hb hun hsz2 h1c hbv hunv hvle h1cv) ?_)
          rintro e w' ⟨rfl, q, cs', rfl, hcs', hget⟩
          simp only
          have hcapm : (xs.length + 1) * K.t ≤ cap * K.t := Nat.mul_le_mul_right _ hfit
          have hI := insL_cells (w := Γ.w) (Z := Γ.Z) (s := K.t) (i := j) (xs := xs) (x := c) (old := fun j => cs[base + 0 * K.t + j]?) (new := fun j => cv[vbase + 0 * K.t + j]?) (cs := fun k => cs'[base + 0 * K.t + k]?) L.pos hi
            (fun i x hx => hxl i x (hgx i x hx)) (hxlv 0 c rfl) (fun i x j y u hx hy hu => hvp i x j y u (hgx i x hx) hy (by simpa using hu)) hnew (fun k hk => by
              rw [hget, if_pos (by omega), show base + 0 * K.t + k - (base + 0 * K.t) = k by omega])
          have hlen2 : (insL xs j c).length = xs.length + 1 := by unfold insL; simp only [List.length_append, List.length_take, List.length_cons, List.length_drop]; omega
          have hVPz : ∀ b' o', Γ.Z b' o' → Γ.Z b' o' ∧ (setBlk Γ.w b (.cells cs' E z)).cell? ⟨b', o', none⟩ = Γ.w.cell? ⟨b', o', none⟩ := by
            intro b' o' hZ
            refine ⟨hZ, ?_⟩
            by_cases hk : b' = b
            · subst hk
              obtain ⟨s', xs', e', ho'⟩ := (H.z _ o' hZ).2 id base (live_row hid) hρ
              rw [hid] at e'; cases e'
            · exact cell_of_block (setBlk_other hk)
          have h1' : ∀ (j : Nat) (u : Value), cs'[j]? = some u → u.oneCell = true := by
            intro k u hu
            rw [hget] at hu
            split at hu
            · unfold insAt at hu
              split at hu
              · exact h1c _ u hu
              · split at hu
                · exact h1cv _ u hu
                · split at hu
                  · exact h1c _ u hu
                  · cases hu
            · exact h1c _ u hu
          obtain ⟨H2, E2⟩ := step_alias (id' := nx) (m := more Γ.n nx) (zs := insL xs j c) H hid hρ hb hcs' hfr.at ⟨more_of, more_at _ _⟩ (by
            refine .inr ⟨b, base, cs', E, z, by simp [Cx.grow], setBlk_same hlt, by rw [hcs']; exact hun, L.pos, ?_, h1', hI.1, ?_⟩
            · rw [hlen2, hcs']; omega
            · intro k x j y u hx hy hu
              exact (hI.2 k x j y u hx hy (by simpa using hu)).evo hVPz)
          obtain ⟨H3, E3⟩ := step_same H2 ((setBlk Γ.w b (.cells cs' E z)).drewN q) (more Γ.n nx) rfl rfl rfl rfl (fun _ h => h)
          refine ⟨_, rfl, H3, ?_, ?_, E2.trans E3, ?_⟩
          · show upd (upd Γ.h id (some .dead)) nx (some (.row false K.t (insL xs j c))) = _
            funext i; rw [look_put]
            by_cases hi : nx = i
            · subst hi; rw [if_pos rfl, upd_same]
            · rw [if_neg hi, upd_other _ _ (Ne.symm hi), look_put]
              by_cases hi2 : id = i
              · subst hi2; rw [if_pos rfl, upd_same]
              · rw [if_neg hi2, upd_other _ _ (Ne.symm hi2), ← hh]
          · intro k hk; rintro (h | h)
            · exact hn k (by omega) h
            · omega
          · refine .ref nx _ rfl (more_at _ _) fun fz' s' xs' hid' => ?_
            have hid' : upd (upd Γ.h id (some .dead)) nx (some (.row false K.t (insL xs j c))) nx = some (.row fz' s' xs') := hid'
            simp only [upd_same, Option.some.injEq, Ob.row.injEq] at hid'
            obtain ⟨_, rfl, rfl⟩ := hid'
            exact ⟨_, cap, by rw [hlen2], by rw [hlen2]; exact hfit, fun _ ad e => by cases e; rfl, fun _ => ⟨b, base, cs', E, z, upd_same _ _ _, rfl, setBlk_same hlt, by rw [hcs']; exact hsz⟩⟩
        · have hcn : cap = xs.length := by omega
          subst hcn
          obtain ⟨a', cap', hα', old, hold, hEo⟩ := src_cells (P := P) H hx hel (.inl rfl)
          cases hα'
          have hsrc : 0 < xs.length → ∃ b off cs E z, a = some ⟨b, off, none⟩ ∧ Γ.w.heap[b]? = some (.cells cs E z) ∧ off + xs.length * K.t ≤ cs.size ∧ ∀ k, k < xs.length * K.t → old[k]? = cs[off + k]? := by
            intro hpos
            obtain ⟨b, base, cs, E, z, hρ, ha, hb, hsz⟩ := hrowx hpos
            have hs0 : base + 0 * K.t + xs.length * K.t ≤ cs.size := by simpa using hsz
            refine ⟨b, base + 0 * K.t, cs, E, z, ha, hb, hs0, fun k hk => ?_⟩
            have := hold Γ.w rfl
            rw [ha] at this
            simp only [Builtin.firstCells] at this
            rw [run_loadCells P hb hs0] at this
            cases this
            rw [ext_get _ _ _ _ hs0, if_pos hk]
          refine callsIn_wide.2 (Calls.mono (L.full Γ.w a xs.length j vb (vbase + 0 * K.t) vc cv Ev zv old hi hlen hEo.1 hold hsrc hEo.2.1 hbv hunv hvle h1cv) ?_)
          rintro e w' ⟨q, cap, arr, el, rfl, rfl, hcap2, harr, h1a, hget⟩
          simp only
          obtain ⟨H1, E1⟩ := step_same H (Γ.w.drewN q) Γ.n rfl rfl rfl rfl (fun _ h => h)
          obtain ⟨H2, E2⟩ := step_kill H1 id
          have hz : ∀ b o, Γ.Z b o → Γ.Z b o ∧ (Γ.w.drewN q).cell? ⟨b, o, none⟩ = Γ.w.cell? ⟨b, o, none⟩ := fun b o h => ⟨h, rfl⟩
          have hI := insL_cells (w := Γ.w) (Z := Γ.Z) (s := K.t) (i := j) (xs := xs) (x := c) (old := fun j => old[j]?) (new := fun j => cv[vbase + 0 * K.t + j]?) (cs := fun k => arr[k]?) L.pos hi hEo.2.2.1 (hxlv 0 c rfl) hEo.2.2.2 hnew hget
          have hlen2 : (insL xs j c).length = xs.length + 1 := by unfold insL; simp only [List.length_append, List.length_take, List.length_cons, List.length_drop]; omega
          have hC : RowC (Γ.w.drewN q) Γ.Z K.t (insL xs j c) arr := by
            refine ⟨L.pos, ?_, h1a, hI.1, fun i x j y u hx hy hu => (hI.2 i x j y u hx hy hu).evo hz⟩
            have : (xs.length + 1) * K.t ≤ cap * K.t := Nat.mul_le_mul_right _ hcap2
            rw [hlen2]; omega
          obtain ⟨Δ, hw, hh2, hn', hok, hev, hvr⟩ := new_row (b := nx) H2 hfr false hC el (0, 0) (fun o _ h => by simp only at h; omega) (cap := cap) (by rw [hlen2]; exact hcap2) harr
          refine ⟨Δ, hw, hok, ?_, ?_, (E1.trans E2).trans hev, ?_⟩
          · rw [hh2]; funext i; rw [look_put]
            by_cases hi : nx = i
            · subst hi; rw [if_pos rfl, upd_same]
            · rw [if_neg hi, upd_other _ _ (Ne.symm hi), look_put]
              by_cases hi2 : id = i
              · subst hi2; rw [if_pos rfl]; exact upd_same _ _ _
              · rw [if_neg hi2]
                show upd Γ.h id (some .dead) i = _
                rw [upd_other _ _ (Ne.symm hi2), ← hh]
          · intro k hk; rw [hn']; rintro (h | h)
            · exact hn k (by omega) h
            · omega
          · rw [hlen2] at hvr; exact hvr
      · cases h
    · cases h
  · cases h

/-- What is asked of a Clone at elements of s cells, of type el. -/
structure CloneFn (P : Program) (f s el : Nat) : Prop where
  fn : ∃ fn, P.funcs[f]? = some fn ∧ (fn.name == "runtime.NumGoroutine") = false ∧ fn.body.isNone = false
  pos : 0 < s
  nilc : ∀ (w : World) (cap : Nat), Calls P f #[.slice none 0 cap] w fun e w' => e = .returned (.slice none 0 0) ∧ w' = w
  emp : ∀ (w : World) (a : Addr) (cap : Nat), Calls P f #[.slice (some a) 0 cap] w fun e w' => e = .returned (.slice (some ⟨w.heap.size, 0, none⟩) 0 0) ∧ w' = w.alloc (.cells #[] el)
  ful : ∀ (w : World) (a : Addr) (n cap : Nat) (old : Array Value), 0 < n → n ≤ maxLen' → old.size = n * s → (∀ w' : World, w'.heap = (w.alloc (.cells #[] el)).heap → (Builtin.firstCells s n (.slice (some a) n cap)).run P w' = .ok old w') →
    (∀ (j : Nat) (u : Value), old[j]? = some u → u.oneCell = true) →
    Calls P f #[.slice (some a) n cap] w fun e w' => ∃ q cap' arr, e = .returned (.slice (some ⟨w.heap.size + 1, 0, none⟩) n cap') ∧ w' = ((w.alloc (.cells #[] el)).drewN q).alloc (.cells arr el) ∧ n ≤ cap' ∧ cap' * s ≤ arr.size ∧
      (∀ (j : Nat) (u : Value), arr[j]? = some u → u.oneCell = true) ∧ ∀ k, k < n * s → arr[k]? = old[k]?

set_option maxHeartbeats 2000000 in
theorem fnOk_Clone {f : Nat} {K : Lk} (L : CloneFn P f K.t K.e) (hk : K.k = 8) {args : List V} {hp : List (Nat × Ob)} {nx : Nat} {v : V} {hp' : List (Nat × Ob)} {nx' : Nat}
    (h : libSem K args hp nx = some (v, hp', nx')) : FnOk Fence.wide P f args hp nx v hp' nx' := by
  unfold libSem at h
  rw [hk] at h
  simp only at h
  split at h
  · rename_i nl cl s xs
    rw [guardP_some] at h
    obtain ⟨⟨hs, hlen⟩, h⟩ := h
    cases h
    refine ⟨L.fn, fun n Γ us H hh hn hargs => ?_⟩
    obtain ⟨hl, hv⟩ := hargs
    obtain ⟨u0, rfl⟩ : ∃ u0, us = #[u0] := by
      match us, hl with
      | ⟨[a]⟩, _ => exact ⟨a, rfl⟩
    have h0 := hv 0 _ u0 rfl rfl
    have hfr : Fresh Γ.n nx := fun k hk _ => hn k hk
    have hlook : upd Γ.h nx (some (.row false K.t xs)) = look (put hp nx (.row false K.t xs)) := by
      funext i; rw [look_put]
      by_cases hi : nx = i
      · subst hi; rw [if_pos rfl, upd_same]
      · rw [if_neg hi, upd_other _ _ (Ne.symm hi), ← hh]
    have hempty : xs = [] → ∀ (Γ' : Cx), HOk Γ' → Γ'.h = Γ.h → Γ'.n = Γ.n → Evo Γ Γ' → ∀ (a' : Option Addr), ∃ Δ : Cx, Δ.w = Γ'.w ∧ HOk Δ ∧ Δ.h = look (put hp nx (.row false K.t xs)) ∧ (∀ k, nx + 4 ≤ k → ¬ Δ.n k) ∧ Evo Γ Δ ∧ VR Δ (.ref nx) (.slice a' 0 0) := by
      intro hx Γ' H' hh' hn' E' a'
      subst hx
      obtain ⟨H1, E1⟩ := step_virtual H' nx K.t (more Γ'.n nx) false (by rw [hn']; exact hfr.at) ⟨more_of, more_at _ _⟩
      refine ⟨{ Γ' with ρ := upd Γ'.ρ nx none, h := upd Γ'.h nx (some (.row false K.t [])), n := more Γ'.n nx }, rfl, H1, ?_, ?_, E'.trans E1, .ref nx _ rfl (more_at _ _) fun fz s xs hid => ?_⟩
      · show upd Γ'.h nx _ = _
        rw [hh']; exact hlook
      · intro k hk; rintro (h | h)
        · rw [hn'] at h; exact hn k (by omega) h
        · omega
      · have hid : upd Γ'.h nx (some (.row false K.t [])) nx = some (.row fz s xs) := hid
        rw [upd_same] at hid
        cases hid
        exact ⟨a', 0, rfl, Nat.le_refl _, fun h => absurd h (by omega), fun h => absurd h (by omega)⟩
    obtain ⟨a, m, cap, rfl, hm, hnn⟩ : ∃ a m cap, u0 = .slice a m cap ∧ m = xs.length ∧ (a = none → m = 0) := by
      cases h0.sl_inv with
      | sl _ _ _ _ a cap hc hclip hnt hnf hnn hs0 hspot hxl hee hvv => exact ⟨_, _, _, rfl, rfl, fun e => by have := hnn e; omega⟩
    subst hm
    cases a with
    | none =>
      have hx : xs = [] := List.length_eq_zero_iff.1 (hnn rfl)
      rw [show xs.length = 0 from hnn rfl]
      refine callsIn_wide.2 (Calls.mono (L.nilc Γ.w cap) ?_)
      rintro e w' ⟨rfl, rfl⟩
      exact hempty hx Γ H rfl rfl (Evo.refl Γ) none
    | some a =>
      have H1E : HOk { Γ with w := Γ.w.alloc (.cells #[] K.e) } ∧ Evo Γ { Γ with w := Γ.w.alloc (.cells #[] K.e) } := by
        obtain ⟨H1, E1⟩ := step_ext H (Γ.w.alloc (.cells #[] K.e)) Γ.n (fun _ _ => False) (fun k hk => alloc_block _ _ _ hk) (by simp) rfl rfl rfl (fun _ h => h) (fun _ _ h => h.elim)
        have eZ : (fun b o => Γ.Z b o ∨ False) = Γ.Z := by funext b o; simp
        rw [eZ] at H1 E1
        exact ⟨H1, E1⟩
      obtain ⟨H1, E1⟩ := H1E
      by_cases hx : xs = []
      · rw [show xs.length = 0 by rw [hx]; rfl]
        refine callsIn_wide.2 (Calls.mono (L.emp Γ.w a cap) ?_)
        rintro e w' ⟨rfl, rfl⟩
        exact hempty hx _ H1 rfl rfl E1 _
      · have hpos : 0 < xs.length := List.length_pos_iff.2 hx
        have hsz : s = K.t := hs.resolve_right (by simpa using hx)
        subst hsz
        obtain ⟨a', cap', hα', old, hold, hEo⟩ := src_cells (P := P) H1 (h0.evo E1) (s := K.t) (ys := xs) rfl (.inl rfl)
        cases hα'
        refine callsIn_wide.2 (Calls.mono (L.ful Γ.w a xs.length cap old hpos hlen hEo.1 hold hEo.2.1) ?_)
        rintro e w' ⟨q, cap2, arr, rfl, rfl, hcap2, harr, h1a, hget⟩
        simp only
        obtain ⟨H2, E2⟩ := step_same H1 ((Γ.w.alloc (.cells #[] K.e)).drewN q) Γ.n rfl rfl rfl rfl (fun _ h => h)
        have hz : ∀ b o, Γ.Z b o → Γ.Z b o ∧ ((Γ.w.alloc (.cells #[] K.e)).drewN q).cell? ⟨b, o, none⟩ = (Γ.w.alloc (.cells #[] K.e)).cell? ⟨b, o, none⟩ := fun b o h => ⟨h, rfl⟩
        have hle2 : xs.length * K.t ≤ cap2 * K.t := Nat.mul_le_mul_right _ hcap2
        have hC : RowC ((Γ.w.alloc (.cells #[] K.e)).drewN q) Γ.Z K.t xs arr := by
          refine ⟨L.pos, by omega, h1a, hEo.2.2.1, fun i x j y u hi hy hu => ?_⟩
          have hj : j < K.t := by rw [← hEo.2.2.1 i x hi]; exact (List.getElem?_eq_some_iff.1 hy).1
          have hil : i < xs.length := (List.getElem?_eq_some_iff.1 hi).1
          have : (i + 1) * K.t ≤ xs.length * K.t := Nat.mul_le_mul_right _ hil
          rw [Nat.add_mul, Nat.one_mul] at this
          rw [hget _ (by omega)] at hu
          exact (hEo.2.2.2 i x j y u hi hy hu).evo hz
        obtain ⟨Δ, hw, hh2, hn', hok, hev, hvr⟩ := new_row (b := nx) H2 hfr false hC K.e (0, 0) (fun o _ h => by simp only at h; omega) (cap := cap2) hcap2 harr
        refine ⟨Δ, hw, hok, hh2.trans hlook, ?_, (E1.trans E2).trans hev, ?_⟩
        · intro k hk; rw [hn']; rintro (h | h)
          · exact hn k (by omega) h
          · omega
        · have e : ((Γ.w.alloc (.cells #[] K.e)).drewN q).heap.size = Γ.w.heap.size + 1 := by
            show (Γ.w.alloc (.cells #[] K.e)).heap.size = _
            unfold World.alloc
            simp
          rw [← e]; exact hvr
  · cases h
end Go.Sym
