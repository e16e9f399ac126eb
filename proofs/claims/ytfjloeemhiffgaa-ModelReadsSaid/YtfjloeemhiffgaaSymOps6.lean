/- DERIVED. The operations, sixth part: slices that are made, written out, appended to. -/
import Derived.Test.YtfjloeemhiffgaaSymOps5
import Derived.Laws.BytesString
set_option linter.unusedVariables false
set_option linter.unusedSimpArgs false
namespace Go.Sym
variable {P : Program} {o : Oper} {α : Operand → Value} {e : Operand → V} {Γ : Cx} {b : Nat}

theorem run_loadCells_cells (P : Program) {b o m : Nat} {w : World} (h : ∀ k, k < m → ∃ u, w.cell? ⟨b, o + k, none⟩ = some u) :
    ∃ arr : Array Value, (loadCells ⟨b, o, none⟩ m).run P w = .ok arr w ∧ arr.size = m ∧ ∀ k, k < m → arr[k]? = w.cell? ⟨b, o + k, none⟩ := by
  cases m with
  | zero => exact ⟨#[], by simp [loadCells, loadCellsFrom], rfl, by omega⟩
  | succ m =>
    obtain ⟨c, E, z, hb⟩ : ∃ c E z, w.heap[b]? = some (.cells c E z) := by
      obtain ⟨u, hu⟩ := h 0 (by omega)
      unfold World.cell? at hu
      split at hu
      · exact ⟨_, _, _, by assumption⟩
      · cases hu
    have hcell : ∀ k, w.cell? ⟨b, o + k, none⟩ = c[o + k]? := fun k => by simp [World.cell?, hb]
    have hsz : o + (m + 1) ≤ c.size := by
      obtain ⟨u, hu⟩ := h m (by omega)
      rw [hcell] at hu
      have := (Array.getElem?_eq_some_iff.1 hu).1
      omega
    exact ⟨_, run_loadCells P hb hsz, ext_size _ _ _ hsz, fun k hk => by rw [ext_get _ _ _ _ hsz, if_pos hk, hcell]⟩

/-- Cells that are just these elements'. -/
def RowE (w : World) (Z : Nat → Nat → Prop) (s : Nat) (xs : List V) (c : Array Value) : Prop :=
  c.size = xs.length * s ∧ (∀ (j : Nat) (u : Value), c[j]? = some u → u.oneCell = true) ∧ (∀ (i : Nat) (x : V), xs[i]? = some x → x.cells.length = s) ∧
    ∀ (i : Nat) (x : V) (j : Nat) (y : V) (u : Value), xs[i]? = some x → x.cells[j]? = some y → c[i * s + j]? = some u → VP w Z y u

theorem RowE.nil (w : World) (Z : Nat → Nat → Prop) (s : Nat) : RowE w Z s [] #[] := ⟨by simp, by simp, by simp, by simp⟩

theorem RowE.append {w : World} {Z : Nat → Nat → Prop} {s : Nat} {xs ys : List V} {c d : Array Value} (h : RowE w Z s xs c) (k : RowE w Z s ys d) : RowE w Z s (xs ++ ys) (c ++ d) := by
  obtain ⟨h1, h2, h3, h4⟩ := h
  obtain ⟨k1, k2, k3, k4⟩ := k
  refine ⟨by simp [h1, k1, Nat.add_mul], ?_, ?_, ?_⟩
  · intro j u hu
    rw [Array.getElem?_append] at hu
    split at hu
    · exact h2 _ u hu
    · exact k2 _ u hu
  · intro i x hx
    rw [List.getElem?_append] at hx
    split at hx
    · exact h3 _ x hx
    · exact k3 _ x hx
  · intro i x j y u hx hy hu
    have hj : j < s := by
      have hlt := (List.getElem?_eq_some_iff.1 hy).1
      rw [List.getElem?_append] at hx
      split at hx
      · rw [h3 _ x hx] at hlt; exact hlt
      · rw [k3 _ x hx] at hlt; exact hlt
    rw [List.getElem?_append] at hx
    split at hx
    · rename_i hi
      have : (i + 1) * s ≤ xs.length * s := Nat.mul_le_mul_right s hi
      rw [Nat.add_mul, Nat.one_mul] at this
      rw [Array.getElem?_append_left (by omega)] at hu
      exact h4 i x j y u hx hy hu
    · rename_i hi
      have e1 : i * s = xs.length * s + (i - xs.length) * s := by rw [← Nat.add_mul]; congr 1; omega
      rw [Array.getElem?_append_right (by omega)] at hu
      rw [show i * s + j - c.size = (i - xs.length) * s + j by omega] at hu
      exact k4 _ x j y u hx hy hu

theorem RowE.toC {w : World} {Z : Nat → Nat → Prop} {s : Nat} {xs : List V} {c d : Array Value} (h : RowE w Z s xs c) (hs : 0 < s) (hd : ∀ (j : Nat) (u : Value), d[j]? = some u → u.oneCell = true) : RowC w Z s xs (c ++ d) := by
  obtain ⟨h1, h2, h3, h4⟩ := h
  refine ⟨hs, by simp [h1], ?_, h3, ?_⟩
  · intro j u hu
    rw [Array.getElem?_append] at hu
    split at hu
    · exact h2 _ u hu
    · exact hd _ u hu
  · intro i x j y u hx hy hu
    have hi := (List.getElem?_eq_some_iff.1 hx).1
    have hj : j < s := by rw [← h3 i x hx]; exact (List.getElem?_eq_some_iff.1 hy).1
    have : (i + 1) * s ≤ xs.length * s := Nat.mul_le_mul_right s hi
    rw [Nat.add_mul, Nat.one_mul] at this
    rw [Array.getElem?_append_left (by omega)] at hu
    exact h4 i x j y u hx hy hu

theorem cell_heap {w w' : World} (h : w'.heap = w.heap) (a : Addr) : w'.cell? a = w.cell? a := by simp [World.cell?, h]

/-- The elements of a slice, out of memory. -/
theorem flat_VP {Γ : Cx} {v : V} {u : Value} (hf : flat1 v = true) (h : VR Γ v u) : VP Γ.w Γ.Z v u := by
  cases h with
  | pure h => exact h
  | _ => cases hf
theorem src_cells (H : HOk Γ) {x : V} {u : Value} {s sz : Nat} {ys : List V} (hv : VR Γ x u) (h : elems Γ.h x = some (s, ys)) (hsz : s = sz ∨ ys = []) :
    ∃ a cap, u = .slice a ys.length cap ∧ ∃ arr, (∀ w' : World, w'.heap = Γ.w.heap → (Builtin.firstCells sz ys.length u).run P w' = .ok arr w') ∧ RowE Γ.w Γ.Z sz ys arr := by
  by_cases hne : ys = []
  · subst hne
    obtain ⟨a, cap, hu⟩ : ∃ a cap, u = .slice a 0 cap := by
      unfold elems at h
      split at h
      · simp only [Option.some.injEq, Prod.mk.injEq] at h
        obtain ⟨rfl, rfl⟩ := h
        cases hv.sl_inv; exact ⟨_, _, rfl⟩
      · split at h
        · rename_i fz s' xs hid
          simp only [Option.some.injEq, Prod.mk.injEq] at h
          obtain ⟨rfl, rfl⟩ := h
          obtain ⟨a, cap, hu, _⟩ := hv.ref_inv.2.2 _ _ _ hid
          exact ⟨a, cap, hu⟩
        · cases h
      · rename_i id off len
        split at h
        · rename_i fz s' xs hid
          simp only [Option.some.injEq, Prod.mk.injEq] at h
          obtain ⟨rfl, he⟩ := h
          obtain ⟨hle, a, cap, hu, _⟩ := hv.sub_inv.2.2 _ _ _ hid
          have : len = 0 := by
            have := congrArg List.length he
            simp at this; omega
          subst this
          exact ⟨a, cap, hu⟩
        · cases h
      · rename_i id off len
        split at h
        · rename_i cs hid
          rw [guardP_some] at h
          obtain ⟨_, h⟩ := h
          simp only [Option.some.injEq, Prod.mk.injEq] at h
          obtain ⟨_, he⟩ := h
          obtain ⟨b0, cap, hu, hle, _, hc⟩ := hv.vsl_inv
          have hl := (hc _ hid).1
          have : len = 0 := by
            have := congrArg List.length he
            simp at this; omega
          subst this
          exact ⟨_, cap, hu⟩
        · cases h
      · cases h
    refine ⟨a, cap, hu, #[], fun w' hw' => ?_, RowE.nil _ _ _⟩
    subst hu
    cases a <;> simp [Builtin.firstCells, loadCells, loadCellsFrom]
  · have hs : s = sz := hsz.resolve_right hne
    subst hs
    have hpos : 0 < ys.length := List.length_pos_iff.2 hne
    -- where the cells lie
    obtain ⟨b0, o0, cap, hu, hcells⟩ : ∃ b0 o0 cap, u = .slice (some ⟨b0, o0, none⟩) ys.length cap ∧ ∀ (i : Nat) (x : V), ys[i]? = some x → x.cells.length = s ∧ ∀ (j : Nat) (c : V), x.cells[j]? = some c →
        ∃ u' : Value, Γ.w.cell? ⟨b0, o0 + i * s + j, none⟩ = some u' ∧ u'.oneCell = true ∧ VP Γ.w Γ.Z c u' := by
      unfold elems at h
      split at h
      · rename_i nl cl s' xs
        simp only [Option.some.injEq, Prod.mk.injEq] at h
        obtain ⟨rfl, rfl⟩ := h
        have hp := hv.sl_inv
        obtain ⟨b0, o0, cap, hu, _⟩ := VP_row_elem hp (i := 0) (List.getElem?_eq_getElem hpos)
        refine ⟨b0, o0, cap, hu, fun i x hx => ?_⟩
        obtain ⟨b1, o1, cap1, hu1, hl, hc⟩ := VP_row_elem hp hx
        rw [hu] at hu1; cases hu1
        exact ⟨hl, fun j c hj => (hc j c hj).2⟩
      · split at h
        · rename_i fz s' xs hid
          simp only [Option.some.injEq, Prod.mk.injEq] at h
          obtain ⟨rfl, rfl⟩ := h
          obtain ⟨a, cap, hu, hle, _, hc⟩ := hv.ref_inv.2.2 _ _ _ hid
          obtain ⟨b0, base, c, E, z, hρ, ha, _, _⟩ := hc (by omega)
          subst ha
          refine ⟨b0, base, cap, by simpa using hu, fun i x hx => row_cells H hid hρ hx⟩
        · cases h
      · rename_i id off len
        split at h
        · rename_i fz s' xs hid
          simp only [Option.some.injEq, Prod.mk.injEq] at h
          obtain ⟨rfl, rfl⟩ := h
          obtain ⟨hle2, a, cap, hu, hle, _, hc⟩ := hv.sub_inv.2.2 _ _ _ hid
          have hlen : ((xs.drop off).take len).length = len := by simp; omega
          obtain ⟨b0, base, c, E, z, hρ, ha, _, _⟩ := hc (by omega)
          subst ha
          refine ⟨b0, base + off * s', cap, by rw [hlen]; exact hu, fun i x hx => ?_⟩
          have hi : i < len := by have := (List.getElem?_eq_some_iff.1 hx).1; omega
          rw [List.getElem?_take_of_lt hi, List.getElem?_drop] at hx
          obtain ⟨h1, h2⟩ := row_cells H hid hρ hx
          refine ⟨h1, fun j c hj => ?_⟩
          rw [show base + off * s' + i * s' + j = base + (off + i) * s' + j by rw [Nat.add_mul]; omega]
          exact h2 j c hj
        · cases h
      · rename_i id off len
        split at h
        · rename_i cs hid
          rw [guardP_some] at h
          obtain ⟨hall, h⟩ := h
          simp only [Option.some.injEq, Prod.mk.injEq] at h
          obtain ⟨rfl, rfl⟩ := h
          obtain ⟨b0, cap, hu, hle, _, hc⟩ := hv.vsl_inv
          obtain ⟨hl, hρ⟩ := hc _ hid
          have hlen : ((cs.drop off).take len).length = len := by simp; omega
          obtain ⟨b1, c, E, z, hρ', hb1, _, hsz, h1c, hvc⟩ := H.var _ _ hid
          rw [hρ] at hρ'
          cases hρ'
          refine ⟨b0, off, cap, by rw [hlen]; exact hu, fun i x hx => ?_⟩
          have hf := List.all_eq_true.1 hall x (List.mem_of_getElem? hx)
          have hi : i < len := by have := (List.getElem?_eq_some_iff.1 hx).1; omega
          rw [List.getElem?_take_of_lt hi, List.getElem?_drop] at hx
          have hcl : x.cells = [x] := by
            cases x <;> first | rfl | cases hf
          refine ⟨by rw [hcl]; rfl, fun j y hj => ?_⟩
          rw [hcl] at hj
          have hj0 : j = 0 := by
            have := (List.getElem?_eq_some_iff.1 hj).1
            simp at this; exact this
          subst hj0
          cases hj
          have hlt : off + i < c.size := by omega
          refine ⟨c[off + i], ?_, h1c (off + i) _ (Array.getElem?_eq_getElem hlt), ?_⟩
          · simp [World.cell?, hb1, Nat.mul_one, hlt]
          · have hvr := hvc (off + i) x c[off + i] hx (Array.getElem?_eq_getElem hlt)
            exact flat_VP hf hvr
        · cases h
      · cases h
    have hs0 : 0 < s ∨ s = 0 := by omega
    have hall : ∀ k, k < ys.length * s → ∃ u', Γ.w.cell? ⟨b0, o0 + k, none⟩ = some u' := by
      intro k hk
      have h0 : 0 < s := by
        rcases hs0 with h | h
        · exact h
        · subst h; simp at hk
      have hi : k / s < ys.length := Nat.div_lt_of_lt_mul (by rw [Nat.mul_comm]; exact hk)
      obtain ⟨hl, hc⟩ := hcells (k / s) ys[k / s] (List.getElem?_eq_getElem hi)
      have hj : k % s < (ys[k / s]).cells.length := by rw [hl]; exact Nat.mod_lt _ h0
      obtain ⟨u', hu', _⟩ := hc (k % s) _ (List.getElem?_eq_getElem hj)
      refine ⟨u', ?_⟩
      rw [← hu']
      have := Nat.div_add_mod k s
      rw [Nat.mul_comm] at this
      congr 2; omega
    obtain ⟨arr, hrun, hsize, hget⟩ := run_loadCells_cells P (w := Γ.w) hall
    refine ⟨_, cap, hu, arr, fun w' hw' => ?_, hsize, ?_, fun i x hx => (hcells i x hx).1, ?_⟩
    · obtain ⟨arr', hrun', hsize', hget'⟩ := run_loadCells_cells P (w := w') (b := b0) (o := o0) (m := ys.length * s) (fun k hk => by rw [cell_heap hw']; exact hall k hk)
      have : arr' = arr := by
        apply Array.ext_getElem?
        intro k
        by_cases hk : k < ys.length * s
        · rw [hget k hk, hget' k hk, cell_heap hw']
        · rw [Array.getElem?_eq_none (by omega), Array.getElem?_eq_none (by omega)]
      subst hu
      simp [Builtin.firstCells, hrun', this]
    · intro k u' hu'
      have hk : k < ys.length * s := by rw [← hsize]; exact (Array.getElem?_eq_some_iff.1 hu').1
      have h0 : 0 < s := by
        rcases hs0 with h | h
        · exact h
        · subst h; simp at hk
      rw [hget k hk] at hu'
      have hi : k / s < ys.length := Nat.div_lt_of_lt_mul (by rw [Nat.mul_comm]; exact hk)
      obtain ⟨hl, hc⟩ := hcells (k / s) ys[k / s] (List.getElem?_eq_getElem hi)
      have hj : k % s < (ys[k / s]).cells.length := by rw [hl]; exact Nat.mod_lt _ h0
      obtain ⟨u2, hu2, h1, _⟩ := hc (k % s) _ (List.getElem?_eq_getElem hj)
      have := Nat.div_add_mod k s
      rw [Nat.mul_comm] at this
      rw [show o0 + k / s * s + k % s = o0 + k by omega, hu'] at hu2
      cases hu2; exact h1
    · intro i x j y u' hx hy hu'
      obtain ⟨hl, hc⟩ := hcells i x hx
      have hi := (List.getElem?_eq_some_iff.1 hx).1
      have hj : j < s := by rw [← hl]; exact (List.getElem?_eq_some_iff.1 hy).1
      have : (i + 1) * s ≤ ys.length * s := Nat.mul_le_mul_right s hi
      rw [Nat.add_mul, Nat.one_mul] at this
      rw [hget _ (by omega)] at hu'
      obtain ⟨u2, hu2, _, hv2⟩ := hc j y hy
      rw [Nat.add_assoc, hu'] at hu2
      cases hu2; exact hv2

theorem growBy_le (newLen : Nat) : ∀ (r c : Nat), 256 ≤ c → c ≤ 2 * newLen → Builtin.growBy newLen r c ≤ 2 * newLen := by
  intro r
  induction r with
  | zero => intro c _ h; exact h
  | succ r ih =>
    intro c h1 h2
    rw [Builtin.growBy]
    split
    · exact h2
    · exact ih _ (by omega) (by omega)
theorem next_le {need cap : Nat} (h : cap < need) : Builtin.nextslicecap need cap ≤ 2 * need := by
  unfold Builtin.nextslicecap
  split
  · omega
  · split
    · omega
    · exact growBy_le _ _ _ (by omega) (by omega)

theorem zeroCells_one {zero : Array Value} (hz : ∀ (i : Nat) (u : Value), zero[i]? = some u → u.oneCell = true) (n j : Nat) (u : Value) (h : (Builtin.zeroCells zero n)[j]? = some u) : u.oneCell = true := by
  unfold Builtin.zeroCells at h
  rw [Array.getElem?_map, Option.map_eq_some_iff] at h
  obtain ⟨k, hk, rfl⟩ := h
  rw [Array.getElem?_range] at hk
  split at hk
  · rename_i hlt
    cases hk
    have hpos : 0 < zero.size := by
      rcases Nat.eq_zero_or_pos zero.size with h0 | h0
      · rw [h0] at hlt; simp at hlt
      · exact h0
    have hmod : j % zero.size < zero.size := Nat.mod_lt _ hpos
    rw [getElem!_pos zero _ hmod]
    exact hz _ _ (Array.getElem?_eq_getElem hmod)
  · cases hk
theorem zeroCells_size (zero : Array Value) (n : Nat) : (Builtin.zeroCells zero n).size = n * zero.size := by simp [Builtin.zeroCells]

/-- An append, as the model makes it. -/
theorem run_append {tys : Array TypeId} {t ut el ty : TypeId} {d : TypeDesc} (hty : tys = #[t, ut]) (ht : P.underlying t = some (.slice el)) (hu : P.underlying ut = some d) (hd : ∀ k, d ≠ .int k)
    (hsz : 0 < tsize P el) (hby : tbytes P el ≤ 64) {zv : Value} {i : TypeInfo} (hi : P.info? el = some i) (hz : i.zero = some zv) {base : Option Addr} {sLen sCap n : Nat} {x : Value} {w : World} {old new : Array Value}
    (hn : (Builtin.lenOf x).run P w = .ok n w) (hnew : ∀ w' : World, w'.heap = w.heap → (Builtin.firstCells (tsize P el) n x).run P w' = .ok new w')
    (hold : ∀ w' : World, w'.heap = w.heap → (Builtin.firstCells (tsize P el) sLen (.slice base sLen sCap)).run P w' = .ok old w') (hb : sLen + n ≤ maxLen') :
    (Builtin.append_ tys ty #[.slice base sLen sCap, x]).run P w =
      if sLen + n ≤ sCap then (match base with | some a => (storeCells (a.add (sLen * tsize P el)) new.toList).run P w | none => .ok () w).andThen fun _ w' => .ok (.slice base (sLen + n) sCap) w'
      else .ok (.slice (some ⟨w.heap.size, 0, none⟩) (sLen + n) (grownCap w (sLen + n) sCap el)) (w.drew.alloc (.cells (old ++ new ++ Builtin.zeroCells zv.cells (grownCap w (sLen + n) sCap el - (sLen + n))) el)) := by
  subst hty
  have hti : ∀ w' : World, (typeInfo el).run P w' = .ok i w' := fun w' => run_typeInfo w' hi
  have hby' : i.bytes ≤ 64 := by simpa [tbytes, hi] using hby
  have hzv : ∀ w' : World, (zeroValue el).run P w' = .ok zv w' := fun w' => by simp [zeroValue, hti, hz]
  by_cases hle : sLen + n ≤ sCap
  · rw [if_pos hle]
    have hnw := hnew w rfl
    cases d <;> first
      | exact absurd rfl (hd _)
      | (unfold Builtin.append_
         simp only [List.getElem?_toArray, List.getElem?_cons_zero, List.getElem?_cons_succ, Sem.run_bind, run_underlying ht, run_underlying hu, Result.andThen_ok, run_size' hsz, Sem.run_pure, Bool.false_eq_true, if_false, hn, Bool.not_false, if_true, hle, hnw]
         cases base
         · rfl
         · rw [Sem.run_bind]; rfl)
  · rw [if_neg hle]
    have hcap : sCap < sLen + n := by omega
    have hnx := next_le hcap
    have h1 : ¬ (IntKind.i64.max < ((sLen : Int) + (n : Int))) := by
      unfold maxLen' at hb
      simp only [IntKind.max, IntKind.signed, IntKind.bits, if_true]
      omega
    have h2 : ¬ (2 ^ 48 < Builtin.nextslicecap (sLen + n) sCap * i.bytes) := by
      have : Builtin.nextslicecap (sLen + n) sCap * i.bytes ≤ (2 * maxLen') * 64 := Nat.mul_le_mul (by omega) hby'
      unfold maxLen' at this
      omega
    have hforced : (Question.appendCap (sLen + n) sCap el).forced = false := rfl
    have hnw := hnew w.drew rfl
    have hod := hold w.drew rfl
    have hask : ∀ (k : Nat) (w' : World), (askRoom k).run P w' = .ok () w' := by
      intro k w'; unfold askRoom; split <;> simp [mark, Sem.run]
    have h1' : ¬ (((sLen + n : Nat) : Int) > IntKind.i64.max ∧ (False ∨ i.bytes = 0)) := by
      intro h; apply h1; have := h.1; push_cast at this; omega
    cases d <;> first
      | exact absurd rfl (hd _)
      | (unfold Builtin.append_
         simp only [List.getElem?_toArray, List.getElem?_cons_zero, List.getElem?_cons_succ, Sem.run_bind, run_underlying ht, run_underlying hu, Result.andThen_ok, run_size' hsz, Sem.run_pure, Bool.false_eq_true, if_false, hn, Bool.not_false, if_true, hle, hti]
         rw [if_neg h1']
         simp only [Sem.run_bind, hti, Result.andThen_ok]
         rw [if_neg h2]
         simp only [Sem.run_bind, run_choose_drew, hforced, Bool.false_eq_true, if_false, hti, hask, hod, hnw, hzv, Result.andThen_ok, newRow, run_newObj_alloc, Sem.run_pure, grownCap]
         rfl)

theorem op_convert (H : HOk Γ) (hb : Fresh Γ.n b) (he : ∀ x, VR Γ (e x) (α x)) {s d : TypeId} {x : Operand} (ho : o.op = .convert s d x) {v : V} {ws : List (Nat × Ob)} (h : opSem P o.op e Γ.h b = some (v, ws)) : OpOk P o α Γ b v ws := by
  rw [ho] at h
  simp only [opSem] at h
  have hx := he x
  split at h
  · rename_i ks kd k n hs hd hex
    cases h
    rw [hex] at hx
    refine ok_quiet H hb (u := .int kd (kd.wrap n)) ?_ (.pure (.int _ _))
    simp [execOp, ho, convert, run_underlying hs, run_underlying hd, hx.int_inv, Conv.intToInt]
  · rename_i t hs hd hex
    cases h
    rw [hex] at hx
    obtain ⟨bs, hu, hbs⟩ := hx.str_inv
    refine ok_quiet H hb (u := α x) ?_ hx
    simp [execOp, ho, convert, run_underlying hs, run_underlying hd, hu]
  · rename_i el t hs hd hex
    split at h
    · rename_i hel
      rw [guardP_some] at h
      obtain ⟨⟨hle, hsz⟩, hh⟩ := h
      cases hh
      rw [hex] at hx
      obtain ⟨bs, hu, hbs⟩ := hx.str_inv
      have hlen : t.length = bs.size := by rw [← hbs, Array.length_toList]; rfl
      obtain ⟨H1, E1⟩ := step_same H Γ.w.drew Γ.n rfl rfl rfl rfl (fun _ h => h)
      obtain ⟨cap, hcap⟩ : ∃ cap, cap = grownCap Γ.w bs.size 0 el := ⟨_, rfl⟩
      have hcap' : bs.size ≤ cap := by rw [hcap]; simp [grownCap, Question.cut]
      obtain ⟨c, hc⟩ : ∃ c : Array Value, c = (bs.data.map fun b => Value.int .u8 b.toNat) ++ Array.replicate (cap - bs.size) (.int .u8 0) := ⟨_, rfl⟩
      have hcs : c.size = cap := by
        rw [hc]; simp only [Array.size_append, Array.size_map, Array.size_replicate]
        have : bs.data.size = bs.size := rfl
        omega
      have hget : ∀ (i : Nat) (x : UInt8), t[i]? = some x → c[i]? = some (Value.int .u8 x.toNat) := by
        intro i x hx
        rw [← hbs, Array.getElem?_toList] at hx
        have hi := (Array.getElem?_eq_some_iff.1 hx).1
        rw [hc, Array.getElem?_append_left (by simpa using hi)]
        simp [hx]
      have hrow : RowC Γ.w.drew Γ.Z 1 (t.map fun c => V.int .u8 c.toNat) c := by
        refine ⟨by omega, by simp; omega, ?_, ?_, ?_⟩
        · intro j u hu
          rw [hc, Array.getElem?_append] at hu
          split at hu
          · simp only [Array.getElem?_map, Option.map_eq_some_iff] at hu
            obtain ⟨_, _, rfl⟩ := hu; rfl
          · have := Array.mem_of_getElem? hu
            simp at this
            rw [this.2]; rfl
        · intro i x hx
          simp only [List.getElem?_map, Option.map_eq_some_iff] at hx
          obtain ⟨_, _, rfl⟩ := hx; rfl
        · intro i x j y u hx hy hu
          simp only [List.getElem?_map, Option.map_eq_some_iff] at hx
          obtain ⟨x0, hx0, rfl⟩ := hx
          cases j with
          | zero =>
            simp [V.cells] at hy
            subst hy
            rw [Nat.mul_one, Nat.add_zero, hget i x0 hx0] at hu
            cases hu; exact .int _ _
          | succ j => simp [V.cells] at hy
      obtain ⟨Δ, hw, hh, hn, hok, hev, hvr⟩ := new_row (b := b) H1 hb false hrow el (c.size, c.size + 1) (fun o h1 h2 => by simp only at h2; omega) (cap := cap) (by simp; omega) (by omega)
      refine ⟨_, Δ, .inl ?_, hh, hn, hok, E1.trans hev, hvr⟩
      rw [hw]
      have hrun := Lib.run_convert_string_bytes (P := P) Γ.w s d el bs hs hd hel
      rw [bytesWorld_eq, ← hcap] at hrun
      have hcc : Lib.bytesCells Γ.w el bs = c := by rw [hc, Lib.bytesCells, ← hcap]
      rw [hcc] at hrun
      simp [execOp, ho, hu, hrun, hlen]
    · cases h
  · rename_i el v' hs hd
    split at h
    · rename_i hel
      simp only [Option.bind_eq_some_iff] at h
      obtain ⟨⟨s', ys⟩, hel', h⟩ := h
      rw [guardP_some] at h
      obtain ⟨⟨hsz, hall⟩, hh⟩ := h
      cases hh
      obtain ⟨a, cap, hu, arr, hrun, hrow⟩ := src_cells (P := P) (sz := 1) H hx hel' (by rcases hsz with h | h; exact .inl h; exact .inr (by simpa using h))
      refine ok_quiet H hb (u := .string ⟨(ys.map byteOf).toArray⟩) ?_ (.pure (by simpa using VP.str ⟨(ys.map byteOf).toArray⟩))
      have hb : (Conv.bytesToString (.slice a ys.length cap)).run P Γ.w = .ok (.string ⟨(ys.map byteOf).toArray⟩) Γ.w := by
        obtain ⟨g1, g2, g3, g4⟩ := hrow
        have hb : ∀ x ∈ ys, ∃ n, x = V.int .u8 n := by
          intro x hm
          have := List.all_eq_true.1 hall x hm
          unfold isByte at this
          split at this
          · exact ⟨_, rfl⟩
          · cases this
        have harr : arr = ((ys.map fun x => match x with | .int _ n => n | _ => 0).map (Value.int .u8)).toArray := by
          apply Array.ext_getElem?
          intro i
          rcases Nat.lt_or_ge i ys.length with hi | hi
          · obtain ⟨n, hn⟩ := hb ys[i] (List.getElem_mem hi)
            have hai : i < arr.size := by omega
            have := g4 i _ 0 (V.int .u8 n) arr[i] (List.getElem?_eq_getElem hi) (by rw [hn]; rfl) (by rw [Nat.mul_one, Nat.add_zero]; exact Array.getElem?_eq_getElem hai)
            rw [Array.getElem?_eq_getElem hai]
            generalize arr[i] = u at this
            cases this
            simp [List.getElem?_eq_getElem hi, hn]
          · rw [Array.getElem?_eq_none (by omega)]
            simp [List.getElem?_eq_none hi]
        have hpush : ∀ (l : List V) (s : ByteArray), (∀ x ∈ l, ∃ n, x = V.int .u8 n) → (l.map fun x => match x with | .int _ n => n | _ => 0).foldl (fun r n => r.push (UInt8.ofNat n.toNat)) s = ⟨s.data ++ (l.map byteOf).toArray⟩ := by
          intro l
          induction l with
          | nil => intro s _; simp
          | cons x r ih =>
            intro s hl
            obtain ⟨n, rfl⟩ := hl x (List.mem_cons_self ..)
            rw [List.map_cons, List.foldl_cons, ih _ fun y hy => hl y (List.mem_cons_of_mem _ hy)]
            simp [ByteArray.push, byteOf]
        cases a with
        | none =>
          have h0 : ys = [] := by
            have := hrun Γ.w rfl
            rw [hu] at hx
            cases ys with
            | nil => rfl
            | cons y r =>
              rw [hu] at this
              simp [Builtin.firstCells] at this
              rw [this] at g1
              simp at g1
          subst h0
          simp [Conv.bytesToString, ByteArray.empty, ByteArray.emptyWithCapacity]
          rfl
        | some a =>
          have hload := hrun Γ.w rfl
          rw [hu] at hload
          simp only [Builtin.firstCells, Nat.mul_one] at hload
          rw [harr] at hload
          rw [run_bytesToString (P := P) Γ.w a ys.length cap _ hload, hpush ys _ hb]
          have e : ByteArray.empty.data ++ (ys.map byteOf).toArray = (ys.map byteOf).toArray := by
            show #[] ++ (ys.map byteOf).toArray = _
            simp
          rw [e]
      simp [execOp, ho, hu, convert, run_underlying hs, run_underlying hd, run_underlying hel, hb]
    · cases h
  · cases h

end Go.Sym
