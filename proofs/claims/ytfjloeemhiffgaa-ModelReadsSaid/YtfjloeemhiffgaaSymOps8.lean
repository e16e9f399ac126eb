/- DERIVED. The operations, eighth part: slices that are made and written out; all operations together. -/
import Derived.Test.YtfjloeemhiffgaaSymOps7
import Derived.Lib.AppendZeros
set_option linter.unusedVariables false
set_option linter.unusedSimpArgs false
namespace Go.Sym
variable {P : Program} {o : Oper} {α : Operand → Value} {e : Operand → V} {Γ : Cx} {b : Nat}

theorem rid1_leaf (u : Value) : rid1 (leafOf u) = [] := by unfold leafOf; split <;> rfl
theorem rid_const (u : Value) : rid (ofValue u) = [] := by
  have hl : ∀ l : List Value, (l.map leafOf).flatMap rid1 = [] := by
    intro l
    induction l with
    | nil => rfl
    | cons a r ih => simp only [List.map_cons, List.flatMap_cons, rid1_leaf, ih, List.append_nil]
  cases u with
  | agg cs =>
    by_cases h : cs.toList.all Value.oneCell = true
    · have e : ofValue (.agg cs) = .agg (cs.toList.map leafOf) := by unfold ofValue; exact if_pos h
      rw [e]; exact hl _
    · have e : ofValue (.agg cs) = .junk := by unfold ofValue; exact if_neg h
      rw [e]; rfl
  | _ =>
    have hh : ∀ v, rid (leafOf v) = [] := by intro v; unfold leafOf; split <;> rfl
    unfold ofValue; exact hh _

theorem Zof_nil {b' o' : Nat} : Zof Γ [] b' o' ↔ Γ.Z b' o' := by simp [Zof]

theorem zero_row (w : World) {zv : Value} {z : V} (H : HOk Γ) (hp : purify Γ.h (ofValue zv) = some z) {s : Nat} (hs : z.cells.length = s) (h0 : 0 < s) (n c : Nat) (hnc : n ≤ c) :
    RowC Γ.w Γ.Z s (List.replicate n z) ((Array.range (c * s)).map (fun k => zv.cells[k % zv.cells.size]!)) := by
  have hvp : VP Γ.w Γ.Z z zv := by
    have := purify_sound H (VR_const Γ zv) hp
    rw [rid_const] at this
    exact this.zmono fun b o h => Zof_nil.1 h
  obtain ⟨hl, h1, hv⟩ := hvp.cells
  have hzs : zv.cells.size = s := by omega
  have hget : ∀ k, k < c * s → ((Array.range (c * s)).map (fun k => zv.cells[k % zv.cells.size]!))[k]? = zv.cells[k % s]? := by
    intro k hk
    rw [Array.getElem?_map, Array.getElem?_range, if_pos hk]
    have hm : k % zv.cells.size < zv.cells.size := Nat.mod_lt _ (by omega)
    simp only [Option.map_some]
    rw [getElem!_pos zv.cells _ hm]
    rw [← hzs]
    exact (Array.getElem?_eq_getElem hm).symm
  refine ⟨h0, ?_, ?_, ?_, ?_⟩
  · simp; exact Nat.mul_le_mul_right s hnc
  · intro j u hu
    have hj : j < c * s := by have := (Array.getElem?_eq_some_iff.1 hu).1; simpa using this
    rw [hget j hj] at hu
    exact h1 _ u hu
  · intro i x hx
    have := List.eq_of_mem_replicate (List.mem_of_getElem? hx)
    subst this; exact hs
  · intro i x j y u hx hy hu
    have hi : i < n := by have := (List.getElem?_eq_some_iff.1 hx).1; simpa using this
    have := List.eq_of_mem_replicate (List.mem_of_getElem? hx)
    subst this
    have hj : j < s := by rw [← hs]; exact (List.getElem?_eq_some_iff.1 hy).1
    have : (i + 1) * s ≤ c * s := Nat.mul_le_mul_right s (by omega)
    rw [Nat.add_mul, Nat.one_mul] at this
    rw [hget _ (by omega)] at hu
    have hmod : (i * s + j) % s = j := by rw [Nat.add_comm, Nat.add_mul_mod_self_right]; exact Nat.mod_eq_of_lt hj
    rw [hmod] at hu
    exact hv j y u hy hu

theorem wrap64_id {n : Int} (h0 : 0 ≤ n) (h : n ≤ (maxLen' : Int)) : IntKind.i64.wrap n = n := by
  have h' : n ≤ 1099511627776 := h
  have e : n % (2 : Int) ^ 64 = n := Int.emod_eq_of_lt h0 (by omega)
  simp only [IntKind.wrap, IntKind.signed, IntKind.bits, Bool.true_and, decide_eq_true_eq, e]
  rw [if_neg (by omega)]

theorem op_makeSlice (H : HOk Γ) (hb : Fresh Γ.n b) (he : ∀ x, VR Γ (e x) (α x)) {t : TypeId} {ln cp : Operand} (ho : o.op = .makeSlice t ln cp) {v : V} {ws : List (Nat × Ob)} (h : opSem P o.op e Γ.h b = some (v, ws)) : OpOk P o α Γ b v ws := by
  rw [ho] at h
  simp only [opSem, Option.bind_eq_some_iff] at h
  obtain ⟨el, hel, z, hz, h⟩ := h
  have hun := telem_inv hel
  obtain ⟨i, zv, hi, hzv, rfl, _⟩ := tzero_inv (w := Γ.w) hz
  have h1 := he ln
  have h2 := he cp
  split at h
  · rename_i k1 n k2 c hln hcp
    simp only [guardP_some, Option.map_eq_some_iff] at h
    obtain ⟨⟨hsz, hby, hzl, hn0, hnc, hcm⟩, z', hp, hh⟩ := h
    cases hh
    rw [hln] at h1
    rw [hcp] at h2
    have hz'l : z'.cells.length = tsize P el := by
      have hvp := purify_sound H (VR_const Γ zv) hp
      have e1 := hvp.cells.1
      have e2 : (ofValue zv).cells.length = zv.cells.size := by
        have hsol : solid (ofValue zv) = true := by
          cases hv : ofValue zv <;> simp_all [purify, pure1, solid]
        exact ((VR_const Γ zv).cells hsol).1
      omega
    have hrow := zero_row Γ.w H hp hz'l hsz n.toNat c.toNat (by omega)
    obtain ⟨Δ, hw, hh, hn', hok, hev, hvr⟩ := new_row (b := b) H hb false hrow el (0, 0) (fun o _ h => by simp only at h; omega) (cap := c.toNat) (by simp; omega) (by simp)
    refine ⟨_, Δ, .inl ?_, hh, hn', hok, hev, hvr⟩
    rw [hw]
    have hti : ∀ w' : World, (typeInfo el).run P w' = .ok i w' := fun w' => run_typeInfo w' hi
    have hby' : i.bytes ≤ 64 := by simpa [tbytes, hi] using hby
    have hzvr : ∀ w' : World, (zeroValue el).run P w' = .ok zv w' := fun w' => by simp [zeroValue, hti, hzv]
    have hask : ∀ (k : Nat) (w' : World), (askRoom k).run P w' = .ok () w' := by
      intro k w'; unfold askRoom; split <;> simp [mark, Sem.run]
    have hwn : IntKind.i64.wrap n = n := wrap64_id hn0 (by omega)
    have hwc : IntKind.i64.wrap c = c := wrap64_id (by omega) hcm
    have htl : ¬ ((c < 0 ∨ (2 : Int) ^ 48 < (i.bytes : Int) * c) ∨ n < 0) := by
      have hc' : c ≤ 1099511627776 := hcm
      have : (i.bytes : Int) * c ≤ 64 * 1099511627776 := Int.mul_le_mul (by omega) hc' (by omega) (by omega)
      omega
    have hrun : (Instr.makeSlice t (.int k1 n) (.int k2 c)).run P Γ.w = .ok (.slice (some ⟨Γ.w.heap.size, 0, none⟩) n.toNat c.toNat) (Γ.w.alloc (.cells ((Array.range (c.toNat * tsize P el)).map (fun k => zv.cells[k % zv.cells.size]!)) el)) := by
      unfold Instr.makeSlice
      simp only [Sem.run_bind, run_underlying hun, Result.andThen_ok, asInt, asIntOf, Sem.run_pure, hti, hwn, hwc]
      rw [if_neg (by simp only [Bool.or_eq_true, decide_eq_true_eq, not_or]; simp only [not_or] at htl; omega)]
      simp only [Sem.run_bind, hask, Result.andThen_ok, run_size' hsz]
      by_cases hc0 : c.toNat * tsize P el = 0
      · rw [if_pos hc0]
        simp only [Sem.run_pure, Result.andThen_ok, newRow, Sem.run_bind, run_newObj_alloc]
        have hr : ∀ f : Nat → Value, (Array.range 0).map f = #[] := fun f => Array.eq_empty_of_size_eq_zero (by simp)
        rw [hc0, hr, hr]
      · rw [if_neg hc0]
        simp only [Sem.run_bind, hzvr, Sem.run_pure, Result.andThen_ok, newRow, run_newObj_alloc]
    simp [execOp, ho, h1.int_inv, h2.int_inv, hrun]
  · cases h

theorem op_zeros (H : HOk Γ) (hb : Fresh Γ.n b) (he : ∀ x, VR Γ (e x) (α x)) {args : Array Operand} {tys : Array TypeId} (ho : o.op = .call { callee := .builtin .append, args := args, argTypes := tys })
    {x y : Operand} (ha : args = #[x, y]) {t ut el : TypeId} (hty : tys = #[t, ut]) {ki : IntKind} (ht : P.underlying t = some (.slice el)) (hu : P.underlying ut = some (.int ki)) {z : V} (hz : tzero P el = some z) (hzsol : solid z = true) (hzlen : z.cells.length = tsize P el)
    {v : V} {ws : List (Nat × Ob)} (h : (match e x, e y with
          | .sl (some true) _ _ [], .int _ n => guardP (0 < n ∧ n ≤ maxLen' ∧ 0 < tsize P el ∧ tbytes P el ≤ 64) ((purify Γ.h z).map fun z => (V.ref b, [(b, Ob.row false (tsize P el) (List.replicate n.toNat z))]))
          | _, _ => none) = some (v, ws)) : OpOk P o α Γ b v ws := by
  split at h
  · rename_i cl s k n hx hy
    simp only [guardP_some, Option.map_eq_some_iff] at h
    obtain ⟨⟨hn0, hnm, hsz, hby⟩, z', hp, hh⟩ := h
    cases hh
    obtain ⟨i, zv, hi, hzv, rfl, hzl⟩ := tzero_inv (w := Γ.w) hz
    have h1 := he x
    have h2 := he y
    rw [hx] at h1
    rw [hy] at h2
    have hp1 := h1.sl_inv
    have hαx : α x = .slice none 0 0 := by
      generalize hα : α x = u0 at hp1
      cases hp1 with
      | sl _ _ _ _ a cap hc hclip hnt hnf hnn hs0 hspot hxl hee hvv =>
        have e2 := hnt rfl
        have e1 := hnn e2
        subst e1 e2
        rfl
    have hz'l : z'.cells.length = tsize P el := by
      have hvp := purify_sound H (VR_const Γ zv) hp
      have e1 := hvp.cells.1
      have e2 : (ofValue zv).cells.length = zv.cells.size := ((VR_const Γ zv).cells hzsol).1
      omega
    obtain ⟨H1, E1⟩ := step_same H Γ.w.drew Γ.n rfl rfl rfl rfl (fun _ h => h)
    obtain ⟨cap, hcap⟩ : ∃ cap, cap = grownCap Γ.w n.toNat 0 el := ⟨_, rfl⟩
    have hcap' : n.toNat ≤ cap := by rw [hcap]; simp [grownCap, Question.cut]
    have hrow := zero_row Γ.w.drew H1 hp hz'l hsz n.toNat cap hcap'
    have hzs : zv.cells.size = tsize P el := by
      have e2 : (ofValue zv).cells.length = zv.cells.size := ((VR_const Γ zv).cells hzsol).1
      omega
    have hcells : Builtin.zeroCells zv.cells n.toNat ++ Builtin.zeroCells zv.cells (cap - n.toNat) = (Array.range (cap * tsize P el)).map (fun k => zv.cells[k % zv.cells.size]!) := by
      have hmul : n.toNat * tsize P el + (cap - n.toNat) * tsize P el = cap * tsize P el := by rw [← Nat.add_mul]; congr 1; omega
      apply Array.ext_getElem?
      intro k
      unfold Builtin.zeroCells
      rw [Array.getElem?_append]
      simp only [Array.size_map, Array.size_range, Array.getElem?_map, Array.getElem?_range, hzs]
      by_cases hk : k < n.toNat * tsize P el
      · rw [if_pos hk, if_pos hk, if_pos (by omega)]
      · rw [if_neg hk]
        by_cases hk2 : k < cap * tsize P el
        · rw [if_pos (by omega), if_pos hk2]
          have : (k - n.toNat * tsize P el) % tsize P el = k % tsize P el := by
            conv => rhs; rw [show k = (k - n.toNat * tsize P el) + n.toNat * tsize P el by omega, Nat.add_mul_mod_self_right]
          simp only [Option.map_some, this]
        · rw [if_neg (by omega), if_neg hk2]
    obtain ⟨Δ, hw, hh, hn', hok, hev, hvr⟩ := new_row (b := b) H1 hb false hrow el (0, 0) (fun o _ h => by simp only at h; omega) (cap := cap) (by simp; omega) (by simp)
    have hnn : (n.toNat : Int) = n := by omega
    have hm : n ≤ 1099511627776 := hnm
    have hnmul : n.toNat * i.bytes ≤ 281474976710656 := by
      have hby' : i.bytes ≤ 64 := by simpa [tbytes, hi] using hby
      have : n.toNat * i.bytes ≤ 1099511627776 * 64 := Nat.mul_le_mul (by omega) hby'
      omega
    have hsz' : 0 < i.size := by simpa [tsize, hi] using hsz
    have hrun := Lib.run_append_nil_zeros (P := P) Γ.w t ut o.type el i zv k ki ht hu hi hzv n.toNat (by omega) hsz' (by omega) hnmul
    rw [hnn, ← hcap, hcells] at hrun
    refine ⟨_, Δ, .inl ?_, hh, hn', hok, E1.trans hev, hvr⟩
    obtain ⟨consts, hexb⟩ := exec_builtin (P := P) (α := α) ho Γ.w
    rw [hexb, hw]
    subst ha hty
    simp [builtin, hαx, h2.int_inv, hrun]
  · cases h

theorem fillS_sound (H : HOk Γ) (he : ∀ x, VR Γ (e x) (α x)) {size : Nat} (h0 : 0 < size) (ids : List Nat) : ∀ (ps : List (Nat × Operand)) {zs xs : List V} {c : Array Value}, (∀ p ∈ ps, ∀ i ∈ rid (e p.2), i ∈ ids) →
    RowE Γ.w (Zof Γ ids) size zs c → fillS Γ.h size zs (ps.map fun p => (p.1, e p.2)) = some xs →
    ∃ c', Instr.fill (fun i => some (i * size, size)) c (ps.map fun p => (p.1, α p.2)) = some c' ∧ RowE Γ.w (Zof Γ ids) size xs c' := by
  intro ps
  induction ps with
  | nil => intro zs xs c _ h hf; simp [fillS] at hf; subst hf; exact ⟨c, rfl, h⟩
  | cons p r ih =>
    intro zs xs c hids h hf
    simp only [List.map_cons, fillS, guardP_some, Option.bind_eq_some_iff] at hf
    obtain ⟨hlt, x, hp, hxl, hf⟩ := hf
    have hvp := (purify_sound H (he p.2) hp).zmono fun b o hz => hz.mono (hids p (by simp))
    obtain ⟨hl, h1, hv⟩ := hvp.cells
    obtain ⟨e1, e2, e3, e4⟩ := h
    have hul : (α p.2).cells.toList.length = size := by rw [Array.length_toList]; omega
    have hb1 : (p.1 + 1) * size ≤ zs.length * size := Nat.mul_le_mul_right _ hlt
    rw [Nat.add_mul, Nat.one_mul] at hb1
    have hwr : ∀ k, (wr c (p.1 * size) (α p.2).cells.toList)[k]? = if p.1 * size ≤ k ∧ k < p.1 * size + size then (α p.2).cells[k - p.1 * size]? else c[k]? := by
      intro k; rw [wr_get _ _ _ _ (by omega), hul]; simp
    have hE : RowE Γ.w (Zof Γ ids) size (zs.set p.1 x) (wr c (p.1 * size) (α p.2).cells.toList) := by
      refine ⟨by rw [wr_size, List.length_set]; exact e1, ?_, ?_, ?_⟩
      · intro j u hu
        rw [hwr] at hu
        split at hu
        · exact h1 _ u hu
        · exact e2 _ u hu
      · intro i y hy
        by_cases hi : p.1 = i
        · subst hi; rw [List.getElem?_set_self hlt] at hy; cases hy; exact hxl
        · rw [List.getElem?_set_ne hi] at hy; exact e3 i y hy
      · intro i y j yc u hy hj hu
        have hjs : j < size := by
          by_cases hi : p.1 = i
          · subst hi; rw [List.getElem?_set_self hlt] at hy; cases hy; rw [← hxl]; exact (List.getElem?_eq_some_iff.1 hj).1
          · rw [List.getElem?_set_ne hi] at hy; rw [← e3 i y hy]; exact (List.getElem?_eq_some_iff.1 hj).1
        rw [hwr] at hu
        by_cases hi : p.1 = i
        · subst hi
          rw [List.getElem?_set_self hlt] at hy; cases hy
          rw [if_pos (by omega), show p.1 * size + j - p.1 * size = j by omega] at hu
          exact hv j yc u hj hu
        · rw [List.getElem?_set_ne hi] at hy
          have : ¬ (p.1 * size ≤ i * size + j ∧ i * size + j < p.1 * size + size) := by
            rcases Nat.lt_or_gt_of_ne hi with hlt' | hgt
            · have : (p.1 + 1) * size ≤ i * size := Nat.mul_le_mul_right _ hlt'
              rw [Nat.add_mul, Nat.one_mul] at this; omega
            · have : (i + 1) * size ≤ p.1 * size := Nat.mul_le_mul_right _ hgt
              rw [Nat.add_mul, Nat.one_mul] at this; omega
          rw [if_neg this] at hu
          exact e4 i y j yc u hy hj hu
    obtain ⟨c', hfi, hE'⟩ := ih (fun q hq => hids q (by simp [hq])) hE hf
    refine ⟨c', ?_, hE'⟩
    simp only [List.map_cons, Instr.fill]
    have hh1 : (α p.2).cells.size = size := by omega
    rw [if_neg (by simp [hh1]; omega)]
    rw [fold_arr]
    exact hfi

theorem op_buildSlice (H : HOk Γ) (hb : Fresh Γ.n b) (he : ∀ x, VR Γ (e x) (α x)) {t : TypeId} {n : Nat} {ps : Array (Nat × Operand)} (ho : o.op = .buildSlice t n ps) {v : V} {ws : List (Nat × Ob)} (h : opSem P o.op e Γ.h b = some (v, ws)) : OpOk P o α Γ b v ws := by
  rw [ho] at h
  simp only [opSem, Option.bind_eq_some_iff, guardP_some, Option.map_eq_some_iff] at h
  obtain ⟨el, hel, z, hz, ⟨hsz, hbig, hzl⟩, z', hp, xs, hf, hh⟩ := h
  cases hh
  have hun := telem_inv hel
  obtain ⟨i, zv, hi, hzv, rfl, _⟩ := tzero_inv (w := Γ.w) hz
  obtain ⟨ids, hids⟩ : ∃ ids, ids = (ps.toList.map fun p => rid (e p.2)).flatten := ⟨_, rfl⟩
  have hz'l : z'.cells.length = tsize P el := by
    have hvp := purify_sound H (VR_const Γ zv) hp
    have e1 := hvp.cells.1
    have e2 : (ofValue zv).cells.length = zv.cells.size := by
      have hsol : solid (ofValue zv) = true := by
        cases hv : ofValue zv <;> simp_all [purify, pure1, solid]
      exact ((VR_const Γ zv).cells hsol).1
    omega
  have hrow := zero_row Γ.w H hp hz'l hsz n n (Nat.le_refl _)
  have hE0 : RowE Γ.w (Zof Γ ids) (tsize P el) (List.replicate n z') ((Array.range (n * tsize P el)).map (fun k => zv.cells[k % zv.cells.size]!)) :=
    ⟨by simp, hrow.2.2.1, hrow.2.2.2.1, fun i x j y u hx hy hu => (hrow.2.2.2.2 i x j y u hx hy hu).zmono fun b o h => .inl h⟩
  obtain ⟨c', hfi, hE⟩ := fillS_sound H he hsz ids ps.toList (fun p hp i hi => by
    rw [hids, List.mem_flatten]
    exact ⟨_, List.mem_map.2 ⟨p, hp, rfl⟩, hi⟩) hE0 hf
  have hlen : xs.length = n := by
    have h1 := hE.1
    have : c'.size = n * tsize P el := by
      have : ∀ (l : List (Nat × Value)) (c c' : Array Value), Instr.fill (fun i => some (i * tsize P el, tsize P el)) c l = some c' → c'.size = c.size := by
        intro l
        induction l with
        | nil => intro c c' h; simp [Instr.fill] at h; subst h; rfl
        | cons p r ih =>
          intro c c' h
          simp only [Instr.fill] at h
          split at h
          · cases h
          · rw [fold_arr] at h
            rw [ih _ _ h, wr_size]
      rw [this _ _ _ hfi]; simp
    rw [this] at h1
    exact (Nat.eq_of_mul_eq_mul_right hsz h1).symm
  obtain ⟨Γf, Hf, Ef, hhf, hwf, hnf, hρf, hzf, hzsf⟩ := step_freezes ids H Γ.h (fun id fz s xs h => ⟨fz, h⟩)
  have hzz : ∀ b' o', Zof Γ ids b' o' → Γf.Z b' o' := by
    intro b' o' hz
    rcases hz with hz | ⟨id', fz', s', xs', base', hm, h1, h2, h3, h4⟩
    · exact hzf _ _ hz
    · exact hzsf id' fz' s' xs' base' b' o' hm h1 h2 h3 h4
  have hEf : RowE Γf.w Γf.Z (tsize P el) xs c' := by
    rw [hwf]
    exact ⟨hE.1, hE.2.1, hE.2.2.1, fun i x j y u hx hy hu => (hE.2.2.2 i x j y u hx hy hu).zmono hzz⟩
  have hC : RowC Γf.w Γf.Z (tsize P el) xs c' := by
    have := hEf.toC (d := #[]) hsz (by simp)
    simpa using this
  obtain ⟨Δ, hw, hh, hn', hok, hev, hvr⟩ := new_row (b := b) Hf (by rw [hnf]; exact hb) false hC el (0, 0) (fun o _ h => by simp only at h; omega) (cap := n) (by omega) (by rw [hE.1, hlen]; exact Nat.le_refl _)
  refine ⟨_, Δ, .inl ?_, ?_, by rw [hn', hnf], hok, Ef.trans hev, hvr⟩
  · rw [hw, hwf]
    have hti : ∀ w' : World, (typeInfo el).run P w' = .ok i w' := fun w' => run_typeInfo w' hi
    have hzvr : ∀ w' : World, (zeroValue el).run P w' = .ok zv w' := fun w' => by simp [zeroValue, hti, hzv]
    have hrun : (Instr.buildSlice t n (ps.map fun p => (p.1, α p.2))).run P Γ.w = .ok (.slice (some ⟨Γ.w.heap.size, 0, none⟩) n n) (Γ.w.alloc (.cells c' el)) := by
      unfold Instr.buildSlice
      simp only [Sem.run_bind, run_underlying hun, Result.andThen_ok, run_size' hsz]
      rw [if_neg (by omega)]
      by_cases hn0 : n * tsize P el = 0
      · have hfi' : Instr.fill (fun i => some (i * tsize P el, tsize P el)) ((Array.range (n * tsize P el)).map fun x => (#[] : Array Value)[x % (#[] : Array Value).size]!) (ps.map fun p => (p.1, α p.2)).toList = some c' := by
          rw [show (ps.map fun p => (p.1, α p.2)).toList = ps.toList.map fun p => (p.1, α p.2) by simp, ← hfi, hn0]
          have hr : ∀ f : Nat → Value, (Array.range 0).map f = #[] := fun f => Array.eq_empty_of_size_eq_zero (by simp)
          rw [hr, hr]
        rw [if_pos hn0]
        simp only [Sem.run_pure, Result.andThen_ok, Sem.run_bind]
        rw [hfi']
        simp only [Sem.run_bind, newRow, run_newObj_alloc, Sem.run_pure, Result.andThen_ok]
      · have hfi' : Instr.fill (fun i => some (i * tsize P el, tsize P el)) ((Array.range (n * tsize P el)).map fun x => zv.cells[x % zv.cells.size]!) (ps.map fun p => (p.1, α p.2)).toList = some c' := by
          rw [show (ps.map fun p => (p.1, α p.2)).toList = ps.toList.map fun p => (p.1, α p.2) by simp]; exact hfi
        rw [if_neg hn0]
        simp only [Sem.run_bind, hzvr, Sem.run_pure, Result.andThen_ok]
        rw [hfi']
        simp only [Sem.run_bind, newRow, run_newObj_alloc, Sem.run_pure, Result.andThen_ok]
    rw [hlen]
    simp [execOp, ho, hrun]
  · rw [hh, hhf, upds_append, ← hids]; rfl

theorem op_clear (H : HOk Γ) (hb : Fresh Γ.n b) (he : ∀ x, VR Γ (e x) (α x)) {args : Array Operand} {tys : Array TypeId} (ho : o.op = .call { callee := .builtin .clear, args := args, argTypes := tys })
    {v : V} {ws : List (Nat × Ob)} (h : opSem P o.op e Γ.h b = some (v, ws)) : OpOk P o α Γ b v ws := by
  rw [ho] at h
  simp only [opSem] at h
  split at h
  · rename_i x t ha hty
    simp only [Option.bind_eq_some_iff] at h
    obtain ⟨el, hel, z, hz, h⟩ := h
    split at h
    · rename_i id off len hx
      split at h
      · rename_i s xs hid
        simp only [guardP_some, Option.map_eq_some_iff] at h
        obtain ⟨⟨hs, hsz, hzl⟩, z', hp, hh⟩ := h
        cases hh
        subst hs
        obtain ⟨i, zv, hi, hzv, rfl, _⟩ := tzero_inv (w := Γ.w) hz
        have hun := telem_inv hel
        have h1 := he x
        rw [hx] at h1
        obtain ⟨_, hidn, hr0⟩ := h1.sub_inv
        obtain ⟨hle, a, cap, hα, hlc, hspot, hca⟩ := hr0 _ _ _ hid
        have hz'l : z'.cells.length = tsize P el := by
          have hvp := purify_sound H (VR_const Γ zv) hp
          have e1 := hvp.cells.1
          have e2 : (ofValue zv).cells.length = zv.cells.size := by
            have hsol : solid (ofValue zv) = true := by
              cases hv : ofValue zv <;> simp_all [purify, pure1, solid]
            exact ((VR_const Γ zv).cells hsol).1
          omega
        have hzs : zv.cells.size = tsize P el := by
          have e2 : (ofValue zv).cells.length = zv.cells.size := by
            have hsol : solid (ofValue zv) = true := by
              cases hv : ofValue zv <;> simp_all [purify, pure1, solid]
            exact ((VR_const Γ zv).cells hsol).1
          omega
        have hrow := zero_row Γ.w H hp hz'l hsz len len (Nat.le_refl _)
        have hti : ∀ w' : World, (typeInfo el).run P w' = .ok i w' := fun w' => run_typeInfo w' hi
        have hzvr : ∀ w' : World, (zeroValue el).run P w' = .ok zv w' := fun w' => by simp [zeroValue, hti, hzv]
        have hexec : ∀ w', (Builtin.clear_ tys o.type #[α x]).run P Γ.w = .ok (.tuple #[]) w' → (execOp α o).run P Γ.w = .ok (.value (.tuple #[])) w' := by
          intro w' hr
          obtain ⟨consts, hexb⟩ := exec_builtin (P := P) (α := α) ho Γ.w
          rw [hexb]
          have ha' : args = #[x] := by apply Array.ext'; simpa using ha
          subst ha'
          simp [builtin, hr]
        have hty' : tys = #[t] := by apply Array.ext'; simpa using hty
        subst hty'
        by_cases hl0 : len = 0
        · subst hl0
          have hrun : (Builtin.clear_ #[t] o.type #[α x]).run P Γ.w = .ok (.tuple #[]) Γ.w := by
            rw [hα]
            unfold Builtin.clear_
            simp only [List.getElem?_toArray, List.getElem?_cons_zero, Sem.run_bind, run_underlying hun, Result.andThen_ok]
            cases a <;> simp
          obtain ⟨H1, E1⟩ := step_same H Γ.w (more Γ.n b) rfl rfl rfl rfl more_of
          refine ⟨.tuple #[], { Γ with n := more Γ.n b }, .inl (hexec _ hrun), ?_, rfl, H1, E1, .tup [] #[] rfl (by simp)⟩
          show Γ.h = upd Γ.h id _
          funext k
          by_cases hk : k = id
          · subst hk; rw [upd_same, hid]; simp
          · rw [upd_other _ _ hk]
        · obtain ⟨b0, base, c, E, zz, hρ, ha0, hbl, hcs⟩ := hca (by omega)
          subst ha0
          rcases H.row id false (tsize P el) xs hid with ⟨hnn, _⟩ | ⟨b1, base1, c1, E1, z1, hr1, hb1, hz1, h0, hsz1, h11, hl1, hv1⟩
          · rw [hρ] at hnn; cases hnn
          rw [hρ] at hr1; cases hr1
          rw [hbl] at hb1; cases hb1
          have hlt := (Array.getElem?_eq_some_iff.1 hbl).1
          obtain ⟨L, hL⟩ : ∃ L, L = (Builtin.zeroCells zv.cells len).toList := ⟨_, rfl⟩
          have hLl : L.length = len * tsize P el := by rw [hL, Array.length_toList, zeroCells_size, hzs]
          have hLg : ∀ k : Nat, L[k]? = ((Array.range (len * tsize P el)).map (fun k => zv.cells[k % zv.cells.size]!))[k]? := by
            intro k; rw [hL, Array.getElem?_toList]; unfold Builtin.zeroCells; rw [hzs]
          have hL1 : ∀ u ∈ L, u.oneCell = true := fun u hu => by
            obtain ⟨k, hk, rfl⟩ := List.getElem_of_mem hu
            exact hrow.2.2.1 k _ ((hLg k).symm.trans (List.getElem?_eq_getElem hk))
          have hol : (off + len) * tsize P el = off * tsize P el + len * tsize P el := Nat.add_mul _ _ _
          have hlx : (off + len) * tsize P el ≤ xs.length * tsize P el := Nat.mul_le_mul_right _ hle
          have hroom : base + off * tsize P el + L.length ≤ c.size := by rw [hLl]; omega
          have hst := run_storeCells P b0 E zz L Γ.w c (base + off * tsize P el) 0 hbl (fun o ho => hz1 o (by omega)) (by omega) hL1
          have hLne : L ≠ [] := fun h => by
            rw [h] at hLl
            have := Nat.mul_pos (Nat.pos_of_ne_zero hl0) hsz
            simp at hLl; omega
          rw [if_neg hLne] at hst
          have hrun : (Builtin.clear_ #[t] o.type #[α x]).run P Γ.w = .ok (.tuple #[]) (setBlk Γ.w b0 (.cells (wr c (base + off * tsize P el) L) E zz)) := by
            rw [hα]
            unfold Builtin.clear_
            simp only [List.getElem?_toArray, List.getElem?_cons_zero, Sem.run_bind, run_underlying hun, Result.andThen_ok]
            obtain ⟨m, rfl⟩ : ∃ m, len = m + 1 := ⟨len - 1, by omega⟩
            simp only [Sem.run_bind, hzvr, Result.andThen_ok, ← hL, hst, Sem.run_pure, Nat.add_zero]
          have hwr : ∀ k : Nat, (wr c (base + off * tsize P el) L)[k]? = if base + off * tsize P el ≤ k ∧ k < base + off * tsize P el + len * tsize P el then L[k - (base + off * tsize P el)]? else c[k]? := by
            intro k
            rw [wr_get _ _ _ _ (by omega), hLl]
          have hZ : ∀ o, ¬ Γ.Z b0 o := by
            intro o ho
            obtain ⟨s', xs', e', _⟩ := (H.z b0 o ho).2 id base (live_row hid) hρ
            rw [hid] at e'; cases e'
          obtain ⟨xs', hxs'⟩ : ∃ xs', xs' = xs.take off ++ (List.replicate len z' ++ xs.drop (off + len)) := ⟨_, rfl⟩
          have hxl : xs'.length = xs.length := by rw [hxs']; simp; omega
          have hget : ∀ k : Nat, xs'[k]? = if k < off then xs[k]? else if k < off + len then some z' else xs[k]? := by
            intro k
            rw [hxs', List.getElem?_append, List.length_take, Nat.min_eq_left (by omega)]
            by_cases g1 : k < off
            · rw [if_pos g1, if_pos g1, List.getElem?_take, if_pos g1]
            · rw [if_neg g1, if_neg g1, List.getElem?_append, List.length_replicate]
              by_cases g2 : k < off + len
              · rw [if_pos (by omega), if_pos g2, List.getElem?_replicate, if_pos (by omega)]
              · rw [if_neg (by omega), if_neg g2, List.getElem?_drop]
                congr 1; omega
          rw [← hxs']
          have EV := evo_write H (live_row hid) hρ hbl (wr_size L c (base + off * tsize P el)) (fun o ho => absurd ho (hZ o)) (.row false (tsize P el) xs') (fun _ e => by cases e) (fun fz s ys e => by cases e; exact ⟨false, xs, hid, hxl.symm⟩) (by simp)
          have hok := ok_write H (live_row hid) hρ hbl (wr_size L c (base + off * tsize P el)) (fun o ho => absurd ho (hZ o)) (.row false (tsize P el) xs') (fun _ e => by cases e) (fun fz s ys e => by cases e; exact ⟨false, xs, hid, hxl.symm, rfl⟩) (by simp) (fun _ e => by cases e) (fun fz s ys e => by
            cases e
            refine .inr ⟨b0, base, wr c (base + off * tsize P el) L, E, zz, hρ, setBlk_same hlt, by rw [wr_size]; exact hz1, hsz, by rw [hxl, wr_size]; exact hsz1, ?_, ?_, ?_⟩
            · intro j u hu
              rw [hwr] at hu
              split at hu
              · exact hL1 _ (List.mem_of_getElem? hu)
              · exact h11 _ u hu
            · intro k x hk
              rw [hget] at hk
              split at hk
              · exact hl1 _ x hk
              · split at hk
                · cases hk; exact hz'l
                · exact hl1 _ x hk
            · intro k x j y u hk hy hu
              rw [hget] at hk
              rw [hwr] at hu
              have hj : j < tsize P el := by
                have hj := (List.getElem?_eq_some_iff.1 hy).1
                split at hk
                · rw [hl1 _ x hk] at hj; exact hj
                · split at hk
                  · cases hk; omega
                  · rw [hl1 _ x hk] at hj; exact hj
              by_cases g1 : k < off
              · rw [if_pos g1] at hk
                have : (k + 1) * tsize P el ≤ off * tsize P el := Nat.mul_le_mul_right _ g1
                rw [Nat.add_mul, Nat.one_mul] at this
                rw [if_neg (by omega)] at hu
                exact (hv1 k x j y u hk hy hu).evo EV.zc
              · rw [if_neg g1] at hk
                have g3 : off * tsize P el ≤ k * tsize P el := Nat.mul_le_mul_right _ (by omega)
                by_cases g2 : k < off + len
                · rw [if_pos g2] at hk
                  cases hk
                  have e1 : k * tsize P el = off * tsize P el + (k - off) * tsize P el := by rw [← Nat.add_mul]; congr 1; omega
                  have e2 : (k - off + 1) * tsize P el ≤ len * tsize P el := Nat.mul_le_mul_right _ (by omega)
                  rw [Nat.add_mul, Nat.one_mul] at e2
                  rw [if_pos (by omega), show base + (k * tsize P el + j) - (base + off * tsize P el) = (k - off) * tsize P el + j by omega, hLg] at hu
                  exact (hrow.2.2.2.2 (k - off) z' j y u (by rw [List.getElem?_replicate, if_pos (by omega)]) hy hu).evo EV.zc
                · rw [if_neg g2] at hk
                  have : (off + len) * tsize P el ≤ k * tsize P el := Nat.mul_le_mul_right _ (by omega)
                  rw [if_neg (by omega)] at hu
                  exact (hv1 k x j y u hk hy hu).evo EV.zc)
          obtain ⟨H2, E2⟩ := step_same hok _ (more Γ.n b) rfl rfl rfl rfl (fun i hi => .inl hi)
          exact ⟨.tuple #[], _, .inl (hexec _ hrun), rfl, rfl, H2, EV.trans E2, .tup [] #[] rfl (by simp)⟩
      · cases h
    · cases h
  · cases h

/-- **All operations that call no function.** -/
theorem op_sound (H : HOk Γ) (hb : Fresh Γ.n b) (he : ∀ x, VR Γ (e x) (α x)) {v : V} {ws : List (Nat × Ob)} (h : opSem P o.op e Γ.h b = some (v, ws)) : OpOk P o α Γ b v ws := by
  cases ho : o.op with
  | move x => exact op_small H hb he (.inl ho) h
  | assign x => exact op_small H hb he (.inr ho) h
  | pick c x y => exact op_pick H hb he ho h
  | alloc t => exact op_alloc H hb ho h
  | box t x => exact op_box H hb he ho h
  | build t ps => exact op_build H hb he ho h
  | buildSlice t n ps => exact op_buildSlice H hb he ho h
  | load t a => exact op_load H hb he ho h
  | store t a x => exact op_store H hb he ho h
  | nilCheck x => exact op_nilCheck H hb he ho h
  | sliceToArrayPointer t x => exact op_arrayPtr H hb he ho h
  | binOp op t x y t' => exact op_bin H hb he ho h
  | unOp op t x => exact op_un H hb he ho h
  | convert s d x => exact op_convert H hb he ho h
  | makeFunc f a c => exact op_makeFunc H hb he ho h
  | makeSlice t n c => exact op_makeSlice H hb he ho h
  | slice t x lo hi mx => exact op_slice H hb he ho h
  | fieldAddr t x f => exact op_fieldAddr H hb he ho h
  | field t x f => exact op_field H hb he ho h
  | indexAddr t x i => exact op_indexAddr H hb he ho h
  | index t x i => exact op_index H hb he ho h
  | extract x i => exact op_extract H hb he ho h
  | call c =>
    obtain ⟨callee, args, tys⟩ := c
    cases callee with
    | builtin bi =>
      cases bi with
      | len => exact op_len H hb he ho h
      | cap => exact op_cap H hb he ho h
      | max => exact op_max H hb he ho h
      | min => exact op_min H hb he ho h
      | clear => exact op_clear H hb he ho h
      | append =>
        rw [ho] at h
        simp only [opSem] at h
        split at h
        · rename_i x y t ut ha hty
          simp only [Option.bind_eq_some_iff, guardP_some] at h
          obtain ⟨el, hel, z, hz, ⟨hzs, hzl⟩, h⟩ := h
          split at h
          · rename_i ki hu
            exact op_zeros H hb he ho (toList_two ha) (toList_two hty) (telem_inv hel) hu hz hzs hzl h
          · rename_i d hnot hu
            have hd : ∀ k, d ≠ .int k := fun k hk => hnot k (by rw [hk])
            split at h
            · rename_i s hy
              rw [guardP_some] at h
              exact append_sound H hb he ho (toList_two ha) (toList_two hty) (telem_inv hel) hu hd hz hzs hzl (.inl ⟨s, hy, h.1, rfl⟩) h.2
            · simp only [Option.bind_eq_some_iff, guardP_some] at h
              obtain ⟨⟨s, ys⟩, hys, hs, h⟩ := h
              exact append_sound H hb he ho (toList_two ha) (toList_two hty) (telem_inv hel) hu hd hz hzs hzl (.inr ⟨s, hys, hs.imp id (fun h => by simpa using h)⟩) h
          · cases h
        · cases h
      | _ => rw [ho] at h; simp [opSem] at h
    | _ => rw [ho] at h; simp [opSem] at h
  | _ => rw [ho] at h; simp [opSem] at h

end Go.Sym
