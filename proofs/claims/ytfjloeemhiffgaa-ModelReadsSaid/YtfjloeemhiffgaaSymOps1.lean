/- DERIVED. The operations that write nothing: what the evaluator answers the model answers. -/
import Derived.Test.YtfjloeemhiffgaaSymVals
import Derived.Laws.StructEq
import Derived.ChangeKeysEq
import Derived.Laws.Small
set_option linter.unusedVariables false
set_option linter.unusedSimpArgs false
namespace Go.Sym

def OpOk (P : Program) (o : Oper) (α : Operand → Value) (Γ : Cx) (b : Nat) (v : V) (ws : List (Nat × Ob)) : Prop :=
  ∃ (u : Value) (Δ : Cx), ((execOp α o).run P Γ.w = .ok (.value u) Δ.w ∨ ((execOp α o).run P Γ.w = .ok .skip Δ.w ∧ u = undef)) ∧ Δ.h = upds Γ.h ws ∧ Δ.n = more Γ.n b ∧ HOk Δ ∧ Evo Γ Δ ∧ VR Δ v u

variable {P : Program} {o : Oper} {α : Operand → Value} {e : Operand → V} {Γ : Cx} {b : Nat}

theorem ok_quiet (H : HOk Γ) (hb : Fresh Γ.n b) {u : Value} {v : V} (hrun : (execOp α o).run P Γ.w = .ok (.value u) Γ.w) (hv : VR Γ v u) : OpOk P o α Γ b v [] := by
  obtain ⟨H1, E1⟩ := step_same H Γ.w (more Γ.n b) rfl rfl rfl rfl more_of
  exact ⟨u, { Γ with n := more Γ.n b }, .inl hrun, rfl, rfl, H1, E1, hv.evo E1⟩

theorem beq_dec (a c : Int) : (a == c) = decide (a = c) := by by_cases h : a = c <;> simp [h]
theorem bne_dec (a c : Int) : (a != c) = !decide (a = c) := by by_cases h : a = c <;> simp [h]
theorem strs_dec (x y : List UInt8) : (x == y) = decide (x = y) := by by_cases h : x = y <;> simp [h]

theorem intBin_sound {op : BinOp} {t : TypeId} {k k' : IntKind} {x y : Int} {v : V} (w : World) (h : intBin op k x k' y = some v) :
    ∃ u, (binOp op t (.int k x) (.int k' y)).run P w = .ok u w ∧ ∀ Γ, VR Γ v u := by
  cases op <;> simp only [intBin, guardP_some, Option.some.injEq] at h
  case shl => obtain ⟨hb, rfl⟩ := h; exact ⟨_, by simp only [binOp, Op.shift]; rw [if_neg (by omega)]; rfl, fun Γ => .pure (.int _ _)⟩
  case shr => obtain ⟨hb, rfl⟩ := h; exact ⟨_, by simp only [binOp, Op.shift]; rw [if_neg (by omega)]; rfl, fun Γ => .pure (.int _ _)⟩
  case quo => obtain ⟨⟨hk, h0⟩, rfl⟩ := h; subst hk; exact ⟨_, by simp [binOp, Op.intDiv, h0] <;> rfl, fun Γ => .pure (.int _ _)⟩
  case rem => obtain ⟨⟨hk, h0⟩, rfl⟩ := h; subst hk; exact ⟨_, by simp [binOp, Op.intDiv, h0] <;> rfl, fun Γ => .pure (.int _ _)⟩
  case eql => obtain ⟨hk, rfl⟩ := h; subst hk; exact ⟨.bool (decide (x = y)), by simp [binOp, Op.intCmp, beq_dec], fun Γ => .pure (.bool _)⟩
  case neq => obtain ⟨hk, rfl⟩ := h; subst hk; exact ⟨.bool (!decide (x = y)), by simp [binOp, Op.intCmp, bne_dec], fun Γ => .pure (.bool _)⟩
  case lss => obtain ⟨hk, rfl⟩ := h; subst hk; exact ⟨.bool (decide (x < y)), by simp [binOp, Op.intCmp], fun Γ => .pure (.bool _)⟩
  case leq => obtain ⟨hk, rfl⟩ := h; subst hk; exact ⟨.bool (decide (x ≤ y)), by simp [binOp, Op.intCmp], fun Γ => .pure (.bool _)⟩
  case gtr => obtain ⟨hk, rfl⟩ := h; subst hk; exact ⟨.bool (decide (y < x)), by simp [binOp, Op.intCmp], fun Γ => .pure (.bool _)⟩
  case geq => obtain ⟨hk, rfl⟩ := h; subst hk; exact ⟨.bool (decide (y ≤ x)), by simp [binOp, Op.intCmp], fun Γ => .pure (.bool _)⟩
  all_goals (obtain ⟨hk, rfl⟩ := h; subst hk; exact ⟨_, by simp [binOp, Op.intArith, Op.intBits] <;> rfl, fun Γ => .pure (.int _ _)⟩)

theorem strBin_sound {op : BinOp} {t : TypeId} {x y : ByteArray} {v : V} (w : World) (h : strBin op x.data.toList y.data.toList = some v) :
    ∃ u, (binOp op t (.string x) (.string y)).run P w = .ok u w ∧ ∀ Γ, VR Γ v u := by
  have ex := ByteArray.toList_eq x
  have ey := ByteArray.toList_eq y
  cases op <;> simp only [strBin, guardP_some, Option.some.injEq, reduceCtorEq] at h
  case add =>
    obtain ⟨hb, rfl⟩ := h
    refine ⟨.string (x ++ y), ?_, fun Γ => .pure ?_⟩
    · simp only [binOp, Op.stringOp]
      rw [if_neg]
      · rfl
      · have h1 : x.size = x.data.toList.length := by rw [Array.length_toList]; rfl
        have h2 : y.size = y.data.toList.length := by rw [Array.length_toList]; rfl
        unfold maxText at hb
        simp only [IntKind.max, IntKind.signed, IntKind.bits, if_true]
        omega
    · have : x.data.toList ++ y.data.toList = (x ++ y).data.toList := by simp
      rw [this]; exact .str _
  case eql => subst h; exact ⟨.bool (decide (x.data.toList = y.data.toList)), by simp only [binOp, Op.stringOp, ex, ey, strs_dec]; rfl, fun Γ => .pure (.bool _)⟩
  case neq => subst h; exact ⟨.bool (!decide (x.data.toList = y.data.toList)), by simp only [binOp, Op.stringOp, ex, ey, strs_dec]; rfl, fun Γ => .pure (.bool _)⟩
  case lss => subst h; exact ⟨.bool (Op.bytesLess x.data.toList y.data.toList), by simp only [binOp, Op.stringOp, ex, ey]; rfl, fun Γ => .pure (.bool _)⟩
  case geq => subst h; exact ⟨.bool (!Op.bytesLess x.data.toList y.data.toList), by simp only [binOp, Op.stringOp, ex, ey]; rfl, fun Γ => .pure (.bool _)⟩

def CellsR (Γ : Cx) (cs : List V) (us : Array Value) : Prop :=
  cs.length = us.size ∧ (∀ (i : Nat) (u : Value), us[i]? = some u → u.oneCell = true) ∧ ∀ (i : Nat) (c : V) (u : Value), cs[i]? = some c → us[i]? = some u → VR Γ c u

theorem sub_cells {Γ : Cx} {cs : List V} {us : Array Value} (h : CellsR Γ cs us) {off n : Nat} (hle : off + n ≤ cs.length) : CellsR Γ ((cs.drop off).take n) (us.extract off (off + n)) := by
  obtain ⟨hl, h1, hv⟩ := h
  have hs : (us.extract off (off + n)).size = n := ext_size _ _ _ (by omega)
  have hg : ∀ i u, (us.extract off (off + n))[i]? = some u → i < n ∧ us[off + i]? = some u := by
    intro i u hu
    rw [ext_get _ _ _ _ (by omega)] at hu
    split at hu
    · exact ⟨by assumption, hu⟩
    · cases hu
  refine ⟨by rw [hs]; simp; omega, fun i u hu => h1 _ u (hg i u hu).2, fun i c u hc hu => ?_⟩
  obtain ⟨hi, hu'⟩ := hg i u hu
  rw [List.getElem?_take_of_lt hi, List.getElem?_drop] at hc
  exact hv _ c u hc hu'

/-- 'part' of cells that are told. -/
theorem readC_part {t : TypeId} {cs : List V} {us : Array Value} {off : Nat} {v : V} (h : CellsR Γ cs us) (hr : readC P t cs off = some v) (w : World) : ∃ u, (part t us off).run P w = .ok u w ∧ VR Γ v u := by
  unfold readC at hr
  split at hr
  · rename_i ht
    obtain ⟨d, hd⟩ := under_of_tagg ht
    rw [guardP_some] at hr
    obtain ⟨hle, hv⟩ := hr
    cases hv
    obtain ⟨h1, h2, h3⟩ := sub_cells h hle
    refine ⟨.agg (us.extract off (off + tsize P t)), ?_, .agg _ _ h1 h2 h3⟩
    simp [part, run_agg ht, run_size hd]
  · rename_i ht
    have hlt := (List.getElem?_eq_some_iff.1 hr).1
    have hu : off < us.size := by rw [← h.1]; exact hlt
    refine ⟨us[off], ?_, h.2.2 off v _ hr (Array.getElem?_eq_getElem hu)⟩
    simp [part, run_agg ht, hu]
  · cases hr

/-- The same, out of memory. -/
theorem readC_load {t : TypeId} {cs : List V} {off b o : Nat} {v : V} {w : World} (hr : readC P t cs off = some v)
    (hm : ∀ (j : Nat) (c : V), cs[j]? = some c → ∃ u, w.cell? ⟨b, o + j, none⟩ = some u ∧ u.oneCell = true ∧ VR Γ c u) :
    ∃ u, (loadVar t ⟨b, o + off, none⟩).run P w = .ok u w ∧ VR Γ v u := by
  unfold readC at hr
  split at hr
  · rename_i ht
    obtain ⟨d, hd⟩ := under_of_tagg ht
    rw [guardP_some] at hr
    obtain ⟨hle, hv⟩ := hr
    cases hv
    -- the cells lie in one block
    by_cases h0 : tsize P t = 0
    · refine ⟨.agg #[], ?_, ?_⟩
      · rw [loadVar, Sem.run_bind, run_agg ht]
        simp [run_size hd, h0, loadCells, loadCellsFrom]
      · rw [h0]; simp only [List.take_zero]
        exact .agg [] #[] rfl (by simp) (by simp)
    · have hblk : ∃ c E z, w.heap[b]? = some (.cells c E z) := by
        obtain ⟨u, hu, _⟩ := hm off cs[off] (List.getElem?_eq_getElem (by omega))
        unfold World.cell? at hu
        split at hu
        · exact ⟨_, _, _, by assumption⟩
        · cases hu
      obtain ⟨c, E, z, hb⟩ := hblk
      have hcell : ∀ j, w.cell? ⟨b, j, none⟩ = c[j]? := fun j => by simp [World.cell?, hb]
      have hsz : o + off + tsize P t ≤ c.size := by
        obtain ⟨u, hu, _⟩ := hm (off + tsize P t - 1) cs[off + tsize P t - 1] (List.getElem?_eq_getElem (by omega))
        rw [hcell] at hu
        have := (Array.getElem?_eq_some_iff.1 hu).1
        omega
      refine ⟨.agg (c.extract (o + off) (o + off + tsize P t)), ?_, ?_⟩
      · rw [loadVar, Sem.run_bind, run_agg ht]
        simp [run_size hd, run_loadCells P hb hsz]
      · have hg : ∀ i u, (c.extract (o + off) (o + off + tsize P t))[i]? = some u → i < tsize P t ∧ c[o + (off + i)]? = some u := by
          intro i u hu
          rw [ext_get _ _ _ _ hsz] at hu
          split at hu
          · exact ⟨by assumption, by rw [← Nat.add_assoc]; exact hu⟩
          · cases hu
        refine .agg _ _ (by rw [ext_size _ _ _ hsz]; simp; omega) ?_ ?_
        · intro i u hu
          obtain ⟨hi, hu'⟩ := hg i u hu
          obtain ⟨u2, hu2, h1, _⟩ := hm (off + i) cs[off + i] (List.getElem?_eq_getElem (by omega))
          rw [hcell, hu'] at hu2; cases hu2; exact h1
        · intro i x u hx hu
          obtain ⟨hi, hu'⟩ := hg i u hu
          rw [List.getElem?_take_of_lt hi, List.getElem?_drop] at hx
          obtain ⟨u2, hu2, _, hv⟩ := hm (off + i) x hx
          rw [hcell, hu'] at hu2; cases hu2; exact hv
  · rename_i ht
    obtain ⟨u, hu, _, hv⟩ := hm off v hr
    refine ⟨u, ?_, hv⟩
    rw [loadVar, Sem.run_bind, run_agg ht]
    simp [hu]
  · cases hr

theorem eqT_sound : ∀ (d D : Nat), d ≤ D → ∀ (t : TypeId) (x y : V) (u v : Value) (r : Bool) (w : World) (Γ : Cx), eqT P d t x y = some r → VR Γ x u → VR Γ y v → (Op.equalIn D t u v).run P w = .ok r w := by
  intro d
  induction d with
  | zero => intro D _ t x y u v r w Γ h; simp [eqT] at h
  | succ d ih =>
    intro D hD t x y u v r w Γ h hx hy
    obtain ⟨D, rfl⟩ : ∃ D', D = D' + 1 := ⟨D - 1, by omega⟩
    simp only [eqT] at h
    split at h
    · rename_i ht
      split at h <;> simp at h
      rw [hx.bool_inv, hy.bool_inv, run_equalIn_bool' w D t _ _ ht]
      subst h; rfl
    · rename_i ht
      split at h
      · rw [guardP_some] at h
        obtain ⟨hk, hr⟩ := h
        simp at hr
        rw [hx.int_inv, hy.int_inv, hk, run_equalIn_int w D t _ _ _ _ ht, beq_dec, hr]
      · cases h
    · rename_i ht
      split at h <;> simp at h
      obtain ⟨bx, rfl, ex⟩ := hx.str_inv
      obtain ⟨by', rfl, ey⟩ := hy.str_inv
      rw [run_equalIn_string w D t _ _ ht, ByteArray.toList_eq, ByteArray.toList_eq, ex, ey, strs_dec, h]
    · rename_i fs ht
      split at h
      · rename_i xs ys
        rw [guardP_some] at h
        obtain ⟨hst, h⟩ := h
        obtain ⟨us, rfl, hxc⟩ := hx.agg_inv
        obtain ⟨vs, rfl, hyc⟩ := hy.agg_inv
        have hf : P.fieldsOf t = fs := by simp [Program.fieldsOf, ht]
        rw [run_equalIn_struct (P := P) w D t us vs (by rw [hf]; exact ht) hst, hf]
        clear ht hst hf
        generalize fs.toList = l at h ⊢
        induction l generalizing r with
        | nil => simp [eqFs] at h; subst h; simp [Op.eqFields]
        | cons f l ihl =>
          simp only [eqFs, guardP_some, Option.bind_eq_some_iff, Option.map_eq_some_iff] at h
          obtain ⟨hn, a, ha, c, hc, t1, ht1, t2, ht2, rfl⟩ := h
          obtain ⟨ua, hua, hva⟩ := readC_part (P := P) hxc ha w
          obtain ⟨uc, huc, hvc⟩ := readC_part (P := P) hyc hc w
          have h1 := ih D (by omega) f.type a c ua uc t1 w Γ ht1 hva hvc
          have h2 := ihl t2 ht2
          rw [Op.eqFields]
          simp only [if_pos hn, Sem.run_bind, hua, huc, h1, Result.andThen_ok]
          cases t1
          · simp
          · simpa using h2
      · cases h
    · rename_i n el ht
      split at h
      · rename_i xs ys
        rw [guardP_some] at h
        obtain ⟨h0, h⟩ := h
        obtain ⟨us, rfl, hxc⟩ := hx.agg_inv
        obtain ⟨vs, rfl, hyc⟩ := hy.agg_inv
        obtain ⟨i, hi⟩ : ∃ i, P.info? el = some i := by
          cases hi : P.info? el with
          | none => simp [tsize, hi] at h0
          | some i => exact ⟨i, rfl⟩
        have hcs : P.cellsOf el = tsize P el := by simp [Program.cellsOf, tsize, hi]
        rw [run_equalIn_array w D us vs ht hi, hcs]
        generalize List.range n = is at h ⊢
        induction is generalizing r with
        | nil => simp [eqAs] at h; subst h; simp [Op.eqItems]
        | cons j is ihl =>
          simp only [eqAs, Option.bind_eq_some_iff, Option.map_eq_some_iff] at h
          obtain ⟨a, ha, c, hc, t1, ht1, t2, ht2, rfl⟩ := h
          obtain ⟨ua, hua, hva⟩ := readC_part (P := P) hxc ha w
          obtain ⟨uc, huc, hvc⟩ := readC_part (P := P) hyc hc w
          have h1 := ih D (by omega) el a c ua uc t1 w Γ ht1 hva hvc
          have h2 := ihl t2 ht2
          simp only [Op.eqItems, Sem.run_bind, hua, huc, h1, Result.andThen_ok]
          cases t1
          · simp
          · simpa using h2
      · cases h
    · cases h

theorem isNil_sound {nl : Option Bool} {clip : Bool} {s : Nat} {xs : List V} {w : World} {Z : Nat → Nat → Prop} {a : Option Addr} {n cap : Nat} {r : Bool} (h : VP w Z (.sl nl clip s xs) (.slice a n cap)) (hr : isNil nl xs = some r) : a.isNone = r := by
  cases h with
  | sl _ _ _ _ _ _ hc hclip ht hf hn hs hsp hx he hv =>
    cases nl with
    | some b =>
      simp [isNil] at hr; subst hr
      cases b with
      | true => simp [ht rfl]
      | false => have := hf rfl; cases a <;> simp_all
    | none =>
      simp only [isNil, guardP_some, Option.some.injEq] at hr
      obtain ⟨hne, rfl⟩ := hr
      cases a with
      | some a => rfl
      | none =>
        have h1 := hn rfl
        have h2 : xs.length = 0 := by omega
        exact absurd (List.length_eq_zero_iff.1 h2) hne

theorem telem_inv {t el : TypeId} (h : telem P t = some el) : P.underlying t = some (.slice el) := by
  unfold telem at h
  split at h
  · rename_i e he; cases h; exact he
  · cases h

theorem guard_agg {op : BinOp} {t : TypeId} {x y : Operand} {us vs : Array Value} {w : World} (h : P.eqGuardType P.depth t = false) : (eqGuard op t x y (.agg us) (.agg vs)).run P w = .ok () w := by
  unfold eqGuard
  cases op <;> simp [h]
theorem guard_other {op : BinOp} {t : TypeId} {x y : Operand} {u v : Value} {w : World} (h1 : u ≠ .nilIface) (h2 : ∀ us, u ≠ .agg us) : (eqGuard op t x y u v).run P w = .ok () w := by
  unfold eqGuard
  cases op <;> cases u <;> simp_all

theorem binV_sound {op : BinOp} {t : TypeId} {x y : V} {ox oy : Operand} {u u' : Value} {v : V} (w : World) (h : binV P op t x y = some v) (hw : w = Γ.w) (hx : VR Γ x u) (hy : VR Γ y u') :
    ∃ r, (do eqGuard op t ox oy u u'; binOp op t u u' : Sem Value).run P w = .ok r w ∧ ∀ Δ, VR Δ v r := by
  unfold binV at h
  split at h
  · rw [hx.int_inv, hy.int_inv]
    obtain ⟨r, hr, hv⟩ := intBin_sound (P := P) (t := t) w h
    exact ⟨r, by rw [Sem.run_bind, guard_other (by simp) (by simp)]; exact hr, hv⟩
  · obtain ⟨bx, rfl, rfl⟩ := hx.str_inv
    obtain ⟨by', rfl, rfl⟩ := hy.str_inv
    obtain ⟨r, hr, hv⟩ := strBin_sound (P := P) (t := t) w h
    exact ⟨r, by rw [Sem.run_bind, guard_other (by simp) (by simp)]; exact hr, hv⟩
  · rename_i a c
    rw [hx.bool_inv, hy.bool_inv]
    split at h
    · simp only [Option.map_eq_some_iff] at h
      obtain ⟨r, hr, rfl⟩ := h
      have := eqT_sound 9 Op.maxDepth (by simp [Op.maxDepth]) t (.bool a) (.bool c) (.bool a) (.bool c) r w Γ hr (.pure (.bool _)) (.pure (.bool _))
      exact ⟨.bool r, by rw [Sem.run_bind, guard_other (by simp) (by simp)]; simp [binOp, Op.equal, this], fun Δ => .pure (.bool _)⟩
    · simp only [Option.map_eq_some_iff] at h
      obtain ⟨r, hr, rfl⟩ := h
      have := eqT_sound 9 Op.maxDepth (by simp [Op.maxDepth]) t (.bool a) (.bool c) (.bool a) (.bool c) r w Γ hr (.pure (.bool _)) (.pure (.bool _))
      exact ⟨.bool (!r), by rw [Sem.run_bind, guard_other (by simp) (by simp)]; simp [binOp, Op.equal, this], fun Δ => .pure (.bool _)⟩
    · cases h
  · rename_i a c
    have hxa := hx
    have hya := hy
    obtain ⟨us, rfl, _⟩ := hx.agg_inv
    obtain ⟨vs, rfl, _⟩ := hy.agg_inv
    split at h
    · simp only [guardP_some, Option.map_eq_some_iff] at h
      obtain ⟨hg, r, hr, rfl⟩ := h
      have := eqT_sound 9 Op.maxDepth (by simp [Op.maxDepth]) t (.agg a) (.agg c) _ _ r w Γ hr hxa hya
      exact ⟨.bool r, by rw [Sem.run_bind, guard_agg hg]; simp [binOp, Op.equal, this], fun Δ => .pure (.bool _)⟩
    · simp only [guardP_some, Option.map_eq_some_iff] at h
      obtain ⟨hg, r, hr, rfl⟩ := h
      have := eqT_sound 9 Op.maxDepth (by simp [Op.maxDepth]) t (.agg a) (.agg c) _ _ r w Γ hr hxa hya
      exact ⟨.bool (!r), by rw [Sem.run_bind, guard_agg hg]; simp [binOp, Op.equal, this], fun Δ => .pure (.bool _)⟩
    · cases h
  · rename_i n cl s xs cl' s'
    rw [guardP_some] at h
    obtain ⟨ht, h⟩ := h
    obtain ⟨el, hel⟩ := Option.isSome_iff_exists.1 ht
    have hu := telem_inv hel
    have hxs := hx.sl_inv
    have hys := hy.sl_inv
    obtain ⟨a, m, cap, rfl⟩ : ∃ a m cap, u = .slice a m cap := by cases hxs; exact ⟨_, _, _, rfl⟩
    obtain ⟨m', cap', rfl⟩ : ∃ m' cap', u' = .slice none m' cap' := by
      cases hys with | sl _ _ _ _ a' _ hc hclip ht hf => rw [ht rfl]; exact ⟨_, _, rfl⟩
    have key : ∀ D, (Op.equalIn (D + 1) t (.slice a m cap) (.slice none m' cap')).run P w = .ok a.isNone w := by
      intro D
      cases a <;> simp [Op.equalIn, run_underlying hu]
    split at h
    · simp only [Option.map_eq_some_iff] at h
      obtain ⟨r, hr, rfl⟩ := h
      have hn := isNil_sound hxs hr
      exact ⟨.bool r, by rw [Sem.run_bind, guard_other (by simp) (by simp)]; simp [binOp, Op.equal, Op.maxDepth, key, hn], fun Δ => .pure (.bool _)⟩
    · simp only [Option.map_eq_some_iff] at h
      obtain ⟨r, hr, rfl⟩ := h
      have hn := isNil_sound hxs hr
      exact ⟨.bool (!r), by rw [Sem.run_bind, guard_other (by simp) (by simp)]; simp [binOp, Op.equal, Op.maxDepth, key, hn], fun Δ => .pure (.bool _)⟩
    · cases h
  · cases h

theorem unV_sound {op : UnOp} {x : V} {u : Value} {v : V} (w : World) (h : unV op x = some v) (hx : VR Γ x u) : ∃ r, (Op.unary op u).run P w = .ok r w ∧ ∀ Δ, VR Δ v r := by
  unfold unV at h
  split at h
  · cases h; rw [hx.bool_inv]; exact ⟨_, by simp [Op.unary] <;> rfl, fun Δ => .pure (.bool _)⟩
  · cases h; rw [hx.int_inv]; exact ⟨_, by simp [Op.unary, Op.intArith] <;> rfl, fun Δ => .pure (.int _ _)⟩
  · rw [hx.int_inv]
    simp only [intBin, guardP_some, Option.some.injEq] at h
    obtain ⟨_, rfl⟩ := h
    exact ⟨_, by simp [Op.unary, Op.intBits] <;> rfl, fun Δ => .pure (.int _ _)⟩
  · cases h

end Go.Sym
