/- DERIVED. The operations, fifth part: lengths, what is built, what is made, what is appended. -/
import Derived.Test.YtfjloeemhiffgaaSymOps4
set_option linter.unusedVariables false
set_option linter.unusedSimpArgs false
namespace Go.Sym
variable {P : Program} {o : Oper} {α : Operand → Value} {e : Operand → V} {Γ : Cx} {b : Nat}

theorem exec_builtin {bi : Builtin} {args : Array Operand} {tys : Array TypeId} (ho : o.op = .call { callee := .builtin bi, args := args, argTypes := tys }) (w : World) :
    ∃ consts, (execOp α o).run P w = (builtin bi tys o.type consts (args.map α)).run P w := by
  have h : (execOp α o).run P w = (builtin bi tys o.type (args.map fun x => match x with | .const _ => true | _ => false) (args.map α)).run P w := by
    simp [execOp, ho, resolve, invoke]
    rfl
  exact ⟨_, h⟩

theorem op_len (H : HOk Γ) (hb : Fresh Γ.n b) (he : ∀ x, VR Γ (e x) (α x)) {args : Array Operand} {tys : Array TypeId} (ho : o.op = .call { callee := .builtin .len, args := args, argTypes := tys }) {v : V} {ws : List (Nat × Ob)} (h : opSem P o.op e Γ.h b = some (v, ws)) : OpOk P o α Γ b v ws := by
  rw [ho] at h
  simp only [opSem] at h
  have key : ∀ (n : Nat), (Builtin.len_ tys o.type (args.map α)).run P Γ.w = .ok (.int .i64 n) Γ.w → (v, ws) = (V.int .i64 n, []) → OpOk P o α Γ b v ws := by
    intro n hr hh
    cases hh
    refine ok_quiet H hb (u := .int .i64 n) ?_ (.pure (.int _ _))
    obtain ⟨consts, hexb⟩ := exec_builtin (P := P) (α := α) ho Γ.w
    rw [hexb]
    simp [builtin, hr]
  split at h
  · rename_i t ht
    have ht := toList_one ht
    split at h
    · rename_i n el hu
      split at h
      · rename_i x hx
        have hx := toList_one hx
        exact key n (by simp [ht, hx, Builtin.len_, run_underlying hu, goInt]) (by cases h; rfl)
      · cases h
    · rename_i hu
      split at h
      · rename_i x hx
        have hx := toList_one hx
        have hex := he x
        split at h
        · rename_i s hs
          rw [hs] at hex
          obtain ⟨bs, hα, hbs⟩ := hex.str_inv
          have hlen : bs.size = s.length := by rw [← hbs, Array.length_toList]; rfl
          exact key s.length (by simp [ht, hx, Builtin.len_, run_underlying hu, goInt, hα, hlen]) (by cases h; rfl)
        · cases h
      · cases h
    · rename_i el hu
      split at h
      · rename_i x hx
        have hx := toList_one hx
        simp only [Option.map_eq_some_iff] at h
        obtain ⟨n, hn, hh⟩ := h
        obtain ⟨a, cap, hα⟩ := lenV_sound H hn (he x)
        exact key n (by simp [ht, hx, Builtin.len_, run_underlying hu, goInt, hα]) hh.symm
      · cases h
    · cases h
  · cases h

theorem op_cap (H : HOk Γ) (hb : Fresh Γ.n b) (he : ∀ x, VR Γ (e x) (α x)) {args : Array Operand} {tys : Array TypeId} (ho : o.op = .call { callee := .builtin .cap, args := args, argTypes := tys }) {v : V} {ws : List (Nat × Ob)} (h : opSem P o.op e Γ.h b = some (v, ws)) : OpOk P o α Γ b v ws := by
  rw [ho] at h
  simp only [opSem] at h
  split at h
  · rename_i t x ht hx
    have ht := toList_one ht
    have hx := toList_one hx
    split at h
    · rename_i el nl s xs hu hex
      cases h
      have hv := he x
      rw [hex] at hv
      have hp := hv.sl_inv
      generalize hα : α x = u0 at hp
      cases hp with
      | sl _ _ _ _ a cap hc hclip hnt hnf hnn hs0 hspot hxl hee hvv =>
        have hcap : cap = xs.length := hclip rfl
        refine ok_quiet H hb (u := .int .i64 (xs.length : Int)) ?_ (.pure (.int _ _))
        obtain ⟨consts, hexb⟩ := exec_builtin (P := P) (α := α) ho Γ.w
        rw [hexb]
        simp [builtin, ht, hx, Builtin.cap_, run_underlying hu, goInt, hα, hcap]
    · cases h
  · cases h

theorem op_max (H : HOk Γ) (hb : Fresh Γ.n b) (he : ∀ x, VR Γ (e x) (α x)) {args : Array Operand} {tys : Array TypeId} (ho : o.op = .call { callee := .builtin .max, args := args, argTypes := tys }) {v : V} {ws : List (Nat × Ob)} (h : opSem P o.op e Γ.h b = some (v, ws)) : OpOk P o α Γ b v ws := by
  rw [ho] at h
  simp only [opSem] at h
  split at h
  · rename_i x y hxy
    have hxy := toList_two hxy
    split at h
    · rename_i k m k' n hx hy
      cases h
      have h1 := he x
      have h2 := he y
      rw [hx] at h1
      rw [hy] at h2
      refine ok_quiet H hb (u := .int k (if m < n then n else m)) ?_ (.pure (.int _ _))
      obtain ⟨consts, hexb⟩ := exec_builtin (P := P) (α := α) ho Γ.w
      rw [hexb]
      simp [builtin, hxy, h1.int_inv, h2.int_inv, Builtin.max_, Builtin.max2]
    · cases h
  · cases h

theorem op_min (H : HOk Γ) (hb : Fresh Γ.n b) (he : ∀ x, VR Γ (e x) (α x)) {args : Array Operand} {tys : Array TypeId} (ho : o.op = .call { callee := .builtin .min, args := args, argTypes := tys }) {v : V} {ws : List (Nat × Ob)} (h : opSem P o.op e Γ.h b = some (v, ws)) : OpOk P o α Γ b v ws := by
  rw [ho] at h
  simp only [opSem] at h
  split at h
  · rename_i x y hxy
    have hxy := toList_two hxy
    split at h
    · rename_i k m k' n hx hy
      cases h
      have h1 := he x
      have h2 := he y
      rw [hx] at h1
      rw [hy] at h2
      refine ok_quiet H hb (u := .int k (if n < m then n else m)) ?_ (.pure (.int _ _))
      obtain ⟨consts, hexb⟩ := exec_builtin (P := P) (α := α) ho Γ.w
      rw [hexb]
      simp [builtin, hxy, h1.int_inv, h2.int_inv, Builtin.min_, Builtin.min2]
    · cases h
  · cases h

theorem fold_wr (us : List Value) : ∀ (c : Array Value) (off k : Nat), (us.zipIdx k).foldl (fun cs (x : Value × Nat) => cs.setIfInBounds (off + x.2) x.1) c = wr c (off + k) us := by
  induction us with
  | nil => intro c off k; rfl
  | cons u r ih => intro c off k; simp only [List.zipIdx_cons, List.foldl_cons, wr]; rw [ih]; rfl

theorem fold_arr (us : Array Value) (c : Array Value) (off : Nat) : us.zipIdx.foldl (fun cs x => cs.setIfInBounds (off + x.2) x.1) c = wr c off us.toList := by
  rw [← Array.foldl_toList, Array.toList_zipIdx, fold_wr]; rfl

theorem wr_cells {cs vs cs' : List V} {us xs : Array Value} {off : Nat} (h : CellsR Γ cs us) (hx : CellsR Γ vs xs) (hw : writeC cs off vs = some cs') : CellsR Γ cs' (wr us off xs.toList) := by
  obtain ⟨hle, hlen, hget⟩ := writeC_get hw
  obtain ⟨hl, h1, hv⟩ := h
  obtain ⟨hl2, h12, hv2⟩ := hx
  have hxl : xs.toList.length = vs.length := by rw [Array.length_toList]; omega
  have hwr : ∀ k, (wr us off xs.toList)[k]? = if off ≤ k ∧ k < off + vs.length then xs[k - off]? else us[k]? := by
    intro k; rw [wr_get _ _ _ _ (by omega), hxl]; simp
  refine ⟨by rw [wr_size]; omega, ?_, ?_⟩
  · intro i u hu
    rw [hwr] at hu
    split at hu
    · exact h12 _ u hu
    · exact h1 _ u hu
  · intro i c u hc hu
    rw [hwr] at hu
    rw [hget] at hc
    split at hu
    · rw [if_pos (by assumption)] at hc; exact hv2 _ c u hc hu
    · rw [if_neg (by assumption)] at hc; exact hv _ c u hc hu

theorem fill_sound {pl : Nat → Option (Nat × Nat)} : ∀ (ps : List (Nat × Operand)) {cs cs' : List V} {us : Array Value}, (∀ x, VR Γ (e x) (α x)) → CellsR Γ cs us → fillV pl cs (ps.map fun p => (p.1, e p.2)) = some cs' →
    ∃ us', Instr.fill pl us (ps.map fun p => (p.1, α p.2)) = some us' ∧ CellsR Γ cs' us' := by
  intro ps
  induction ps with
  | nil => intro cs cs' us he h hf; simp [fillV] at hf; subst hf; exact ⟨us, rfl, h⟩
  | cons p r ih =>
    intro cs cs' us he h hf
    simp only [List.map_cons, fillV] at hf
    split at hf
    · rename_i off size hpl
      simp only [guardP_some, Option.bind_eq_some_iff] at hf
      obtain ⟨⟨hs, hsz⟩, cs1, hw, hf⟩ := hf
      have hc := (he p.2).cells hs
      have h1 := wr_cells h hc hw
      obtain ⟨us', hfi, hr⟩ := ih he h1 hf
      obtain ⟨hle, _, _⟩ := writeC_get hw
      refine ⟨us', ?_, hr⟩
      simp only [List.map_cons, Instr.fill, hpl]
      have hh1 : (α p.2).cells.size = size := by rw [← hc.1]; exact hsz
      have hh2 : ¬ (off + (α p.2).cells.size > us.size) := by rw [← hc.1, ← h.1]; omega
      rw [if_neg (by simp [hh1]; omega)]
      have := fold_arr (α p.2).cells us off
      rw [this]
      exact hfi
    · cases hf

theorem run_mapM_list {A B : Type} (g : A → Sem B) (r : A → B) (w : World) : ∀ (l : List A), (∀ a ∈ l, (g a).run P w = .ok (r a) w) → (l.mapM g).run P w = .ok (l.map r) w := by
  intro l
  induction l with
  | nil => intro _; simp
  | cons a l ih =>
    intro h
    have h1 := h a (by simp)
    have h2 := ih fun g hg => h g (by simp [hg])
    simp [h1, h2]
theorem run_mapM_arr {A B : Type} (g : A → Sem B) (r : A → B) (w : World) (l : Array A) (h : ∀ a ∈ l.toList, (g a).run P w = .ok (r a) w) : (l.mapM g).run P w = .ok (l.toList.map r).toArray w := by
  rw [Array.mapM_eq_mapM_toList]
  simp [run_mapM_list g r w l.toList h]

theorem op_build (H : HOk Γ) (hb : Fresh Γ.n b) (he : ∀ x, VR Γ (e x) (α x)) {t : TypeId} {ps : Array (Nat × Operand)} (ho : o.op = .build t ps) {v : V} {ws : List (Nat × Ob)} (h : opSem P o.op e Γ.h b = some (v, ws)) : OpOk P o α Γ b v ws := by
  rw [ho] at h
  simp only [opSem, guardP_some, Option.bind_eq_some_iff, Option.map_eq_some_iff] at h
  obtain ⟨hp, z, hz, hsol, cs, hf, hh⟩ := h
  cases hh
  obtain ⟨i, zv, hi, hzv, rfl, hrun⟩ := tzero_inv (w := Γ.w) hz
  have hp' := hp
  unfold partsOk at hp
  have hcells : ∀ us', Instr.fill (place P t) zv.cells (ps.toList.map fun p => (p.1, α p.2)) = some us' → (Instr.build t (ps.map fun p => (p.1, α p.2))).run P Γ.w = .ok (.agg us') Γ.w := by
    intro us' hfi
    split at hp
    · rename_i fs hu
      rw [List.all_eq_true] at hp
      have hpl : (fun i => ((fs.toList.map fun f => (f.offset, tsize P f.type)).toArray)[i]?) = place P t := by
        funext i; simp [place, hu]
      simp only [Instr.build, Sem.run_bind, hrun, Result.andThen_ok, run_underlying hu]
      rw [run_mapM_arr _ (fun f => (f.offset, tsize P f.type)) _ fs (fun f hf => by
        have := run_size' (P := P) (w := Γ.w) (show 0 < tsize P f.type by simpa using hp f hf)
        simp [this])]
      simp only [Result.andThen_ok]
      rw [show (ps.map fun p => (p.1, α p.2)).toList = ps.toList.map fun p => (p.1, α p.2) by simp]
      simp only [hpl]
      simp [hfi]
    · rename_i n el hu
      have hts : 0 < tsize P el := by simpa using hp
      have hpl : (fun i => some (i * tsize P el, tsize P el)) = place P t := by funext i; simp [place, hu]
      simp only [Instr.build, Sem.run_bind, hrun, Result.andThen_ok, run_underlying hu, run_size' hts, hpl]
      rw [show (ps.map fun p => (p.1, α p.2)).toList = ps.toList.map fun p => (p.1, α p.2) by simp]
      simp [hfi]
    · cases hp
  obtain ⟨us', hfi, hr⟩ := fill_sound ps.toList he ((VR_const Γ zv).cells hsol) hf
  refine ok_quiet H hb (u := .agg us') ?_ (.agg _ _ hr.1 hr.2.1 hr.2.2)
  have := hcells us' hfi
  simp [execOp, ho, this]

end Go.Sym
