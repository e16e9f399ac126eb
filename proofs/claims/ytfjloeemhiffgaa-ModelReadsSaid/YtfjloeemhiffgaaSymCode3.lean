/- DERIVED. States; regions in their order. -/
import Derived.Test.YtfjloeemhiffgaaSymCode2
import Derived.ControlIn
import Derived.RangeFuncRecord
import Derived.RangeFuncLeaves
set_option linter.unusedVariables false
set_option linter.unusedSimpArgs false
namespace Go.Sym

/-- What is deferred: the marks of ranges over functions, and each one's block is there, and nobody's. -/
def Marks (Γe Γ : Cx) (ds : List Deferred) : Prop :=
  ∃ rs : List Nat, ds = rs.map (fun r => { target := .collected r, args := #[] }) ∧ rs.Nodup ∧ ∀ r ∈ rs, Γe.w.heap.size ≤ r ∧ r < Γ.w.heap.size ∧ Γ.w.heap[r]? = some (.deferred (some [])) ∧ ∀ id base, live Γ.h id → Γ.ρ id ≠ some (r, base)
theorem Marks.evo {Γe Γ Δ : Cx} (E : Evo Γ Δ) {ds : List Deferred} (h : Marks Γe Γ ds) : Marks Γe Δ ds := by
  obtain ⟨rs, hd, hn, hr⟩ := h
  refine ⟨rs, hd, hn, fun r hm => ?_⟩
  obtain ⟨h1, h2, h3, h4⟩ := hr r hm
  obtain ⟨h5, h6⟩ := E.blk r h2 h4
  exact ⟨h1, Nat.lt_of_lt_of_le h2 E.size, h5.trans h3, h6⟩
theorem Marks.nil (Γe Γ : Cx) : Marks Γe Γ [] := ⟨[], rfl, List.nodup_nil, by simp⟩
theorem Marks.w {Γe Γ Δ : Cx} {ds : List Deferred} (h : Marks Γe Γ ds) (hw : Δ.w = Γ.w) (hl : ∀ id b base, live Δ.h id → Δ.ρ id = some (b, base) → ∃ id', live Γ.h id' ∧ Γ.ρ id' = some (b, base)) : Marks Γe Δ ds := by
  obtain ⟨rs, hd, hn, hr⟩ := h
  refine ⟨rs, hd, hn, fun r hm => ?_⟩
  obtain ⟨h1, h2, h3, h4⟩ := hr r hm
  refine ⟨h1, by rw [hw]; exact h2, by rw [hw]; exact h3, fun id base hli hr => ?_⟩
  obtain ⟨id', h5, h6⟩ := hl id r base hli hr
  exact h4 id' base h5 h6

structure StR (Γe : Cx) (N : Nat) (st : St) (a : Act) (Γ : Cx) : Prop where
  ok : HOk Γ
  hp : Γ.h = look st.hp
  n : ∀ k, st.nx ≤ k → ¬ Γ.n k
  gone : Evo Γe Γ
  tm : ∀ t v, look st.tm t = some v → VR Γ v (a.tmps.getD t undef)
  sz : N ≤ a.tmps.size
  df : Marks Γe Γ a.defers

variable {F : Fence} {P : Program} {call : CallFn} {C : Cfg} {Γe Γ Δ : Cx} {N : Nat} {st st' : St} {a : Act}

theorem StR.eval (h : StR Γe N st a Γ) (x : Operand) : VR Γ (ev st.tm x) (a.eval x) := by
  cases x with
  | tmp t =>
    simp only [ev, Act.eval]
    cases hl : look st.tm t with
    | none => exact .junk _
    | some v => exact h.tm t v hl
  | const v => exact VR_const Γ v
  | global g => exact .junk _
  | func f => exact .pure (.fnc f [] #[] rfl (by simp))

theorem getD_put {us : Array Value} {d t : Nat} {u : Value} (hd : d < us.size) : (us.setIfInBounds d u).getD t undef = if d = t then u else us.getD t undef := by
  rw [Array.getD_eq_getD_getElem?, Array.getD_eq_getD_getElem?, Array.getElem?_setIfInBounds]
  by_cases h : d = t
  · subst h; simp [hd]
  · simp [h]

theorem StR.put (h : StR Γe N st a Γ) {dst : Option Nat} (hd : ∀ d, dst = some d → d < N) (H : HOk Δ) (E : Evo Γ Δ) {hp' : List (Nat × Ob)} {nx' : Nat} (hh : Δ.h = look hp') (hn : ∀ k, nx' ≤ k → ¬ Δ.n k) {v : V} {u : Value} (hv : VR Δ v u) :
    StR Γe N { tm := putD st.tm dst v, hp := hp', nx := nx' } (a.put dst u) Δ := by
  refine ⟨H, hh, hn, h.gone.trans E, ?_, ?_, ?_⟩
  · intro t x hx
    cases dst with
    | none => exact (h.tm t x hx).evo E
    | some d =>
      simp only [putD, look_put] at hx
      simp only [Act.put, getD_put (Nat.lt_of_lt_of_le (hd d rfl) h.sz)]
      by_cases ht : d = t
      · rw [if_pos ht] at hx ⊢; cases hx; exact hv
      · rw [if_neg ht] at hx ⊢; exact (h.tm t x hx).evo E
  · cases dst <;> simp [Act.put, h.sz]
  · have := h.df.evo E
    cases dst <;> exact this

theorem VR_undef (Γ : Cx) : VR Γ (.tup []) undef := .tup [] #[] rfl (by simp)

theorem yielded_of {ops : Array Oper} {us : Array Value} {j d : Nat} (hd : (ops[j]?).bind (·.dst) = some d) :
    (∀ b, us.getD d undef = .bool b → yielded ops us j = some b) ∧ ((∀ b, us.getD d undef ≠ .bool b) → yielded ops us j = none) := by
  unfold yielded
  rw [hd]
  simp only [Option.bind_some, Array.getD_eq_getD_getElem?]
  cases hu : us[d]? with
  | none => simp [undef]
  | some u =>
    simp only [Option.getD_some]
    refine ⟨fun b h => by rw [h], fun h => ?_⟩
    cases u with
    | bool b => exact absurd rfl (h b)
    | _ => rfl

theorem wantedV_ok {ops : Array Oper} {o : Oper} {b : Bool} {tm : List (Nat × V)} {us : Array Value} (ht : ∀ j d, o.guard.map (·.1) = some j → (ops[j]?).bind (·.dst) = some d → ∀ v, look tm d = some v → VR Γ v (us.getD d undef))
    (hw : wantedV ops.toList tm o = some b) : Region.wanted o (yielded ops us) = b := by
  unfold wantedV at hw
  unfold Region.wanted
  split at hw
  · rename_i hg; cases hw; rw [hg]
  · rename_i j want hg
    rw [hg]
    simp only [Array.getElem?_toList] at hw
    cases hd : (ops[j]?).bind (·.dst) with
    | none => rw [hd] at hw; cases hw
    | some d =>
      rw [hd] at hw
      simp only at hw
      obtain ⟨y1, y2⟩ := yielded_of (us := us) hd
      have htd := ht j d (by rw [hg]; rfl) hd
      simp only
      split at hw
      · rename_i b' hb
        cases hw
        rw [y1 b' (htd _ hb).bool_inv]
        cases b' <;> cases want <;> rfl
      · rename_i hb
        cases hw
        obtain ⟨us', hu, hl, _⟩ := (htd _ hb).tup_inv
        rw [y2 (fun b e => by rw [hu] at e; cases e)]
        rfl
      · cases hw

theorem StR.skip (h : StR Γe N st a Γ) {dst : Option Nat} (hd : ∀ d, dst = some d → d < N) : StR Γe N { st with tm := putD st.tm dst (.tup []), nx := st.nx + 4 } (a.put dst undef) Γ :=
  h.put hd h.ok (Evo.refl Γ) h.hp (fun k hk => h.n k (by omega)) (VR_undef Γ)

theorem inlOf_inv {op : Op} {e : Operand → V} {f : Nat} {as : List V} (h : inlOf C op e = some (f, as)) : ∃ g args tys, op = .call { callee := .value g, args := args, argTypes := tys } ∧
    ((∃ first cap, e g = .fn (.func f) first cap ∧ as = first ++ (args.toList.map e) ++ cap ∧ Nat.beq f yn = false) ∨ (∃ id, e g = .yld id ∧ f = yn ∧ as = .yld id :: args.toList.map e)) := by
  unfold inlOf at h
  split at h
  · rename_i g args tys
    split at h
    · rename_i f' first cap hg
      split at h
      · rename_i hin
        cases h
        refine ⟨_, _, _, rfl, .inl ⟨_, _, hg, rfl, ?_⟩⟩
        cases hb : Nat.beq f yn with
        | false => rfl
        | true => simp [hb] at hin
      · cases h
    · rename_i id hg
      cases h
      exact ⟨_, _, _, rfl, .inr ⟨id, hg, rfl, rfl⟩⟩
    · cases h
  · cases h

theorem run_yieldOp {o : Oper} {α : Operand → Value} {g : Operand} {args : Array Operand} {tys : Array TypeId} (ho : o.op = .call { callee := .value g, args := args, argTypes := tys }) {l : Nat} (hg : α g = .func (.yield l) #[] #[])
    {w : World} {r : Loop} (h : w.heap[l]? = some (.loop r)) (hs : (args.map α).size = r.params.size) :
    (execOp α o).run P w = .ok (.round l r.fn ((r.params.zip (args.map α)).foldl (fun tmps (t, a) => tmps.setIfInBounds t a) r.tmps) r.assign r.body) w := by
  have := run_yield (P := P) h hs
  simp [execOp, ho, resolve, hg, Deferred.ofValue, invoke, this, Sem.run]

theorem evalOp_ok (hF : ∀ f, F.fn f) (hdep : F.depth = none) (hc : CallOk F P call) {o : Oper} (h : StR Γe N st a Γ) (hd : ∀ d, o.dst = some d → d < N) (hs : evalOp P C call o st = some st') {n : Nat} {next : Act → World → Prop}
    {Q : Exit → Act → World → Prop} (hn : ∀ a' Δ, StR Γe N st' a' Δ → next a' Δ.w) : o.wpIn F n P a Γ.w next Q := by
  unfold evalOp at hs
  split at hs
  · rename_i f as hi
    obtain ⟨g, args, tys, ho, hi⟩ := inlOf_inv hi
    simp only [Option.map_eq_some_iff] at hs
    obtain ⟨⟨v, hp', nx'⟩, hcall, rfl⟩ := hs
    rcases hi with ⟨first, cap, hg, rfl, hfy⟩ | ⟨id, hg, rfl, rfl⟩
    · obtain ⟨⟨fn, hfn, hname, hbody⟩, hx⟩ := (hc _ _ _ _ _ _ _ hcall).1 hfy
      have hgv := h.eval g
      rw [hg] at hgv
      obtain ⟨ua, uc, hgu, hla, hlc, hva, hvc⟩ := hgv.fn_inv
      have hargs : VRs Γ (first ++ (args.toList.map (ev st.tm)) ++ cap) (ua ++ args.map a.eval ++ uc) := ((VRs.append ⟨hla, hva⟩ (VRs_args h.eval args)).append ⟨hlc, hvc⟩)
      refine ⟨about_ok hF _, ?_⟩
      rw [Oper.semAt_eq _ _ _ (fun c hd => by rw [ho] at hd; cases hd), run_call ho hgu hfn hname hbody, Oper.uponIn_enter]
      refine ⟨fun hd => (by rw [hdep] at hd; cases hd), CallsIn.mono (hx (n - 1) Γ _ h.ok h.hp h.n hargs) ?_⟩
      rintro en w' hen
      cases en with
      | panicked c => exact hen.elim
      | outgrown => exact hen.elim
      | returned u =>
        obtain ⟨Δ, rfl, HΔ, hh, hn', hev, hvr⟩ := hen
        exact hn _ _ (h.put hd HΔ hev hh hn' hvr)
    · obtain ⟨id', ys, he, hx⟩ := (hc _ _ _ _ _ _ _ hcall).2 (by decide)
      cases he
      have hgv := h.eval g
      rw [hg] at hgv
      obtain ⟨l, hgu, _⟩ := hgv.yld_inv
      rw [hgu] at hgv
      obtain ⟨r, hl, hsz, hround⟩ := hx (n - 1) Γ l _ h.ok h.hp h.n hgv (VRs_args h.eval args)
      refine ⟨about_ok hF _, ?_⟩
      rw [Oper.semAt_eq _ _ _ (fun c hd => by rw [ho] at hd; cases hd), run_yieldOp ho hgu hl hsz, Oper.uponIn_round]
      refine ⟨fun hd => (by rw [hdep] at hd; cases hd), RoundIn.mono hround ?_⟩
      rintro en w' hen
      cases en with
      | panicked c => exact hen.elim
      | outgrown => exact hen.elim
      | returned u =>
        obtain ⟨Δ, rfl, HΔ, hh, hn', hev, hvr⟩ := hen
        exact hn _ _ (h.put hd HΔ hev hh hn' hvr)
  · simp only [Option.map_eq_some_iff] at hs
    obtain ⟨⟨v, ws⟩, hs, rfl⟩ := hs
    have hfr : Fresh Γ.n st.nx := fun k h1 _ => h.n k h1
    refine stepE_ok hF hdep hc h.ok hfr (fun x _ => h.eval x) (fun id _ => by rw [h.hp]) hs n a next Q rfl ?_
    intro u Δ hh hn' H E hv
    exact hn _ _ (h.put hd H E (by rw [hh, h.hp, look_puts]) (fun k hk => by
      rw [hn']
      rintro (h1 | h1)
      · exact h.n k (by omega) h1
      · omega) hv)

theorem evalOps_ok (hF : ∀ f, F.fn f) (hdep : F.depth = none) (hc : CallOk F P call) {ops : Array Oper} (hd : dstsOk N ops.toList = true) {n : Nat} {Q : Exit → Act → World → Prop} :
    ∀ (l : List Oper) (i : Nat) (st : St) (a : Act) (Γ : Cx), ops.toList.drop i = l → StR Γe N st a Γ → evalOps P C call ops.toList l st = some st' → (∀ a' Δ, StR Γe N st' a' Δ → Q .normal a' Δ.w) →
    wpOpsIn F n P ops Q (List.range' i (ops.size - i)) a Γ.w := by
  intro l
  induction l with
  | nil =>
    intro i st a Γ hl h hs hQ
    simp only [evalOps, Option.some.injEq] at hs
    subst hs
    have : ops.size - i = 0 := by
      have := congrArg List.length hl
      simpa using this
    rw [this]
    exact hQ _ _ h
  | cons o r ih =>
    intro i st a Γ hl h hs hQ
    have hlen := congrArg List.length hl
    simp only [List.length_drop, Array.length_toList, List.length_cons] at hlen
    have ho : ops[i]? = some o := by
      have : (ops.toList.drop i)[0]? = some o := by rw [hl]; rfl
      simpa using this
    have hr : ops.toList.drop (i + 1) = r := by
      have : (ops.toList.drop i).drop 1 = r := by rw [hl]; rfl
      simpa [List.drop_drop] using this
    have hdo : ∀ d, o.dst = some d → d < N := by
      intro d hdd
      simp only [dstsOk, List.all_eq_true] at hd
      have := hd o (List.mem_of_getElem? (by rw [Array.getElem?_toList]; exact ho))
      rw [hdd] at this
      simpa [Nat.blt_eq] using this
    rw [show ops.size - i = (ops.size - (i + 1)) + 1 by omega, List.range'_succ]
    simp only [evalOps, Option.bind_eq_some_iff] at hs
    obtain ⟨b, hb, hs⟩ := hs
    have hw : Region.wanted o (yielded ops a.tmps) = b := wantedV_ok (fun j d _ _ v hv => h.tm d v hv) hb
    simp only [wpOpsIn, ho, hw]
    cases b with
    | true =>
      simp only [if_true] at hs ⊢
      rw [Option.bind_eq_some_iff] at hs
      obtain ⟨st1, h1, hs⟩ := hs
      exact evalOp_ok hF hdep hc h hdo h1 fun a' Δ h' => ih (i + 1) st1 a' Δ hr h' hs hQ
    | false =>
      simp only [Bool.false_eq_true, if_false] at hs ⊢
      exact ⟨about_ok hF _, ih (i + 1) _ _ Γ hr (h.skip hdo) hs hQ⟩

theorem look_restrict {keep : List Nat} {tm : List (Nat × V)} {t : Nat} {v : V} (h : look (restrict keep tm) t = some v) : look tm t = some v := by
  induction keep with
  | nil => simp [restrict, look] at h
  | cons s r ih =>
    simp only [restrict, List.filterMap_cons] at h
    cases hs : look tm s with
    | none => rw [hs] at h; exact ih h
    | some x =>
      rw [hs] at h
      simp only [Option.map_some, look] at h
      by_cases he : s = t
      · rw [if_pos he] at h; subst he; rw [hs]; exact h
      · rw [if_neg he] at h; exact ih h

theorem StR.restrict (h : StR Γe N st a Γ) (keep : List Nat) : StR Γe N { st with tm := restrict keep st.tm } a Γ :=
  ⟨h.ok, h.hp, h.n, h.gone, fun t v hv => h.tm t v (look_restrict hv), h.sz, h.df⟩
end Go.Sym
