/- DERIVED. Code, functions, programs: whatever the evaluator answers the model answers. -/
import Derived.Test.YtfjloeemhiffgaaSymRounds
set_option linter.unusedVariables false
set_option linter.unusedSimpArgs false
namespace Go

theorem stepR_scope' {P : Program} {b : Frame} {a : Act} {k : List Item} {cs : List Frame} {w : World} {c : Code} :
    step P (lone (b.atR a (.code (.scope c) :: k)) cs w) = .next (lone (b.atR a (.code c :: .inScope c :: k)) cs w) :=
  step_lone_go (by simp [stepG, stepG.exec, Frame.atR])
theorem stepR_inScope' {P : Program} {b : Frame} {a : Act} {k : List Item} {cs : List Frame} {w : World} {c : Code} :
    step P (lone (b.atR a (.inScope c :: k)) cs w) = .next (lone (b.atR a k) cs w) :=
  step_lone_go (by simp [stepG, stepG.exec, Frame.atR])

theorem wpIn_scope' {F : Fence} {n : Nat} {P : Program} {Q : Exit → Act → World → Prop} {a : Act} {w : World} {c : Code} (h : c.wpIn F n P (fun e a w => (∀ l, e ≠ .goto l) ∧ Q e a w) a w) : (Code.scope c).wpIn F n P Q a w := by
  intro b k cs hro hb hr
  have h0 : (lone (b.atR a (.code (.scope c) :: k)) cs w).fenced P F := fenced_calm hb hr rfl
  obtain ⟨e, a₁, w₁, ⟨hg, hq⟩, harr⟩ := h b (.inScope c :: k) cs hro hb hr
  cases e with
  | normal => exact ⟨.normal, a₁, w₁, hq, .head h0 stepR_scope' (StepsIn.trans harr (.one (fenced_calm hb hr rfl) stepR_inScope'))⟩
  | exit id =>
    have hx : exitTo id (.inScope c :: k) = exitTo id k := by simp [exitTo]
    exact ⟨_, a₁, w₁, hq, fun k' hk => .head h0 stepR_scope' (harr.1 k' (by rw [hx]; exact hk)),
      fun hr' hk => let ⟨k₁, h1, h2⟩ := harr.2 hr' (by rw [hx]; exact hk); ⟨k₁, h1, .head h0 stepR_scope' h2⟩⟩
  | goto l => exact absurd rfl (hg l)
  | ret => exact ⟨_, a₁, w₁, hq, .of_steps (.one h0 stepR_scope') harr⟩
  | panic ch => exact ⟨_, a₁, w₁, hq, .of_steps (.one h0 stepR_scope') harr⟩
  | outgrown => exact ⟨_, a₁, w₁, hq, .of_steps (.one h0 stepR_scope') harr⟩

/-- A loop whose rounds are counted down. -/
theorem wpIn_loop_count {F : Fence} {n : Nat} {P : Program} {Q : Exit → Act → World → Prop} {a : Act} {w : World} {c : Code} (J : Nat → Act → World → Prop) (j : Nat) (h₀ : J j a w)
    (round : ∀ j a w, J j a w → c.wpIn F n P (Exit.then (fun a' w' => ∃ j', j' < j ∧ J j' a' w') Q) a w) : (Code.loop c).wpIn F n P Q a w := by
  classical
  have least : ∀ a w, (∃ j, J j a w) → ∃ j, J j a w ∧ ∀ i, J i a w → j ≤ i := by
    rintro a w ⟨j, hj⟩
    induction j using Nat.strongRecOn with
    | _ j ih =>
      by_cases h : ∃ i, i < j ∧ J i a w
      · obtain ⟨i, hi, hJ⟩ := h; exact ih i hi hJ
      · exact ⟨j, hj, fun i hi => by
          by_cases hlt : i < j
          · exact absurd ⟨i, hlt, hi⟩ h
          · omega⟩
  let μ : Act → World → Nat := fun a w => if h : ∃ j, J j a w then Classical.choose (least a w h) else 0
  refine wpIn_loop (fun a w => ∃ j, J j a w) μ ⟨j, h₀⟩ fun a w hI => ?_
  have hμ : μ a w = Classical.choose (least a w hI) := dif_pos hI
  obtain ⟨hJ, _⟩ := Classical.choose_spec (least a w hI)
  rw [← hμ] at hJ
  refine wpIn_mono (round _ a w hJ) ?_
  intro e a' w' hq
  cases e with
  | normal =>
    obtain ⟨j', hlt, hJ'⟩ := hq
    refine ⟨⟨j', hJ'⟩, ?_⟩
    have hμ' : μ a' w' = Classical.choose (least a' w' ⟨j', hJ'⟩) := dif_pos ⟨j', hJ'⟩
    have := (Classical.choose_spec (least a' w' ⟨j', hJ'⟩)).2 j' hJ'
    omega
  | _ => exact hq

namespace Sym
variable {F : Fence} {P : Program} {call : CallFn} {C : Cfg} {Γe Γ Δ : Cx} {N : Nat} {st st' : St} {a : Act}

theorem run_enterLoop_inner {l : Nat} {r : Loop} (fn : FuncId) (tmps : Array Value) (ps : Array Tmp) (assign body : Code) {w : World} (h : w.heap[l]? = some (.loop r)) :
    (Instr.enterLoop fn tmps ps assign body (some l)).run P w =
      .ok (w.heap.size, []) (w.alloc (.loop { state := .ready, pending := none, fn, tmps, params := ps, assign, body, defers := r.defers })) := by
  unfold Instr.enterLoop
  simp only [Sem.run_bind, run_getLoop h, run_newObj_alloc, Result.andThen, Sem.run_pure]

/-- A range over a function is entered. -/
theorem enter_ok {ro : Option Nat} (hround : ∀ l, ro = some l → ∃ r : Loop, Γe.w.heap[l]? = some (.loop r)) (h : StR Γe N st a Γ) (fn : FuncId) {fc : FC} {g : Operand} {ps : Array Tmp} {asg body : Code}
    (hok : codeOk N fc.draws (.rangeFunc g ps asg body) = true) : ∃ l mark Δ, (Instr.enterLoop fn a.tmps ps asg body ro).run P Γ.w = .ok (l, mark) Δ.w ∧
      StR Γe N { tm := st.tm, hp := put st.hp st.nx (.loop .ready fc (.rangeFunc g ps asg body) st.tm), nx := st.nx + 1 } { a with defers := mark ++ a.defers } Δ ∧
      Δ.n st.nx ∧ Δ.ρ st.nx = some (l, 0) ∧ ∃ r : Loop, Δ.w.heap[l]? = some (.loop r) ∧ r.tmps = a.tmps := by
  simp only [codeOk, Bool.and_eq_true, List.all_eq_true] at hok
  have hLI : ∀ dl, LoopIs { state := .ready, pending := none, fn, tmps := a.tmps, params := ps, assign := asg, body, defers := dl } .ready fc (.rangeFunc g ps asg body) := fun dl =>
    ⟨⟨N, g, rfl, hok.1.1, hok.1.2, fun d hd => by simpa [Nat.blt_eq] using hok.2 d hd, h.sz⟩, rfl, rfl⟩
  have hid : ¬ Γ.n st.nx := h.n _ (Nat.le_refl _)
  have key : ∀ (Γ1 : Cx) (dl : Nat) (mark : List Deferred), StR Γe N st { a with defers := mark ++ a.defers } Γ1 →
      (Instr.enterLoop fn a.tmps ps asg body ro).run P Γ.w = .ok (Γ1.w.heap.size, mark) (Γ1.w.alloc (.loop { state := .ready, pending := none, fn, tmps := a.tmps, params := ps, assign := asg, body, defers := dl })) →
      ∃ l mark Δ, (Instr.enterLoop fn a.tmps ps asg body ro).run P Γ.w = .ok (l, mark) Δ.w ∧
      StR Γe N { tm := st.tm, hp := put st.hp st.nx (.loop .ready fc (.rangeFunc g ps asg body) st.tm), nx := st.nx + 1 } { a with defers := mark ++ a.defers } Δ ∧
      Δ.n st.nx ∧ Δ.ρ st.nx = some (l, 0) ∧ ∃ r : Loop, Δ.w.heap[l]? = some (.loop r) ∧ r.tmps = a.tmps := by
    intro Γ1 dl mark h1 hrun
    obtain ⟨H2, E2⟩ := step_newLoop h1.ok st.nx _ fc (.rangeFunc g ps asg body) st.tm (fun k => Γ1.n k ∨ k = st.nx) (h1.n _ (Nat.le_refl _)) ⟨fun i hi => .inl hi, .inr rfl⟩ (hLI dl) (fun t v ht => h1.tm t v ht)
    refine ⟨_, mark, _, hrun, ⟨H2, by simp only [Cx.newL]; rw [look_putO, h1.hp], ?_, h1.gone.trans E2, fun t v hv => (h1.tm t v hv).evo E2, h1.sz, h1.df.evo E2⟩, .inr rfl, by simp [Cx.newL], _, by simp only [Cx.newL]; exact alloc_new _ _, rfl⟩
    rintro k hk (hk' | hk')
    · exact h1.n k (by simp only at hk; omega) hk'
    · simp only at hk; omega
  cases ro with
  | some l0 =>
    obtain ⟨r0, hr0⟩ := hround l0 rfl
    obtain ⟨r1, hr1, _⟩ := h.gone.lp l0 r0 hr0
    exact key Γ r1.defers [] h (run_enterLoop_inner fn a.tmps ps asg body hr1)
  | none =>
    obtain ⟨H1, E1⟩ := step_other h.ok (.deferred (some []))
    refine key { Γ with w := Γ.w.alloc (.deferred (some [])) } Γ.w.heap.size [{ target := .collected Γ.w.heap.size, args := #[] }] ⟨H1, h.hp, h.n, h.gone.trans E1, fun t v hv => (h.tm t v hv).evo E1, h.sz, ?_⟩ ?_
    · obtain ⟨rs, hd, hnd, hr⟩ := h.df.evo E1
      obtain ⟨rs0, hd0, hnd0, hr0⟩ := h.df
      have hinj : rs = rs0 := by
        have := hd.symm.trans hd0
        exact (List.map_inj_right (by intro x y hxy; simpa using hxy)).1 this
      subst hinj
      refine ⟨Γ.w.heap.size :: rs, by simp [hd], List.nodup_cons.2 ⟨fun hm => absurd (hr0 _ hm).2.1 (Nat.lt_irrefl _), hnd⟩, fun r hm => ?_⟩
      rcases List.mem_cons.1 hm with rfl | hm
      · refine ⟨h.gone.size, by simp, alloc_new _ _, fun id base hl hρ => ?_⟩
        have := h.ok.there hl hρ
        omega
      · exact hr r hm
    · have := run_enterLoop_outer (P := P) (w := Γ.w) fn a.tmps ps asg body
      simpa using this

theorem run_callFunc {f : FuncId} {fn : Func} (hf : P.funcs[f]? = some fn) (hname : (fn.name == "runtime.NumGoroutine") = false) (hbody : fn.body.isNone = false) (args : Array Value) (w : World) :
    (callFunc f args).run P w = .ok (.enter f args) w := by
  simp only [callFunc, Sem.run_bind, run_program, Result.andThen_ok, hf, hname, hbody, Bool.false_eq_true, if_false, Sem.run_pure]

theorem range_ok (hF : ∀ f, F.fn f) (hdep : F.depth = none) (hc : CallOk F P call) (hround : ∀ l, F.round = some l → ∃ r : Loop, Γe.w.heap[l]? = some (.loop r)) {fc : FC} {n : Nat} {g : Operand} {ps : Array Tmp} {asg body : Code} {r : Exit × St} {Q : Exit → Act → World → Prop}
    (hok : codeOk N fc.draws (.rangeFunc g ps asg body) = true) (hs : (entry fc (.rangeFunc g ps asg body) g st).bind (fun x => (call x.1 x.2.1 x.2.2 (st.nx + 1)).bind fun r => left st.nx r.2.1 r.2.2) = some r)
    (h : StR Γe N st a Γ) (hQ : ∀ a' Δ, StR Γe N r.2 a' Δ → Q r.1 a' Δ.w) : (Code.rangeFunc g ps asg body).wpIn F n P Q a Γ.w := by
  simp only [Option.bind_eq_some_iff] at hs
  obtain ⟨⟨f, args, hp0⟩, hent, ⟨v, hp', nx'⟩, hcall, hleft⟩ := hs
  unfold entry at hent
  split at hent
  · rename_i f' first cap hg
    split at hent
    · cases hent
    · rename_i hfy
      have hfy : Nat.beq f' yn = false := by
        cases hb : Nat.beq f' yn with
        | false => rfl
        | true => exact absurd hb hfy
      cases hent
      obtain ⟨⟨fn, hfn, hname, hbody⟩, hx⟩ := (hc _ _ _ _ _ _ _ hcall).1 hfy
      refine wpIn_rangeFunc fun fid hfid => ?_
      obtain ⟨l, mark, Γ2, hrun, h2, hn2, hρ2, rec, hrec, htmps⟩ := enter_ok (P := P) hround h fid hok
      have hgv := h2.eval g
      have hg2 : a.eval g = ({ a with defers := mark ++ a.defers } : Act).eval g := by cases g <;> rfl
      rw [hg] at hgv
      obtain ⟨ua, uc, hgu, hla, hlc, hva, hvc⟩ := hgv.fn_inv
      have hy : VR Γ2 (.yld st.nx) (.func (.yield l) #[] #[]) := .yld st.nx l hn2 fun _ _ _ _ _ => hρ2
      have hargs : VRs Γ2 (first ++ [.yld st.nx] ++ cap) (ua ++ #[.func (.yield l) #[] #[]] ++ uc) :=
        (VRs.append ⟨hla, hva⟩ ⟨rfl, fun i v u hv hu => by
          cases i with
          | zero => simp at hv hu; subst hv hu; exact hy
          | succ i => simp at hv⟩).append ⟨hlc, hvc⟩
      refine ⟨l, mark, Γ2.w, { target := .fn (.func f) uc, args := ua ++ #[.func (.yield l) #[] #[]] }, Γ2.w, f, ua ++ #[.func (.yield l) #[] #[]] ++ uc, Γ2.w, hrun, ?_, fun _ _ => hF _, ?_, fun hd => (by rw [hdep] at hd; cases hd), ?_⟩
      · rw [← hg2] at hgu
        simp only [resolve, hgu, Deferred.ofValue]
        simp [Act.eval]
      · simp only [invoke]; exact run_callFunc hfn hname hbody _ _
      · refine CallsIn.mono (hx (n - 1) Γ2 _ h2.ok h2.hp h2.n hargs) ?_
        rintro en w' hen
        cases en with
        | panicked c => exact hen.elim
        | outgrown => exact hen.elim
        | returned u =>
          obtain ⟨Δ, rfl, HΔ, hh, hn', hev, _⟩ := hen
          obtain ⟨rec3, hrec3, hsame⟩ := hev.lp l rec hrec
          have fin : ∀ (s : LS) (fc' : FC) (c' : Code) (tm' : List (Nat × V)), look hp' st.nx = some (.loop s fc' c' tm') → rec3.state ≠ .busy → ∃ Δ' : Cx, (Instr.endLoop l).run P Δ.w = .ok rec3.pending Δ'.w ∧
              StR Γe N { tm := tm', hp := put hp' st.nx .dead, nx := nx' } { a with defers := mark ++ a.defers } Δ' := by
            intro s fc' c' tm' hlk hnb
            have hΔ : Δ.h st.nx = some (.loop s fc' c' tm') := by rw [hh]; exact hlk
            have hρ : Δ.ρ st.nx = some (l, 0) := (hev.keep st.nx hn2 (live_loop hΔ)).2.trans hρ2
            obtain ⟨b, r', hr', hb', _, hv'⟩ := HΔ.loop _ _ _ _ _ hΔ
            rw [hρ] at hr'; cases hr'
            rw [hrec3] at hb'; cases hb'
            obtain ⟨H4, E4⟩ := step_putLoop (r' := { rec3 with state := .exhausted }) HΔ hΔ hρ hrec3 ⟨rfl, rfl, rfl, rfl, rfl, rfl⟩ hv' (.inl rfl)
            refine ⟨_, run_endLoop hrec3 hnb, H4, by rw [look_putO, hh], hn', (h2.gone.trans hev).trans E4, fun t x hx => ?_, h2.sz, (h2.df.evo hev).evo E4⟩
            have e3 : rec3.tmps = a.tmps := hsame.2.1.trans htmps
            show VR _ x (a.tmps.getD t undef)
            rw [← e3]
            exact (hv' t x hx).evo E4
          show ∃ jump w4, (Instr.endLoop l).run P Δ.w = .ok jump w4 ∧ _
          unfold left at hleft
          split at hleft
          · rename_i fc' c' tm' hlk
            cases hleft
            have hΔ : Δ.h st.nx = some (.loop .ready fc' c' tm') := by rw [hh]; exact hlk
            have hρ : Δ.ρ st.nx = some (l, 0) := (hev.keep st.nx hn2 (live_loop hΔ)).2.trans hρ2
            obtain ⟨b, r', hr', hb', hi', _⟩ := HΔ.loop _ _ _ _ _ hΔ
            rw [hρ] at hr'; cases hr'
            rw [hrec3] at hb'; cases hb'
            obtain ⟨hst, hpe⟩ : rec3.state = .ready ∧ rec3.pending = none := hi'.2
            obtain ⟨Δ', hend, h5⟩ := fin _ _ _ _ hlk (by rw [hst]; simp)
            rw [hpe] at hend
            exact ⟨none, _, hend, hQ _ Δ' h5⟩
          · rename_i e fc' c' tm' hlk
            cases hleft
            have hΔ : Δ.h st.nx = some (.loop (.done e) fc' c' tm') := by rw [hh]; exact hlk
            have hρ : Δ.ρ st.nx = some (l, 0) := (hev.keep st.nx hn2 (live_loop hΔ)).2.trans hρ2
            obtain ⟨b, r', hr', hb', hi', _⟩ := HΔ.loop _ _ _ _ _ hΔ
            rw [hρ] at hr'; cases hr'
            rw [hrec3] at hb'; cases hb'
            have hi2 := hi'.2
            cases e with
            | ret =>
              obtain ⟨hst, hpe⟩ : rec3.state = .done ∧ rec3.pending = some .ret := hi2
              obtain ⟨Δ', hend, h5⟩ := fin _ _ _ _ hlk (by rw [hst]; simp)
              rw [hpe] at hend
              exact ⟨some .ret, _, hend, wpIn_ret (hQ _ Δ' h5)⟩
            | exit i =>
              obtain ⟨hst, hpe⟩ : rec3.state = .done ∧ rec3.pending = some (.exit i) := hi2
              obtain ⟨Δ', hend, h5⟩ := fin _ _ _ _ hlk (by rw [hst]; simp)
              rw [hpe] at hend
              exact ⟨some (.exit i), _, hend, wpIn_exit (hQ _ Δ' h5)⟩
            | _ => exact hi2.elim
          · cases hleft
  · cases hent

theorem code_ok (hF : ∀ f, F.fn f) (hdep : F.depth = none) (hc : CallOk F P call) (hm : P.follows .mixedOrders = true) (hround : ∀ l, F.round = some l → ∃ r : Loop, Γe.w.heap[l]? = some (.loop r)) {n0 : Nat} (hn0 : ∀ k, n0 ≤ k → ¬ Γe.n k) {fc : FC} {k n : Nat} : ∀ (c : Code) {st : St} {a : Act} {Γ : Cx} {r : Exit × St} {Q : Exit → Act → World → Prop},
    codeOk N fc.draws c = true → evalCode P C call n0 fc k c st = some r → StR Γe N st a Γ → (∀ a' Δ, StR Γe N r.2 a' Δ → Q r.1 a' Δ.w) → c.wpIn F n P Q a Γ.w := by
  intro c
  induction c with
  | skip => intro st a Γ r Q hok hs h hQ; simp only [evalCode, Option.some.injEq] at hs; subst hs; exact wpIn_skip (hQ a Γ h)
  | label l => intro st a Γ r Q hok hs h hQ; simp only [evalCode, Option.some.injEq] at hs; subst hs; exact wpIn_label (hQ a Γ h)
  | exit id => intro st a Γ r Q hok hs h hQ; simp only [evalCode, Option.some.injEq] at hs; subst hs; exact wpIn_exit (hQ a Γ h)
  | ret => intro st a Γ r Q hok hs h hQ; simp only [evalCode, Option.some.injEq] at hs; subst hs; exact wpIn_ret (hQ a Γ h)
  | region id ops draw =>
    intro st a Γ r Q hok hs h hQ
    simp only [codeOk, Bool.and_eq_true] at hok
    cases draw with
    | true =>
      simp only [evalCode, if_true] at hs
      simp only [Bool.not_true, Bool.false_or, Bool.and_eq_true] at hok
      by_cases hl : isLst ((look fc.draws id).getD []) = true
      · rw [if_pos hl] at hs hok
        simp only [Option.bind_eq_some_iff, Bool.and_eq_true] at hs hok
        obtain ⟨⟨st1, l⟩, h1, h2⟩ := hs
        split at h2
        · rename_i hp
          split at h2
          · rename_i o ho
            rw [Option.map_eq_some_iff] at h2
            obtain ⟨st2, h3, h2⟩ := h2
            cases h2
            exact last_ok hF hdep hc hm h hok.1 hok.2.1 hok.2.2.1 hok.2.2.2 h1 hp ho h3 fun a' Δ h' => hQ a' Δ (h'.restrict fc.keep)
          · cases h2
        · cases h2
      · rw [if_neg hl] at hs hok
        rw [Option.bind_eq_some_iff] at hs
        obtain ⟨⟨st1, l⟩, h1, h2⟩ := hs
        split at h2
        · rename_i hp
          cases h2
          exact draw_ok hF hdep hc hm h hok.1 hok.2.1 hok.2.2 h1 hp fun a' Δ h' => hQ a' Δ (h'.restrict fc.keep)
        · cases h2
    | false =>
      simp only [evalCode, Bool.false_eq_true, if_false, Option.map_eq_some_iff] at hs
      obtain ⟨st1, h1, h2⟩ := hs
      cases h2
      refine wpIn_region ?_
      have := evalOps_ok (n := n) (Q := Q) hF hdep hc hok.1 ops.toList 0 st a Γ rfl h h1 fun a' Δ h' => hQ a' Δ (h'.restrict fc.keep)
      rwa [Nat.sub_zero, ← List.range_eq_range'] at this
  | seq x y ihx ihy =>
    intro st a Γ r Q hok hs h hQ
    simp only [codeOk, Bool.and_eq_true] at hok
    simp only [evalCode, Option.bind_eq_some_iff] at hs
    obtain ⟨⟨e, st1⟩, h1, h2⟩ := hs
    refine wpIn_seq (ihx hok.1 h1 h ?_)
    intro a' Δ h'
    cases e with
    | normal => exact ihy hok.2 h2 h' hQ
    | _ => cases h2; exact hQ a' Δ h'
  | cond c x y ihx ihy =>
    intro st a Γ r Q hok hs h hQ
    simp only [codeOk, Bool.and_eq_true] at hok
    simp only [evalCode] at hs
    split at hs
    · rename_i t hcv
      have hcb := h.eval c
      rw [hcv] at hcb
      refine wpIn_cond hcb.bool_inv ?_
      cases t with
      | true => exact ihx hok.1 hs h hQ
      | false => exact ihy hok.2 hs h hQ
    · cases hs
  | block id b ih =>
    intro st a Γ r Q hok hs h hQ
    simp only [codeOk] at hok
    simp only [evalCode, Option.map_eq_some_iff] at hs
    obtain ⟨⟨e, st1⟩, h1, h2⟩ := hs
    refine wpIn_block (ih hok h1 h ?_)
    intro a' Δ h'
    cases e with
    | exit i =>
      simp only at h2
      simp only [Exit.inBlock]
      by_cases hi : i = id
      · rw [if_pos hi] at h2; rw [if_pos hi]; subst h2; exact hQ a' Δ h'
      · rw [if_neg hi] at h2; rw [if_neg hi]; subst h2; exact hQ a' Δ h'
    | _ => subst h2; exact hQ a' Δ h'
  | loop b ih =>
    intro st a Γ r Q hok hs h hQ
    simp only [codeOk] at hok
    simp only [evalCode] at hs
    generalize hhd : head n0 (st.tm.map (·.1)) fc.acc = hd at hs
    have hdok : ∀ {st1 a1 Γ1}, StR Γe N st1 a1 Γ1 → ∃ Γ', Γ'.w = Γ1.w ∧ StR Γe N (hd st1) a1 Γ' := fun h1 => by rw [← hhd]; exact head_ok h1 hn0 _ _
    obtain ⟨Γ1, hw1, h1⟩ := hdok h
    rw [← hw1]
    refine wpIn_loop_count (fun j a w => ∃ st Γ, Γ.w = w ∧ StR Γe N st a Γ ∧ iter (evalCode P C call n0 fc k b) hd j st = some r) k ⟨_, Γ1, rfl, h1, hs⟩ ?_
    rintro j a' w' ⟨st2, Γ2, rfl, h2, hit⟩
    cases j with
    | zero => simp [iter] at hit
    | succ j =>
      simp only [iter, Option.bind_eq_some_iff] at hit
      obtain ⟨⟨e, st3⟩, h3, h4⟩ := hit
      refine ih hok h3 h2 ?_
      intro a3 Δ3 h3'
      cases e with
      | normal =>
        obtain ⟨Γ4, hw4, h4'⟩ := hdok h3'
        exact ⟨j, Nat.lt_succ_self j, _, Γ4, hw4, h4', h4⟩
      | _ => cases h4; exact hQ a3 Δ3 h3'
  | scope b ih =>
    intro st a Γ r Q hok hs h hQ
    simp only [codeOk] at hok
    simp only [evalCode, Option.bind_eq_some_iff] at hs
    obtain ⟨⟨e, st1⟩, h1, h2⟩ := hs
    refine wpIn_scope' (ih hok h1 h ?_)
    intro a' Δ h'
    cases e with
    | goto l => cases h2
    | _ => cases h2; exact ⟨by simp, hQ a' Δ h'⟩
  | rangeFunc g ps asg body iha ihb =>
    intro st a Γ r Q hok hs h hQ
    simp only [evalCode] at hs
    obtain ⟨Γ0, hw0, h0⟩ := accs_ok fc.acc h
    obtain ⟨Γ1, hw1', h1⟩ := gc_ok h0 n0 hn0
    have hw1 := hw1'.trans hw0
    rw [← hw1]
    exact range_ok hF hdep hc hround hok hs h1 hQ
  | _ => intro st a Γ r Q hok hs h hQ; simp [evalCode] at hs

def resOne (tmps : Array Value) : ResultVar → Sem Value
  | .tmp t => pure (tmps.getD t undef)
  | .cell a t => do loadVar t (← asAddr (tmps.getD a undef))
theorem results_eq (fn : Func) (tmps : Array Value) : results fn tmps = (fn.results.mapM (resOne tmps) >>= fun vs => pure (if h : vs.size = 1 then vs[0] else .tuple vs)) := rfl

theorem evalRes_ok (h : StR Γe N st a Γ) : ∀ {l : List ResultVar} {vs : List V}, evalRes P st l = some vs →
    ∃ us : List Value, (l.mapM (resOne a.tmps)).run P Γ.w = .ok us Γ.w ∧ vs.length = us.length ∧ ∀ (i : Nat) (v : V) (u : Value), vs[i]? = some v → us[i]? = some u → VR Γ v u := by
  intro l
  induction l with
  | nil => intro vs hs; simp only [evalRes, Option.some.injEq] at hs; subst hs; exact ⟨[], rfl, rfl, by simp⟩
  | cons x r ih =>
    intro vs hs
    have fin : ∀ (v : V) (u : Value) (vs' : List V) (us' : List Value), VR Γ v u → vs'.length = us'.length → (∀ (i : Nat) (v : V) (u : Value), vs'[i]? = some v → us'[i]? = some u → VR Γ v u) →
        (v :: vs').length = (u :: us').length ∧ ∀ (i : Nat) (v1 : V) (u1 : Value), (v :: vs')[i]? = some v1 → (u :: us')[i]? = some u1 → VR Γ v1 u1 := by
      intro v u vs' us' hv hl hvs
      refine ⟨by simp [hl], fun i v1 u1 h1 h2 => ?_⟩
      cases i with
      | zero => simp at h1 h2; subst h1 h2; exact hv
      | succ i => exact hvs i v1 u1 (by simpa using h1) (by simpa using h2)
    cases x with
    | tmp t =>
      simp only [evalRes, Option.bind_eq_some_iff, Option.map_eq_some_iff] at hs
      obtain ⟨v, hv, vs', hvs, rfl⟩ := hs
      obtain ⟨us', hrun, hl, hr⟩ := ih hvs
      refine ⟨a.tmps.getD t undef :: us', ?_, fin v _ vs' us' (h.tm t v hv) hl hr⟩
      rw [List.mapM_cons]
      simp [resOne, hrun]
    | cell b t =>
      simp only [evalRes] at hs
      split at hs
      · rename_i id off hp
        split at hs
        · rename_i cs hid
          simp only [Option.bind_eq_some_iff, Option.map_eq_some_iff] at hs
          obtain ⟨v, hv, vs', hvs, rfl⟩ := hs
          obtain ⟨us', hrun, hl, hr⟩ := ih hvs
          have hpv := h.eval (.tmp b)
          rw [hp] at hpv
          obtain ⟨b0, hu, _, hρ⟩ := hpv.ptr_inv
          have hid' : Γ.h id = some (.var cs) := by rw [h.hp]; exact hid
          obtain ⟨u, hlrun, hvu⟩ := readC_load (P := P) (o := 0) (b := b0) hv (var_cells h.ok hid' (hρ _ hid' rfl))
          rw [Nat.zero_add] at hlrun
          refine ⟨u :: us', ?_, fin v u vs' us' hvu hl hr⟩
          simp only [Act.eval] at hu
          rw [List.mapM_cons]
          simp [resOne, hrun, hu, asAddr, hlrun]
        · cases hs
      · cases hs

theorem results_ok {fn : Func} {vs : List V} (h : StR Γe N st a Γ) (hs : evalRes P st fn.results.toList = some vs) :
    ∃ u, (results fn a.tmps).run P Γ.w = .ok u Γ.w ∧ VR Γ (pack vs) u := by
  obtain ⟨us, hrun, hl, hr⟩ := evalRes_ok h hs
  have hres : (results fn a.tmps).run P Γ.w = .ok (if h : us.toArray.size = 1 then us.toArray[0] else .tuple us.toArray) Γ.w := by
    rw [results_eq, Array.mapM_eq_mapM_toList]
    simp only [Sem.run_bind, map_eq_pure_bind]
    rw [hrun]
    simp
  refine ⟨_, hres, ?_⟩
  by_cases h1 : us.length = 1
  · obtain ⟨u, rfl⟩ := List.length_eq_one_iff.1 h1
    obtain ⟨v, rfl⟩ := List.length_eq_one_iff.1 (hl.trans h1)
    exact hr 0 v u rfl rfl
  · rw [dif_neg (by simpa using h1)]
    have : VR Γ (.tup vs) (.tuple us.toArray) := .tup vs us.toArray (by simpa using hl) (by simpa using hr)
    match vs, hl, this with
    | [], _, this => exact this
    | [v], hl, _ => simp at hl; omega
    | _ :: _ :: _, _, this => exact this

theorem look_idx : ∀ (vs : List V) (n t : Nat) (v : V), look (idx n vs) t = some v → n ≤ t ∧ vs[t - n]? = some v := by
  intro vs
  induction vs with
  | nil => intro n t v h; simp [idx, look] at h
  | cons x r ih =>
    intro n t v h
    simp only [idx, look] at h
    split at h
    · rename_i e; cases h; subst e; exact ⟨Nat.le_refl _, by simp⟩
    · obtain ⟨h1, h2⟩ := ih (n + 1) t v h
      exact ⟨by omega, by rw [show t - n = (t - (n + 1)) + 1 by omega]; simpa using h2⟩

theorem progOk_of (hp : progOk P C = true) {f : Nat} {fc : FC} {fn : Func} (h1 : look C.fcs f = some fc) (h2 : P.funcs[f]? = some fn) : funcOk fc fn = true := by
  simp only [progOk, List.all_eq_true] at hp
  have := hp (f, fc) (look_mem h1)
  rw [h2] at this
  exact this

/-- **A round.** -/
theorem round_ok (hF : ∀ f, F.fn f) (hdep : F.depth = none) (hc : CallOk F P call) (hm : P.follows .mixedOrders = true) {k : Nat} {args : List V} {hp : List (Nat × Ob)} {nx : Nat} {v : V} {hp' : List (Nat × Ob)} {nx' : Nat}
    (hs : evalRound P C call k args hp nx = some (v, hp', nx')) : RndOk F P args hp nx v hp' nx' := by
  unfold evalRound at hs
  simp only [Option.bind_eq_some_iff] at hs
  obtain ⟨⟨id, fc, asg, body, tm1⟩, hro, ⟨e1, st1⟩, h1, hs⟩ := hs
  unfold roundOf at hro
  split at hro
  · rename_i id' ys
    split at hro
    · rename_i fc' g ps asg' body' tm hlk
      split at hro
      · rename_i hsz
        cases hro
        refine ⟨id, ys, rfl, fun n Γ l us H hh hn hy hys => ?_⟩
        obtain ⟨l', hl', hidn, hρ⟩ := hy.yld_inv
        cases hl'
        have hΓ : Γ.h id = some (.loop .ready fc (.rangeFunc g ps asg body) tm) := by rw [hh]; exact hlk
        have hρ := hρ _ _ _ _ hΓ
        obtain ⟨b, r, hr, hb, ⟨⟨N, g', hcode, hka, hkb, hps, hN⟩, hst, hpe⟩, hv⟩ := H.loop _ _ _ _ _ hΓ
        rw [hρ] at hr; cases hr
        simp only [Code.rangeFunc.injEq] at hcode
        obtain ⟨_, hp1, ha1, hb1⟩ := hcode
        have hus : us.size = r.params.size := by rw [← hp1, hsz]; exact hys.1.symm
        refine ⟨r, hb, hus, roundIn_of_wpIn (hF _) ?_⟩
        obtain ⟨hv1, hsz1⟩ := setps_ok (Γ := Γ) ps.toList ys us.toList tm r.tmps (by simpa using hsz) (by simpa using hys.1) (by rw [hp1]; exact fun d hd => Nat.lt_of_lt_of_le (hps d hd) hN) hv (fun i v u hv hu => hys.2 i v u hv (by simpa using hu))
        have hfold : (r.params.zip us).foldl (fun tmps (x : Nat × Value) => tmps.setIfInBounds x.1 x.2) r.tmps = (ps.toList.zip us.toList).foldl (fun tmps (x : Nat × Value) => tmps.setIfInBounds x.1 x.2) r.tmps := by
          rw [← Array.foldl_toList, Array.toList_zip, hp1]
        have h0 : StR Γ N { tm := setps tm ps.toList ys, hp, nx } { tmps := (r.params.zip us).foldl (fun tmps (x : Nat × Value) => tmps.setIfInBounds x.1 x.2) r.tmps, defers := [] } Γ := by
          refine ⟨H, hh, hn, Evo.refl Γ, ?_, ?_, Marks.nil _ _⟩
          · simp only [hfold]; exact hv1
          · simp only [hfold]
            have : ((ps.toList.zip us.toList).foldl (fun tmps (x : Nat × Value) => tmps.setIfInBounds x.1 x.2) r.tmps).size = r.tmps.size := hsz1
            omega
        have hround : ∀ l0, (F.inRound l).round = some l0 → ∃ r : Loop, Γ.w.heap[l0]? = some (.loop r) := by
          intro l0 hl0
          simp only [Fence.inRound_round, Option.some.injEq] at hl0
          subst hl0; exact ⟨r, hb⟩
        have hc' : CallOk (F.inRound l) P call := hc
        rw [← ha1, ← hb1]
        refine code_ok (F := F.inRound l) hF hdep hc' hm hround hn asg (by rw [ha1]; exact hka) h1 h0 ?_
        intro a1 Δ1 g1
        cases e1 with
        | normal =>
          simp only [Option.bind_eq_some_iff] at hs
          obtain ⟨hp2, hbeg, ⟨e2, st2⟩, h2, hend⟩ := hs
          unfold begun at hbeg
          split at hbeg
          · rename_i fc2 c2 tm2 hlk2
            cases hbeg
            have hΔ1 : Δ1.h id = some (.loop .ready fc2 c2 tm2) := by rw [g1.hp]; exact hlk2
            have hρ1 : Δ1.ρ id = some (l, 0) := (g1.gone.keep id hidn (live_loop hΔ1)).2.trans hρ
            obtain ⟨b1, r1, hr1, hbk1, hi1, hv1'⟩ := g1.ok.loop _ _ _ _ _ hΔ1
            rw [hρ1] at hr1; cases hr1
            obtain ⟨hst1, hpe1⟩ : r1.state = .ready ∧ r1.pending = none := hi1.2
            obtain ⟨H2, E2⟩ := step_putLoop (r' := { r1 with state := .busy }) g1.ok hΔ1 hρ1 hbk1 ⟨rfl, rfl, rfl, rfl, rfl, rfl⟩ hv1' (.inr ⟨.busy, rfl, hi1.1, rfl⟩)
            refine ⟨_, run_beginRound hbk1 hst1, ?_⟩
            have g2 : StR Γ N { tm := st1.tm, hp := put st1.hp id (.loop .busy fc2 c2 tm2), nx := st1.nx } a1 { Δ1 with h := upd Δ1.h id (some (.loop .busy fc2 c2 tm2)), w := Δ1.w.putObj l (.loop { r1 with state := .busy }) } :=
              ⟨H2, by simp only; rw [look_putO, g1.hp], g1.n, g1.gone.trans E2, fun t x hx => (g1.tm t x hx).evo E2, g1.sz, g1.df.evo E2⟩
            refine code_ok (F := F.inRound l) hF hdep hc' hm hround hn body (by rw [hb1]; exact hkb) h2 g2 ?_
            intro a3 Δ3 g3
            unfold ended at hend
            split at hend
            · rename_i fc3 c3 tm3 hlk3
              have hΔ3 : Δ3.h id = some (.loop .busy fc3 c3 tm3) := by rw [g3.hp]; exact hlk3
              have hρ3 : Δ3.ρ id = some (l, 0) := (g3.gone.keep id hidn (live_loop hΔ3)).2.trans hρ
              obtain ⟨b3, r3, hr3, hbk3, hi3, hv3⟩ := g3.ok.loop _ _ _ _ _ hΔ3
              rw [hρ3] at hr3; cases hr3
              have fin : ∀ (jump : Option Code) (s' : LS), LoopIs { r3 with state := if jump.isNone then .ready else .done, pending := jump } s' fc3 c3 →
                  (Instr.endRound l jump).run P Δ3.w = .ok (.bool jump.isNone) (Δ3.w.putObj l (.loop { r3 with state := if jump.isNone then .ready else .done, pending := jump })) ∧
                  ∃ Δ : Cx, Δ.w = Δ3.w.putObj l (.loop { r3 with state := if jump.isNone then .ready else .done, pending := jump }) ∧ HOk Δ ∧ Δ.h = look (put st2.hp id (.loop s' fc3 c3 tm3)) ∧ (∀ k, st2.nx ≤ k → ¬ Δ.n k) ∧ Evo Γ Δ := by
                intro jump s' hi'
                obtain ⟨H4, E4⟩ := step_putLoop (r' := { r3 with state := if jump.isNone then .ready else .done, pending := jump }) g3.ok hΔ3 hρ3 hbk3 ⟨rfl, rfl, rfl, rfl, rfl, rfl⟩ hv3 (.inr ⟨s', rfl, hi'⟩)
                exact ⟨run_endRound jump hbk3, _, rfl, H4, by simp only; rw [look_putO, g3.hp], g3.n, g3.gone.trans E4⟩
              cases e2 with
              | normal =>
                cases hend
                obtain ⟨f1, Δ, hw, HΔ, hhΔ, hnΔ, hE⟩ := fin none .ready ⟨hi3.1, rfl, rfl⟩
                exact ⟨_, _, f1, Δ, hw, HΔ, hhΔ, hnΔ, hE, .pure (.bool true)⟩
              | ret =>
                cases hend
                obtain ⟨f1, Δ, hw, HΔ, hhΔ, hnΔ, hE⟩ := fin (some .ret) (.done .ret) ⟨hi3.1, rfl, rfl⟩
                exact ⟨_, _, f1, Δ, hw, HΔ, hhΔ, hnΔ, hE, .pure (.bool false)⟩
              | exit i =>
                cases hend
                obtain ⟨f1, Δ, hw, HΔ, hhΔ, hnΔ, hE⟩ := fin (some (.exit i)) (.done (.exit i)) ⟨hi3.1, rfl, rfl⟩
                exact ⟨_, _, f1, Δ, hw, HΔ, hhΔ, hnΔ, hE, .pure (.bool false)⟩
              | _ => cases hend
            · cases hend
          · cases hbeg
        | _ => cases hs
      · cases hro
    · cases hro
  · cases hro

/-- The library's functions answer as is told of them. -/
def LibOk (F : Fence) (P : Program) (C : Cfg) : Prop :=
  ∀ f kind args hp nx v hp' nx', look C.lib f = some kind → libSem kind args hp nx = some (v, hp', nx') → FnOk F P f args hp nx v hp' nx'
theorem LibOk.nil {F : Fence} (h : C.lib = []) : LibOk F P C := fun f kind args hp nx v hp' nx' hl => by rw [h] at hl; cases hl
theorem evalFn_ok (hF : ∀ f, F.fn f) (hdep : F.depth = none) (hm : P.follows .mixedOrders = true) (hp : progOk P C = true) (hro : F.round = none) (hlib : LibOk F P C) : ∀ k, CallOk F P (evalFn P C k) := by
  intro k
  induction k with
  | zero => intro f args hp nx v hp' nx' h; simp [evalFn] at h
  | succ k ih =>
    intro f args h0 nx v hp' nx' h
    simp only [evalFn] at h
    split at h
    · rename_i hfy
      exact ⟨fun hf => (by rw [hf] at hfy; cases hfy), fun _ => round_ok hF hdep ih hm h⟩
    · rename_i hfy
      refine ⟨fun _ => ?_, fun hf => absurd hf hfy⟩
      unfold evalBody at h
      split at h
      · rename_i kind hk
        exact hlib f kind args h0 nx v hp' nx' hk h
      split at h
      · rename_i fc fn hfc hfn
        have hfok := progOk_of hp hfc hfn
        split at h
        · rename_i c hbody
          rw [Option.bind_eq_some_iff] at h
          obtain ⟨⟨e, st1⟩, h1, h2⟩ := h
          simp only [funcOk, hbody, Bool.and_eq_true, Bool.not_eq_true'] at hfok
          refine ⟨⟨fn, hfn, hfok.2, by rw [hbody]; rfl⟩, fun n Γ us H hh hn hargs => ?_⟩
          refine callsIn_of_wp_marks hfn hbody (hF f) ?_ hro
          have h0' : StR Γ fn.ntmps { tm := idx 0 args, hp := h0, nx } { tmps := us ++ Array.replicate (fn.ntmps - us.size) undef, defers := [] } Γ := by
            refine ⟨H, hh, hn, Evo.refl Γ, fun t x hx => ?_, by simp; omega, Marks.nil _ _⟩
            obtain ⟨_, hx⟩ := look_idx args 0 t x hx
            rw [Nat.sub_zero] at hx
            have ht : t < us.size := by rw [← hargs.1]; exact (List.getElem?_eq_some_iff.1 hx).1
            refine hargs.2 t x _ hx ?_
            rw [Array.getD_eq_getD_getElem?, Array.getElem?_append_left ht, Array.getElem?_eq_getElem ht]
            rfl
          refine code_ok hF hdep ih hm (fun l hl => by rw [hro] at hl; cases hl) hn c hfok.1 h1 h0' ?_
          intro a' Δ h'
          have fin : (evalRes P st1 fn.results.toList).map (fun vs => (pack vs, st1.hp, st1.nx)) = some (v, hp', nx') →
              LeavesInM F n P fn a'.tmps (fun e w' => match e with
                | .returned u => ∃ Δ : Cx, Δ.w = w' ∧ HOk Δ ∧ Δ.h = look hp' ∧ (∀ k, nx' ≤ k → ¬ Δ.n k) ∧ Evo Γ Δ ∧ VR Δ v u
                | _ => False) a'.defers .returning Δ.w := by
            intro h2
            rw [Option.map_eq_some_iff] at h2
            obtain ⟨vs, hvs, he⟩ := h2
            cases he
            obtain ⟨rs, hd, hnd, hr⟩ := h'.df
            refine leaves_ok rs a' Δ h' hd hnd hr fun a'' Γ' ht h'' => ?_
            obtain ⟨u, hrun, hv⟩ := results_ok h'' hvs
            rw [ht] at hrun
            exact ⟨u, hrun, Γ', rfl, h''.ok, h''.hp, h''.n, h''.gone, hv⟩
          cases e with
          | normal => exact fin h2
          | ret => exact fin h2
          | _ => cases h2
        · cases h
      · cases h

/-- **Whatever the evaluator answers the model answers.** -/
theorem evalP_ok (hm : P.follows .mixedOrders = true) (hp : progOk P C = true) (hlib : LibOk Fence.wide P C) {k f : Nat} {args : List V} {r : V} (h : evalP P C k f args = some r) {w : World} {Z : Nat → Nat → Prop} (hz : ∀ b o, Z b o → b < w.heap.size) {us : Array Value}
    (hargs : VRs (bare w Z) args us) : Calls P f us w fun e w' => match e with
        | .returned u => (∀ k, k < w.heap.size → w'.heap[k]? = w.heap[k]?) ∧ w.heap.size ≤ w'.heap.size ∧ w'.os = w.os ∧ w'.tape = w.tape ∧ w'.output = w.output ∧
            VR (bare w' fun b o => Z b o ∨ (w.heap.size ≤ b ∧ b < w'.heap.size)) r u
        | _ => False :=
  callsIn_wide.1 (callP_sound (evalFn_ok (F := Fence.wide) (fun _ => trivial) rfl hm hp rfl hlib k) (by
    cases hf : Nat.beq f yn with
    | false => rfl
    | true =>
      unfold evalP callP at h
      cases k with
      | zero => simp [evalFn] at h
      | succ k =>
        simp only [evalFn, hf, if_true, evalRound] at h
        have : roundOf args [] = none := by
          unfold roundOf
          split
          · rfl
          · rfl
        rw [this] at h; cases h) h 0 hz hargs)
end Sym
end Go
