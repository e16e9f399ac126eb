/- DERIVED. Code, functions, programs: whatever the evaluator answers the model answers. -/
import Derived.Test.YtloboanoionagaaSymCode8
set_option linter.unusedVariables false
set_option linter.unusedSimpArgs false
namespace Go

theorem stepR_scope' {P : Program} {b : Frame} {a : Act} {k : List Item} {cs : List Frame} {w : World} {c : Code} :
    step P (lone (b.atR a (.code (.scope c) :: k)) cs w) = .next (lone (b.atR a (.code c :: .inScope c :: k)) cs w) :=
  step_lone_go (by simp [stepG, stepG.exec, Frame.atR])
theorem stepR_inScope' {P : Program} {b : Frame} {a : Act} {k : List Item} {cs : List Frame} {w : World} {c : Code} :
    step P (lone (b.atR a (.inScope c :: k)) cs w) = .next (lone (b.atR a k) cs w) :=
  step_lone_go (by simp [stepG, stepG.exec, Frame.atR])

theorem wpIn_scope' {F : Fence} {n : Nat} {P : Program} {Q : Exit → Act → World → Prop} {a : Act} {w : World} {c : Code} (h : c.wpIn F n P (fun e a w => (∀ l, e ≠ .goto l) ∧ Q e a w) a w) : (Code.scope c).wpIn F n P Q a w := by
  intro b k cs hro hb hr
  have h0 : (lone (b.atR a (.code (.scope c) :: k)) cs w).fenced P F := fenced_calm hb hr rfl
  obtain ⟨e, a₁, w₁, ⟨hg, hq⟩, harr⟩ := h b (.inScope c :: k) cs hro hb hr
  cases e with
  | normal => exact ⟨.normal, a₁, w₁, hq, .head h0 stepR_scope' (StepsIn.trans harr (.one (fenced_calm hb hr rfl) stepR_inScope'))⟩
  | exit id =>
    have hx : exitTo id (.inScope c :: k) = exitTo id k := by simp [exitTo]
    exact ⟨_, a₁, w₁, hq, fun k' hk => .head h0 stepR_scope' (harr.1 k' (by rw [hx]; exact hk)),
      fun hr' hk => let ⟨k₁, h1, h2⟩ := harr.2 hr' (by rw [hx]; exact hk); ⟨k₁, h1, .head h0 stepR_scope' h2⟩⟩
  | goto l => exact absurd rfl (hg l)
  | ret => exact ⟨_, a₁, w₁, hq, .of_steps (.one h0 stepR_scope') harr⟩
  | panic ch => exact ⟨_, a₁, w₁, hq, .of_steps (.one h0 stepR_scope') harr⟩
  | outgrown => exact ⟨_, a₁, w₁, hq, .of_steps (.one h0 stepR_scope') harr⟩

/-- A loop whose rounds are counted down. -/
theorem wpIn_loop_count {F : Fence} {n : Nat} {P : Program} {Q : Exit → Act → World → Prop} {a : Act} {w : World} {c : Code} (J : Nat → Act → World → Prop) (j : Nat) (h₀ : J j a w)
    (round : ∀ j a w, J j a w → c.wpIn F n P (Exit.then (fun a' w' => ∃ j', j' < j ∧ J j' a' w') Q) a w) : (Code.loop c).wpIn F n P Q a w := by
  classical
  have least : ∀ a w, (∃ j, J j a w) → ∃ j, J j a w ∧ ∀ i, J i a w → j ≤ i := by
    rintro a w ⟨j, hj⟩
    induction j using Nat.strongRecOn with
    | _ j ih =>
      by_cases h : ∃ i, i < j ∧ J i a w
      · obtain ⟨i, hi, hJ⟩ := h; exact ih i hi hJ
      · exact ⟨j, hj, fun i hi => by
          by_cases hlt : i < j
          · exact absurd ⟨i, hlt, hi⟩ h
          · omega⟩
  let μ : Act → World → Nat := fun a w => if h : ∃ j, J j a w then Classical.choose (least a w h) else 0
  refine wpIn_loop (fun a w => ∃ j, J j a w) μ ⟨j, h₀⟩ fun a w hI => ?_
  have hμ : μ a w = Classical.choose (least a w hI) := dif_pos hI
  obtain ⟨hJ, _⟩ := Classical.choose_spec (least a w hI)
  rw [← hμ] at hJ
  refine wpIn_mono (round _ a w hJ) ?_
  intro e a' w' hq
  cases e with
  | normal =>
    obtain ⟨j', hlt, hJ'⟩ := hq
    refine ⟨⟨j', hJ'⟩, ?_⟩
    have hμ' : μ a' w' = Classical.choose (least a' w' ⟨j', hJ'⟩) := dif_pos ⟨j', hJ'⟩
    have := (Classical.choose_spec (least a' w' ⟨j', hJ'⟩)).2 j' hJ'
    omega
  | _ => exact hq

namespace Sym
variable {F : Fence} {P : Program} {call : CallFn} {C : Cfg} {Γe Γ Δ : Cx} {N : Nat} {st st' : St} {a : Act}

theorem code_ok (hF : ∀ f, F.fn f) (hdep : F.depth = none) (hc : CallOk F P call) (hm : P.follows .mixedOrders = true) {n0 : Nat} (hn0 : ∀ k, n0 ≤ k → ¬ Γe.n k) {fc : FC} {k n : Nat} : ∀ (c : Code) {st : St} {a : Act} {Γ : Cx} {r : Exit × St} {Q : Exit → Act → World → Prop},
    codeOk N fc.draws c = true → evalCode P C call n0 fc k c st = some r → StR Γe N st a Γ → (∀ a' Δ, StR Γe N r.2 a' Δ → Q r.1 a' Δ.w) → c.wpIn F n P Q a Γ.w := by
  intro c
  induction c with
  | skip => intro st a Γ r Q hok hs h hQ; simp only [evalCode, Option.some.injEq] at hs; subst hs; exact wpIn_skip (hQ a Γ h)
  | label l => intro st a Γ r Q hok hs h hQ; simp only [evalCode, Option.some.injEq] at hs; subst hs; exact wpIn_label (hQ a Γ h)
  | exit id => intro st a Γ r Q hok hs h hQ; simp only [evalCode, Option.some.injEq] at hs; subst hs; exact wpIn_exit (hQ a Γ h)
  | ret => intro st a Γ r Q hok hs h hQ; simp only [evalCode, Option.some.injEq] at hs; subst hs; exact wpIn_ret (hQ a Γ h)
  | region id ops draw =>
    intro st a Γ r Q hok hs h hQ
    simp only [codeOk, Bool.and_eq_true] at hok
    cases draw with
    | true =>
      simp only [evalCode, if_true, Option.bind_eq_some_iff] at hs
      obtain ⟨⟨st1, l⟩, h1, h2⟩ := hs
      split at h2
      · rename_i hp
        cases h2
        simp only [Bool.not_true, Bool.false_or, Bool.and_eq_true] at hok
        exact draw_ok hF hdep hc hm h hok.1 hok.2.1 hok.2.2 h1 hp fun a' Δ h' => hQ a' Δ (h'.restrict fc.keep)
      · cases h2
    | false =>
      simp only [evalCode, Bool.false_eq_true, if_false, Option.map_eq_some_iff] at hs
      obtain ⟨st1, h1, h2⟩ := hs
      cases h2
      refine wpIn_region ?_
      have := evalOps_ok (n := n) (Q := Q) hF hdep hc hok.1 ops.toList 0 st a Γ rfl h h1 fun a' Δ h' => hQ a' Δ (h'.restrict fc.keep)
      rwa [Nat.sub_zero, ← List.range_eq_range'] at this
  | seq x y ihx ihy =>
    intro st a Γ r Q hok hs h hQ
    simp only [codeOk, Bool.and_eq_true] at hok
    simp only [evalCode, Option.bind_eq_some_iff] at hs
    obtain ⟨⟨e, st1⟩, h1, h2⟩ := hs
    refine wpIn_seq (ihx hok.1 h1 h ?_)
    intro a' Δ h'
    cases e with
    | normal => exact ihy hok.2 h2 h' hQ
    | _ => cases h2; exact hQ a' Δ h'
  | cond c x y ihx ihy =>
    intro st a Γ r Q hok hs h hQ
    simp only [codeOk, Bool.and_eq_true] at hok
    simp only [evalCode] at hs
    split at hs
    · rename_i t hcv
      have hcb := h.eval c
      rw [hcv] at hcb
      refine wpIn_cond hcb.bool_inv ?_
      cases t with
      | true => exact ihx hok.1 hs h hQ
      | false => exact ihy hok.2 hs h hQ
    · cases hs
  | block id b ih =>
    intro st a Γ r Q hok hs h hQ
    simp only [codeOk] at hok
    simp only [evalCode, Option.map_eq_some_iff] at hs
    obtain ⟨⟨e, st1⟩, h1, h2⟩ := hs
    refine wpIn_block (ih hok h1 h ?_)
    intro a' Δ h'
    cases e with
    | exit i =>
      simp only at h2
      simp only [Exit.inBlock]
      by_cases hi : i = id
      · rw [if_pos hi] at h2; rw [if_pos hi]; subst h2; exact hQ a' Δ h'
      · rw [if_neg hi] at h2; rw [if_neg hi]; subst h2; exact hQ a' Δ h'
    | _ => subst h2; exact hQ a' Δ h'
  | loop b ih =>
    intro st a Γ r Q hok hs h hQ
    simp only [codeOk] at hok
    simp only [evalCode] at hs
    generalize hhd : head n0 (st.tm.map (·.1)) fc.acc = hd at hs
    have hdok : ∀ {st1 a1 Γ1}, StR Γe N st1 a1 Γ1 → ∃ Γ', Γ'.w = Γ1.w ∧ StR Γe N (hd st1) a1 Γ' := fun h1 => by rw [← hhd]; exact head_ok h1 hn0 _ _
    obtain ⟨Γ1, hw1, h1⟩ := hdok h
    rw [← hw1]
    refine wpIn_loop_count (fun j a w => ∃ st Γ, Γ.w = w ∧ StR Γe N st a Γ ∧ iter (evalCode P C call n0 fc k b) hd j st = some r) k ⟨_, Γ1, rfl, h1, hs⟩ ?_
    rintro j a' w' ⟨st2, Γ2, rfl, h2, hit⟩
    cases j with
    | zero => simp [iter] at hit
    | succ j =>
      simp only [iter, Option.bind_eq_some_iff] at hit
      obtain ⟨⟨e, st3⟩, h3, h4⟩ := hit
      refine ih hok h3 h2 ?_
      intro a3 Δ3 h3'
      cases e with
      | normal =>
        obtain ⟨Γ4, hw4, h4'⟩ := hdok h3'
        exact ⟨j, Nat.lt_succ_self j, _, Γ4, hw4, h4', h4⟩
      | _ => cases h4; exact hQ a3 Δ3 h3'
  | scope b ih =>
    intro st a Γ r Q hok hs h hQ
    simp only [codeOk] at hok
    simp only [evalCode, Option.bind_eq_some_iff] at hs
    obtain ⟨⟨e, st1⟩, h1, h2⟩ := hs
    refine wpIn_scope' (ih hok h1 h ?_)
    intro a' Δ h'
    cases e with
    | goto l => cases h2
    | _ => cases h2; exact ⟨by simp, hQ a' Δ h'⟩
  | _ => intro st a Γ r Q hok hs h hQ; simp [evalCode] at hs

def resOne (tmps : Array Value) : ResultVar → Sem Value
  | .tmp t => pure (tmps.getD t undef)
  | .cell a t => do loadVar t (← asAddr (tmps.getD a undef))
theorem results_eq (fn : Func) (tmps : Array Value) : results fn tmps = (fn.results.mapM (resOne tmps) >>= fun vs => pure (if h : vs.size = 1 then vs[0] else .tuple vs)) := rfl

theorem evalRes_ok (h : StR Γe N st a Γ) : ∀ {l : List ResultVar} {vs : List V}, evalRes P st l = some vs →
    ∃ us : List Value, (l.mapM (resOne a.tmps)).run P Γ.w = .ok us Γ.w ∧ vs.length = us.length ∧ ∀ (i : Nat) (v : V) (u : Value), vs[i]? = some v → us[i]? = some u → VR Γ v u := by
  intro l
  induction l with
  | nil => intro vs hs; simp only [evalRes, Option.some.injEq] at hs; subst hs; exact ⟨[], rfl, rfl, by simp⟩
  | cons x r ih =>
    intro vs hs
    have fin : ∀ (v : V) (u : Value) (vs' : List V) (us' : List Value), VR Γ v u → vs'.length = us'.length → (∀ (i : Nat) (v : V) (u : Value), vs'[i]? = some v → us'[i]? = some u → VR Γ v u) →
        (v :: vs').length = (u :: us').length ∧ ∀ (i : Nat) (v1 : V) (u1 : Value), (v :: vs')[i]? = some v1 → (u :: us')[i]? = some u1 → VR Γ v1 u1 := by
      intro v u vs' us' hv hl hvs
      refine ⟨by simp [hl], fun i v1 u1 h1 h2 => ?_⟩
      cases i with
      | zero => simp at h1 h2; subst h1 h2; exact hv
      | succ i => exact hvs i v1 u1 (by simpa using h1) (by simpa using h2)
    cases x with
    | tmp t =>
      simp only [evalRes, Option.bind_eq_some_iff, Option.map_eq_some_iff] at hs
      obtain ⟨v, hv, vs', hvs, rfl⟩ := hs
      obtain ⟨us', hrun, hl, hr⟩ := ih hvs
      refine ⟨a.tmps.getD t undef :: us', ?_, fin v _ vs' us' (h.tm t v hv) hl hr⟩
      rw [List.mapM_cons]
      simp [resOne, hrun]
    | cell b t =>
      simp only [evalRes] at hs
      split at hs
      · rename_i id off hp
        split at hs
        · rename_i cs hid
          simp only [Option.bind_eq_some_iff, Option.map_eq_some_iff] at hs
          obtain ⟨v, hv, vs', hvs, rfl⟩ := hs
          obtain ⟨us', hrun, hl, hr⟩ := ih hvs
          have hpv := h.eval (.tmp b)
          rw [hp] at hpv
          obtain ⟨b0, hu, _, hρ⟩ := hpv.ptr_inv
          have hid' : Γ.h id = some (.var cs) := by rw [h.hp]; exact hid
          obtain ⟨u, hlrun, hvu⟩ := readC_load (P := P) (o := 0) (b := b0) hv (var_cells h.ok hid' (hρ cs hid'))
          rw [Nat.zero_add] at hlrun
          refine ⟨u :: us', ?_, fin v u vs' us' hvu hl hr⟩
          simp only [Act.eval] at hu
          rw [List.mapM_cons]
          simp [resOne, hrun, hu, asAddr, hlrun]
        · cases hs
      · cases hs

theorem results_ok {fn : Func} {vs : List V} (h : StR Γe N st a Γ) (hs : evalRes P st fn.results.toList = some vs) :
    ∃ u, (results fn a.tmps).run P Γ.w = .ok u Γ.w ∧ VR Γ (pack vs) u := by
  obtain ⟨us, hrun, hl, hr⟩ := evalRes_ok h hs
  have hres : (results fn a.tmps).run P Γ.w = .ok (if h : us.toArray.size = 1 then us.toArray[0] else .tuple us.toArray) Γ.w := by
    rw [results_eq, Array.mapM_eq_mapM_toList]
    simp only [Sem.run_bind, map_eq_pure_bind]
    rw [hrun]
    simp
  refine ⟨_, hres, ?_⟩
  by_cases h1 : us.length = 1
  · obtain ⟨u, rfl⟩ := List.length_eq_one_iff.1 h1
    obtain ⟨v, rfl⟩ := List.length_eq_one_iff.1 (hl.trans h1)
    exact hr 0 v u rfl rfl
  · rw [dif_neg (by simpa using h1)]
    have : VR Γ (.tup vs) (.tuple us.toArray) := .tup vs us.toArray (by simpa using hl) (by simpa using hr)
    match vs, hl, this with
    | [], _, this => exact this
    | [v], hl, _ => simp at hl; omega
    | _ :: _ :: _, _, this => exact this

/-! ### Functions -/
theorem look_idx : ∀ (vs : List V) (n t : Nat) (v : V), look (idx n vs) t = some v → n ≤ t ∧ vs[t - n]? = some v := by
  intro vs
  induction vs with
  | nil => intro n t v h; simp [idx, look] at h
  | cons x r ih =>
    intro n t v h
    simp only [idx, look] at h
    split at h
    · rename_i e; cases h; subst e; exact ⟨Nat.le_refl _, by simp⟩
    · obtain ⟨h1, h2⟩ := ih (n + 1) t v h
      exact ⟨by omega, by rw [show t - n = (t - (n + 1)) + 1 by omega]; simpa using h2⟩

theorem progOk_of (hp : progOk P C = true) {f : Nat} {fc : FC} {fn : Func} (h1 : look C.fcs f = some fc) (h2 : P.funcs[f]? = some fn) : funcOk fc fn = true := by
  simp only [progOk, List.all_eq_true] at hp
  have := hp (f, fc) (look_mem h1)
  rw [h2] at this
  exact this

theorem evalFn_ok (hF : ∀ f, F.fn f) (hdep : F.depth = none) (hm : P.follows .mixedOrders = true) (hp : progOk P C = true) (hro : F.round = none) : ∀ k, CallOk F P (evalFn P C k) := by
  intro k
  induction k with
  | zero => intro f args hp nx v hp' nx' h; simp [evalFn] at h
  | succ k ih =>
    intro f args h0 nx v hp' nx' h
    simp only [evalFn] at h
    split at h
    · rename_i fc fn hfc hfn
      have hfok := progOk_of hp hfc hfn
      split at h
      · rename_i c hbody
        rw [Option.bind_eq_some_iff] at h
        obtain ⟨⟨e, st1⟩, h1, h2⟩ := h
        simp only [funcOk, hbody, Bool.and_eq_true, Bool.not_eq_true'] at hfok
        refine ⟨⟨fn, hfn, hfok.2, by rw [hbody]; rfl⟩, fun n Γ us H hh hn hargs => ?_⟩
        refine callsIn_of_wp hfn hbody (hF f) ?_ hro
        have h0' : StR Γ fn.ntmps { tm := idx 0 args, hp := h0, nx } { tmps := us ++ Array.replicate (fn.ntmps - us.size) undef, defers := [] } Γ := by
          refine ⟨H, hh, hn, Evo.refl Γ, fun t x hx => ?_, by simp; omega, rfl⟩
          obtain ⟨_, hx⟩ := look_idx args 0 t x hx
          rw [Nat.sub_zero] at hx
          have ht : t < us.size := by rw [← hargs.1]; exact (List.getElem?_eq_some_iff.1 hx).1
          refine hargs.2 t x _ hx ?_
          rw [Array.getD_eq_getD_getElem?, Array.getElem?_append_left ht, Array.getElem?_eq_getElem ht]
          rfl
        refine code_ok hF hdep ih hm hn c hfok.1 h1 h0' ?_
        intro a' Δ h'
        have fin : (evalRes P st1 fn.results.toList).map (fun vs => (pack vs, st1.hp, st1.nx)) = some (v, hp', nx') →
            a'.defers = [] ∧ ∃ u, (results fn a'.tmps).run P Δ.w = .ok u Δ.w ∧ ∃ Δ1 : Cx, Δ1.w = Δ.w ∧ HOk Δ1 ∧ Δ1.h = look hp' ∧ (∀ k, nx' ≤ k → ¬ Δ1.n k) ∧ Evo Γ Δ1 ∧ VR Δ1 v u := by
          intro h2
          rw [Option.map_eq_some_iff] at h2
          obtain ⟨vs, hvs, he⟩ := h2
          cases he
          obtain ⟨u, hrun, hv⟩ := results_ok h' hvs
          exact ⟨h'.df, u, hrun, Δ, rfl, h'.ok, h'.hp, h'.n, h'.gone, hv⟩
        cases e with
        | normal => exact fin h2
        | ret => exact fin h2
        | _ => cases h2
      · cases h
    · cases h

/-- **Whatever the evaluator answers the model answers.** -/
theorem evalP_ok (hm : P.follows .mixedOrders = true) (hp : progOk P C = true) {k f : Nat} {args : List V} {r : V} (h : evalP P C k f args = some r) {w : World} {Z : Nat → Nat → Prop} (hz : ∀ b o, Z b o → b < w.heap.size) {us : Array Value}
    (hargs : VRs (bare w Z) args us) : Calls P f us w fun e w' => match e with
        | .returned u => (∀ k, k < w.heap.size → w'.heap[k]? = w.heap[k]?) ∧ w.heap.size ≤ w'.heap.size ∧ w'.os = w.os ∧ w'.tape = w.tape ∧ w'.output = w.output ∧
            VR (bare w' fun b o => Z b o ∨ (w.heap.size ≤ b ∧ b < w'.heap.size)) r u
        | _ => False :=
  callsIn_wide.1 (callP_sound (evalFn_ok (F := Fence.wide) (fun _ => trivial) rfl hm hp rfl k) h 0 hz hargs)
end Sym
end Go
