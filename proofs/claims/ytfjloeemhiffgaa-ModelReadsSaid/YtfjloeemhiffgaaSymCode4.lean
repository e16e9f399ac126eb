/- DERIVED. Regions that draw their order. -/
import Derived.Test.YtfjloeemhiffgaaSymCode3
import Derived.OrdersIn
set_option linter.unusedVariables false
set_option linter.unusedSimpArgs false
namespace Go.Sym

section acc
variable {α : Type}
def updA (h : Nat → Option α) : List (Nat × α) → Nat → Option α
  | [] => h
  | p :: r => updA (upd h p.1 (some p.2)) r
theorem updA_upds (ws : List (Nat × Ob)) : ∀ h, upds h ws = updA h ws := by
  induction ws with
  | nil => intro h; rfl
  | cons p r ih => intro h; exact ih _
theorem updA_not {ws : List (Nat × α)} {k : Nat} (hk : k ∉ ws.map (·.1)) : ∀ (h : Nat → Option α), updA h ws k = h k := by
  induction ws with
  | nil => intro h; rfl
  | cons p r ih =>
    intro h
    simp only [List.map_cons, List.mem_cons, not_or] at hk
    simp only [updA]
    rw [ih hk.2, upd_other _ _ hk.1]
theorem updA_point {ws : List (Nat × α)} {k : Nat} : ∀ {h h' : Nat → Option α}, h k = h' k → updA h ws k = updA h' ws k := by
  induction ws with
  | nil => intro h h' e; exact e
  | cons p r ih =>
    intro h h' e
    simp only [updA]
    refine ih ?_
    by_cases hk : k = p.1
    · subst hk; simp
    · rw [upd_other _ _ hk, upd_other _ _ hk]; exact e
theorem updA_in {ws : List (Nat × α)} {k : Nat} (hk : k ∈ ws.map (·.1)) : ∀ (h h' : Nat → Option α), updA h ws k = updA h' ws k := by
  induction ws with
  | nil => cases hk
  | cons p r ih =>
    intro h h'
    simp only [updA]
    by_cases hr : k ∈ r.map (·.1)
    · exact ih hr _ _
    · have : k = p.1 := by simpa [hr] using hk
      rw [updA_not hr, updA_not hr]; subst this; simp

/-- What lies there when the members of S have written, one after the other. -/
def acc (h0 : Nat → Option α) (W : Nat → List (Nat × α)) (S : Nat → Bool) : Nat → Nat → Option α
  | 0 => h0
  | i + 1 => if S i then updA (acc h0 W S i) (W i) else acc h0 W S i
variable {h0 : Nat → Option α} {W : Nat → List (Nat × α)} {S S' : Nat → Bool}
theorem acc_agree {k : Nat} : ∀ {n : Nat}, (∀ i, i < n → S i ≠ S' i → k ∉ (W i).map (·.1)) → acc h0 W S n k = acc h0 W S' n k := by
  intro n
  induction n with
  | zero => intro _; rfl
  | succ n ih =>
    intro h
    have ih' := ih fun i hi => h i (by omega)
    simp only [acc]
    by_cases he : S n = S' n
    · rw [he]
      split
      · exact updA_point ih'
      · exact ih'
    · have hk := h n (by omega) he
      cases hs : S n <;> cases hs' : S' n <;> simp_all [updA_not hk]
theorem acc_stop {k i : Nat} : ∀ {n : Nat}, i ≤ n → (∀ j, i ≤ j → j < n → S j = true → k ∉ (W j).map (·.1)) → acc h0 W S n k = acc h0 W S i k := by
  intro n
  induction n with
  | zero => intro h _; have : i = 0 := by omega
            subst this; rfl
  | succ n ih =>
    intro hi h
    by_cases he : i = n + 1
    · subst he; rfl
    · have ih' := ih (by omega) fun j h1 h2 => h j h1 (by omega)
      simp only [acc]
      split
      · rename_i hs
        rw [updA_not (h n (by omega) (by omega) hs)]; exact ih'
      · exact ih'
theorem acc_insert {i n : Nat} (hi : i < n) (hs : S i = false) (hs' : S' i = true) (ho : ∀ j, j ≠ i → S' j = S j) (hd : ∀ j, i < j → j < n → S j = true → ∀ k ∈ (W i).map (·.1), k ∉ (W j).map (·.1)) :
    acc h0 W S' n = updA (acc h0 W S n) (W i) := by
  funext k
  by_cases hk : k ∈ (W i).map (·.1)
  · rw [acc_stop (S := S') (i := i + 1) (by omega) (fun j h1 h2 h3 => hd j (by omega) h2 (by rw [← ho j (by omega)]; exact h3) k hk)]
    simp only [acc, hs', if_true]
    exact updA_in hk _ _
  · rw [updA_not hk]
    refine acc_agree fun j hj hne => ?_
    by_cases hji : j = i
    · subst hji; exact hk
    · exact absurd (ho j hji) hne
end acc

variable {F : Fence} {P : Program} {call : CallFn} {C : Cfg} {Γe Γ Δ : Cx} {N : Nat} {st st' : St} {a : Act}

structure Trace (P : Program) (C : Cfg) (call : CallFn) (L rest : List Oper) (st st' : St) (l : List (List Nat × List Nat)) (sts : Nat → St) (vs : Nat → V) (wss : Nat → List (Nat × Ob)) : Prop where
  first : sts 0 = st
  last : sts rest.length = st'
  step : ∀ j o, rest[j]? = some o → sts (j + 1) = { tm := putD (sts j).tm o.dst (vs j), hp := puts (sts j).hp (wss j), nx := (sts j).nx + 4 } ∧
    ((wantedV L (sts j).tm o = some true ∧ stepD P C call o (sts j) = some (vs j, wss j) ∧ l[j]? = some (hreads o.op (ev (sts j).tm), (wss j).map (·.1))) ∨
    (wantedV L (sts j).tm o = some false ∧ vs j = .tup [] ∧ wss j = [] ∧ l[j]? = some ([], [])))

def pre {β : Type} (x : β) (f : Nat → β) : Nat → β
  | 0 => x
  | n + 1 => f n

theorem trace {L : List Oper} : ∀ {rest : List Oper} {st st' : St} {l : List (List Nat × List Nat)}, evalD P C call L rest st = some (st', l) → ∃ sts vs wss, Trace P C call L rest st st' l sts vs wss := by
  intro rest
  induction rest with
  | nil =>
    intro st st' l h
    simp only [evalD, Option.some.injEq, Prod.mk.injEq] at h
    obtain ⟨rfl, rfl⟩ := h
    exact ⟨fun _ => st, fun _ => .junk, fun _ => [], rfl, rfl, fun j o h => by simp at h⟩
  | cons o r ih =>
    intro st st' l h
    simp only [evalD, Option.bind_eq_some_iff] at h
    obtain ⟨b, hb, h⟩ := h
    cases b with
    | true =>
      simp only [if_true, Option.bind_eq_some_iff, Option.map_eq_some_iff] at h
      obtain ⟨⟨v, ws⟩, hs, ⟨st1, l1⟩, hr, he⟩ := h
      cases he
      obtain ⟨sts, vs, wss, t1, t2, t3⟩ := ih hr
      refine ⟨pre st sts, pre v vs, pre ws wss, rfl, t2, fun j o' hj => ?_⟩
      cases j with
      | zero =>
        simp only [List.getElem?_cons_zero, Option.some.injEq] at hj
        subst hj
        exact ⟨t1, .inl ⟨hb, hs, rfl⟩⟩
      | succ j => exact t3 j o' (by simpa using hj)
    | false =>
      simp only [Bool.false_eq_true, if_false, Option.map_eq_some_iff] at h
      obtain ⟨⟨st1, l1⟩, hr, he⟩ := h
      cases he
      obtain ⟨sts, vs, wss, t1, t2, t3⟩ := ih hr
      refine ⟨pre st sts, pre (.tup []) vs, pre [] wss, rfl, t2, fun j o' hj => ?_⟩
      cases j with
      | zero =>
        simp only [List.getElem?_cons_zero, Option.some.injEq] at hj
        subst hj
        exact ⟨t1, .inr ⟨hb, rfl, rfl, rfl⟩⟩
      | succ j => exact t3 j o' (by simpa using hj)

def Quiet (x : Option (V × List (Nat × Ob))) : Prop := ∀ v ws, x = some (v, ws) → ws = []
theorem Quiet.none : Quiet none := fun _ _ h => by cases h
theorem Quiet.some (v : V) : Quiet (some (v, [])) := fun _ _ h => by cases h; rfl
theorem Quiet.map {α : Type} (x : Option α) (f : α → V) : Quiet (x.map fun v => (f v, [])) := fun _ _ h => by
  rw [Option.map_eq_some_iff] at h; obtain ⟨_, _, h⟩ := h; cases h; rfl
theorem Quiet.bind {α : Type} {x : Option α} {f : α → Option (V × List (Nat × Ob))} (h : ∀ a, Quiet (f a)) : Quiet (x.bind f) := fun v ws e => by
  rw [Option.bind_eq_some_iff] at e; obtain ⟨a, _, e⟩ := e; exact h a v ws e
theorem Quiet.guard {p : Prop} [Decidable p] {x : Option (V × List (Nat × Ob))} (h : Quiet x) : Quiet (guardP p x) := fun v ws e => h v ws (guardP_some.1 e).2

theorem stepE_touch {op : Op} {e : Operand → V} {h : Nat → Option Ob} {b : Nat} {v : V} {ws : List (Nat × Ob)} (hs : stepE P C call op e h b = some (v, ws)) :
    (touch op ≤ 1 → ws = []) ∧ (touch op = 0 → hreads op e = []) := by
  have q : Quiet (stepE P C call op e h b) → ws = [] := fun q => q v ws hs
  cases op with
  | call c =>
    obtain ⟨callee, args, tys⟩ := c
    cases callee with
    | builtin bi =>
      cases bi with
      | len => exact ⟨fun _ => q (by (simp only [stepE, opSem]; repeat' (first | exact Quiet.none | exact Quiet.some _ | exact Quiet.map _ _ | refine Quiet.guard ?_ | refine Quiet.bind fun _ => ?_ | split))), fun h => by simp [touch] at h⟩
      | max => exact ⟨fun _ => q (by (simp only [stepE, opSem]; repeat' (first | exact Quiet.none | exact Quiet.some _ | exact Quiet.map _ _ | refine Quiet.guard ?_ | refine Quiet.bind fun _ => ?_ | split))), fun h => by simp [touch] at h⟩
      | min => exact ⟨fun _ => q (by (simp only [stepE, opSem]; repeat' (first | exact Quiet.none | exact Quiet.some _ | exact Quiet.map _ _ | refine Quiet.guard ?_ | refine Quiet.bind fun _ => ?_ | split))), fun h => by simp [touch] at h⟩
      | _ => exact ⟨fun h => by simp [touch] at h, fun h => by simp [touch] at h⟩
    | _ => exact ⟨fun h => by simp [touch] at h, fun h => by simp [touch] at h⟩
  | _ =>
    refine ⟨fun h => ?_, fun h => ?_⟩
    · first
        | (exfalso; revert h; simp [touch]; done)
        | (refine q ?_; (simp only [stepE, opSem]; repeat' (first | exact Quiet.none | exact Quiet.some _ | exact Quiet.map _ _ | refine Quiet.guard ?_ | refine Quiet.bind fun _ => ?_ | split)))
    · first
        | rfl
        | (exfalso; revert h; simp [touch]; done)
end Go.Sym
