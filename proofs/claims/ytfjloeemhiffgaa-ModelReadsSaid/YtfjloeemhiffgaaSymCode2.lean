/- DERIVED. One operation within the machine, second part: calls by value; the rule for one operation. -/
import Derived.Test.YtfjloeemhiffgaaSymCode1
set_option linter.unusedVariables false
set_option linter.unusedSimpArgs false
namespace Go.Sym

/-- What is asked of an evaluated function; of a round. -/
def FnOk (F : Fence) (P : Program) (f : Nat) (args : List V) (hp : List (Nat × Ob)) (nx : Nat) (v : V) (hp' : List (Nat × Ob)) (nx' : Nat) : Prop :=
    (∃ fn, P.funcs[f]? = some fn ∧ (fn.name == "runtime.NumGoroutine") = false ∧ fn.body.isNone = false) ∧
    ∀ n Γ us, HOk Γ → Γ.h = look hp → (∀ k, nx ≤ k → ¬ Γ.n k) → VRs Γ args us →
      CallsIn F n P f us Γ.w fun e w' => match e with
        | .returned u => ∃ Δ : Cx, Δ.w = w' ∧ HOk Δ ∧ Δ.h = look hp' ∧ (∀ k, nx' ≤ k → ¬ Δ.n k) ∧ Evo Γ Δ ∧ VR Δ v u
        | _ => False
def RndOk (F : Fence) (P : Program) (args : List V) (hp : List (Nat × Ob)) (nx : Nat) (v : V) (hp' : List (Nat × Ob)) (nx' : Nat) : Prop :=
  ∃ id ys, args = .yld id :: ys ∧ ∀ n Γ l us, HOk Γ → Γ.h = look hp → (∀ k, nx ≤ k → ¬ Γ.n k) → VR Γ (.yld id) (.func (.yield l) #[] #[]) → VRs Γ ys us →
    ∃ r : Loop, Γ.w.heap[l]? = some (.loop r) ∧ us.size = r.params.size ∧
      RoundIn F n P l r.fn ((r.params.zip us).foldl (fun tmps (t, a) => tmps.setIfInBounds t a) r.tmps) r.assign r.body Γ.w fun e w' => match e with
        | .returned u => ∃ Δ : Cx, Δ.w = w' ∧ HOk Δ ∧ Δ.h = look hp' ∧ (∀ k, nx' ≤ k → ¬ Δ.n k) ∧ Evo Γ Δ ∧ VR Δ v u
        | _ => False
/-- What is asked of the function that evaluates calls. -/
def CallOk (F : Fence) (P : Program) (call : CallFn) : Prop :=
  ∀ f args hp nx v hp' nx', call f args hp nx = some (v, hp', nx') → (Nat.beq f yn = false → FnOk F P f args hp nx v hp' nx') ∧ (Nat.beq f yn = true → RndOk F P args hp nx v hp' nx')

/-- A context that has grown by blocks of others. -/
theorem step_ext {Γ : Cx} (H : HOk Γ) (w' : World) (m : Nat → Prop) (Z' : Nat → Nat → Prop) (hblk : ∀ k, k < Γ.w.heap.size → w'.heap[k]? = Γ.w.heap[k]?) (hsz : Γ.w.heap.size ≤ w'.heap.size)
    (hos : w'.os = Γ.w.os) (ht : w'.tape = Γ.w.tape) (ho : w'.output = Γ.w.output) (hm : ∀ i, Γ.n i → m i) (hZ : ∀ b o, Z' b o → Γ.Z b o ∨ (Γ.w.heap.size ≤ b ∧ b < w'.heap.size)) :
    HOk { Γ with w := w', n := m, Z := fun b o => Γ.Z b o ∨ Z' b o } ∧ Evo Γ { Γ with w := w', n := m, Z := fun b o => Γ.Z b o ∨ Z' b o } := by
  have E : Evo Γ { Γ with w := w', n := m, Z := fun b o => Γ.Z b o ∨ Z' b o } := by
    refine ⟨hm, fun _ _ h => ⟨h, rfl⟩, fun _ cs _ h => ⟨cs, h, rfl⟩, fun _ fz _ xs _ h => ⟨fz, xs, h, rfl⟩, fun _ s _ _ tm _ h => ⟨s, tm, h⟩, fun _ _ _ r s _ h => ⟨r, s, h⟩, fun _ o _ h => ⟨o, h⟩, fun _ r h => ⟨r, (hblk _ (Array.getElem?_eq_some_iff.1 h).1).trans h, .refl r⟩, fun id b base c E z hi hl hr hb => ⟨c, E, z, (hblk b (Array.getElem?_eq_some_iff.1 hb).1).trans hb, rfl⟩,
      fun b o h => ⟨.inl h, cell_of_block (hblk b (H.z b o h).1)⟩, ?_, fun k hk h => ⟨hblk k hk, h⟩, hsz, hos, ht, ho⟩
    rintro b o (h | h)
    · exact .inl h
    · rcases hZ b o h with h | h
      · exact .inl h
      · exact .inr (.inl h.1)
  refine ⟨H.step E (fun id cs e => .inl ⟨H.lt id (live_var e), e, fun b base hr => hblk b (H.there (live_var e) hr)⟩)
    (fun id fz s xs e => .inl ⟨H.lt id (live_row e), ⟨fz, e⟩, fun b base hr => hblk b (H.there (live_row e) hr)⟩) (fun id s fc c tm e => .inl ⟨H.lt id (live_loop e), e, fun b base hr => hblk b (H.there (live_loop e) hr)⟩)
    (fun id t e r s hb hr => .inl ⟨H.lt id (live_bld hb), H.lt r (live_raw hr), hb, hr, fun b base h => hblk b (H.there (live_bld hb) h), fun b base h => hblk b (H.there (live_raw hr) h)⟩) (fun id hb => .inl (H.lt id hb.live)) H.inj (fun id h => hm _ (H.lt id h)) (fun b o h => ?_), E⟩
  have hz : ∀ b o, Γ.Z b o → b < w'.heap.size ∧ ∀ id base, live Γ.h id → Γ.ρ id = some (b, base) → ∃ s xs, Γ.h id = some (.row true s xs) ∧ o < base + xs.length * s := fun b o h => by
    obtain ⟨h1, h2⟩ := H.z b o h
    exact ⟨by omega, h2⟩
  rcases h with h | h
  · exact hz b o h
  · rcases hZ b o h with h | ⟨h1, h2⟩
    · exact hz b o h
    · exact ⟨h2, fun id base hl hr => absurd (H.there hl hr) (by omega)⟩

theorem flat1_VR {Γ Δ : Cx} {v : V} {u : Value} (hf : flat1 v = true) (h : VR Γ v u) : VR Δ v u := by
  cases v with
  | bool b => rw [h.bool_inv]; exact .pure (.bool b)
  | int k n => rw [h.int_inv]; exact .pure (.int k n)
  | str s => obtain ⟨b, rfl, rfl⟩ := h.str_inv; exact .pure (.str b)
  | nilf => cases h with | pure h => cases h; exact .pure .nilf
  | nilp => cases h with | pure h => cases h; exact .pure .nilp
  | nili => cases h with | pure h => cases h; exact .pure .nili
  | _ => simp [flat1] at hf

theorem flat_alt (v : V) : (∃ cs, v = .agg cs) ∨ flat v = flat1 v := by cases v <;> first | exact .inl ⟨_, rfl⟩ | exact .inr rfl
theorem flat_VR {Γ Δ : Cx} {v : V} {u : Value} (hf : flat v = true) (h : VR Γ v u) : VR Δ v u := by
  rcases flat_alt v with ⟨cs, rfl⟩ | he
  · obtain ⟨us, rfl, hl, h1, hv⟩ := h.agg_inv
    simp only [flat, List.all_eq_true] at hf
    exact .agg cs us hl h1 fun i c u hc hu => flat1_VR (hf c (List.mem_of_getElem? hc)) (hv i c u hc hu)
  · exact flat1_VR (he ▸ hf) h
theorem flatR_alt (v : V) : (∃ cs, v = .tup cs) ∨ flatR v = flat v := by cases v <;> first | exact .inl ⟨_, rfl⟩ | exact .inr rfl
theorem flatR_VR {Γ Δ : Cx} {v : V} {u : Value} (hf : flatR v = true) (h : VR Γ v u) : VR Δ v u := by
  rcases flatR_alt v with ⟨cs, rfl⟩ | he
  · obtain ⟨us, rfl, hl, hv⟩ := h.tup_inv
    simp only [flatR, List.all_eq_true] at hf
    exact .tup cs us hl fun i c u hc hu => flat_VR (hf c (List.mem_of_getElem? hc)) (hv i c u hc hu)
  · exact flat_VR (he ▸ hf) h

/-- Values with no references, in a context of no things of its own. -/
def bare (w : World) (Z : Nat → Nat → Prop) : Cx := { ρ := fun _ => none, Z := Z, h := look [], n := fun _ => False, w := w }
theorem bare_live {w : World} {Z : Nat → Nat → Prop} {id : Nat} : ¬ live (bare w Z).h id := by rintro ⟨o, e, _⟩; cases e
theorem bare_ok {w : World} {Z : Nat → Nat → Prop} (hz : ∀ b o, Z b o → b < w.heap.size) : HOk (bare w Z) :=
  ⟨fun id cs e => (by cases e), fun id fz s xs e => (by cases e), fun id s fc c tm e => (by cases e), fun id t e r s h => (by cases h), fun i b base h => absurd h.live bare_live, fun i j b bi bj hi => absurd hi bare_live, fun i hi => absurd hi bare_live, fun b o h => ⟨hz b o h, fun id base hl => absurd hl bare_live⟩⟩

theorem VR_bare {w : World} {Z : Nat → Nat → Prop} {Δ : Cx} {v : V} {u : Value} (h : VR (bare w Z) v u) (hw : Δ.w = w) (hz : ∀ b o, Z b o → Δ.Z b o) : VR Δ v u := by
  induction h with
  | junk u => exact .junk u
  | pure h => exact .pure (by rw [hw]; exact h.zmono hz)
  | agg cs us hl h1 hv ih => exact .agg cs us hl h1 ih
  | tup vs us hl hv ih => exact .tup vs us hl ih
  | ref id u h1 hn h => exact hn.elim
  | sub id off len u h1 hn h => exact hn.elim
  | vsl id off len b cap hn hle h => exact hn.elim
  | ptr id off b hn h => exact hn.elim
  | ept id i off b o hn h => exact hn.elim
  | cpt v off b o he =>
    refine .cpt v off b o fun j c hj => ?_
    obtain ⟨h1, u', h2, h3, h4⟩ := he j c hj
    exact ⟨hz _ _ h1, u', by rw [hw]; exact h2, h3, by rw [hw]; exact h4.zmono hz⟩
  | fn f as cs ua uc hla hlc ha hc iha ihc => exact .fn f as cs ua uc hla hlc iha ihc
  | yld id l hn h => exact hn.elim

theorem purifyR_alt (v : V) : (∃ cs, v = .tup cs) ∨ ∀ h, purifyR h v = purify h v := by cases v <;> first | exact .inl ⟨_, rfl⟩ | exact .inr fun _ => rfl

/-- Answers without references. -/
theorem purifyR_sound {Γ Δ : Cx} (H : HOk Γ) {v r : V} {u : Value} (h : VR Γ v u) (hp : purifyR Γ.h v = some r) (hw : Δ.w = Γ.w) (hz : ∀ ids b o, Zof Γ ids b o → Δ.Z b o) : VR Δ r u := by
  have h1 : ∀ {v p : V} {u : Value}, VR Γ v u → purify Γ.h v = some p → VR Δ p u := fun h hp => .pure (by rw [hw]; exact (purify_sound H h hp).zmono fun b o hb => hz _ b o hb)
  rcases purifyR_alt v with ⟨vs, rfl⟩ | he
  · simp only [purifyR, Option.map_eq_some_iff] at hp
    obtain ⟨ps, hps, rfl⟩ := hp
    obtain ⟨us, rfl, hl, hv⟩ := h.tup_inv
    obtain ⟨hlen, hg⟩ := purifys_get hps
    refine .tup ps us (by omega) fun i c u hc hu => ?_
    have hi : i < vs.length := by have := (List.getElem?_eq_some_iff.1 hc).1; omega
    obtain ⟨p, hp1, hp2⟩ := hg i vs[i] (List.getElem?_eq_getElem hi)
    rw [hc] at hp1; cases hp1
    exact h1 (hv i _ u (List.getElem?_eq_getElem hi) hu) hp2
  · rw [he] at hp; exact h1 h hp

theorem flatF_alt (v : V) : (∃ g, v = .fn (.func g) [] []) ∨ flatF v = flat1 v := by
  cases v with
  | fn f a c =>
    cases f with
    | func g =>
      cases a with
      | nil => cases c with
        | nil => exact .inl ⟨g, rfl⟩
        | cons _ _ => exact .inr rfl
      | cons _ _ => exact .inr rfl
    | _ => exact .inr rfl
  | _ => exact .inr rfl
theorem flatF_VR {Γ Δ : Cx} {v : V} {u : Value} (hf : flatF v = true) (h : VR Γ v u) : VR Δ v u := by
  rcases flatF_alt v with ⟨g, rfl⟩ | he
  · obtain ⟨ua, uc, rfl, hla, hlc, _, _⟩ := h.fn_inv
    obtain rfl : ua = #[] := Array.eq_empty_of_size_eq_zero hla.symm
    obtain rfl : uc = #[] := Array.eq_empty_of_size_eq_zero hlc.symm
    exact .fn _ [] [] #[] #[] rfl rfl (by simp) (by simp)
  · exact flat1_VR (he ▸ hf) h
theorem look_in {α : Type} {l : List (Nat × α)} {k : Nat} {v : α} (h : look l k = some v) : (k, v) ∈ l := by
  induction l with
  | nil => cases h
  | cons p r ih =>
    obtain ⟨i, w⟩ := p
    simp only [look] at h
    split at h
    · rename_i e; cases h; subst e; exact List.mem_cons_self
    · exact List.mem_cons_of_mem _ (ih h)
theorem look_has {α : Type} {l : List (Nat × α)} {k : Nat} (h : k ∈ l.map (·.1)) : ∃ v, look l k = some v := by
  induction l with
  | nil => cases h
  | cons p r ih =>
    obtain ⟨i, w⟩ := p
    simp only [look]
    split
    · exact ⟨_, rfl⟩
    · rename_i e
      rw [List.map_cons, List.mem_cons] at h
      rcases h with h | h
      · exact absurd h.symm e
      · exact ih h
/-- What the variables are that are handed over. -/
def Handed (h : Nat → Option Ob) (hs : List (Nat × Ob)) : Prop := ∀ p ∈ hs, ∃ cs, p.2 = .var cs ∧ cs.all flatF = true ∧ h p.1 = some p.2
theorem varOf_inv {h : Nat → Option Ob} {v : V} {a : List (Nat × Ob)} (e : varOf h v = some a) : Handed h a ∧ (flat v = true ∨ ∃ id, v = .ptr id 0 ∧ id ∈ a.map (·.1)) := by
  unfold varOf at e
  split at e
  · rename_i id
    split at e
    · rename_i cs hid
      split at e
      · rename_i hf
        cases e
        exact ⟨fun p hp => by rw [List.mem_singleton] at hp; subst hp; exact ⟨cs, rfl, hf, hid⟩, .inr ⟨id, rfl, by simp⟩⟩
      · cases e
    · cases e
  · split at e
    · rename_i hf; cases e; exact ⟨fun p hp => (by cases hp), .inl hf⟩
    · cases e
theorem varsOf_inv {h : Nat → Option Ob} : ∀ {vs : List V} {hs : List (Nat × Ob)}, varsOf h vs = some hs → Handed h hs ∧ ∀ v ∈ vs, flat v = true ∨ ∃ id, v = .ptr id 0 ∧ id ∈ hs.map (·.1) := by
  intro vs
  induction vs with
  | nil => intro hs e; cases e; exact ⟨fun p hp => (by cases hp), fun v hv => (by cases hv)⟩
  | cons v r ih =>
    intro hs e
    simp only [varsOf, Option.bind_eq_some_iff, Option.map_eq_some_iff] at e
    obtain ⟨a, ha, b, hb, rfl⟩ := e
    obtain ⟨h1, h2⟩ := varOf_inv ha
    obtain ⟨h3, h4⟩ := ih hb
    refine ⟨fun p hp => (List.mem_append.1 hp).elim (h1 p) (h3 p), fun x hx => ?_⟩
    rcases List.mem_cons.1 hx with rfl | hx
    · exact h2.imp id fun ⟨id, e, hm⟩ => ⟨id, e, by rw [List.map_append]; exact List.mem_append_left _ hm⟩
    · exact (h4 x hx).imp id fun ⟨id, e, hm⟩ => ⟨id, e, by rw [List.map_append]; exact List.mem_append_right _ hm⟩
theorem Handed.look {h : Nat → Option Ob} {hs : List (Nat × Ob)} (H : Handed h hs) {k : Nat} {ob : Ob} (e : look hs k = some ob) : h k = some ob ∧ ∃ cs, ob = .var cs ∧ cs.all flatF = true := by
  obtain ⟨cs, h1, h2, h3⟩ := H _ (look_in e)
  exact ⟨h3, cs, h1, h2⟩
/-- The context of such a call. -/
def Cx.only (Γ : Cx) (hs : List (Nat × Ob)) : Cx := { Γ with h := look hs, n := fun k => k ∈ hs.map (·.1) }
theorem only_ok {Γ : Cx} (H : HOk Γ) {hs : List (Nat × Ob)} (hh : Handed Γ.h hs) : HOk (Γ.only hs) := by
  have lv : ∀ {i}, live (Γ.only hs).h i → live Γ.h i := by
    rintro i ⟨o, e, hd⟩
    exact ⟨o, (hh.look e).1, hd⟩
  have noB : ∀ {i}, ¬ isB (Γ.only hs).h i := by
    rintro i (⟨t, e', r, s, e⟩ | ⟨o, e⟩)
    all_goals
      obtain ⟨_, cs, e1, _⟩ := hh.look e
      cases e1
  refine ⟨fun id cs e => ?_, fun id fz s xs e => ?_, fun id s fc c tm e => ?_, fun id t e r s h => ?_, fun i b base h => (noB h).elim, fun i j b bi bj hi hj => H.inj i j b bi bj (lv hi) (lv hj), fun i hi => ?_, fun b o h => ⟨(H.z b o h).1, fun id base hl hr => ?_⟩⟩
  · obtain ⟨h1, cs', h2, h3⟩ := hh.look e
    cases h2
    obtain ⟨b, c, E, z, g1, g2, g3, g4, g5, g6⟩ := H.var id cs h1
    exact ⟨b, c, E, z, g1, g2, g3, g4, g5, fun j x u hj hu => flatF_VR (List.all_eq_true.1 h3 x (List.mem_of_getElem? hj)) (g6 j x u hj hu)⟩
  · obtain ⟨_, cs', h2, _⟩ := hh.look e; cases h2
  · obtain ⟨_, cs', h2, _⟩ := hh.look e; cases h2
  · obtain ⟨_, cs', h2, _⟩ := hh.look h; cases h2
  · obtain ⟨o, e, _⟩ := hi
    exact List.mem_map.2 ⟨_, look_in e, rfl⟩
  · obtain ⟨ob, e, hd⟩ := hl
    obtain ⟨h1, cs', h2, _⟩ := hh.look e
    subst h2
    obtain ⟨s, xs, h3, _⟩ := (H.z b o h).2 id base (live_var h1) hr
    rw [h1] at h3; cases h3
theorem only_args {Γ : Cx} (hs : List (Nat × Ob)) {vs : List V} {us : Array Value} (hv : ∀ v ∈ vs, flat v = true ∨ ∃ id, v = .ptr id 0 ∧ id ∈ hs.map (·.1)) (hh : Handed Γ.h hs) (h : VRs Γ vs us) : VRs (Γ.only hs) vs us := by
  refine ⟨h.1, fun i v u e1 e2 => ?_⟩
  rcases hv v (List.mem_of_getElem? e1) with hf | ⟨id, rfl, hm⟩
  · exact flat_VR hf (h.2 i v u e1 e2)
  · obtain ⟨b, rfl, _, hob⟩ := (h.2 i _ u e1 e2).ptr_inv
    exact .ptr id 0 b hm fun ob hob' hiv => hob ob (hh.look hob').1 hiv
theorem backOf_inv {h' : Nat → Option Ob} : ∀ {hs ws : List (Nat × Ob)}, backOf h' hs = some ws → ws.map (·.1) = hs.map (·.1) ∧ ∀ p ∈ ws, h' p.1 = some p.2 ∧ ∃ cs, p.2 = .var cs ∧ cs.all flatF = true := by
  intro hs
  induction hs with
  | nil => intro ws e; cases e; exact ⟨rfl, fun p hp => (by cases hp)⟩
  | cons p r ih =>
    intro ws e
    simp only [backOf] at e
    split at e
    · rename_i cs hid
      split at e
      · rename_i hf
        rw [Option.map_eq_some_iff] at e
        obtain ⟨b, hb, rfl⟩ := e
        obtain ⟨h1, h2⟩ := ih hb
        refine ⟨by simp [h1], fun q hq => ?_⟩
        rcases List.mem_cons.1 hq with rfl | hq
        · exact ⟨hid, cs, rfl, hf⟩
        · exact h2 q hq
      · cases e
    · cases e
theorem upds_same_as {h' : Nat → Option Ob} : ∀ {ws : List (Nat × Ob)} (g : Nat → Option Ob), (∀ p ∈ ws, h' p.1 = some p.2) → ∀ i, (i ∈ ws.map (·.1) → upds g ws i = h' i) ∧ (i ∉ ws.map (·.1) → upds g ws i = g i) := by
  intro ws
  induction ws with
  | nil => intro g _ i; exact ⟨fun h => (by cases h), fun _ => rfl⟩
  | cons p r ih =>
    intro g hp i
    obtain ⟨h1, h2⟩ := ih (upd g p.1 (some p.2)) (fun q hq => hp q (List.mem_cons_of_mem _ hq)) i
    simp only [List.map_cons, List.mem_cons, upds]
    by_cases hi : i ∈ r.map (·.1)
    · exact ⟨fun _ => h1 hi, fun h => absurd (.inr hi) h⟩
    · rw [h2 hi]
      by_cases hip : i = p.1
      · subst hip
        rw [upd_same]
        exact ⟨fun _ => (hp p List.mem_cons_self).symm, fun h => absurd (.inl rfl) h⟩
      · rw [upd_other _ _ hip]
        exact ⟨fun h => (h.elim (fun e => absurd e hip) (fun e => absurd e hi)), fun _ => rfl⟩
/-- Behind such a call: what was handed over is as the call left it; all else is as it was. -/
theorem only_back {Γ Δ : Cx} (H : HOk Γ) {hs : List (Nat × Ob)} (hh : Handed Γ.h hs) (HΔ : HOk Δ) (E : Evo (Γ.only hs) Δ) {hp' ws : List (Nat × Ob)} (hd : Δ.h = look hp') (hw : backOf (look hp') hs = some ws) (m : Nat → Prop) (hm : ∀ i, Γ.n i → m i) :
    HOk { Γ with w := Δ.w, h := upds Γ.h ws, n := m } ∧ Evo Γ { Γ with w := Δ.w, h := upds Γ.h ws, n := m } := by
  obtain ⟨hk, hb⟩ := backOf_inv hw
  have hup := upds_same_as (h' := Δ.h) (ws := ws) Γ.h (fun p hp => by rw [hd]; exact (hb p hp).1)
  rw [hk] at hup
  obtain ⟨h', hh'⟩ : ∃ h', h' = upds Γ.h ws := ⟨_, rfl⟩
  rw [← hh'] at hup ⊢
  have hin : ∀ i, i ∈ hs.map (·.1) → ∃ cs0 cs, Γ.h i = some (.var cs0) ∧ h' i = some (.var cs) ∧ Δ.h i = some (.var cs) ∧ cs.all flatF = true ∧ live Δ.h i ∧ Δ.ρ i = Γ.ρ i := by
    intro i hi
    obtain ⟨ob, hob⟩ := look_has hi
    obtain ⟨h1, cs0, h2, _⟩ := hh.look hob
    subst h2
    have hi2 : i ∈ ws.map (·.1) := by rw [hk]; exact hi
    obtain ⟨p, hp, rfl⟩ := List.mem_map.1 hi2
    obtain ⟨g1, cs, g2, g3⟩ := hb p hp
    rw [← hd] at g1
    rw [g2] at g1
    exact ⟨cs0, cs, h1, by rw [(hup _).1 hi]; exact g1, g1, g3, live_var g1, (E.keep _ hi (live_var g1)).2⟩
  have hout : ∀ i, i ∉ hs.map (·.1) → h' i = Γ.h i := fun i hi => (hup i).2 hi
  have hlive : ∀ i, live h' i → live Γ.h i := by
    intro i hl
    by_cases hi : i ∈ hs.map (·.1)
    · obtain ⟨cs0, _, h1, _⟩ := hin i hi; exact live_var h1
    · obtain ⟨o, e, hne⟩ := hl; exact ⟨o, by rw [← hout i hi]; exact e, hne⟩
  have hblk : ∀ i, i ∉ hs.map (·.1) → live Γ.h i → ∀ k base, Γ.ρ i = some (k, base) → Δ.w.heap[k]? = Γ.w.heap[k]? := by
    intro i hi hl k base hr
    refine (E.blk k (H.there hl hr) fun j bj hj hrj => ?_).1
    obtain ⟨o, e, hne⟩ := hj
    have hjm : j ∈ hs.map (·.1) := List.mem_map.2 ⟨_, look_in e, rfl⟩
    have hjl : live Γ.h j := ⟨o, (hh.look e).1, hne⟩
    have : i = j := H.inj i j k base bj hl hjl hr hrj
    exact hi (this ▸ hjm)
  have hB : ∀ i, isB h' i → i ∉ hs.map (·.1) ∧ isB Γ.h i := by
    intro i hb'
    by_cases hi : i ∈ hs.map (·.1)
    · obtain ⟨_, cs, _, h2, _⟩ := hin i hi
      rcases hb' with ⟨t, e', r, s, e⟩ | ⟨o, e⟩ <;> (rw [h2] at e; cases e)
    · refine ⟨hi, ?_⟩
      rcases hb' with ⟨t, e', r, s, e⟩ | ⟨o, e⟩
      · exact .inl ⟨t, e', r, s, by rw [← hout i hi]; exact e⟩
      · exact .inr ⟨o, by rw [← hout i hi]; exact e⟩
  have EV : Evo Γ { Γ with w := Δ.w, h := h', n := m } := by
    refine ⟨hm, fun id _ hl => ⟨hlive id hl, rfl⟩, fun id cs _ e => ?_, fun id fz s xs _ e => ?_, fun id s fc c tm _ e => ?_, fun id t e r s _ h => ?_, fun id o _ h => ?_, fun b r hb' => E.lp b r hb', fun id b base c E0 z _ hl hr hb' => ?_, fun b o h => ⟨h, (E.zc b o h).2⟩, fun _ _ h => .inl h, fun k hk hno => ?_, E.size, E.os, E.tape, E.output⟩
    · by_cases hi : id ∈ hs.map (·.1)
      · obtain ⟨cs0, cs', h1, h2, h3, _⟩ := hin id hi
        have e : h' id = some (.var cs) := e
        rw [h2] at e; cases e
        obtain ⟨cs1, g1, g2⟩ := E.var id cs hi h3
        obtain ⟨g3, cs2, g4, _⟩ := hh.look g1
        exact ⟨cs1, g3, g2⟩
      · exact ⟨cs, by rw [← hout id hi]; exact e, rfl⟩
    · by_cases hi : id ∈ hs.map (·.1)
      · obtain ⟨cs0, cs', h1, h2, h3, _⟩ := hin id hi
        have e : h' id = some (.row fz s xs) := e
        rw [h2] at e; cases e
      · exact ⟨fz, xs, by rw [← hout id hi]; exact e, rfl⟩
    · by_cases hi : id ∈ hs.map (·.1)
      · obtain ⟨cs0, cs', h1, h2, h3, _⟩ := hin id hi
        have e : h' id = some (.loop s fc c tm) := e
        rw [h2] at e; cases e
      · exact ⟨s, tm, by rw [← hout id hi]; exact e⟩
    · obtain ⟨hi, _⟩ := hB id (.inl ⟨_, _, _, _, h⟩)
      exact ⟨r, s, by rw [← hout id hi]; exact h⟩
    · obtain ⟨hi, _⟩ := hB id (.inr ⟨_, h⟩)
      exact ⟨o, by rw [← hout id hi]; exact h⟩
    · by_cases hi : id ∈ hs.map (·.1)
      · obtain ⟨cs0, cs', h1, h2, h3, _, h4, h5⟩ := hin id hi
        exact E.csize id b base c E0 z hi h4 hr hb'
      · exact ⟨c, E0, z, (hblk id hi (hlive id hl) b base hr).trans hb', rfl⟩
    · refine ⟨(E.blk k hk fun j bj hj hrj => ?_).1, fun id base hl hr => hno id base (hlive id hl) hr⟩
      obtain ⟨o, e, hne⟩ := hj
      exact hno j bj ⟨o, (hh.look e).1, hne⟩ hrj
  refine ⟨H.step EV (fun id cs e => ?_) (fun id fz s xs e => ?_) (fun id s fc c tm e => ?_) (fun id t e r s hb' hr => ?_) (fun id hb' => .inl (H.lt id (hB id hb').2.live)) (fun i j b bi bj hi hj => H.inj i j b bi bj (hlive i hi) (hlive j hj)) (fun id hl => hm id (H.lt id (hlive id hl))) (fun b o h => ?_), EV⟩
  · by_cases hi : id ∈ hs.map (·.1)
    · obtain ⟨cs0, cs', h1, h2, h3, hf, h4, h5⟩ := hin id hi
      have e : h' id = some (.var cs) := e
      rw [h2] at e; cases e
      obtain ⟨b, c, E0, z, g1, g2, g3, g4, g5, g6⟩ := HΔ.var id cs h3
      rw [h5] at g1
      exact .inr ⟨b, c, E0, z, g1, g2, g3, g4, g5, fun j x u hj hu => flatF_VR (List.all_eq_true.1 hf x (List.mem_of_getElem? hj)) (g6 j x u hj hu)⟩
    · have e1 : Γ.h id = some (.var cs) := by rw [← hout id hi]; exact e
      exact .inl ⟨H.lt id (live_var e1), e1, hblk id hi (live_var e1)⟩
  · by_cases hi : id ∈ hs.map (·.1)
    · obtain ⟨cs0, cs', h1, h2, _⟩ := hin id hi
      have e : h' id = some (.row fz s xs) := e
      rw [h2] at e; cases e
    · have e1 : Γ.h id = some (.row fz s xs) := by rw [← hout id hi]; exact e
      exact .inl ⟨H.lt id (live_row e1), ⟨fz, e1⟩, hblk id hi (live_row e1)⟩
  · by_cases hi : id ∈ hs.map (·.1)
    · obtain ⟨cs0, cs', h1, h2, _⟩ := hin id hi
      have e : h' id = some (.loop s fc c tm) := e
      rw [h2] at e; cases e
    · have e1 : Γ.h id = some (.loop s fc c tm) := by rw [← hout id hi]; exact e
      exact .inl ⟨H.lt id (live_loop e1), e1, hblk id hi (live_loop e1)⟩
  · obtain ⟨hi, hbi⟩ := hB id (.inl ⟨_, _, _, _, hb'⟩)
    obtain ⟨hj, hbj⟩ := hB r (.inr ⟨_, hr⟩)
    exact .inl ⟨H.lt id hbi.live, H.lt r hbj.live, by rw [← hout id hi]; exact hb', by rw [← hout r hj]; exact hr, hblk id hi hbi.live, hblk r hj hbj.live⟩
  · obtain ⟨h1, h2⟩ := H.z b o h
    refine ⟨Nat.lt_of_lt_of_le h1 E.size, fun id base hl hr => ?_⟩
    obtain ⟨s, xs, e, ho⟩ := h2 id base (hlive id hl) hr
    have hi : id ∉ hs.map (·.1) := by
      intro hi
      obtain ⟨cs0, _, g1, _⟩ := hin id hi
      rw [g1] at e; cases e
    exact ⟨s, xs, by show h' id = _; rw [hout id hi]; exact e, ho⟩

section
variable {F : Fence} {P : Program} {call : CallFn}

/-- A call by value. -/
theorem callP_sound (hc : CallOk F P call) {f : Nat} {ps : List V} {r : V} (hfy : Nat.beq f yn = false) (h : callP call f ps = some r) (n : Nat) {w : World} {Z : Nat → Nat → Prop} (hz : ∀ b o, Z b o → b < w.heap.size) {us : Array Value}
    (hps : VRs (bare w Z) ps us) : CallsIn F n P f us w fun e w' => match e with
        | .returned u => (∀ k, k < w.heap.size → w'.heap[k]? = w.heap[k]?) ∧ w.heap.size ≤ w'.heap.size ∧ w'.os = w.os ∧ w'.tape = w.tape ∧ w'.output = w.output ∧
            VR (bare w' fun b o => Z b o ∨ (w.heap.size ≤ b ∧ b < w'.heap.size)) r u
        | _ => False := by
  unfold callP at h
  rw [Option.bind_eq_some_iff] at h
  obtain ⟨⟨v, hp', nx'⟩, hcall, hr⟩ := h
  obtain ⟨_, hx⟩ := (hc _ _ _ _ _ _ _ hcall).1 hfy
  have := hx n (bare w Z) us (bare_ok hz) rfl (fun _ _ h => h) hps
  refine CallsIn.mono this ?_
  rintro e w' he
  cases e with
  | returned u =>
    obtain ⟨Δ, rfl, HΔ, hh, _, E, hv⟩ := he
    have hblk : ∀ k, k < w.heap.size → Δ.w.heap[k]? = w.heap[k]? ∧ ∀ id base, live Δ.h id → Δ.ρ id ≠ some (k, base) := fun k hk => E.blk k hk fun id base hl => absurd hl bare_live
    refine ⟨fun k hk => (hblk k hk).1, E.size, E.os, E.tape, E.output, purifyR_sound HΔ hv (by rw [hh]; exact hr) rfl ?_⟩
    intro ids b o hzo
    rcases hzo with hzo | ⟨id, fz, s, xs, base, _, hid, hρ, _⟩
    · rcases E.zn b o hzo with h1 | h1 | ⟨id, base, hl, _⟩
      · exact .inl h1
      · exact .inr ⟨h1, (HΔ.z b o hzo).1⟩
      · exact absurd hl bare_live
    · refine .inr ⟨?_, HΔ.there (live_row hid) hρ⟩
      by_cases hb : b < w.heap.size
      · exact absurd hρ ((hblk b hb).2 id base (live_row hid))
      · omega
  | panicked c => exact he
  | outgrown => exact he

/-- The rule for one operation. -/
def StepOk (F : Fence) (P : Program) (o : Oper) (α : Operand → Value) (Γ : Cx) (b : Nat) (v : V) (ws : List (Nat × Ob)) : Prop :=
  ∀ (n : Nat) (a : Act) (next : Act → World → Prop) (Q : Exit → Act → World → Prop), a.eval = α →
    (∀ (u : Value) (Δ : Cx), Δ.h = upds Γ.h ws → Δ.n = more Γ.n b → HOk Δ → Evo Γ Δ → VR Δ v u → next (a.put o.dst u) Δ.w) → o.wpIn F n P a Γ.w next Q

variable {o : Oper} {α : Operand → Value} {e : Operand → V} {Γ : Cx} {b : Nat}

theorem about_ok (hF : ∀ f, F.fn f) (w : World) : ∀ f, o.about P w α = some f → F.fn f := fun f _ => hF f

theorem OpOk.step (hF : ∀ f, F.fn f) (hdef : ∀ c, o.op ≠ .defer c) {v : V} {ws : List (Nat × Ob)} (h : OpOk P o α Γ b v ws) : StepOk F P o α Γ b v ws := by
  intro n a next Q ha hn
  obtain ⟨u, Δ, hrun, hh, hn', hok, hev, hvr⟩ := h
  subst ha
  refine ⟨about_ok hF _, ?_⟩
  rw [Oper.semAt_eq _ _ _ hdef]
  rcases hrun with hrun | ⟨hrun, hu⟩
  · rw [hrun, Oper.uponIn_value]; exact hn u Δ hh hn' hok hev hvr
  · rw [hrun, Oper.uponIn_skip]; subst hu; exact hn _ Δ hh hn' hok hev hvr

theorem run_call {g : Operand} {args : Array Operand} {tys : Array TypeId} (ho : o.op = .call { callee := .value g, args := args, argTypes := tys }) {f : FuncId} {ua uc : Array Value} (hg : α g = .func (.func f) ua uc)
    {fn : Func} (hf : P.funcs[f]? = some fn) (hname : (fn.name == "runtime.NumGoroutine") = false) (hbody : fn.body.isNone = false) (w : World) :
    (execOp α o).run P w = .ok (.enter f (ua ++ args.map α ++ uc)) w := by
  have h1 : ∀ args, (callFunc f args).run P w = .ok (.enter f args) w := by
    intro args
    simp only [callFunc, Sem.run_bind, run_program, Result.andThen_ok, hf, hname, hbody, Bool.false_eq_true, if_false, Sem.run_pure]
  simp [execOp, ho, resolve, hg, Deferred.ofValue, invoke, h1, Sem.run]

theorem VRs_args (he : ∀ x, VR Γ (e x) (α x)) (args : Array Operand) : VRs Γ (args.toList.map e) (args.map α) := by
  refine ⟨by simp, fun i v u hv hu => ?_⟩
  simp only [List.getElem?_map, Array.getElem?_toList, Option.map_eq_some_iff] at hv
  simp only [Array.getElem?_map, Option.map_eq_some_iff] at hu
  obtain ⟨x, hx, rfl⟩ := hv
  obtain ⟨y, hy, rfl⟩ := hu
  rw [hx] at hy; cases hy
  exact he x

theorem stepE_call (hF : ∀ f, F.fn f) (hdep : F.depth = none) (hc : CallOk F P call) (H : HOk Γ) (hb : Fresh Γ.n b) (he : ∀ x, VR Γ (e x) (α x)) {C : Cfg} {g : Operand} {args : Array Operand} {tys : Array TypeId}
    (ho : o.op = .call { callee := .value g, args := args, argTypes := tys }) {v : V} {ws : List (Nat × Ob)} (h : stepE P C call o.op e Γ.h b = some (v, ws)) : StepOk F P o α Γ b v ws := by
  rw [ho] at h
  simp only [stepE] at h
  split at h
  · rename_i f first cap hg
    split at h
    · cases h
    · rename_i hin
      have hfy : Nat.beq f yn = false := by
        cases hb : Nat.beq f yn with
        | false => rfl
        | true => simp [hb] at hin
      split at h
      · unfold callV at h
        simp only [Option.bind_eq_some_iff] at h
        obtain ⟨hs, hvs, ⟨v0, hp', nx'⟩, hcall, hend⟩ := h
        unfold endV at hend
        split at hend
        · rename_i hfl
          rw [Option.map_eq_some_iff] at hend
          obtain ⟨ws', hback, he'⟩ := hend
          cases he'
          have hgv := he g
          rw [hg] at hgv
          obtain ⟨ua, uc, hgu, hla, hlc, hva, hvc⟩ := hgv.fn_inv
          have hargs : VRs Γ (first ++ (args.toList.map e) ++ cap) (ua ++ args.map α ++ uc) := ((VRs.append ⟨hla, hva⟩ (VRs_args he args)).append ⟨hlc, hvc⟩)
          generalize first ++ (args.toList.map e) ++ cap = vs at *
          obtain ⟨hH, hA⟩ := varsOf_inv hvs
          obtain ⟨⟨fn, hfn, hname, hbody⟩, hx⟩ := (hc _ _ _ _ _ _ _ hcall).1 hfy
          intro n a next Q ha hn
          subst ha
          refine ⟨about_ok hF _, ?_⟩
          rw [Oper.semAt_eq _ _ _ (fun c hd => by rw [ho] at hd; cases hd), run_call ho hgu hfn hname hbody, Oper.uponIn_enter]
          refine ⟨fun hd => (by rw [hdep] at hd; cases hd), ?_⟩
          have htop : ∀ (l : List (Nat × Ob)) (m : Nat), m ≤ l.foldl (fun m p => max m (p.1 + 1)) m ∧ ∀ k, l.foldl (fun m p => max m (p.1 + 1)) m ≤ k → k ∉ l.map (·.1) := by
            intro l
            induction l with
            | nil => intro m; exact ⟨Nat.le_refl _, fun k _ h => (by cases h)⟩
            | cons p r ih =>
              intro m
              obtain ⟨i1, i2⟩ := ih (max m (p.1 + 1))
              refine ⟨Nat.le_trans (Nat.le_max_left _ _) i1, fun k hk hm => ?_⟩
              rw [List.map_cons, List.mem_cons] at hm
              rcases hm with rfl | hm
              · have := Nat.le_trans (Nat.le_trans (Nat.le_max_right m (p.1 + 1)) i1) hk; omega
              · exact i2 k hk hm
          refine CallsIn.mono (hx (n - 1) (Γ.only hs) _ (only_ok H hH) rfl (fun k hk => (htop hs 0).2 k hk) (only_args hs hA hH hargs)) ?_
          rintro en w' hen
          cases en with
          | panicked c => exact hen.elim
          | outgrown => exact hen.elim
          | returned u =>
            obtain ⟨Δ, rfl, HΔ, hd, _, E, hvr⟩ := hen
            obtain ⟨H1, E1⟩ := only_back H hH HΔ E hd hback (more Γ.n b) more_of
            exact hn u { Γ with w := Δ.w, h := upds Γ.h ws, n := more Γ.n b } rfl rfl H1 E1 (flatR_VR hfl hvr)
        · cases hend
      rename_i hnv
      simp only [Option.bind_eq_some_iff, Option.map_eq_some_iff] at h
      obtain ⟨ps, hps, r, hr, hrw⟩ := h
      obtain ⟨rfl, rfl⟩ : r = v ∧ (if flatR r then [] else freeze Γ.h ((first ++ (args.toList.map e) ++ cap).flatMap rid)) = ws := Prod.mk.inj hrw
      have hgv := he g
      rw [hg] at hgv
      obtain ⟨ua, uc, hgu, hla, hlc, hva, hvc⟩ := hgv.fn_inv
      have hargs : VRs Γ (first ++ (args.toList.map e) ++ cap) (ua ++ args.map α ++ uc) := ((VRs.append ⟨hla, hva⟩ (VRs_args he args)).append ⟨hlc, hvc⟩)
      generalize hvs : first ++ (args.toList.map e) ++ cap = vs at *
      intro n a next Q ha hn
      subst ha
      refine ⟨about_ok hF _, ?_⟩
      have hcall0 := hr
      unfold callP at hcall0
      rw [Option.bind_eq_some_iff] at hcall0
      obtain ⟨⟨v0, hp0, nx0⟩, hcall, _⟩ := hcall0
      obtain ⟨⟨fn, hfn, hname, hbody⟩, _⟩ := (hc _ _ _ _ _ _ _ hcall).1 hfy
      rw [Oper.semAt_eq _ _ _ (fun c hd => by rw [ho] at hd; cases hd), run_call ho hgu hfn hname hbody, Oper.uponIn_enter]
      refine ⟨fun hd => (by rw [hdep] at hd; cases hd), ?_⟩
      have hzb : ∀ b o, Zof Γ (vs.flatMap rid) b o → b < Γ.w.heap.size := by
        intro b o hz
        rcases hz with hz | ⟨id, fz, s, xs, base, _, hid, hρ, _⟩
        · exact (H.z b o hz).1
        · exact H.there (live_row hid) hρ
      have hpv : VRs (bare Γ.w (Zof Γ (vs.flatMap rid))) ps (ua ++ args.map a.eval ++ uc) := by
        obtain ⟨hlen, hgp⟩ := purifys_get hps
        refine ⟨by rw [hlen]; exact hargs.1, fun i p u hp hu => ?_⟩
        have hi : i < vs.length := by have := (List.getElem?_eq_some_iff.1 hp).1; omega
        obtain ⟨p', hp1, hp2⟩ := hgp i vs[i] (List.getElem?_eq_getElem hi)
        rw [hp] at hp1; cases hp1
        refine .pure ((purify_sound H (hargs.2 i _ u (List.getElem?_eq_getElem hi) hu) hp2).zmono fun b o hz => hz.mono fun x hx => ?_)
        simp only [List.mem_flatMap]
        exact ⟨vs[i], List.getElem_mem hi, hx⟩
      refine CallsIn.mono (callP_sound hc hfy hr (n - 1) hzb hpv) ?_
      rintro en w' hen
      cases en with
      | panicked c => exact hen.elim
      | outgrown => exact hen.elim
      | returned u =>
        obtain ⟨hblk, hsz, hos, ht, hout, hvr⟩ := hen
        show next _ w'
        by_cases hfl : flatR r = true
        · obtain ⟨H1, E1⟩ := step_ext H w' (more Γ.n b) (fun _ _ => False) hblk hsz hos ht hout more_of (fun _ _ h => h.elim)
          exact hn u _ (by rw [if_pos hfl]; rfl) rfl H1 E1 (flatR_VR hfl hvr)
        · obtain ⟨Γf, Hf, Ef, hhf, hwf, hnf, hρf, hzf, hzsf⟩ := step_freezes (vs.flatMap rid) H Γ.h (fun id fz s xs h => ⟨fz, h⟩)
          obtain ⟨H1, E1⟩ := step_ext Hf w' (more Γ.n b) (fun b o => Zof Γ (vs.flatMap rid) b o ∨ (Γ.w.heap.size ≤ b ∧ b < w'.heap.size)) (by rw [hwf]; exact hblk) (by rw [hwf]; exact hsz) (by rw [hwf]; exact hos)
            (by rw [hwf]; exact ht) (by rw [hwf]; exact hout) (fun i hi => more_of i (by rw [← hnf]; exact hi)) (fun b' o' hz => by
              rw [hwf]
              have hz : Zof Γ (vs.flatMap rid) b' o' ∨ (Γ.w.heap.size ≤ b' ∧ b' < w'.heap.size) := hz
              cases hz with
              | inr hz => exact .inr hz
              | inl hz =>
                left
                rcases hz with hz | ⟨id', fz', s', xs', base', hm, h1, h2, h3, h4⟩
                · exact hzf _ _ hz
                · exact hzsf id' fz' s' xs' base' b' o' hm h1 h2 h3 h4)
          refine hn u _ (by rw [if_neg hfl]; exact hhf) rfl H1 (Ef.trans E1) ?_
          exact VR_bare hvr rfl fun b o h => .inr h
  · cases h

def isCallV : Op → Bool
  | .call { callee := .value _, .. } => true
  | _ => false
theorem stepE_other {C : Cfg} {op : Op} (h : isCallV op = false) (e : Operand → V) (hp : Nat → Option Ob) (b : Nat) : stepE P C call op e hp b = opSem P op e hp b := by
  cases op with
  | call c => obtain ⟨callee, args, tys⟩ := c; cases callee <;> first | rfl | simp [isCallV] at h
  | _ => rfl
theorem isCallV_inv {op : Op} (h : isCallV op = true) : ∃ g args tys, op = .call { callee := .value g, args := args, argTypes := tys } := by
  cases op with
  | call c => obtain ⟨callee, args, tys⟩ := c; cases callee <;> first | exact ⟨_, _, _, rfl⟩ | simp [isCallV] at h
  | _ => simp [isCallV] at h

theorem varsOf_congr {h h' : Nat → Option Ob} : ∀ {vs : List V}, (∀ id ∈ vs.flatMap crid, h id = h' id) → varsOf h vs = varsOf h' vs := by
  intro vs
  induction vs with
  | nil => intro _; rfl
  | cons v r ih =>
    intro hh
    simp only [List.flatMap_cons, List.mem_append] at hh
    have e : varOf h v = varOf h' v := by
      cases v with
      | ptr id o =>
        cases o with
        | zero => simp only [varOf]; rw [hh id (.inl (by simp [crid, aid]))]
        | succ o => rfl
      | _ => rfl
    simp only [varsOf]
    rw [e, ih fun id hi => hh id (.inr hi)]
theorem stepE_congr {C : Cfg} {op : Op} {e e' : Operand → V} {h h' : Nat → Option Ob} {b : Nat} (hx : ∀ x ∈ op.operands.toList, e x = e' x) (hh : ∀ id ∈ hreads op e, h id = h' id) :
    stepE P C call op e h b = stepE P C call op e' h' b := by
  cases hcv : isCallV op with
  | false => rw [stepE_other hcv, stepE_other hcv]; exact opSem_congr hx hh
  | true =>
    obtain ⟨g, args, tys, rfl⟩ := isCallV_inv hcv
    have hg := hx g (by simp [Op.operands, Call.operands])
    have ha : args.toList.map e = args.toList.map e' := List.map_congr_left fun x h => hx x (by simp [Op.operands, Call.operands]; right; simpa using h)
    simp only [stepE, ← hg, ← ha]
    simp only [hreads] at hh
    generalize e g = gv at *
    cases gv with
    | fn f first cap =>
      simp only at hh
      have hh2 : ∀ id ∈ (first ++ (args.toList.map e) ++ cap).flatMap rid, h id = h' id := fun id hi => hh id (by
        obtain ⟨v, hv, hm⟩ := List.mem_flatMap.1 hi
        exact List.mem_flatMap.2 ⟨v, hv, List.mem_append_left _ hm⟩)
      cases f <;> first | rfl | skip
      simp only [purifys_congr hh2, freeze_congr hh2, callV, varsOf_congr hh]
    | _ => rfl

open Classical in
theorem stepE_ok (hF : ∀ f, F.fn f) (hdep : F.depth = none) (hc : CallOk F P call) (H : HOk Γ) (hb : Fresh Γ.n b) (he : ∀ x ∈ o.op.operands.toList, VR Γ (e x) (α x)) {h : Nat → Option Ob} (hh : ∀ id ∈ hreads o.op e, h id = Γ.h id)
    {C : Cfg} {v : V} {ws : List (Nat × Ob)} (hs : stepE P C call o.op e h b = some (v, ws)) : StepOk F P o α Γ b v ws := by
  let e' : Operand → V := fun x => if x ∈ o.op.operands.toList then e x else .junk
  have hx : ∀ x ∈ o.op.operands.toList, e x = e' x := fun x hm => (if_pos hm).symm
  have he' : ∀ x, VR Γ (e' x) (α x) := by
    intro x
    show VR Γ (if x ∈ o.op.operands.toList then e x else .junk) (α x)
    split
    · exact he x (by assumption)
    · exact .junk _
  rw [stepE_congr hx hh] at hs
  cases hcv : isCallV o.op with
  | true =>
    obtain ⟨g, args, tys, ho⟩ := isCallV_inv hcv
    exact stepE_call hF hdep hc H hb he' ho hs
  | false =>
    rw [stepE_other hcv] at hs
    exact (op_sound H hb he' hs).step hF fun c hd => by rw [hd] at hs; cases hs
end
end Go.Sym
