/- DERIVED. The head of a loop: things are numbered anew. -/
import Derived.Test.YtfjloeemhiffgaaSymCode6
set_option linter.unusedVariables false
set_option linter.unusedSimpArgs false
namespace Go.Sym
variable {Γe Γ Δ : Cx} {N : Nat} {st st' : St} {a : Act}

theorem look_map {α β : Type} (g : α → β) (l : List (Nat × α)) (k : Nat) : look (l.map fun p => (p.1, g p.2)) k = (look l k).map g := by
  induction l with
  | nil => rfl
  | cons p r ih => simp only [List.map_cons, look]; split <;> simp_all
theorem look_filter {α : Type} (c : Nat → Bool) (l : List (Nat × α)) (k : Nat) : look (l.filter fun p => c p.1) k = if c k then look l k else none := by
  induction l with
  | nil => simp [look]
  | cons p r ih =>
    by_cases hp : c p.1 = true
    · rw [List.filter_cons_of_pos (by exact hp)]
      simp only [look]
      by_cases hk : p.1 = k
      · subst hk; simp [hp]
      · rw [if_neg hk, if_neg hk]; exact ih
    · rw [List.filter_cons_of_neg (by exact hp)]
      rw [ih]
      simp only [look]
      by_cases hk : p.1 = k
      · subst hk; simp [hp]
      · rw [if_neg hk]
theorem look_append {α : Type} (l l' : List (Nat × α)) (k : Nat) : look (l ++ l') k = match look l k with | some v => some v | none => look l' k := by
  induction l with
  | nil => rfl
  | cons p r ih => simp only [List.cons_append, look]; split <;> simp_all
theorem look_mem {α : Type} {l : List (Nat × α)} {k : Nat} {v : α} (h : look l k = some v) : (k, v) ∈ l := by
  induction l with
  | nil => simp [look] at h
  | cons p r ih =>
    simp only [look] at h
    split at h
    · rename_i e; cases h; subst e; simp
    · exact List.mem_cons_of_mem _ (ih h)
theorem look_none {α : Type} {l : List (Nat × α)} {k : Nat} (h : look l k = none) : ∀ v, (k, v) ∉ l := by
  induction l with
  | nil => simp
  | cons p r ih =>
    simp only [look] at h
    split at h
    · cases h
    · rename_i e
      intro v hv
      rcases List.mem_cons.1 hv with hv | hv
      · exact e (by rw [← hv])
      · exact ih h v hv

/-- New numbers: n0, n0 + 1, ..; each for one old number. -/
structure MOk (n0 : Nat) (m : List (Nat × Nat)) : Prop where
  val : ∀ (k : Nat) (p : Nat × Nat), m[k]? = some p → p.2 = n0 + k
  key : ∀ (i j : Nat) (p q : Nat × Nat), m[i]? = some p → m[j]? = some q → p.1 = q.1 → i = j

theorem MOk.nil (n0 : Nat) : MOk n0 [] := ⟨fun k p h => by simp at h, fun i j p q h => by simp at h⟩
theorem MOk.snoc {n0 : Nat} {m : List (Nat × Nat)} (h : MOk n0 m) {id : Nat} (hn : look m id = none) : MOk n0 (m ++ [(id, n0 + m.length)]) := by
  have hg : ∀ (k : Nat) (p : Nat × Nat), (m ++ [(id, n0 + m.length)])[k]? = some p → m[k]? = some p ∨ (k = m.length ∧ p = (id, n0 + m.length)) := by
    intro k p hk
    by_cases hlt : k < m.length
    · rw [List.getElem?_append_left hlt] at hk; exact .inl hk
    · rw [List.getElem?_append_right (by omega)] at hk
      have := (List.getElem?_eq_some_iff.1 hk).1
      simp at this
      have hk0 : k - m.length = 0 := by omega
      rw [hk0] at hk
      simp at hk
      exact .inr ⟨by omega, hk.symm⟩
  have hno : ∀ (i : Nat) (p : Nat × Nat), m[i]? = some p → p.1 ≠ id := fun i p hp e => look_none hn p.2 (by rw [← e]; exact List.mem_of_getElem? hp)
  refine ⟨fun k p hk => ?_, fun i j p q hi hj e => ?_⟩
  · rcases hg k p hk with h1 | ⟨rfl, rfl⟩
    · exact h.val k p h1
    · rfl
  · rcases hg i p hi with h1 | ⟨rfl, rfl⟩ <;> rcases hg j q hj with h2 | ⟨rfl, rfl⟩
    · exact h.key i j p q h1 h2 e
    · exact absurd e (hno i p h1)
    · exact absurd e.symm (hno j q h2)
    · rfl
theorem MOk.adds {n0 : Nat} {all : Bool} : ∀ {l : List (Nat × Bool)} {m : List (Nat × Nat)}, MOk n0 m → MOk n0 (adds n0 all m l) := by
  intro l
  induction l with
  | nil => intro m h; exact h
  | cons p r ih =>
    intro m h
    simp only [Go.Sym.adds]
    split
    · exact ih h
    · rename_i hn
      split
      · exact ih (h.snoc (by simpa using hn))
      · exact ih h
theorem MOk.follow {n0 : Nat} {hp : List (Nat × Ob)} : ∀ {k i : Nat} {m : List (Nat × Nat)}, MOk n0 m → MOk n0 (follow n0 hp k i m) := by
  intro k
  induction k with
  | zero => intro i m h; exact h
  | succ k ih =>
    intro i m h
    simp only [Go.Sym.follow]
    split
    · exact h
    · split
      · exact ih h.adds
      · exact ih h

/-- Which number an old number gets. -/
def sig (n0 : Nat) (m : List (Nat × Nat)) (id : Nat) : Option Nat := match look m id with | some n => some n | none => if id < n0 then some id else none
theorem MOk.look {n0 : Nat} {m : List (Nat × Nat)} (h : MOk n0 m) {id n : Nat} (hl : look m id = some n) : ∃ i, m[i]? = some (id, n) ∧ n = n0 + i := by
  obtain ⟨i, hi⟩ := List.getElem?_of_mem (look_mem hl)
  exact ⟨i, hi, h.val i _ hi⟩
theorem MOk.sig_mem {n0 : Nat} {m : List (Nat × Nat)} (h : MOk n0 m) {p : Nat × Nat} (hp : p ∈ m) : sig n0 m p.1 = some p.2 := by
  unfold sig
  cases hl : Go.Sym.look m p.1 with
  | none => exact absurd hp (look_none hl p.2)
  | some n =>
    obtain ⟨i, hi, hn⟩ := h.look hl
    obtain ⟨j, hj⟩ := List.getElem?_of_mem hp
    have := h.key i j _ _ hi hj rfl
    subst this
    rw [hi] at hj; rw [← Option.some.inj hj]
theorem MOk.sig_lt {n0 : Nat} {m : List (Nat × Nat)} (h : MOk n0 m) {id k : Nat} (hs : sig n0 m id = some k) : k < n0 + m.length ∧ (k < n0 → id = k) := by
  unfold sig at hs
  split at hs
  · rename_i n hl
    cases hs
    obtain ⟨i, hi, hn⟩ := h.look hl
    have := (List.getElem?_eq_some_iff.1 hi).1
    exact ⟨by omega, fun h => by omega⟩
  · split at hs
    · cases hs; exact ⟨by omega, fun _ => rfl⟩
    · cases hs
theorem MOk.sig_inj {n0 : Nat} {m : List (Nat × Nat)} (h : MOk n0 m) {i j k : Nat} (hi : sig n0 m i = some k) (hj : sig n0 m j = some k) : i = j := by
  unfold sig at hi hj
  split at hi
  · rename_i n hl
    cases hi
    obtain ⟨x, hx, hn⟩ := h.look hl
    split at hj
    · rename_i n' hl'
      cases hj
      obtain ⟨y, hy, hn'⟩ := h.look hl'
      have : x = y := by omega
      subst this
      rw [hx] at hy; cases hy; rfl
    · split at hj
      · cases hj; omega
      · cases hj
  · split at hi
    · cases hi
      split at hj
      · rename_i n' hl'
        cases hj
        obtain ⟨y, hy, hn'⟩ := h.look hl'
        omega
      · split at hj
        · cases hj; rfl
        · cases hj
    · cases hi

structure Ren (n0 : Nat) (m : List (Nat × Nat)) (Γ Γ' : Cx) : Prop where
  mok : MOk n0 m
  w : Γ'.w = Γ.w
  Z : Γ'.Z = Γ.Z
  ρ : ∀ id k, sig n0 m id = some k → Γ'.ρ k = Γ.ρ id
  n : ∀ k, Γ'.n k ↔ k < n0 + m.length
  ob : ∀ k ob, Γ'.h k = some ob → ob ≠ .dead → ∃ id ob0, sig n0 m id = some k ∧ Γ.h id = some ob0 ∧ ob = renOb n0 m ob0

variable {n0 : Nat} {m : List (Nat × Nat)} {Γ' : Cx}

theorem Ren.live (R : Ren n0 m Γ Γ') {k : Nat} (h : live Γ'.h k) : ∃ id, sig n0 m id = some k ∧ live Γ.h id := by
  obtain ⟨ob, e, hne⟩ := h
  obtain ⟨id, ob0, hs, e0, rfl⟩ := R.ob k ob e hne
  exact ⟨id, hs, ob0, e0, fun h => hne (by rw [h]; rfl)⟩
theorem Ren.var (R : Ren n0 m Γ Γ') {k : Nat} {cs' : List V} (h : Γ'.h k = some (.var cs')) : ∃ id cs, sig n0 m id = some k ∧ Γ.h id = some (.var cs) ∧ cs' = cs.map (ren n0 m) := by
  obtain ⟨id, ob0, hs, e0, he⟩ := R.ob k _ h (by simp)
  cases ob0 with
  | var cs => simp only [renOb, Ob.var.injEq] at he; exact ⟨id, cs, hs, e0, he⟩
  | row fz s xs => simp [renOb] at he
  | loop s fc c tm => simp [renOb] at he
  | bld t e' r s => simp only [renOb] at he; (repeat' split at he) <;> cases he
  | raw o => simp only [renOb] at he; (repeat' split at he) <;> cases he
  | dead => simp [renOb] at he
theorem Ren.loop (R : Ren n0 m Γ Γ') {k : Nat} {s : LS} {fc : FC} {c : Code} {tm' : List (Nat × V)} (h : Γ'.h k = some (.loop s fc c tm')) :
    ∃ id tm, sig n0 m id = some k ∧ Γ.h id = some (.loop s fc c tm) ∧ tm' = tm.map fun p => (p.1, ren n0 m p.2) := by
  obtain ⟨id, ob0, hs, e0, he⟩ := R.ob k _ h (by simp)
  cases ob0 with
  | var cs => simp [renOb] at he
  | row fz s xs => simp [renOb] at he
  | loop s0 fc0 c0 tm0 => simp only [renOb, Ob.loop.injEq] at he; obtain ⟨rfl, rfl, rfl, he⟩ := he; exact ⟨id, tm0, hs, e0, he⟩
  | bld t e' r s => simp only [renOb] at he; (repeat' split at he) <;> cases he
  | raw o => simp only [renOb] at he; (repeat' split at he) <;> cases he
  | dead => simp [renOb] at he
theorem Ren.row (R : Ren n0 m Γ Γ') {k : Nat} {fz : Bool} {s : Nat} {xs : List V} (h : Γ'.h k = some (.row fz s xs)) : ∃ id, sig n0 m id = some k ∧ Γ.h id = some (.row fz s xs) := by
  obtain ⟨id, ob0, hs, e0, he⟩ := R.ob k _ h (by simp)
  cases ob0 with
  | var cs => simp [renOb] at he
  | row fz' s' xs' => simp only [renOb] at he; exact ⟨id, hs, by rw [e0, he]⟩
  | loop s0 fc0 c0 tm0 => simp [renOb] at he
  | bld t e' r s => simp only [renOb] at he; (repeat' split at he) <;> cases he
  | raw o => simp only [renOb] at he; (repeat' split at he) <;> cases he
  | dead => simp [renOb] at he

theorem Ren.bld (R : Ren n0 m Γ Γ') {k t e' r' : Nat} {s : List UInt8} (h : Γ'.h k = some (.bld t e' r' s)) : ∃ id r, sig n0 m id = some k ∧ Γ.h id = some (.bld t e' r s) ∧ sig n0 m r = some r' := by
  obtain ⟨id, ob0, hs, e0, he⟩ := R.ob k _ h (by simp)
  cases ob0 with
  | bld t1 e1 r1 s1 =>
    simp only [renOb] at he
    have hsg : sig n0 m r1 = match look m r1 with | some n => some n | none => if r1 < n0 then some r1 else none := rfl
    cases hl : look m r1 with
    | some n => rw [hl] at he hsg; cases he; exact ⟨id, r1, hs, e0, hsg⟩
    | none =>
      rw [hl] at he hsg
      simp only at he hsg
      by_cases hlt : r1 < n0
      · rw [if_pos hlt] at he hsg; cases he; exact ⟨id, _, hs, e0, hsg⟩
      · rw [if_neg hlt] at he; cases he
  | raw o => simp only [renOb] at he; cases hl : look m o with
    | some n => rw [hl] at he; cases he
    | none => rw [hl] at he; simp only at he; by_cases hlt : o < n0 <;> simp [hlt] at he
  | var cs => simp [renOb] at he
  | row fz' s' xs' => simp [renOb] at he
  | loop s0 fc0 c0 tm0 => simp [renOb] at he
  | dead => simp [renOb] at he
theorem Ren.raw (R : Ren n0 m Γ Γ') {k o' : Nat} (h : Γ'.h k = some (.raw o')) : ∃ id o, sig n0 m id = some k ∧ Γ.h id = some (.raw o) ∧ sig n0 m o = some o' := by
  obtain ⟨id, ob0, hs, e0, he⟩ := R.ob k _ h (by simp)
  cases ob0 with
  | raw o =>
    simp only [renOb] at he
    have hsg : sig n0 m o = match look m o with | some n => some n | none => if o < n0 then some o else none := rfl
    cases hl : look m o with
    | some n => rw [hl] at he hsg; cases he; exact ⟨id, o, hs, e0, hsg⟩
    | none =>
      rw [hl] at he hsg
      simp only at he hsg
      by_cases hlt : o < n0
      · rw [if_pos hlt] at he hsg; cases he; exact ⟨id, _, hs, e0, hsg⟩
      · rw [if_neg hlt] at he; cases he
  | bld t1 e1 r1 s1 => simp only [renOb] at he; cases hl : look m r1 with
    | some n => rw [hl] at he; cases he
    | none => rw [hl] at he; simp only at he; by_cases hlt : r1 < n0 <;> simp [hlt] at he
  | var cs => simp [renOb] at he
  | row fz' s' xs' => simp [renOb] at he
  | loop s0 fc0 c0 tm0 => simp [renOb] at he
  | dead => simp [renOb] at he

theorem Ren.nk (R : Ren n0 m Γ Γ') {id k : Nat} (hs : sig n0 m id = some k) : Γ'.n k := (R.n k).2 (R.mok.sig_lt hs).1
theorem Ren.refOk (R : Ren n0 m Γ Γ') {id k s off len : Nat} {u : Value} (hs : sig n0 m id = some k) (h : RefOk Γ id s off len u) : RefOk Γ' k s off len u := by
  obtain ⟨a, cap, hu, hle, hsp, hc⟩ := h
  refine ⟨a, cap, hu, hle, hsp, fun h0 => ?_⟩
  obtain ⟨b, base, c, E1, z, hr, ha, hb, hsz⟩ := hc h0
  exact ⟨b, base, c, E1, z, (R.ρ id k hs).trans hr, ha, by rw [R.w]; exact hb, hsz⟩

theorem ren1_sig {id : Nat} (K : Nat → V) : renTo n0 m id K = match sig n0 m id with | some n => K n | none => .junk := by
  unfold sig renTo
  cases look m id with
  | some n => rfl
  | none => simp only; split <;> rfl

theorem VR_ren1 (R : Ren n0 m Γ Γ') {v : V} {u : Value} (h : VR Γ v u) : VR Γ' (ren1 n0 m v) u := by
  have hpure : ∀ {v : V}, VP Γ.w Γ.Z v u → VR Γ' v u := fun h => .pure (by rw [R.w, R.Z]; exact h)
  cases h with
  | junk u => exact .junk u
  | pure h => cases h <;> first | exact .junk _ | (refine hpure ?_; assumption) | (refine hpure ?_; constructor <;> assumption)
  | agg cs us hl h1 hv => exact .junk _
  | tup vs us hl hv => exact .junk _
  | fn f as cs ua uc hla hlc ha hc => exact .junk _
  | ref id u h1 hn h =>
    simp only [ren1, ren1_sig]
    cases hs : sig n0 m id with
    | none => exact .junk _
    | some k =>
      refine .ref k u h1 (R.nk hs) fun fz s xs e => ?_
      obtain ⟨id', hs', e'⟩ := R.row e
      obtain rfl := R.mok.sig_inj hs hs'
      exact R.refOk hs (h fz s xs e')
  | sub id off len u h1 hn h =>
    simp only [ren1, ren1_sig]
    cases hs : sig n0 m id with
    | none => exact .junk _
    | some k =>
      refine .sub k off len u h1 (R.nk hs) fun fz s xs e => ?_
      obtain ⟨id', hs', e'⟩ := R.row e
      obtain rfl := R.mok.sig_inj hs hs'
      exact ⟨(h fz s xs e').1, R.refOk hs (h fz s xs e').2⟩
  | vsl id off len b cap hn hle h =>
    simp only [ren1, ren1_sig]
    cases hs : sig n0 m id with
    | none => exact .junk _
    | some k =>
      refine .vsl k off len b cap (R.nk hs) hle fun cs e => ?_
      obtain ⟨id', cs', hs', e', hcs⟩ := R.var e
      obtain rfl := R.mok.sig_inj hs hs'
      obtain ⟨h1, h2⟩ := h cs' e'
      refine ⟨?_, (R.ρ _ _ hs).trans h2⟩
      rw [hcs, List.length_map]; exact h1
  | ptr id off b hn h =>
    simp only [ren1, ren1_sig]
    cases hs : sig n0 m id with
    | none => exact .junk _
    | some k =>
      refine .ptr k off b (R.nk hs) fun ob e hv => ?_
      cases ob with
      | var cs =>
        obtain ⟨id', cs', hs', e', _⟩ := R.var e
        obtain rfl := R.mok.sig_inj hs hs'
        exact (R.ρ _ _ hs).trans (h _ e' rfl)
      | bld t e1 r s =>
        obtain ⟨id', r0, hs', e', _⟩ := R.bld e
        obtain rfl := R.mok.sig_inj hs hs'
        exact (R.ρ _ _ hs).trans (h _ e' rfl)
      | _ => cases hv
  | ept id i off b o hn h =>
    simp only [ren1, ren1_sig]
    cases hs : sig n0 m id with
    | none => exact .junk _
    | some k =>
      refine .ept k i off b o (R.nk hs) fun fz s xs e => ?_
      obtain ⟨id', hs', e'⟩ := R.row e
      obtain rfl := R.mok.sig_inj hs hs'
      obtain ⟨base, hr, ho⟩ := h fz s xs e'
      exact ⟨base, (R.ρ _ _ hs).trans hr, ho⟩
  | cpt v off b o he =>
    refine .cpt v off b o fun j c hj => ?_
    obtain ⟨h1, u', h2, h3, h4⟩ := he j c hj
    exact ⟨by rw [R.Z]; exact h1, u', by rw [R.w]; exact h2, h3, by rw [R.w, R.Z]; exact h4⟩
  | yld id l hn h =>
    simp only [ren1, ren1_sig]
    cases hs : sig n0 m id with
    | none => exact .junk _
    | some k =>
      refine .yld k l (R.nk hs) fun s fc c tm e => ?_
      obtain ⟨id', tm', hs', e', _⟩ := R.loop e
      obtain rfl := R.mok.sig_inj hs hs'
      exact (R.ρ _ _ hs).trans (h s fc c tm' e')

theorem ren_alt (v : V) : (∃ cs, v = .agg cs) ∨ (∃ f a c, v = .fn f a c) ∨ ren n0 m v = ren1 n0 m v := by
  cases v <;> first | exact .inl ⟨_, rfl⟩ | exact .inr (.inl ⟨_, _, _, rfl⟩) | exact .inr (.inr rfl)

theorem VR_ren (R : Ren n0 m Γ Γ') {v : V} {u : Value} (h : VR Γ v u) : VR Γ' (ren n0 m v) u := by
  have hl : ∀ {cs : List V} {us : Array Value}, (∀ (i : Nat) (c : V) (u : Value), cs[i]? = some c → us[i]? = some u → VR Γ c u) →
      ∀ (i : Nat) (c : V) (u : Value), (cs.map (ren1 n0 m))[i]? = some c → us[i]? = some u → VR Γ' c u := by
    intro cs us hv i c u hc hu
    simp only [List.getElem?_map, Option.map_eq_some_iff] at hc
    obtain ⟨c0, hc0, rfl⟩ := hc
    exact VR_ren1 R (hv i c0 u hc0 hu)
  rcases ren_alt (n0 := n0) (m := m) v with ⟨cs, rfl⟩ | ⟨f, as, cs, rfl⟩ | he
  · obtain ⟨us, rfl, hlen, h1, hv⟩ := h.agg_inv
    exact .agg _ us (by simpa using hlen) h1 (hl hv)
  · obtain ⟨ua, uc, rfl, hla, hlc, ha, hc⟩ := h.fn_inv
    exact .fn f _ _ ua uc (by simpa using hla) (by simpa using hlc) (hl ha) (hl hc)
  · rw [he]; exact VR_ren1 R h

theorem Ren.ok (R : Ren n0 m Γ Γ') (H : HOk Γ) : HOk Γ' where
  var k cs' e := by
    obtain ⟨id, cs, hs, e0, rfl⟩ := R.var e
    obtain ⟨b, c, E, z, hr, hb, hz, hsz, h1, hv⟩ := H.var id cs e0
    refine ⟨b, c, E, z, (R.ρ id k hs).trans hr, by rw [R.w]; exact hb, hz, by simpa using hsz, h1, fun j x u hx hu => ?_⟩
    simp only [List.getElem?_map, Option.map_eq_some_iff] at hx
    obtain ⟨x0, hx0, rfl⟩ := hx
    exact VR_ren R (hv j x0 u hx0 hu)
  row k fz s xs e := by
    obtain ⟨id, hs, e0⟩ := R.row e
    rcases H.row id fz s xs e0 with ⟨h1, h2⟩ | ⟨b, base, c, E, z, hr, hb, hz, h0, hsz, h1, hx, hv⟩
    · exact .inl ⟨(R.ρ id k hs).trans h1, h2⟩
    · exact .inr ⟨b, base, c, E, z, (R.ρ id k hs).trans hr, by rw [R.w]; exact hb, hz, h0, hsz, h1, hx, by rw [R.w, R.Z]; exact hv⟩
  loop k s fc c tm' e := by
    obtain ⟨id, tm, hs, e0, rfl⟩ := R.loop e
    obtain ⟨b, r, hr, hb, hi, hv⟩ := H.loop id s fc c tm e0
    refine ⟨b, r, (R.ρ id k hs).trans hr, by rw [R.w]; exact hb, hi, fun t x hx => ?_⟩
    rw [look_map, Option.map_eq_some_iff] at hx
    obtain ⟨x0, hx0, rfl⟩ := hx
    exact VR_ren R (hv t x0 hx0)
  bld k t e' r' s hb hr := by
    obtain ⟨id, r, hs, e0, hsr⟩ := R.bld hb
    obtain ⟨r1, o, hs1, e1, hso⟩ := R.raw hr
    obtain rfl := R.mok.sig_inj hsr hs1
    obtain rfl := R.mok.sig_inj hs hso
    obtain ⟨b, p, v, hρ, hbk, hp, hv⟩ := H.bld _ t e' _ s e0 e1
    refine ⟨b, p, v, (R.ρ _ _ hs).trans hρ, by rw [R.w]; exact hbk, hp, ?_⟩
    rcases hv with ⟨hv, h1, h2⟩ | ⟨g, cap, cur, hg, hv, hbg, h3⟩
    · exact .inl ⟨hv, h1, (R.ρ _ _ hsr).trans h2⟩
    · exact .inr ⟨g, cap, cur, (R.ρ _ _ hsr).trans hg, hv, by rw [R.w]; exact hbg, h3⟩
  own k b base hb hr := by
    rw [R.w]
    rcases hb with ⟨t, e', r', s, hb⟩ | ⟨o', hb⟩
    · obtain ⟨id, r, hs, e0, hsr⟩ := R.bld hb
      exact H.own id b base (.inl ⟨t, e', r, s, e0⟩) ((R.ρ id k hs).symm.trans hr)
    · obtain ⟨id, o, hs, e0, _⟩ := R.raw hb
      exact H.own id b base (.inr ⟨o, e0⟩) ((R.ρ id k hs).symm.trans hr)
  inj i j b bi bj hi hj ei ej := by
    obtain ⟨i0, hsi, hli⟩ := R.live hi
    obtain ⟨j0, hsj, hlj⟩ := R.live hj
    have : i0 = j0 := H.inj i0 j0 b bi bj hli hlj ((R.ρ i0 i hsi).symm.trans ei) ((R.ρ j0 j hsj).symm.trans ej)
    subst this
    rw [hsi] at hsj; cases hsj; rfl
  lt k hk := by
    obtain ⟨id, hs, _⟩ := R.live hk
    exact R.nk hs
  z b o hz := by
    rw [R.Z] at hz
    obtain ⟨h1, h2⟩ := H.z b o hz
    refine ⟨by rw [R.w]; exact h1, fun k base hl hr => ?_⟩
    have hl0 := hl
    obtain ⟨ob, e, hne⟩ := hl
    obtain ⟨id, ob0, hs, e0, he⟩ := R.ob k ob e hne
    have hlid : Go.Sym.live Γ.h id := ⟨ob0, e0, fun h => hne (by rw [he, h]; rfl)⟩
    obtain ⟨s, xs, e1, ho⟩ := h2 id base hlid ((R.ρ id k hs).symm.trans hr)
    rw [e0] at e1; cases e1
    exact ⟨s, xs, by rw [e, he]; rfl, ho⟩

theorem Ren.evo (R : Ren n0 m Γ Γ') (hn : ∀ k, n0 ≤ k → ¬ Γe.n k) (E : Evo Γe Γ) : Evo Γe Γ' := by
  have hlt : ∀ id, Γe.n id → id < n0 := fun id h => by
    by_cases h' : id < n0
    · exact h'
    · exact absurd h (hn id (by omega))
  have same : ∀ id k, Γe.n k → sig n0 m id = some k → id = k := fun id k hk hs => (R.mok.sig_lt hs).2 (hlt k hk)
  have live' : ∀ id, Γe.n id → Go.Sym.live Γ'.h id → Go.Sym.live Γ.h id := by
    intro id h hl
    obtain ⟨i0, hs, hl0⟩ := R.live hl
    obtain rfl := same i0 id h hs
    exact hl0
  have sg : ∀ id, Γe.n id → Go.Sym.live Γ'.h id → sig n0 m id = some id := by
    intro id h hl
    obtain ⟨i0, hs, hl0⟩ := R.live hl
    obtain rfl := same i0 id h hs
    exact hs
  refine ⟨fun i hi => (R.n i).2 (by have := hlt i hi; omega), ?_, ?_, ?_, ?_, (fun id t e' r' s hi h => by
      obtain ⟨i0, r, hs, e0, _⟩ := R.bld h
      obtain rfl := same i0 id hi hs
      exact E.bld _ t e' r s hi e0), (fun id o' hi h => by
      obtain ⟨i0, o, hs, e0, _⟩ := R.raw h
      obtain rfl := same i0 id hi hs
      exact E.raw _ o hi e0), ?_, ?_, ?_, ?_, ?_, by rw [R.w]; exact E.size, by rw [R.w]; exact E.os, by rw [R.w]; exact E.tape, by rw [R.w]; exact E.output⟩
  · intro id hi hl
    obtain ⟨h1, h2⟩ := E.keep id hi (live' id hi hl)
    exact ⟨h1, (R.ρ id id (sg id hi hl)).trans h2⟩
  · intro id cs hi e
    obtain ⟨i0, cs0, hs, e0, rfl⟩ := R.var e
    obtain rfl := same i0 id hi hs
    obtain ⟨cs1, e1, hl⟩ := E.var _ cs0 hi e0
    exact ⟨cs1, e1, by simpa using hl⟩
  · intro id fz s xs hi e
    obtain ⟨i0, hs, e0⟩ := R.row e
    obtain rfl := same i0 id hi hs
    exact E.row _ fz s xs hi e0
  · intro id s fc c tm' hi e
    obtain ⟨i0, tm0, hs, e0, _⟩ := R.loop e
    obtain rfl := same i0 id hi hs
    exact E.loop _ s fc c tm0 hi e0
  · intro b r hb
    rw [R.w]; exact E.lp b r hb
  · intro id b base c E1 z hi hl hr hb
    rw [R.w]
    exact E.csize id b base c E1 z hi (live' id hi hl) hr hb
  · intro b o hz
    rw [R.Z, R.w]; exact E.zc b o hz
  · intro b o hz
    rw [R.Z] at hz; exact E.zn b o hz
  · intro k hk hno
    obtain ⟨h1, h2⟩ := E.blk k hk hno
    refine ⟨by rw [R.w]; exact h1, fun id base hl hr => ?_⟩
    obtain ⟨i0, hs, hl0⟩ := R.live hl
    exact h2 i0 base hl0 ((R.ρ i0 id hs).symm.trans hr)

open Classical in
/-- The context that goes with new numbers. -/
noncomputable def renCx (n0 : Nat) (m : List (Nat × Nat)) (h' : Nat → Option Ob) (Γ : Cx) : Cx :=
  { ρ := fun k => if h : ∃ id, sig n0 m id = some k then Γ.ρ (Classical.choose h) else none, Z := Γ.Z, h := h', n := fun k => k < n0 + m.length, w := Γ.w }

theorem gc_ok (h : StR Γe N st a Γ) (n0 : Nat) (hn : ∀ k, n0 ≤ k → ¬ Γe.n k) : ∃ Γ', Γ'.w = Γ.w ∧ StR Γe N (gc n0 st) a Γ' := by
  unfold gc
  generalize hm : follow n0 st.hp (st.hp.length + 1) 0 (adds n0 false (adds n0 true [] (roots n0 st.hp)) (st.tm.flatMap fun p => ids p.2)) = m
  have M : MOk n0 m := by rw [← hm]; exact MOk.follow (MOk.adds (MOk.adds (MOk.nil n0)))
  simp only
  generalize hhp : (((st.hp.filter fun p => decide (p.1 < n0) && (look m p.1).isNone).map fun p => (p.1, renOb n0 m p.2)) ++ m.map fun p => (p.2, renOb n0 m ((look st.hp p.1).getD .dead))) = hp'
  have R : Ren n0 m Γ (renCx n0 m (look hp') Γ) := by
    refine ⟨M, rfl, rfl, ?_, fun k => Iff.rfl, ?_⟩
    · intro id k hs
      have hex : ∃ id, sig n0 m id = some k := ⟨id, hs⟩
      simp only [renCx]
      rw [dif_pos hex]
      congr 1
      exact M.sig_inj (Classical.choose_spec hex) hs
    · intro k ob e hne
      have e : look hp' k = some ob := e
      rw [← hhp, look_append, look_map, look_filter (fun k => decide (k < n0) && (look m k).isNone)] at e
      by_cases hc : (decide (k < n0) && (look m k).isNone) = true
      · rw [if_pos hc] at e
        simp only [Bool.and_eq_true, decide_eq_true_eq, Option.isNone_iff_eq_none] at hc
        have hsk : sig n0 m k = some k := by unfold sig; rw [hc.2]; simp [hc.1]
        cases hl : look st.hp k with
        | none =>
          rw [hl] at e
          simp only [Option.map_none] at e
          obtain ⟨p, hp, he⟩ := List.mem_map.1 (look_mem e)
          simp only [Prod.mk.injEq] at he
          obtain ⟨h1, h2⟩ := he
          have := (M.sig_lt (M.sig_mem hp)).2 (by omega)
          have hl' := M.sig_mem hp
          rw [this, h1] at hl'
          rw [this, h1, hl] at h2
          exact absurd h2.symm hne
        | some ob0 =>
          rw [hl] at e
          simp only [Option.map_some, Option.some.injEq] at e
          exact ⟨k, ob0, hsk, by rw [h.hp]; exact hl, e.symm⟩
      · rw [if_neg hc] at e
        simp only [Option.map_none] at e
        obtain ⟨p, hp, he⟩ := List.mem_map.1 (look_mem e)
        simp only [Prod.mk.injEq] at he
        obtain ⟨h1, h2⟩ := he
        cases hl : look st.hp p.1 with
        | none => rw [hl] at h2; exact absurd h2.symm hne
        | some ob0 =>
          rw [hl] at h2
          exact ⟨p.1, ob0, by rw [← h1]; exact M.sig_mem hp, by rw [h.hp]; exact hl, h2.symm⟩
  refine ⟨renCx n0 m (look hp') Γ, rfl, R.ok h.ok, rfl, fun k hk hn => ?_, R.evo hn h.gone, fun t v hv => ?_, h.sz, h.df.w rfl fun id b base hl hr => ?_⟩
  rotate_left
  rotate_left
  · obtain ⟨i0, hs, hl0⟩ := R.live hl
    exact ⟨i0, hl0, (R.ρ i0 id hs).symm.trans hr⟩
  · have : k < n0 + m.length := hn
    simp only at hk
    omega
  · rw [look_map] at hv
    rw [Option.map_eq_some_iff] at hv
    obtain ⟨v0, hv0, rfl⟩ := hv
    exact VR_ren R (h.tm t v0 hv0)
end Go.Sym
