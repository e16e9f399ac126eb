/- DERIVED. How the plain values of Core.lean stand to the model's values and memory; what a step keeps. -/
import Derived.Test.YtfjloeemhiffgaaSymEval
import Derived.Laws.World
import Derived.Below
import Derived.Wp
set_option linter.unusedVariables false
set_option linter.unusedSimpArgs false
namespace Go.Sym

inductive VP (w : World) (Z : Nat → Nat → Prop) : V → Value → Prop where
  | bool (b : Bool) : VP w Z (.bool b) (.bool b)
  | int (k : IntKind) (n : Int) : VP w Z (.int k n) (.int k n)
  | str (s : ByteArray) : VP w Z (.str s.data.toList) (.string s)
  | agg (cs : List V) (us : Array Value) (hl : cs.length = us.size) (h1 : ∀ (i : Nat) (u : Value), us[i]? = some u → u.oneCell = true)
      (hv : ∀ (i : Nat) (c : V) (u : Value), cs[i]? = some c → us[i]? = some u → VP w Z c u) : VP w Z (.agg cs) (.agg us)
  | sl (nl : Option Bool) (clip : Bool) (s : Nat) (xs : List V) (a : Option Addr) (cap : Nat)
      (hc : xs.length ≤ cap) (hclip : clip = true → cap = xs.length) (ht : nl = some true → a = none) (hf : nl = some false → a.isSome = true)
      (hn : a = none → cap = 0) (hs : xs ≠ [] → 0 < s) (hsp : 0 < cap → ∀ ad, a = some ad → ad.spot = none)
      (hx : ∀ (i : Nat) (x : V), xs[i]? = some x → x.cells.length = s)
      (he : ∀ (ad : Addr) (i : Nat) (x : V) (j : Nat) (c : V), a = some ad → xs[i]? = some x → x.cells[j]? = some c →
        Z ad.block (ad.off + (i * s + j)) ∧ ∃ u : Value, w.cell? ⟨ad.block, ad.off + (i * s + j), none⟩ = some u ∧ u.oneCell = true)
      (hv : ∀ (ad : Addr) (i : Nat) (x : V) (j : Nat) (c : V) (u : Value), a = some ad → xs[i]? = some x → x.cells[j]? = some c →
        w.cell? ⟨ad.block, ad.off + (i * s + j), none⟩ = some u → VP w Z c u) : VP w Z (.sl nl clip s xs) (.slice a xs.length cap)
  | fnc (f : Nat) (as : List V) (ua : Array Value) (hl : as.length = ua.size) (hv : ∀ (i : Nat) (c : V) (u : Value), as[i]? = some c → ua[i]? = some u → VP w Z c u) : VP w Z (.fn (.func f) as []) (.func (.func f) ua #[])
  | nilf : VP w Z .nilf .nilFunc
  | nilp : VP w Z .nilp (.pointer none)
  | nili : VP w Z .nili .nilIface

theorem VP.evo {w w' : World} {Z Z' : Nat → Nat → Prop} (hz : ∀ b o, Z b o → Z' b o ∧ w'.cell? ⟨b, o, none⟩ = w.cell? ⟨b, o, none⟩) {v : V} {u : Value} (h : VP w Z v u) : VP w' Z' v u := by
  induction h with
  | bool b => exact .bool b
  | int k n => exact .int k n
  | str s => exact .str s
  | agg cs us hl h1 hv ih => exact .agg cs us hl h1 ih
  | sl nl clip s xs a cap hc hclip ht hf hn hs hsp hx he hv ih =>
    refine .sl nl clip s xs a cap hc hclip ht hf hn hs hsp hx ?_ ?_
    · intro ad i x j c ha hxi hj
      obtain ⟨hZ, u, hu, h1⟩ := he ad i x j c ha hxi hj
      exact ⟨(hz _ _ hZ).1, u, by rw [(hz _ _ hZ).2]; exact hu, h1⟩
    · intro ad i x j c u ha hxi hj hu
      obtain ⟨hZ, _⟩ := he ad i x j c ha hxi hj
      exact ih ad i x j c u ha hxi hj (by rw [← (hz _ _ hZ).2]; exact hu)
  | fnc f as ua hl hv ih => exact .fnc f as ua hl ih
  | nilf => exact .nilf
  | nilp => exact .nilp
  | nili => exact .nili

structure Cx where
  ρ : Nat → Option (Nat × Nat)
  Z : Nat → Nat → Prop
  h : Nat → Option Ob
  n : Nat → Prop
  w : World

/-- The four numbers from b on are unused; they are used. -/
def Fresh (n : Nat → Prop) (b : Nat) : Prop := ∀ k, b ≤ k → k < b + 4 → ¬ n k
def more (n : Nat → Prop) (b : Nat) : Nat → Prop := fun i => n i ∨ (b ≤ i ∧ i < b + 4)
theorem Fresh.at {n : Nat → Prop} {b : Nat} (h : Fresh n b) : ¬ n b := h b (Nat.le_refl _) (by omega)
theorem more_at (n : Nat → Prop) (b : Nat) : more n b b := .inr ⟨Nat.le_refl _, by omega⟩
theorem more_of {n : Nat → Prop} {b : Nat} (i : Nat) (h : n i) : more n b i := .inl h

def live (h : Nat → Option Ob) (id : Nat) : Prop := ∃ ob, h id = some ob ∧ ob ≠ .dead

def RefOk (Γ : Cx) (id s off len : Nat) (u : Value) : Prop :=
  ∃ a cap, u = .slice a len cap ∧ len ≤ cap ∧ (0 < cap → ∀ ad, a = some ad → ad.spot = none) ∧ (0 < cap → ∃ b base c E z, Γ.ρ id = some (b, base) ∧ a = some ⟨b, base + off * s, none⟩ ∧
    Γ.w.heap[b]? = some (.cells c E z) ∧ base + (off + cap) * s ≤ c.size)

inductive VR (Γ : Cx) : V → Value → Prop where
  | junk (u : Value) : VR Γ .junk u
  | pure {v : V} {u : Value} (h : VP Γ.w Γ.Z v u) : VR Γ v u
  | agg (cs : List V) (us : Array Value) (hl : cs.length = us.size) (h1 : ∀ (i : Nat) (u : Value), us[i]? = some u → u.oneCell = true)
      (hv : ∀ (i : Nat) (c : V) (u : Value), cs[i]? = some c → us[i]? = some u → VR Γ c u) : VR Γ (.agg cs) (.agg us)
  | tup (vs : List V) (us : Array Value) (hl : vs.length = us.size) (hv : ∀ (i : Nat) (c : V) (u : Value), vs[i]? = some c → us[i]? = some u → VR Γ c u) : VR Γ (.tup vs) (.tuple us)
  | ref (id : Nat) (u : Value) (h1 : u.oneCell = true) (hn : Γ.n id) (h : ∀ fz s xs, Γ.h id = some (.row fz s xs) → RefOk Γ id s 0 xs.length u) : VR Γ (.ref id) u
  | sub (id off len : Nat) (u : Value) (h1 : u.oneCell = true) (hn : Γ.n id) (h : ∀ fz s xs, Γ.h id = some (.row fz s xs) → off + len ≤ xs.length ∧ RefOk Γ id s off len u) : VR Γ (.sub id off len) u
  | vsl (id off len b cap : Nat) (hn : Γ.n id) (hle : len ≤ cap) (h : ∀ cs, Γ.h id = some (.var cs) → off + len ≤ cs.length ∧ Γ.ρ id = some (b, 0)) : VR Γ (.vsl id off len) (.slice (some ⟨b, off, none⟩) len cap)
  | ptr (id off b : Nat) (hn : Γ.n id) (h : ∀ ob, Γ.h id = some ob → ob.isV = true → Γ.ρ id = some (b, 0)) : VR Γ (.ptr id off) (.pointer (some ⟨b, off, none⟩))
  | ept (id i off b o : Nat) (hn : Γ.n id) (h : ∀ fz s xs, Γ.h id = some (.row fz s xs) → ∃ base, Γ.ρ id = some (b, base) ∧ o = base + i * s) : VR Γ (.ept id i off) (.pointer (some ⟨b, o + off, none⟩))
  | cpt (v : V) (off b o : Nat) (he : ∀ (j : Nat) (c : V), v.cells[j]? = some c → Γ.Z b (o + j) ∧ ∃ u' : Value, Γ.w.cell? ⟨b, o + j, none⟩ = some u' ∧ u'.oneCell = true ∧ VP Γ.w Γ.Z c u') :
      VR Γ (.cpt v off) (.pointer (some ⟨b, o + off, none⟩))
  | fn (f : Fn) (as cs : List V) (ua uc : Array Value) (hla : as.length = ua.size) (hlc : cs.length = uc.size)
      (ha : ∀ (i : Nat) (c : V) (u : Value), as[i]? = some c → ua[i]? = some u → VR Γ c u) (hc : ∀ (i : Nat) (c : V) (u : Value), cs[i]? = some c → uc[i]? = some u → VR Γ c u) : VR Γ (.fn f as cs) (.func f ua uc)
  | yld (id l : Nat) (hn : Γ.n id) (h : ∀ s fc c tm, Γ.h id = some (.loop s fc c tm) → Γ.ρ id = some (l, 0)) : VR Γ (.yld id) (.func (.yield l) #[] #[])

/-- A loop's record but for its state. -/
def SameLoop (r r' : Loop) : Prop := r'.fn = r.fn ∧ r'.tmps = r.tmps ∧ r'.params = r.params ∧ r'.assign = r.assign ∧ r'.body = r.body ∧ r'.defers = r.defers
theorem SameLoop.refl (r : Loop) : SameLoop r r := ⟨rfl, rfl, rfl, rfl, rfl, rfl⟩
theorem SameLoop.trans {a b c : Loop} (h : SameLoop a b) (k : SameLoop b c) : SameLoop a c :=
  ⟨k.1.trans h.1, k.2.1.trans h.2.1, k.2.2.1.trans h.2.2.1, k.2.2.2.1.trans h.2.2.2.1, k.2.2.2.2.1.trans h.2.2.2.2.1, k.2.2.2.2.2.trans h.2.2.2.2.2⟩

/-- What a step keeps. -/
structure Evo (Γ Δ : Cx) : Prop where
  n : ∀ i, Γ.n i → Δ.n i
  keep : ∀ id, Γ.n id → live Δ.h id → live Γ.h id ∧ Δ.ρ id = Γ.ρ id
  var : ∀ id cs, Γ.n id → Δ.h id = some (.var cs) → ∃ cs0, Γ.h id = some (.var cs0) ∧ cs0.length = cs.length
  row : ∀ id fz s xs, Γ.n id → Δ.h id = some (.row fz s xs) → ∃ fz0 xs0, Γ.h id = some (.row fz0 s xs0) ∧ xs0.length = xs.length
  loop : ∀ id s fc c tm, Γ.n id → Δ.h id = some (.loop s fc c tm) → ∃ s0 tm0, Γ.h id = some (.loop s0 fc c tm0)
  bld : ∀ id t e r s, Γ.n id → Δ.h id = some (.bld t e r s) → ∃ r0 s0, Γ.h id = some (.bld t e r0 s0)
  raw : ∀ id o, Γ.n id → Δ.h id = some (.raw o) → ∃ o0, Γ.h id = some (.raw o0)
  lp : ∀ (b : Nat) (r : Loop), Γ.w.heap[b]? = some (.loop r) → ∃ r' : Loop, Δ.w.heap[b]? = some (.loop r') ∧ SameLoop r r'
  csize : ∀ id b base c E z, Γ.n id → live Δ.h id → Γ.ρ id = some (b, base) → Γ.w.heap[b]? = some (.cells c E z) → ∃ c' E' z', Δ.w.heap[b]? = some (.cells c' E' z') ∧ c'.size = c.size
  zc : ∀ b o, Γ.Z b o → Δ.Z b o ∧ Δ.w.cell? ⟨b, o, none⟩ = Γ.w.cell? ⟨b, o, none⟩
  zn : ∀ b o, Δ.Z b o → Γ.Z b o ∨ Γ.w.heap.size ≤ b ∨ ∃ id base, live Γ.h id ∧ Γ.ρ id = some (b, base)
  blk : ∀ k, k < Γ.w.heap.size → (∀ id base, live Γ.h id → Γ.ρ id ≠ some (k, base)) → Δ.w.heap[k]? = Γ.w.heap[k]? ∧ ∀ id base, live Δ.h id → Δ.ρ id ≠ some (k, base)
  size : Γ.w.heap.size ≤ Δ.w.heap.size
  os : Δ.w.os = Γ.w.os
  tape : Δ.w.tape = Γ.w.tape
  output : Δ.w.output = Γ.w.output

theorem live_row {h : Nat → Option Ob} {id : Nat} {fz : Bool} {s : Nat} {xs : List V} (e : h id = some (.row fz s xs)) : live h id := ⟨_, e, by simp⟩
theorem live_var {h : Nat → Option Ob} {id : Nat} {cs : List V} (e : h id = some (.var cs)) : live h id := ⟨_, e, by simp⟩
theorem live_loop {h : Nat → Option Ob} {id : Nat} {s : LS} {fc : FC} {c : Code} {tm : List (Nat × V)} (e : h id = some (.loop s fc c tm)) : live h id := ⟨_, e, by simp⟩
theorem live_bld {h : Nat → Option Ob} {id t e' r : Nat} {s : List UInt8} (e : h id = some (.bld t e' r s)) : live h id := ⟨_, e, by simp⟩
theorem live_raw {h : Nat → Option Ob} {id o : Nat} (e : h id = some (.raw o)) : live h id := ⟨_, e, by simp⟩
/-- A builder, or its row. -/
def isB (h : Nat → Option Ob) (id : Nat) : Prop := (∃ t e r s, h id = some (.bld t e r s)) ∨ ∃ o, h id = some (.raw o)
theorem isB.live {h : Nat → Option Ob} {id : Nat} (hb : isB h id) : live h id := by
  rcases hb with ⟨t, e', r, s, e⟩ | ⟨o, e⟩
  · exact live_bld e
  · exact live_raw e
theorem live_cases {h : Nat → Option Ob} {id : Nat} (hl : live h id) : (∃ cs, h id = some (.var cs)) ∨ (∃ fz s xs, h id = some (.row fz s xs)) ∨ (∃ s fc c tm, h id = some (.loop s fc c tm)) ∨ isB h id := by
  obtain ⟨ob, e, hne⟩ := hl
  cases ob with
  | var cs => exact .inl ⟨cs, e⟩
  | row fz s xs => exact .inr (.inl ⟨fz, s, xs, e⟩)
  | loop s fc c tm => exact .inr (.inr (.inl ⟨s, fc, c, tm, e⟩))
  | bld t e' r s => exact .inr (.inr (.inr (.inl ⟨t, e', r, s, e⟩)))
  | raw o => exact .inr (.inr (.inr (.inr ⟨o, e⟩)))
  | dead => exact absurd rfl hne

theorem Evo.refl (Γ : Cx) : Evo Γ Γ :=
  ⟨fun _ h => h, fun _ _ h => ⟨h, rfl⟩, fun _ cs _ h => ⟨cs, h, rfl⟩, fun _ fz _ xs _ h => ⟨fz, xs, h, rfl⟩, fun _ s _ _ tm _ h => ⟨s, tm, h⟩, fun _ _ _ r s _ h => ⟨r, s, h⟩, fun _ o _ h => ⟨o, h⟩, fun _ r h => ⟨r, h, .refl r⟩, fun _ _ _ c E z _ _ _ h => ⟨c, E, z, h, rfl⟩, fun _ _ h => ⟨h, rfl⟩, fun _ _ h => .inl h,
    fun _ _ h => ⟨rfl, h⟩, Nat.le_refl _, rfl, rfl, rfl⟩

theorem Evo.trans {A B C : Cx} (h : Evo A B) (k : Evo B C) : Evo A C where
  n := fun i hi => k.n i (h.n i hi)
  keep id hi hl := by
    obtain ⟨h1, e1⟩ := k.keep id (h.n _ hi) hl
    obtain ⟨h2, e2⟩ := h.keep id hi h1
    exact ⟨h2, e1.trans e2⟩
  var id cs hi e := by
    obtain ⟨c1, e1, l1⟩ := k.var id cs (h.n _ hi) e
    obtain ⟨c2, e2, l2⟩ := h.var id c1 hi e1
    exact ⟨c2, e2, l2.trans l1⟩
  row id fz s xs hi e := by
    obtain ⟨f1, x1, e1, l1⟩ := k.row id fz s xs (h.n _ hi) e
    obtain ⟨f2, x2, e2, l2⟩ := h.row id f1 s x1 hi e1
    exact ⟨f2, x2, e2, l2.trans l1⟩
  loop id s fc c tm hi e := by
    obtain ⟨s1, t1, e1⟩ := k.loop id s fc c tm (h.n _ hi) e
    exact h.loop id s1 fc c t1 hi e1
  bld id t e r s hi hb := by
    obtain ⟨r1, s1, e1⟩ := k.bld id t e r s (h.n _ hi) hb
    exact h.bld id t e r1 s1 hi e1
  raw id o hi hb := by
    obtain ⟨o1, e1⟩ := k.raw id o (h.n _ hi) hb
    exact h.raw id o1 hi e1
  lp b r e := by
    obtain ⟨r1, e1, s1⟩ := h.lp b r e
    obtain ⟨r2, e2, s2⟩ := k.lp b r1 e1
    exact ⟨r2, e2, s1.trans s2⟩
  csize id b base c E z hi hl hr hb := by
    obtain ⟨hl1, e1⟩ := k.keep id (h.n _ hi) hl
    obtain ⟨hl0, e0⟩ := h.keep id hi hl1
    obtain ⟨c1, E1, z1, hb1, s1⟩ := h.csize id b base c E z hi hl1 hr hb
    obtain ⟨c2, E2, z2, hb2, s2⟩ := k.csize id b base c1 E1 z1 (h.n _ hi) hl (e0.trans hr) hb1
    exact ⟨c2, E2, z2, hb2, s2.trans s1⟩
  zc b o hz := by
    obtain ⟨z1, e1⟩ := h.zc b o hz
    obtain ⟨z2, e2⟩ := k.zc b o z1
    exact ⟨z2, e2.trans e1⟩
  zn b o hz := by
    rcases k.zn b o hz with h1 | h1 | ⟨id, base, hl, hr⟩
    · exact h.zn b o h1
    · exact .inr (.inl (Nat.le_trans h.size h1))
    · by_cases hb : A.w.heap.size ≤ b
      · exact .inr (.inl hb)
      · by_cases hx : ∃ id base, live A.h id ∧ A.ρ id = some (b, base)
        · exact .inr (.inr hx)
        · exact absurd hr ((h.blk b (by omega) (fun id base hl hr => hx ⟨id, base, hl, hr⟩)).2 id base hl)
  blk kk hk hno := by
    obtain ⟨e1, no1⟩ := h.blk kk hk hno
    obtain ⟨e2, no2⟩ := k.blk kk (Nat.lt_of_lt_of_le hk h.size) no1
    exact ⟨e2.trans e1, no2⟩
  size := Nat.le_trans h.size k.size
  os := k.os.trans h.os
  tape := k.tape.trans h.tape
  output := k.output.trans h.output

/-- What a value asks of a step. -/
structure Ev1 (Γ Δ : Cx) : Prop where
  n : ∀ i, Γ.n i → Δ.n i
  keep : ∀ id, Γ.n id → live Δ.h id → live Γ.h id ∧ Δ.ρ id = Γ.ρ id
  var : ∀ id cs, Γ.n id → Δ.h id = some (.var cs) → ∃ cs0, Γ.h id = some (.var cs0) ∧ cs0.length = cs.length
  row : ∀ id fz s xs, Γ.n id → Δ.h id = some (.row fz s xs) → ∃ fz0 xs0, Γ.h id = some (.row fz0 s xs0) ∧ xs0.length = xs.length
  loop : ∀ id s fc c tm, Γ.n id → Δ.h id = some (.loop s fc c tm) → ∃ s0 tm0, Γ.h id = some (.loop s0 fc c tm0)
  bld : ∀ id t e r s, Γ.n id → Δ.h id = some (.bld t e r s) → ∃ r0 s0, Γ.h id = some (.bld t e r0 s0)
  raw : ∀ id o, Γ.n id → Δ.h id = some (.raw o) → ∃ o0, Γ.h id = some (.raw o0)
  csize : ∀ id b base c E z, Γ.n id → live Δ.h id → Γ.ρ id = some (b, base) → Γ.w.heap[b]? = some (.cells c E z) → ∃ c' E' z', Δ.w.heap[b]? = some (.cells c' E' z') ∧ c'.size = c.size
  zc : ∀ b o, Γ.Z b o → Δ.Z b o ∧ Δ.w.cell? ⟨b, o, none⟩ = Γ.w.cell? ⟨b, o, none⟩
theorem Evo.one {Γ Δ : Cx} (E : Evo Γ Δ) : Ev1 Γ Δ := ⟨E.n, E.keep, E.var, E.row, E.loop, E.bld, E.raw, E.csize, E.zc⟩

theorem RefOk.evo {Γ Δ : Cx} (E : Ev1 Γ Δ) {id s off len : Nat} {u : Value} (hi : Γ.n id) (hl : live Δ.h id) (h : RefOk Γ id s off len u) : RefOk Δ id s off len u := by
  obtain ⟨a, cap, hu, hle, hsp, hc⟩ := h
  refine ⟨a, cap, hu, hle, hsp, fun h0 => ?_⟩
  obtain ⟨b, base, c, E1, z, hr, ha, hb, hsz⟩ := hc h0
  obtain ⟨c', E', z', hb', hs'⟩ := E.csize id b base c E1 z hi hl hr hb
  exact ⟨b, base, c', E', z', (E.keep id hi hl).2.trans hr, ha, hb', by omega⟩

theorem VR.ev1 {Γ Δ : Cx} (E : Ev1 Γ Δ) {v : V} {u : Value} (h : VR Γ v u) : VR Δ v u := by
  induction h with
  | junk u => exact .junk u
  | pure h => exact .pure (h.evo E.zc)
  | agg cs us hl h1 hv ih => exact .agg cs us hl h1 ih
  | tup vs us hl hv ih => exact .tup vs us hl ih
  | ref id u h1 hn h =>
    refine .ref id u h1 (E.n _ hn) fun fz s xs e => ?_
    obtain ⟨fz0, xs0, e0, hl0⟩ := E.row id fz s xs hn e
    rw [← hl0]
    exact (h fz0 s xs0 e0).evo E hn (live_row e)
  | sub id off len u h1 hn h =>
    refine .sub id off len u h1 (E.n _ hn) fun fz s xs e => ?_
    obtain ⟨fz0, xs0, e0, hl0⟩ := E.row id fz s xs hn e
    obtain ⟨h1, h2⟩ := h fz0 s xs0 e0
    exact ⟨by omega, h2.evo E hn (live_row e)⟩
  | vsl id off len b cap hn hle h =>
    refine .vsl id off len b cap (E.n _ hn) hle fun cs e => ?_
    obtain ⟨cs0, e0, hl0⟩ := E.var id cs hn e
    obtain ⟨h1, h2⟩ := h cs0 e0
    exact ⟨by omega, (E.keep id hn (live_var e)).2.trans h2⟩
  | ptr id off b hn h =>
    refine .ptr id off b (E.n _ hn) fun ob e hv => ?_
    cases ob with
    | var cs =>
      obtain ⟨cs0, e0, _⟩ := E.var id cs hn e
      exact (E.keep id hn (live_var e)).2.trans (h _ e0 rfl)
    | bld t e' r s =>
      obtain ⟨r0, s0, e0⟩ := E.bld id t e' r s hn e
      exact (E.keep id hn (live_bld e)).2.trans (h _ e0 rfl)
    | _ => cases hv
  | ept id i off b o hn h =>
    refine .ept id i off b o (E.n _ hn) fun fz s xs e => ?_
    obtain ⟨fz0, xs0, e0, _⟩ := E.row id fz s xs hn e
    obtain ⟨base, hr, hu⟩ := h fz0 s xs0 e0
    exact ⟨base, (E.keep id hn (live_row e)).2.trans hr, hu⟩
  | cpt v off b o he =>
    refine .cpt v off b o fun j c hj => ?_
    obtain ⟨hz, u', hu, h1, hv⟩ := he j c hj
    obtain ⟨hz', e'⟩ := E.zc _ _ hz
    exact ⟨hz', u', by rw [e']; exact hu, h1, hv.evo E.zc⟩
  | fn f as cs ua uc hla hlc ha hc iha ihc => exact .fn f as cs ua uc hla hlc iha ihc
  | yld id l hn h =>
    refine .yld id l (E.n _ hn) fun s fc c tm e => ?_
    obtain ⟨s0, tm0, e0⟩ := E.loop id s fc c tm hn e
    exact (E.keep id hn (live_loop e)).2.trans (h s0 fc c tm0 e0)

theorem VR.evo {Γ Δ : Cx} (E : Evo Γ Δ) {v : V} {u : Value} (h : VR Γ v u) : VR Δ v u := h.ev1 E.one

def unfrozen (z : Nat × Nat) (n : Nat) : Prop := ∀ o, o < n → ¬ (z.1 ≤ o ∧ o < z.2)

def VarOk (Γ : Cx) (id : Nat) (cs : List V) : Prop :=
  ∃ b c E z, Γ.ρ id = some (b, 0) ∧ Γ.w.heap[b]? = some (.cells c E z) ∧ unfrozen z c.size ∧ c.size = cs.length ∧
    (∀ (j : Nat) (u : Value), c[j]? = some u → u.oneCell = true) ∧ ∀ (j : Nat) (x : V) (u : Value), cs[j]? = some x → c[j]? = some u → VR Γ x u
def RowOk (Γ : Cx) (id s : Nat) (xs : List V) : Prop :=
  (Γ.ρ id = none ∧ xs = []) ∨ ∃ b base c E z, Γ.ρ id = some (b, base) ∧ Γ.w.heap[b]? = some (.cells c E z) ∧ unfrozen z (c.size + (s - 1)) ∧ 0 < s ∧ base + xs.length * s ≤ c.size ∧
    (∀ (j : Nat) (u : Value), c[j]? = some u → u.oneCell = true) ∧ (∀ (i : Nat) (x : V), xs[i]? = some x → x.cells.length = s) ∧
    ∀ (i : Nat) (x : V) (j : Nat) (y : V) (u : Value), xs[i]? = some x → x.cells[j]? = some y → c[base + (i * s + j)]? = some u → VP Γ.w Γ.Z y u

/-- What a loop's record has. -/
def LoopIs (r : Loop) (s : LS) (fc : FC) (c : Code) : Prop :=
  (∃ N g, c = .rangeFunc g r.params r.assign r.body ∧ codeOk N fc.draws r.assign = true ∧ codeOk N fc.draws r.body = true ∧ (∀ d ∈ r.params.toList, d < N) ∧ N ≤ r.tmps.size) ∧
  match s with
  | .ready => r.state = .ready ∧ r.pending = none
  | .busy => r.state = .busy
  | .done .ret => r.state = .done ∧ r.pending = some .ret
  | .done (.exit i) => r.state = .done ∧ r.pending = some (.exit i)
  | .done _ => False
def LoopOk (Γ : Cx) (id : Nat) (s : LS) (fc : FC) (c : Code) (tm : List (Nat × V)) : Prop :=
  ∃ b r, Γ.ρ id = some (b, 0) ∧ Γ.w.heap[b]? = some (.loop r) ∧ LoopIs r s fc c ∧ ∀ t v, look tm t = some v → VR Γ v (r.tmps.getD t undef)
/-- A builder's bytes as cells. -/
def bcells (s : List UInt8) : List Value := s.map fun x => .int .u8 x.toNat
/-- A builder: its block, its own address or none, and its row: nil, or the block of the number r. -/
def BldOk (Γ : Cx) (id t e r : Nat) (s : List UInt8) : Prop :=
  ∃ b p v, Γ.ρ id = some (b, 0) ∧ Γ.w.heap[b]? = some (.cells #[p, v] t (0, 0)) ∧ (p = .pointer none ∨ p = .pointer (some ⟨b, 0, none⟩)) ∧
    ((v = .slice none 0 0 ∧ s = [] ∧ Γ.ρ r = none) ∨ ∃ g cap cur, Γ.ρ r = some (g, 0) ∧ v = .slice (some ⟨g, 0, none⟩) s.length cap ∧ Γ.w.heap[g]? = some (.cells cur e (0, 0)) ∧ s.length ≤ cap ∧ cap ≤ maxLen ∧ cur.size = cap * 1 ∧ cur.toList.take (s.length * 1) = bcells s)
structure HOk (Γ : Cx) : Prop where
  var : ∀ id cs, Γ.h id = some (.var cs) → VarOk Γ id cs
  row : ∀ id fz s xs, Γ.h id = some (.row fz s xs) → RowOk Γ id s xs
  loop : ∀ id s fc c tm, Γ.h id = some (.loop s fc c tm) → LoopOk Γ id s fc c tm
  bld : ∀ id t e r s, Γ.h id = some (.bld t e r s) → Γ.h r = some (.raw id) → BldOk Γ id t e r s
  own : ∀ id b base, isB Γ.h id → Γ.ρ id = some (b, base) → b < Γ.w.heap.size
  inj : ∀ i j b bi bj, live Γ.h i → live Γ.h j → Γ.ρ i = some (b, bi) → Γ.ρ j = some (b, bj) → i = j
  lt : ∀ id, live Γ.h id → Γ.n id
  z : ∀ b o, Γ.Z b o → b < Γ.w.heap.size ∧ ∀ id base, live Γ.h id → Γ.ρ id = some (b, base) → ∃ s xs, Γ.h id = some (.row true s xs) ∧ o < base + xs.length * s

/-- The block under a live number is there. -/
theorem HOk.there {Γ : Cx} (H : HOk Γ) {id b base : Nat} (hl : live Γ.h id) (hr : Γ.ρ id = some (b, base)) : b < Γ.w.heap.size := by
  rcases live_cases hl with ⟨cs, e⟩ | ⟨fz, s, xs, e⟩ | ⟨s, fc, c, tm, e⟩ | e
  · obtain ⟨b', c, E, z, hr', hb, _⟩ := H.var id cs e
    rw [hr] at hr'; cases hr'
    exact (Array.getElem?_eq_some_iff.1 hb).1
  · rcases H.row id fz s xs e with ⟨hn, _⟩ | ⟨b', base', c, E, z, hr', hb, _⟩
    · rw [hr] at hn; cases hn
    · rw [hr] at hr'; cases hr'
      exact (Array.getElem?_eq_some_iff.1 hb).1
  · obtain ⟨b', r, hr', hb, _⟩ := H.loop id s fc c tm e
    rw [hr] at hr'; cases hr'
    exact (Array.getElem?_eq_some_iff.1 hb).1
  · exact H.own id b base e hr

/-- A step that leaves all but some of what lies there. -/
theorem HOk.step {Γ Δ : Cx} (H : HOk Γ) (E : Evo Γ Δ)
    (var : ∀ id cs, Δ.h id = some (.var cs) → (Γ.n id ∧ Γ.h id = some (.var cs) ∧ ∀ b base, Γ.ρ id = some (b, base) → Δ.w.heap[b]? = Γ.w.heap[b]?) ∨ VarOk Δ id cs)
    (row : ∀ id fz s xs, Δ.h id = some (.row fz s xs) → (Γ.n id ∧ (∃ fz0, Γ.h id = some (.row fz0 s xs)) ∧ ∀ b base, Γ.ρ id = some (b, base) → Δ.w.heap[b]? = Γ.w.heap[b]?) ∨ RowOk Δ id s xs)
    (loop : ∀ id s fc c tm, Δ.h id = some (.loop s fc c tm) → (Γ.n id ∧ Γ.h id = some (.loop s fc c tm) ∧ ∀ b base, Γ.ρ id = some (b, base) → Δ.w.heap[b]? = Γ.w.heap[b]?) ∨ LoopOk Δ id s fc c tm)
    (bld : ∀ id t e r s, Δ.h id = some (.bld t e r s) → Δ.h r = some (.raw id) → (Γ.n id ∧ Γ.n r ∧ Γ.h id = some (.bld t e r s) ∧ Γ.h r = some (.raw id) ∧ (∀ b base, Γ.ρ id = some (b, base) → Δ.w.heap[b]? = Γ.w.heap[b]?) ∧ ∀ b base, Γ.ρ r = some (b, base) → Δ.w.heap[b]? = Γ.w.heap[b]?) ∨ BldOk Δ id t e r s)
    (own : ∀ id, isB Δ.h id → Γ.n id ∨ ∀ b base, Δ.ρ id = some (b, base) → b < Δ.w.heap.size)
    (inj : ∀ i j b bi bj, live Δ.h i → live Δ.h j → Δ.ρ i = some (b, bi) → Δ.ρ j = some (b, bj) → i = j)
    (lt : ∀ id, live Δ.h id → Δ.n id)
    (z : ∀ b o, Δ.Z b o → b < Δ.w.heap.size ∧ ∀ id base, live Δ.h id → Δ.ρ id = some (b, base) → ∃ s xs, Δ.h id = some (.row true s xs) ∧ o < base + xs.length * s) : HOk Δ where
  var id cs e := by
    rcases var id cs e with ⟨hn, e0, hb⟩ | h
    · obtain ⟨b, c, E1, z, hr, hbl, hz, hs, h1, hv⟩ := H.var id cs e0
      exact ⟨b, c, E1, z, ((E.keep id hn (live_var e)).2).trans hr, (hb b 0 hr).trans hbl, hz, hs, h1, fun j x u hj hu => (hv j x u hj hu).evo E⟩
    · exact h
  row id fz s xs e := by
    rcases row id fz s xs e with ⟨hn, ⟨fz0, e0⟩, hb⟩ | h
    · rcases H.row id fz0 s xs e0 with ⟨hr, hx⟩ | ⟨b, base, c, E1, z, hr, hbl, hz, h0, hs, h1, hx, hv⟩
      · exact .inl ⟨((E.keep id hn (live_row e)).2).trans hr, hx⟩
      · exact .inr ⟨b, base, c, E1, z, ((E.keep id hn (live_row e)).2).trans hr, (hb b base hr).trans hbl, hz, h0, hs, h1, hx, fun i x j y u hi hj hu => (hv i x j y u hi hj hu).evo E.zc⟩
    · exact h
  loop id s fc c tm e := by
    rcases loop id s fc c tm e with ⟨hn, e0, hb⟩ | h
    · obtain ⟨b, r, hr, hbl, hi, hv⟩ := H.loop id s fc c tm e0
      exact ⟨b, r, ((E.keep id hn (live_loop e)).2).trans hr, (hb b 0 hr).trans hbl, hi, fun t v ht => (hv t v ht).evo E⟩
    · exact h
  bld id t e r s hb hr := by
    rcases bld id t e r s hb hr with ⟨hn, hnr, e0, er, h1, h2⟩ | h
    · obtain ⟨b, p, v, hρ, hbk, hp, hv⟩ := H.bld id t e r s e0 er
      refine ⟨b, p, v, (E.keep id hn (live_bld hb)).2.trans hρ, (h1 b 0 hρ).trans hbk, hp, ?_⟩
      rcases hv with ⟨hv, hs, hn⟩ | ⟨g, cap, cur, hg, hv, hbg, h3⟩
      · exact .inl ⟨hv, hs, (E.keep r hnr (live_raw hr)).2.trans hn⟩
      · exact .inr ⟨g, cap, cur, (E.keep r hnr (live_raw hr)).2.trans hg, hv, (h2 g 0 hg).trans hbg, h3⟩
    · exact h
  own id b base hb hr := by
    rcases own id hb with hn | h
    · have hr0 : Γ.ρ id = some (b, base) := by rw [← (E.keep id hn hb.live).2]; exact hr
      refine Nat.lt_of_lt_of_le (H.own id b base ?_ hr0) E.size
      rcases hb with ⟨t, e, r, s, hb⟩ | ⟨o, hb⟩
      · obtain ⟨r0, s0, h0⟩ := E.bld id t e r s hn hb
        exact .inl ⟨t, e, r0, s0, h0⟩
      · exact .inr (E.raw id o hn hb)
    · exact h b base hr
  inj := inj
  lt := lt
  z := z

def upd {α : Type} (h : Nat → Option α) (id : Nat) (ob : Option α) : Nat → Option α := fun i => if i = id then ob else h i
@[simp] theorem upd_same {α : Type} (h : Nat → Option α) (id : Nat) (ob : Option α) : upd h id ob id = ob := by simp [upd]
theorem upd_other {α : Type} (h : Nat → Option α) {id i : Nat} (ob : Option α) (hne : i ≠ id) : upd h id ob i = h i := by simp [upd, hne]

def upds (h : Nat → Option Ob) : List (Nat × Ob) → Nat → Option Ob
  | [] => h
  | p :: r => upds (upd h p.1 (some p.2)) r

theorem look_puts (l : List (Nat × Ob)) (ws : List (Nat × Ob)) : look (puts l ws) = upds (look l) ws := by
  induction ws generalizing l with
  | nil => rfl
  | cons p r ih =>
    simp only [puts, upds]
    rw [ih]
    congr 1
    funext i
    rw [look_put]
    unfold upd
    by_cases h : p.1 = i
    · rw [if_pos h, if_pos h.symm]
    · rw [if_neg h, if_neg (fun e => h e.symm)]

/-- The count of draws does not matter; nor does the number from which on new things are numbered. -/
theorem step_same {Γ : Cx} (H : HOk Γ) (w' : World) (m : Nat → Prop) (hh : w'.heap = Γ.w.heap) (hos : w'.os = Γ.w.os) (ht : w'.tape = Γ.w.tape) (ho : w'.output = Γ.w.output) (hm : ∀ i, Γ.n i → m i) :
    HOk { Γ with w := w', n := m } ∧ Evo Γ { Γ with w := w', n := m } := by
  have hc : ∀ a, w'.cell? a = Γ.w.cell? a := fun a => by simp [World.cell?, hh]
  have E : Evo Γ { Γ with w := w', n := m } :=
    ⟨hm, fun _ _ h => ⟨h, rfl⟩, fun _ cs _ h => ⟨cs, h, rfl⟩, fun _ fz _ xs _ h => ⟨fz, xs, h, rfl⟩, fun _ s _ _ tm _ h => ⟨s, tm, h⟩, fun _ _ _ r s _ h => ⟨r, s, h⟩, fun _ o _ h => ⟨o, h⟩, fun _ r h => ⟨r, by rw [hh]; exact h, .refl r⟩, fun _ _ _ c E z _ _ _ h => ⟨c, E, z, by rw [hh]; exact h, rfl⟩,
      fun _ _ h => ⟨h, hc _⟩, fun _ _ h => .inl h, fun k _ h => ⟨by rw [hh], h⟩, by rw [hh]; exact Nat.le_refl _, hos, ht, ho⟩
  refine ⟨H.step E (fun id cs e => .inl ⟨H.lt id (live_var e), e, fun _ _ _ => by rw [hh]⟩) (fun id fz s xs e => .inl ⟨H.lt id (live_row e), ⟨fz, e⟩, fun _ _ _ => by rw [hh]⟩) (fun id s fc c tm e => .inl ⟨H.lt id (live_loop e), e, fun _ _ _ => by rw [hh]⟩)
    (fun id t e r s hb hr => .inl ⟨H.lt id (live_bld hb), H.lt r (live_raw hr), hb, hr, fun _ _ _ => by rw [hh], fun _ _ _ => by rw [hh]⟩) (fun id hb => .inl (H.lt id hb.live))
    H.inj (fun id h => hm _ (H.lt id h)) (fun b o h => ?_), E⟩
  obtain ⟨h1, h2⟩ := H.z b o h
  exact ⟨by rw [hh]; exact h1, h2⟩

/-- A new block under a new number. -/
def Cx.new (Γ : Cx) (id : Nat) (ob : Ob) (c : Array Value) (E : TypeId) (z : Nat × Nat) (m : Nat → Prop) : Cx :=
  { Γ with ρ := upd Γ.ρ id (some (Γ.w.heap.size, 0)), h := upd Γ.h id (some ob), n := m, w := Γ.w.alloc (.cells c E z) }

theorem alloc_block (w : World) (o : Obj) (k : Nat) (hk : k < w.heap.size) : (w.alloc o).heap[k]? = w.heap[k]? := Go.RowKit.Below.heap_alloc w o k hk
theorem alloc_new (w : World) (o : Obj) : (w.alloc o).heap[w.heap.size]? = some o := by show (w.heap.push o)[w.heap.size]? = some o; simp
theorem cell_of_block {w w' : World} {b o : Nat} (h : w'.heap[b]? = w.heap[b]?) : w'.cell? ⟨b, o, none⟩ = w.cell? ⟨b, o, none⟩ := by simp [World.cell?, h]

theorem evo_new {Γ : Cx} (H : HOk Γ) (id : Nat) (ob : Ob) (c : Array Value) (E : TypeId) (z : Nat × Nat) (m : Nat → Prop) (hid : ¬ Γ.n id) (hm : (∀ i, Γ.n i → m i) ∧ m id) : Evo Γ (Γ.new id ob c E z m) := by
  have hne : ∀ i, Γ.n i → i ≠ id := fun i hi e => hid (e ▸ hi)
  refine ⟨hm.1, ?_, ?_, ?_, ?_, (fun i t e r s hi h => by simp only [Cx.new, upd_other _ _ (hne i hi)] at h; exact ⟨r, s, h⟩), (fun i o hi h => by simp only [Cx.new, upd_other _ _ (hne i hi)] at h; exact ⟨o, h⟩), fun b r h => ⟨r, (alloc_block _ _ _ (Array.getElem?_eq_some_iff.1 h).1).trans h, .refl r⟩, ?_, ?_, fun _ _ h => .inl h, ?_, by simp [Cx.new], rfl, rfl, rfl⟩
  · rintro i hi ⟨o, e, h⟩
    simp only [Cx.new, upd_other _ _ (hne i hi)] at e ⊢
    exact ⟨⟨o, e, h⟩, trivial⟩
  · intro i cs hi e
    simp only [Cx.new, upd_other _ _ (hne i hi)] at e
    exact ⟨cs, e, rfl⟩
  · intro i fz s xs hi e
    simp only [Cx.new, upd_other _ _ (hne i hi)] at e
    exact ⟨fz, xs, e, rfl⟩
  · intro i s fc c1 tm hi e
    simp only [Cx.new, upd_other _ _ (hne i hi)] at e
    exact ⟨s, tm, e⟩
  · intro i b base c' E' z' hi hl hr hb
    refine ⟨c', E', z', ?_, rfl⟩
    exact (alloc_block _ _ _ (Array.getElem?_eq_some_iff.1 hb).1).trans hb
  · intro b o hz
    exact ⟨hz, cell_of_block (alloc_block _ _ _ (H.z b o hz).1)⟩
  · intro k hk hno
    refine ⟨alloc_block _ _ _ hk, ?_⟩
    rintro i base ⟨o, e, h⟩
    by_cases hi : i = id
    · subst hi; simp only [Cx.new, upd_same]; intro e2; simp at e2; omega
    · simp only [Cx.new, upd_other _ _ hi] at e ⊢
      exact hno i base ⟨o, e, h⟩

theorem ok_new {Γ : Cx} (H : HOk Γ) (id : Nat) (ob : Ob) (c : Array Value) (E : TypeId) (z : Nat × Nat) (m : Nat → Prop) (hid : ¬ Γ.n id) (hm : (∀ i, Γ.n i → m i) ∧ m id)
    (hv : ∀ cs, ob = .var cs → VarOk (Γ.new id ob c E z m) id cs) (hr : ∀ fz s xs, ob = .row fz s xs → RowOk (Γ.new id ob c E z m) id s xs) (hlo : ∀ s fc c tm, ob ≠ .loop s fc c tm := by simp) (hbo : (∀ t e r s, ob ≠ .bld t e r s) ∧ ∀ o, ob ≠ .raw o := by simp) : HOk (Γ.new id ob c E z m) := by
  have EV := evo_new H id ob c E z m hid hm
  have hlt : ∀ i, i ≠ id → live (Γ.new id ob c E z m).h i → Γ.n i ∧ live Γ.h i := by
    rintro i hi ⟨o, e, h⟩
    simp only [Cx.new, upd_other _ _ hi] at e
    exact ⟨H.lt i ⟨o, e, h⟩, ⟨o, e, h⟩⟩
  have hB : ∀ i, isB (Γ.new id ob c E z m).h i → i ≠ id ∧ isB Γ.h i := by
    rintro i (⟨t, e', r, s, e⟩ | ⟨o, e⟩)
    all_goals
      by_cases hi : i = id
      · subst hi; simp only [Cx.new, upd_same, Option.some.injEq] at e; first | exact absurd e (hbo.1 _ _ _ _) | exact absurd e (hbo.2 _)
      · simp only [Cx.new, upd_other _ _ hi] at e; first | exact ⟨hi, .inl ⟨_, _, _, _, e⟩⟩ | exact ⟨hi, .inr ⟨_, e⟩⟩
  refine H.step EV ?_ ?_ ?_ ?_ (fun i hb => .inl (H.lt i (hB i hb).2.live)) ?_ ?_ ?_
  rotate_left 3
  · intro i t e' r s hb hr
    obtain ⟨hi, hbi⟩ := hB i (.inl ⟨_, _, _, _, hb⟩)
    obtain ⟨hj, hbj⟩ := hB r (.inr ⟨_, hr⟩)
    simp only [Cx.new, upd_other _ _ hi] at hb
    simp only [Cx.new, upd_other _ _ hj] at hr
    exact .inl ⟨H.lt i hbi.live, H.lt r hbj.live, hb, hr, fun b base hb => alloc_block _ _ _ (H.there hbi.live hb), fun b base hb => alloc_block _ _ _ (H.there hbj.live hb)⟩
  rotate_left 3
  · intro i cs e
    by_cases hi : i = id
    · subst hi; simp only [Cx.new, upd_same, Option.some.injEq] at e; exact .inr (hv cs e)
    · obtain ⟨h1, h2⟩ := hlt i hi (live_var e)
      simp only [Cx.new, upd_other _ _ hi] at e
      exact .inl ⟨h1, e, fun b base hb => alloc_block _ _ _ (H.there h2 hb)⟩
  · intro i fz s xs e
    by_cases hi : i = id
    · subst hi; simp only [Cx.new, upd_same, Option.some.injEq] at e; exact .inr (hr fz s xs e)
    · obtain ⟨h1, h2⟩ := hlt i hi (live_row e)
      simp only [Cx.new, upd_other _ _ hi] at e
      exact .inl ⟨h1, ⟨fz, e⟩, fun b base hb => alloc_block _ _ _ (H.there h2 hb)⟩
  · intro i s fc c1 tm e
    by_cases hi : i = id
    · subst hi; simp only [Cx.new, upd_same, Option.some.injEq] at e; exact absurd e (hlo s fc c1 tm)
    · obtain ⟨h1, h2⟩ := hlt i hi (live_loop e)
      simp only [Cx.new, upd_other _ _ hi] at e
      exact .inl ⟨h1, e, fun b base hb => alloc_block _ _ _ (H.there h2 hb)⟩
  · intro i j b bi bj hi hj ei ej
    by_cases h1 : i = id <;> by_cases h2 : j = id
    · omega
    · subst h1
      obtain ⟨_, hl⟩ := hlt j h2 hj
      simp only [Cx.new, upd_same, upd_other _ _ h2, Option.some.injEq, Prod.mk.injEq] at ei ej
      have := H.there hl ej; omega
    · subst h2
      obtain ⟨_, hl⟩ := hlt i h1 hi
      simp only [Cx.new, upd_same, upd_other _ _ h1, Option.some.injEq, Prod.mk.injEq] at ei ej
      have := H.there hl ei; omega
    · simp only [Cx.new, upd_other _ _ h1, upd_other _ _ h2] at ei ej
      exact H.inj i j b bi bj (hlt i h1 hi).2 (hlt j h2 hj).2 ei ej
  · intro i hi
    by_cases h1 : i = id
    · subst h1; exact hm.2
    · exact hm.1 i (hlt i h1 hi).1
  · intro b o hz
    obtain ⟨h1, h2⟩ := H.z b o hz
    refine ⟨by simp [Cx.new]; omega, fun i base hl hr => ?_⟩
    by_cases hi : i = id
    · subst hi
      simp only [Cx.new, upd_same, Option.some.injEq, Prod.mk.injEq] at hr
      omega
    · obtain ⟨_, hl'⟩ := hlt i hi hl
      simp only [Cx.new, upd_other _ _ hi] at hr ⊢
      exact h2 i base hl' hr

/-- A row that has nothing, and no block. -/
theorem step_virtual {Γ : Cx} (H : HOk Γ) (id s : Nat) (m : Nat → Prop) (fz : Bool) (hid : ¬ Γ.n id) (hm : (∀ i, Γ.n i → m i) ∧ m id) :
    HOk { Γ with ρ := upd Γ.ρ id none, h := upd Γ.h id (some (.row fz s [])), n := m } ∧ Evo Γ { Γ with ρ := upd Γ.ρ id none, h := upd Γ.h id (some (.row fz s [])), n := m } := by
  have hne : ∀ i, Γ.n i → i ≠ id := fun i hi e => hid (e ▸ hi)
  have E : Evo Γ { Γ with ρ := upd Γ.ρ id none, h := upd Γ.h id (some (.row fz s [])), n := m } := by
    refine ⟨hm.1, ?_, ?_, ?_, ?_, (fun i t e r s hi h => by simp only [upd_other _ _ (hne i hi)] at h; exact ⟨r, s, h⟩), (fun i o hi h => by simp only [upd_other _ _ (hne i hi)] at h; exact ⟨o, h⟩), fun _ r h => ⟨r, h, .refl r⟩, ?_, fun _ _ h => ⟨h, rfl⟩, fun _ _ h => .inl h, ?_, Nat.le_refl _, rfl, rfl, rfl⟩
    · rintro i hi ⟨o, e, h⟩
      simp only [upd_other _ _ (hne i hi)] at e ⊢
      exact ⟨⟨o, e, h⟩, trivial⟩
    · intro i cs hi e
      simp only [upd_other _ _ (hne i hi)] at e
      exact ⟨cs, e, rfl⟩
    · intro i fz s xs hi e
      simp only [upd_other _ _ (hne i hi)] at e
      exact ⟨fz, xs, e, rfl⟩
    · intro i s fc c1 tm hi e
      simp only [upd_other _ _ (hne i hi)] at e
      exact ⟨s, tm, e⟩
    · intro i b base c' E' z' hi hl hr hb
      exact ⟨c', E', z', hb, rfl⟩
    · intro k hk hno
      refine ⟨rfl, ?_⟩
      rintro i base ⟨o, e, h⟩
      by_cases hi : i = id
      · subst hi; simp [upd]
      · simp only [upd_other _ _ hi] at e ⊢
        exact hno i base ⟨o, e, h⟩
  have hlt : ∀ i, i ≠ id → live (upd Γ.h id (some (.row fz s []))) i → live Γ.h i := by
    rintro i hi ⟨o, e, h⟩
    rw [upd_other _ _ hi] at e
    exact ⟨o, e, h⟩
  have hB : ∀ i, isB (upd Γ.h id (some (.row fz s []))) i → i ≠ id ∧ isB Γ.h i := by
    rintro i (⟨t, e', r, s', e⟩ | ⟨o, e⟩)
    all_goals
      by_cases hi : i = id
      · subst hi; simp [upd] at e
      · rw [upd_other _ _ hi] at e; first | exact ⟨hi, .inl ⟨_, _, _, _, e⟩⟩ | exact ⟨hi, .inr ⟨_, e⟩⟩
  refine ⟨H.step E ?_ ?_ ?_ (fun i t e r s hb hr => ?_) (fun i hb => .inl (H.lt i (hB i hb).2.live)) ?_ ?_ ?_, E⟩
  rotate_left 3
  · obtain ⟨hi, hbi⟩ := hB i (.inl ⟨_, _, _, _, hb⟩)
    obtain ⟨hj, hbj⟩ := hB r (.inr ⟨_, hr⟩)
    simp only [upd_other _ _ hi] at hb
    simp only [upd_other _ _ hj] at hr
    exact .inl ⟨H.lt i hbi.live, H.lt r hbj.live, hb, hr, fun _ _ _ => rfl, fun _ _ _ => rfl⟩
  rotate_left 3
  · intro i cs e
    by_cases hi : i = id
    · subst hi; simp [upd] at e
    · have hl := hlt i hi (live_var e)
      simp only [upd_other _ _ hi] at e
      exact .inl ⟨H.lt i hl, e, fun _ _ _ => rfl⟩
  · intro i fz' s' xs e
    by_cases hi : i = id
    · subst hi; simp [upd] at e; exact .inr (.inl ⟨by simp [upd], e.2.2⟩)
    · have hl := hlt i hi (live_row e)
      simp only [upd_other _ _ hi] at e
      exact .inl ⟨H.lt i hl, ⟨fz', e⟩, fun _ _ _ => rfl⟩
  · intro i s1 fc c1 tm e
    by_cases hi : i = id
    · subst hi; simp [upd] at e
    · have hl := hlt i hi (live_loop e)
      simp only [upd_other _ _ hi] at e
      exact .inl ⟨H.lt i hl, e, fun _ _ _ => rfl⟩
  · intro i j b bi bj hi hj ei ej
    by_cases h1 : i = id
    · subst h1; simp [upd] at ei
    · by_cases h2 : j = id
      · subst h2; simp [upd] at ej
      · simp only [upd_other _ _ h1, upd_other _ _ h2] at ei ej
        exact H.inj i j b bi bj (hlt i h1 hi) (hlt j h2 hj) ei ej
  · intro i hi
    by_cases h1 : i = id
    · subst h1; exact hm.2
    · exact hm.1 i (H.lt i (hlt i h1 hi))
  · intro b o hz
    obtain ⟨h1, h2⟩ := H.z b o hz
    refine ⟨h1, fun i base hl hr => ?_⟩
    by_cases hi : i = id
    · subst hi; simp [upd] at hr
    · simp only [upd_other _ _ hi] at hr ⊢
      exact h2 i base (hlt i hi hl) hr

/-- What lies under a number is struck. -/
theorem step_kill {Γ : Cx} (H : HOk Γ) (id : Nat) : HOk { Γ with h := upd Γ.h id (some .dead) } ∧ Evo Γ { Γ with h := upd Γ.h id (some .dead) } := by
  have hlt : ∀ i, live (upd Γ.h id (some .dead)) i → i ≠ id ∧ live Γ.h i := by
    rintro i ⟨o, e, h⟩
    by_cases hi : i = id
    · subst hi; simp [upd] at e; exact absurd e.symm h
    · rw [upd_other _ _ hi] at e; exact ⟨hi, o, e, h⟩
  have E : Evo Γ { Γ with h := upd Γ.h id (some .dead) } := by
    refine ⟨fun _ h => h, fun i _ hl => ⟨(hlt i hl).2, rfl⟩, ?_, ?_, ?_, (fun i t e r s _ h => by have hi := (hlt i (live_bld h)).1; simp only [upd_other _ _ hi] at h; exact ⟨r, s, h⟩), (fun i o _ h => by have hi := (hlt i (live_raw h)).1; simp only [upd_other _ _ hi] at h; exact ⟨o, h⟩), fun _ r h => ⟨r, h, .refl r⟩, fun _ _ _ c E z _ _ _ h => ⟨c, E, z, h, rfl⟩, fun _ _ h => ⟨h, rfl⟩, fun _ _ h => .inl h,
      fun k _ hno => ⟨rfl, fun i base hl => hno i base (hlt i hl).2⟩, Nat.le_refl _, rfl, rfl, rfl⟩
    · intro i cs _ e
      have hi := (hlt i (live_var e)).1
      simp only [upd_other _ _ hi] at e
      exact ⟨cs, e, rfl⟩
    · intro i fz s xs _ e
      have hi := (hlt i (live_row e)).1
      simp only [upd_other _ _ hi] at e
      exact ⟨fz, xs, e, rfl⟩
    · intro i s fc c1 tm _ e
      have hi := (hlt i (live_loop e)).1
      simp only [upd_other _ _ hi] at e
      exact ⟨s, tm, e⟩
  refine ⟨H.step E ?_ ?_ ?_ (fun i t e r s hb hr => by
      obtain ⟨hi, hbi⟩ := hlt i (live_bld hb)
      obtain ⟨hj, hbj⟩ := hlt r (live_raw hr)
      simp only [upd_other _ _ hi] at hb
      simp only [upd_other _ _ hj] at hr
      exact .inl ⟨H.lt i hbi, H.lt r hbj, hb, hr, fun _ _ _ => rfl, fun _ _ _ => rfl⟩) (fun i hb => .inl (H.lt i (hlt i hb.live).2)) (fun i j b bi bj hi hj => H.inj i j b bi bj (hlt i hi).2 (hlt j hj).2) (fun i hi => H.lt i (hlt i hi).2) ?_, E⟩
  · intro i cs e
    obtain ⟨hi, hl⟩ := hlt i (live_var e)
    simp only [upd_other _ _ hi] at e
    exact .inl ⟨H.lt i hl, e, fun _ _ _ => rfl⟩
  · intro i fz s xs e
    obtain ⟨hi, hl⟩ := hlt i (live_row e)
    simp only [upd_other _ _ hi] at e
    exact .inl ⟨H.lt i hl, ⟨fz, e⟩, fun _ _ _ => rfl⟩
  · intro i s fc c1 tm e
    obtain ⟨hi, hl⟩ := hlt i (live_loop e)
    simp only [upd_other _ _ hi] at e
    exact .inl ⟨H.lt i hl, e, fun _ _ _ => rfl⟩
  · intro b o hz
    obtain ⟨h1, h2⟩ := H.z b o hz
    refine ⟨h1, fun i base hl hr => ?_⟩
    obtain ⟨hi, hl'⟩ := hlt i hl
    simp only [upd_other _ _ hi]
    exact h2 i base hl' hr

end Go.Sym
