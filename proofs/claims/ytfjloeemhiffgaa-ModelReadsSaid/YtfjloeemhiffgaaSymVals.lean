/- DERIVED. What a plain value says of the model's value; constants; values without references. -/
import Derived.Test.YtfjloeemhiffgaaSymStep
import Derived.Laws.Entries
import Derived.ChangeKeysEq
set_option linter.unusedVariables false
set_option linter.unusedSimpArgs false
namespace Go.Sym
section inv
variable {Γ : Cx} {u : Value}
theorem VR.bool_inv {b : Bool} (h : VR Γ (.bool b) u) : u = .bool b := by cases h with | pure h => cases h; rfl
theorem VR.int_inv {k : IntKind} {n : Int} (h : VR Γ (.int k n) u) : u = .int k n := by cases h with | pure h => cases h; rfl
theorem VR.str_inv {s : List UInt8} (h : VR Γ (.str s) u) : ∃ b : ByteArray, u = .string b ∧ b.data.toList = s := by cases h with | pure h => cases h; exact ⟨_, rfl, rfl⟩
theorem VR.agg_inv {cs : List V} (h : VR Γ (.agg cs) u) : ∃ us : Array Value, u = .agg us ∧ cs.length = us.size ∧ (∀ (i : Nat) (u : Value), us[i]? = some u → u.oneCell = true) ∧ ∀ (i : Nat) (c : V) (u : Value), cs[i]? = some c → us[i]? = some u → VR Γ c u := by
  cases h with
  | pure h => cases h with | agg _ us hl h1 hv => exact ⟨us, rfl, hl, h1, fun i c u hc hu => .pure (hv i c u hc hu)⟩
  | agg _ us hl h1 hv => exact ⟨us, rfl, hl, h1, hv⟩
theorem VR.tup_inv {vs : List V} (h : VR Γ (.tup vs) u) : ∃ us : Array Value, u = .tuple us ∧ vs.length = us.size ∧ ∀ (i : Nat) (c : V) (u : Value), vs[i]? = some c → us[i]? = some u → VR Γ c u := by
  cases h with
  | pure h => cases h
  | tup _ us hl hv => exact ⟨us, rfl, hl, hv⟩
theorem VR.sl_inv {nl : Option Bool} {clip : Bool} {s : Nat} {xs : List V} (h : VR Γ (.sl nl clip s xs) u) : VP Γ.w Γ.Z (.sl nl clip s xs) u := by cases h with | pure h => exact h
theorem VR.ref_inv {id : Nat} (h : VR Γ (.ref id) u) : u.oneCell = true ∧ Γ.n id ∧ ∀ fz s xs, Γ.h id = some (.row fz s xs) → RefOk Γ id s 0 xs.length u := by
  cases h with
  | pure h => cases h
  | ref _ _ h1 hn h => exact ⟨h1, hn, h⟩
theorem VR.sub_inv {id off len : Nat} (h : VR Γ (.sub id off len) u) : u.oneCell = true ∧ Γ.n id ∧ ∀ fz s xs, Γ.h id = some (.row fz s xs) → off + len ≤ xs.length ∧ RefOk Γ id s off len u := by
  cases h with
  | pure h => cases h
  | sub _ _ _ _ h1 hn h => exact ⟨h1, hn, h⟩
theorem VR.vsl_inv {id off len : Nat} (h : VR Γ (.vsl id off len) u) : ∃ b cap, u = .slice (some ⟨b, off, none⟩) len cap ∧ len ≤ cap ∧ Γ.n id ∧ ∀ cs, Γ.h id = some (.var cs) → off + len ≤ cs.length ∧ Γ.ρ id = some (b, 0) := by
  cases h with
  | pure h => cases h
  | vsl _ _ _ b cap hn hle h => exact ⟨b, cap, rfl, hle, hn, h⟩
theorem VR.ptr_inv {id off : Nat} (h : VR Γ (.ptr id off) u) : ∃ b, u = .pointer (some ⟨b, off, none⟩) ∧ Γ.n id ∧ ∀ ob, Γ.h id = some ob → ob.isV = true → Γ.ρ id = some (b, 0) := by
  cases h with
  | pure h => cases h
  | ptr _ _ b hn h => exact ⟨b, rfl, hn, h⟩
theorem VR.ept_inv {id i off : Nat} (h : VR Γ (.ept id i off) u) : ∃ b o, u = .pointer (some ⟨b, o + off, none⟩) ∧ Γ.n id ∧ ∀ fz s xs, Γ.h id = some (.row fz s xs) → ∃ base, Γ.ρ id = some (b, base) ∧ o = base + i * s := by
  cases h with
  | pure h => cases h
  | ept _ _ _ b o hn h => exact ⟨b, o, rfl, hn, h⟩
theorem VR.cpt_inv {v : V} {off : Nat} (h : VR Γ (.cpt v off) u) : ∃ b o, u = .pointer (some ⟨b, o + off, none⟩) ∧ ∀ (j : Nat) (c : V), v.cells[j]? = some c → Γ.Z b (o + j) ∧ ∃ u' : Value, Γ.w.cell? ⟨b, o + j, none⟩ = some u' ∧ u'.oneCell = true ∧ VP Γ.w Γ.Z c u' := by
  cases h with
  | pure h => cases h
  | cpt _ _ b o he => exact ⟨b, o, rfl, he⟩
theorem VR.fn_inv {f : Fn} {as cs : List V} (h : VR Γ (.fn f as cs) u) : ∃ ua uc : Array Value, u = .func f ua uc ∧ as.length = ua.size ∧ cs.length = uc.size ∧
    (∀ (i : Nat) (c : V) (u : Value), as[i]? = some c → ua[i]? = some u → VR Γ c u) ∧ ∀ (i : Nat) (c : V) (u : Value), cs[i]? = some c → uc[i]? = some u → VR Γ c u := by
  cases h with
  | pure h =>
    cases h with
    | fnc f as ua hl hv => exact ⟨ua, #[], rfl, hl, rfl, fun i c u hc hu => .pure (hv i c u hc hu), by simp⟩
  | fn _ _ _ ua uc hla hlc ha hc => exact ⟨ua, uc, rfl, hla, hlc, ha, hc⟩
theorem VR.yld_inv {id : Nat} (h : VR Γ (.yld id) u) : ∃ l, u = .func (.yield l) #[] #[] ∧ Γ.n id ∧ ∀ s fc c tm, Γ.h id = some (.loop s fc c tm) → Γ.ρ id = some (l, 0) := by
  cases h with
  | pure h => cases h
  | yld _ l hn h => exact ⟨l, rfl, hn, h⟩
end inv

theorem oneCell_cells {u : Value} (h : u.oneCell = true) : u.cells = #[u] := by cases u <;> simp_all [Value.oneCell, Value.cells]

/-- A value that is told has the cells that it is told to have. -/
theorem VR.cells {Γ : Cx} {v : V} {u : Value} (h : VR Γ v u) (hs : solid v = true) : v.cells.length = u.cells.size ∧ (∀ (i : Nat) (x : Value), u.cells[i]? = some x → x.oneCell = true) ∧
    ∀ (i : Nat) (c : V) (x : Value), v.cells[i]? = some c → u.cells[i]? = some x → VR Γ c x := by
  have leaf : v.cells = [v] → u.oneCell = true → v.cells.length = u.cells.size ∧ (∀ (i : Nat) (x : Value), u.cells[i]? = some x → x.oneCell = true) ∧
      ∀ (i : Nat) (c : V) (x : Value), v.cells[i]? = some c → u.cells[i]? = some x → VR Γ c x := by
    intro e h1
    rw [e, oneCell_cells h1]
    refine ⟨rfl, ?_, ?_⟩
    · intro i x hx
      cases i with
      | zero => simp at hx; subst hx; exact h1
      | succ i => simp at hx
    · intro i c x hc hx
      cases i with
      | zero => simp at hc hx; subst hc hx; exact h
      | succ i => simp at hc
  cases v with
  | agg cs =>
    obtain ⟨us, rfl, hl, h1, hv⟩ := h.agg_inv
    exact ⟨hl, h1, hv⟩
  | junk => simp [solid] at hs
  | tup vs => simp [solid] at hs
  | bool b => exact leaf rfl (by rw [h.bool_inv]; rfl)
  | int k n => exact leaf rfl (by rw [h.int_inv]; rfl)
  | str s => exact leaf rfl (by obtain ⟨b, rfl, _⟩ := h.str_inv; rfl)
  | sl nl c s xs => exact leaf rfl (by cases h.sl_inv; rfl)
  | ref id => exact leaf rfl h.ref_inv.1
  | sub id off len => exact leaf rfl h.sub_inv.1
  | ptr id off => exact leaf rfl (by obtain ⟨b, rfl, _⟩ := h.ptr_inv; rfl)
  | ept id i off => exact leaf rfl (by obtain ⟨b, o, rfl, _⟩ := h.ept_inv; rfl)
  | cpt v off => exact leaf rfl (by obtain ⟨b, o, rfl, _⟩ := h.cpt_inv; rfl)
  | fn f a c => exact leaf rfl (by obtain ⟨ua, uc, rfl, _⟩ := h.fn_inv; rfl)
  | nilf => exact leaf rfl (by cases h with | pure h => cases h; rfl)
  | nilp => exact leaf rfl (by cases h with | pure h => cases h; rfl)
  | nili => exact leaf rfl (by cases h with | pure h => cases h; rfl)
  | vsl a b c => exact leaf rfl (by obtain ⟨b, cap, rfl, _⟩ := h.vsl_inv; rfl)
  | ifc t v => cases h with | pure h => cases h
  | yld l => exact leaf rfl (by obtain ⟨b, rfl, _⟩ := h.yld_inv; rfl)

theorem VP.cells {w : World} {Z : Nat → Nat → Prop} {v : V} {u : Value} (h : VP w Z v u) : v.cells.length = u.cells.size ∧ (∀ (i : Nat) (x : Value), u.cells[i]? = some x → x.oneCell = true) ∧
    ∀ (i : Nat) (c : V) (x : Value), v.cells[i]? = some c → u.cells[i]? = some x → VP w Z c x := by
  have leaf : v.cells = [v] → u.oneCell = true → v.cells.length = u.cells.size ∧ (∀ (i : Nat) (x : Value), u.cells[i]? = some x → x.oneCell = true) ∧
      ∀ (i : Nat) (c : V) (x : Value), v.cells[i]? = some c → u.cells[i]? = some x → VP w Z c x := by
    intro e h1
    rw [e, oneCell_cells h1]
    refine ⟨rfl, ?_, ?_⟩
    · intro i x hx
      cases i with
      | zero => simp at hx; subst hx; exact h1
      | succ i => simp at hx
    · intro i c x hc hx
      cases i with
      | zero => simp at hc hx; subst hc hx; exact h
      | succ i => simp at hc
  cases h with
  | agg cs us hl h1 hv => exact ⟨hl, h1, hv⟩
  | bool b => exact leaf rfl rfl
  | int k n => exact leaf rfl rfl
  | str s => exact leaf rfl rfl
  | sl nl c s xs => exact leaf rfl rfl
  | fnc f => exact leaf rfl rfl
  | nilf => exact leaf rfl rfl
  | nilp => exact leaf rfl rfl
  | nili => exact leaf rfl rfl

theorem VP_leaf (w : World) (Z : Nat → Nat → Prop) (u : Value) : leafOf u = .junk ∨ VP w Z (leafOf u) u := by
  unfold leafOf
  split
  · exact .inr (.bool _)
  · exact .inr (.int _ _)
  · exact .inr (.str _)
  · exact .inr .nilp
  · exact .inr (.sl (some true) true 0 [] none 0 (Nat.le_refl _) (fun _ => rfl) (fun _ => rfl) (by simp) (fun _ => rfl) (by simp) (by simp) (by simp) (by simp) (by simp))
  · exact .inr .nilf
  · exact .inr .nili
  · exact .inl rfl
theorem VR_leaf (Γ : Cx) (u : Value) : VR Γ (leafOf u) u := by
  rcases VP_leaf Γ.w Γ.Z u with h | h
  · rw [h]; exact .junk u
  · exact .pure h
theorem VR_const (Γ : Cx) (u : Value) : VR Γ (ofValue u) u := by
  cases u with
  | agg cs =>
    by_cases h : cs.toList.all Value.oneCell = true
    · have e : ofValue (.agg cs) = .agg (cs.toList.map leafOf) := by unfold ofValue; exact if_pos h
      rw [e]
      refine .agg _ cs (by simp) ?_ ?_
      · intro i u hu
        rw [List.all_eq_true] at h
        exact h u (by simpa using Array.mem_of_getElem? hu)
      · intro i c u hc hu
        simp only [List.getElem?_map, Array.getElem?_toList, hu, Option.map_some, Option.some.injEq] at hc
        subst hc; exact VR_leaf Γ u
    · have e : ofValue (.agg cs) = .junk := by unfold ofValue; exact if_neg h
      rw [e]; exact .junk _
  | _ => exact (by unfold ofValue; exact VR_leaf Γ _)

section types
variable {P : Program} {t : TypeId} {w : World}
theorem info_of_underlying {d : TypeDesc} (h : P.underlying t = some d) : ∃ i, P.info? t = some i := by
  unfold Program.underlying at h
  cases hi : P.info? t with
  | none => simp [hi] at h
  | some i => exact ⟨i, rfl⟩
theorem run_size {d : TypeDesc} (h : P.underlying t = some d) : (sizeOf t).run P w = .ok (tsize P t) w := by
  obtain ⟨i, hi⟩ := info_of_underlying h
  simp [sizeOf, run_typeInfo w hi, tsize, hi]
theorem info_of_tsize (h : 0 < tsize P t) : ∃ i, P.info? t = some i := by
  unfold tsize at h
  cases hi : P.info? t with
  | none => simp [hi] at h
  | some i => exact ⟨i, rfl⟩
theorem run_size' (h : 0 < tsize P t) : (sizeOf t).run P w = .ok (tsize P t) w := by
  obtain ⟨i, hi⟩ := info_of_tsize h
  simp [sizeOf, run_typeInfo w hi, tsize, hi]
theorem run_agg {b : Bool} (h : tagg P t = some b) : (isAgg t).run P w = .ok b w := by
  unfold tagg at h
  cases hd : P.underlying t with
  | none => simp [hd] at h
  | some d =>
    rw [isAgg, Sem.run_bind, run_underlying hd]
    simp only [Result.andThen]
    cases d <;> simp_all
theorem under_of_tagg {b : Bool} (h : tagg P t = some b) : ∃ d, P.underlying t = some d := by
  unfold tagg at h
  cases hd : P.underlying t with
  | none => simp [hd] at h
  | some d => exact ⟨d, rfl⟩
theorem tzero_inv {z : V} (h : tzero P t = some z) : ∃ i zv, P.info? t = some i ∧ i.zero = some zv ∧ z = ofValue zv ∧ (zeroValue t).run P w = .ok zv w := by
  unfold tzero at h
  cases hi : P.info? t with
  | none => simp [hi] at h
  | some i =>
    cases hz : i.zero with
    | none => simp [hi, hz] at h
    | some zv =>
      simp [hi, hz] at h
      refine ⟨i, zv, rfl, hz, h.symm, ?_⟩
      simp [zeroValue, run_typeInfo w hi, hz]
end types

/-- The cells of rows that are to be frozen. -/
def Zof (Γ : Cx) (ids : List Nat) (b o : Nat) : Prop :=
  Γ.Z b o ∨ ∃ id fz s xs base, id ∈ ids ∧ Γ.h id = some (.row fz s xs) ∧ Γ.ρ id = some (b, base) ∧ o < base + xs.length * s ∧ base ≤ o

theorem Zof.mono {Γ : Cx} {ids ids' : List Nat} (h : ∀ i ∈ ids, i ∈ ids') {b o : Nat} (hz : Zof Γ ids b o) : Zof Γ ids' b o := by
  rcases hz with hz | ⟨id, fz, s, xs, base, hm, r⟩
  · exact .inl hz
  · exact .inr ⟨id, fz, s, xs, base, h id hm, r⟩

theorem VP.zmono {w : World} {Z Z' : Nat → Nat → Prop} (h : ∀ b o, Z b o → Z' b o) {v : V} {u : Value} (hv : VP w Z v u) : VP w Z' v u := hv.evo fun b o hz => ⟨h b o hz, rfl⟩

theorem snap {Γ : Cx} (H : HOk Γ) {id off len s : Nat} {fz : Bool} {xs : List V} {u : Value} (e : Γ.h id = some (.row fz s xs)) (hle : off + len ≤ xs.length) (hr : RefOk Γ id s off len u) :
    VP Γ.w (Zof Γ [id]) (.sl none false s ((xs.drop off).take len)) u := by
  obtain ⟨a, cap, rfl, hc, hsp, ha⟩ := hr
  have hlen : ((xs.drop off).take len).length = len := by simp; omega
  have key : len = ((xs.drop off).take len).length := hlen.symm
  have hget : ∀ i x, ((xs.drop off).take len)[i]? = some x → i < len ∧ xs[off + i]? = some x := by
    intro i x hx
    have hi : i < len := by
      have := (List.getElem?_eq_some_iff.1 hx).1; omega
    refine ⟨hi, ?_⟩
    rw [List.getElem?_take_of_lt hi, List.getElem?_drop] at hx
    exact hx
  rw [show Value.slice a len cap = Value.slice a ((xs.drop off).take len).length cap by rw [hlen]]
  rcases H.row id fz s xs e with ⟨hn, hx0⟩ | ⟨b, base, c, E, z, hρ, hb, hz, h0, hsz, h1, hcl, hv⟩
  · subst hx0
    have hl0 : len = 0 := by simp at hle; omega
    subst hl0
    refine .sl none false s _ a cap (by simp) (by simp) (by simp) (by simp) ?_ (by simp) hsp (by simp) (by simp) (by simp)
    intro hnone
    rcases Nat.eq_zero_or_pos cap with h | h
    · exact h
    · obtain ⟨b, base, c, E, z, hr, _⟩ := ha h
      rw [hn] at hr; cases hr
  · refine .sl none false s _ a cap (by omega) (by simp) (by simp) (by simp) ?_ (fun _ => h0) hsp (fun i x hx => hcl _ x (hget i x hx).2) ?_ ?_
    · intro hnone
      rcases Nat.eq_zero_or_pos cap with h | h
      · exact h
      · obtain ⟨b', base', c', E', z', hr, ha', _⟩ := ha h
        rw [hnone] at ha'; cases ha'
    · intro ad i x j y had hx hj
      obtain ⟨hi, hx'⟩ := hget i x hx
      obtain ⟨b', base', c', E', z', hr, ha', hb', _⟩ := ha (by omega)
      rw [hρ] at hr; cases hr
      rw [hb] at hb'; cases hb'
      rw [had] at ha'; cases ha'
      have hxs := (List.getElem?_eq_some_iff.1 hx').1
      have hcx := hcl _ x hx'
      have hjs : j < s := by have := (List.getElem?_eq_some_iff.1 hj).1; omega
      have hbound : base + ((off + i) * s + j) < base + xs.length * s := by
        have : (off + i + 1) * s ≤ xs.length * s := Nat.mul_le_mul_right s (by omega)
        rw [Nat.add_mul, Nat.one_mul] at this; omega
      have eo : base + off * s + (i * s + j) = base + ((off + i) * s + j) := by rw [Nat.add_mul]; omega
      refine ⟨.inr ⟨id, fz, s, xs, base, by simp, e, hρ, by simp only; omega, by simp only; omega⟩, ?_⟩
      simp only
      rw [eo]
      have hlt : base + ((off + i) * s + j) < c.size := by omega
      refine ⟨c[base + ((off + i) * s + j)], by simp [World.cell?, hb, hlt], h1 _ _ (Array.getElem?_eq_getElem hlt)⟩
    · intro ad i x j y u had hx hj hu
      obtain ⟨hi, hx'⟩ := hget i x hx
      obtain ⟨b', base', c', E', z', hr, ha', hb', _⟩ := ha (by omega)
      rw [hρ] at hr; cases hr
      rw [hb] at hb'; cases hb'
      rw [had] at ha'; cases ha'
      have eo : base + off * s + (i * s + j) = base + ((off + i) * s + j) := by rw [Nat.add_mul]; omega
      simp only [eo] at hu
      have hc' : c[base + ((off + i) * s + j)]? = some u := by simpa [World.cell?, hb] using hu
      exact (hv (off + i) x j y u hx' hj hc').zmono fun b o h => .inl h

theorem pure1_sound {Γ : Cx} (H : HOk Γ) {v p : V} {u : Value} (h : VR Γ v u) (hp : pure1 Γ.h v = some p) : VP Γ.w (Zof Γ (rid1 v)) p u := by
  have lift : ∀ {v : V}, VP Γ.w Γ.Z v u → ∀ ids, VP Γ.w (Zof Γ ids) v u := fun hv ids => hv.zmono fun b o h => .inl h
  cases v with
  | ref id =>
    simp only [pure1] at hp
    split at hp
    · rename_i fz s xs e
      cases hp
      have := snap H e (by omega : 0 + xs.length ≤ xs.length) (h.ref_inv.2.2 fz s xs e)
      simpa [rid1] using this
    · cases hp
  | sub id off len =>
    simp only [pure1] at hp
    split at hp
    · rename_i fz s xs e
      cases hp
      obtain ⟨h1, h2⟩ := h.sub_inv.2.2 fz s xs e
      exact snap H e h1 h2
    · cases hp
  | bool b => cases hp; cases h with | pure h => exact lift h _
  | int k n => cases hp; cases h with | pure h => exact lift h _
  | str s => cases hp; cases h with | pure h => exact lift h _
  | sl n c s xs => cases hp; cases h with | pure h => exact lift h _
  | nilf => cases hp; cases h with | pure h => exact lift h _
  | nilp => cases hp; cases h with | pure h => exact lift h _
  | nili => cases hp; cases h with | pure h => exact lift h _
  | fn f a c =>
    cases f with
    | func g =>
      cases c with
      | nil =>
        simp only [pure1, guardP_some] at hp
        obtain ⟨hfl, hp⟩ := hp
        cases hp
        obtain ⟨ua, uc, rfl, hla, hlc, hva, _⟩ := h.fn_inv
        have e2 : uc = #[] := by apply Array.eq_empty_of_size_eq_zero; simpa using hlc.symm
        subst e2
        refine .fnc g a ua hla fun i c u hc hu => ?_
        have h1 : flat1 c = true := List.all_eq_true.1 hfl c (List.mem_of_getElem? hc)
        have h2 := hva i c u hc hu
        refine VP.zmono (Z := Γ.Z) (fun b o h => .inl h) ?_
        cases c <;> first | (cases h1; done) | (cases h2 with | pure h => exact h)
      | cons _ _ => simp [pure1] at hp
    | _ => simp [pure1] at hp
  | _ => simp [pure1] at hp

theorem pures_get {h : Nat → Option Ob} : ∀ {vs ps : List V}, pures h vs = some ps → ps.length = vs.length ∧ ∀ (i : Nat) (v : V), vs[i]? = some v → ∃ p, ps[i]? = some p ∧ pure1 h v = some p := by
  intro vs
  induction vs with
  | nil => intro ps e; simp [pures] at e; subst e; simp
  | cons v r ih =>
    intro ps e
    simp only [pures, Option.bind_eq_some_iff, Option.map_eq_some_iff] at e
    obtain ⟨p, hp, ps', hps, rfl⟩ := e
    obtain ⟨hl, hg⟩ := ih hps
    refine ⟨by simp [hl], ?_⟩
    intro i x hx
    cases i with
    | zero => simp at hx; subst hx; exact ⟨p, by simp, hp⟩
    | succ i => simp at hx; simpa using hg i x hx

theorem purify_sound {Γ : Cx} (H : HOk Γ) {v p : V} {u : Value} (h : VR Γ v u) (hp : purify Γ.h v = some p) : VP Γ.w (Zof Γ (rid v)) p u := by
  cases v with
  | agg cs =>
    simp only [purify, Option.map_eq_some_iff] at hp
    obtain ⟨ps, hps, rfl⟩ := hp
    obtain ⟨us, rfl, hl, h1, hv⟩ := h.agg_inv
    obtain ⟨hlen, hg⟩ := pures_get hps
    refine .agg ps us (by omega) h1 ?_
    intro i c u hc hu
    have hi : i < cs.length := by have := (List.getElem?_eq_some_iff.1 hc).1; omega
    obtain ⟨p, hp1, hp2⟩ := hg i cs[i] (List.getElem?_eq_getElem hi)
    rw [hc] at hp1; cases hp1
    refine (pure1_sound H (hv i _ u (List.getElem?_eq_getElem hi) hu) hp2).zmono fun b o hz => hz.mono ?_
    intro x hx
    simp only [rid, List.mem_flatMap]
    exact ⟨cs[i], List.getElem_mem hi, hx⟩
  | _ => exact pure1_sound H h hp

theorem purifys_get {h : Nat → Option Ob} : ∀ {vs ps : List V}, purifys h vs = some ps → ps.length = vs.length ∧ ∀ (i : Nat) (v : V), vs[i]? = some v → ∃ p, ps[i]? = some p ∧ purify h v = some p := by
  intro vs
  induction vs with
  | nil => intro ps e; simp [purifys] at e; subst e; simp
  | cons v r ih =>
    intro ps e
    simp only [purifys, Option.bind_eq_some_iff, Option.map_eq_some_iff] at e
    obtain ⟨p, hp, ps', hps, rfl⟩ := e
    obtain ⟨hl, hg⟩ := ih hps
    refine ⟨by simp [hl], ?_⟩
    intro i x hx
    cases i with
    | zero => simp at hx; subst hx; exact ⟨p, by simp, hp⟩
    | succ i => simp at hx; simpa using hg i x hx

/-- Rows are frozen, one after the other. -/
theorem step_freezes : ∀ (ids : List Nat) {Γ : Cx} (H : HOk Γ) (h0 : Nat → Option Ob), (∀ id fz s xs, h0 id = some (.row fz s xs) → ∃ fz', Γ.h id = some (.row fz' s xs)) →
    ∃ Δ : Cx, HOk Δ ∧ Evo Γ Δ ∧ Δ.h = upds Γ.h (freeze h0 ids) ∧ Δ.w = Γ.w ∧ Δ.n = Γ.n ∧ Δ.ρ = Γ.ρ ∧ (∀ b o, Γ.Z b o → Δ.Z b o) ∧
      ∀ id fz s xs base b o, id ∈ ids → h0 id = some (.row fz s xs) → Γ.ρ id = some (b, base) → o < base + xs.length * s → base ≤ o → Δ.Z b o := by
  intro ids
  induction ids with
  | nil => intro Γ H h0 hh; exact ⟨Γ, H, Evo.refl Γ, rfl, rfl, rfl, rfl, fun _ _ h => h, by simp⟩
  | cons id r ih =>
    intro Γ H h0 hh
    by_cases hrow : ∃ fz s xs, h0 id = some (.row fz s xs)
    · obtain ⟨fz, s, xs, e⟩ := hrow
      obtain ⟨fz', e'⟩ := hh id fz s xs e
      obtain ⟨H1, E1⟩ := step_freeze H e'
      obtain ⟨Δ, HΔ, EΔ, hhΔ, hw, hn, hρ, hz, hzs⟩ := ih H1 h0 (by
        intro i fz2 s2 xs2 e2
        by_cases hi : i = id
        · subst hi; rw [e] at e2; cases e2; exact ⟨true, by simp [Cx.froze, upd]⟩
        · obtain ⟨f3, e3⟩ := hh i fz2 s2 xs2 e2
          exact ⟨f3, by simp only [Cx.froze, upd_other _ _ hi]; exact e3⟩)
      refine ⟨Δ, HΔ, E1.trans EΔ, ?_, hw, hn, hρ, fun b o h => hz b o (.inl h), ?_⟩
      · rw [hhΔ]; simp only [freeze, e, upds]; rfl
      · intro i fz2 s2 xs2 base b o hi e2 hr ho1 ho2
        rcases List.mem_cons.1 hi with rfl | hi
        · rw [e] at e2; cases e2
          exact hz b o (.inr ⟨base, hr, ho1, ho2⟩)
        · exact hzs i fz2 s2 xs2 base b o hi e2 hr ho1 ho2
    · obtain ⟨Δ, HΔ, EΔ, hhΔ, hw, hn, hρ, hz, hzs⟩ := ih H h0 hh
      refine ⟨Δ, HΔ, EΔ, ?_, hw, hn, hρ, hz, ?_⟩
      · rw [hhΔ]
        congr 1
        simp only [freeze]
        split
        · rename_i fz s xs e; exact absurd ⟨_, _, _, e⟩ hrow
        · rfl
      · intro i fz2 s2 xs2 base b o hi e2 hr ho1 ho2
        rcases List.mem_cons.1 hi with rfl | hi
        · exact absurd ⟨fz2, s2, xs2, e2⟩ hrow
        · exact hzs i fz2 s2 xs2 base b o hi e2 hr ho1 ho2

end Go.Sym
