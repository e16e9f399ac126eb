/- DERIVED. slices.SortFunc at elements of two numbers of 64 bits, by their first ones. -/
import Derived.Test.YtloboanoionagaaSymBld
import Derived.Shelf.SlSortCmp.NoneTotal
set_option linter.unusedVariables false
set_option linter.unusedSimpArgs false
namespace Go.Sym
open Go Go.Shelf Go.RowKit Go.Proofs Go.Sort
variable {P : Program} {ρ : Go.Shelf.Ren}
def cmpE (x y : Int × Int) : Int := if x.1 < y.1 then -1 else if y.1 < x.1 then 1 else 0
theorem ltOf_cmpE : ltOf cmpE = ltE := by
  funext x y
  unfold ltOf cmpE ltE
  rw [decide_eq_decide]
  split
  · simp [*]
  · split <;> simp [*]
theorem swoE : SWO (ltOf cmpE) := by
  rw [ltOf_cmpE]
  unfold ltE
  refine ⟨fun x => by simp, fun x y z h k => ?_, fun x y z h k => ?_⟩
  · simp only [decide_eq_true_eq] at *; omega
  · simp only [decide_eq_false_iff_not] at *; omega
def encE (x : Int × Int) : List Value := [.int .u64 x.1, .int .u64 x.2]
theorem isE2_inv {v : V} (h : isE2 v = true) : v = vE2 (e2 v) := by
  unfold isE2 at h
  split at h
  · rfl
  · cases h
theorem sortE_nil : sortE [] = [] := by
  have h := (pdq_sorts ltE (ltOf_cmpE ▸ swoE) (#[] : Array (Int × Int)) 0 0 (Go.Lib.bitLen 0) true true (Nat.zero_le _) (Nat.le_refl _) (Or.inl rfl)).1.1
  unfold sortE
  have e : (Go.Sort.pdq ltE (([] : List V).map e2).toArray 0 ([] : List V).length (Go.Lib.bitLen ([] : List V).length) true true).toList = [] := by
    apply List.eq_nil_of_length_eq_zero
    simpa using h
  rw [e]; rfl
/-- The sorted row: as many; the same elements; rising. -/
theorem sortE_length (xs : List V) : (sortE xs).length = xs.length := by
  have h := (pdq_sorts ltE (ltOf_cmpE ▸ swoE) (xs.map e2).toArray 0 xs.length (Go.Lib.bitLen xs.length) true true (Nat.zero_le _) (by simp) (Or.inl rfl)).1.1
  unfold sortE
  rw [List.length_map, Array.length_toList, h]; simp
theorem mapBlock_set {w : World} {b : Nat} {c : Array Value} {E : TypeId} {z : Nat × Nat} (hb : w.heap[b]? = some (.cells c E z)) (f : Array Value → Array Value) : mapBlock w b f = setBlk w b (.cells (f c) E z) := by
  unfold mapBlock setBlk
  congr 1
  apply Array.ext_getElem?
  intro k
  rw [Array.getElem?_modify]
  by_cases hk : b = k
  · subst hk
    rw [if_pos rfl, hb]
    have hlt := (Array.getElem?_eq_some_iff.1 hb).1
    simp [Array.getElem?_setIfInBounds, hlt, onCells]
  · rw [if_neg hk, Array.getElem?_setIfInBounds_ne hk]
theorem vp_int {w : World} {Z : Nat → Nat → Prop} {k : IntKind} {n : Int} {u : Value} (h : VP w Z (.int k n) u) : u = .int k n := by cases h; rfl
theorem encE_len (x : Int × Int) : (encE x).length = 2 := rfl

set_option maxHeartbeats 2000000 in
theorem fnOk_SortE {g : Nat} (L : SlLaysF0.n6 P ρ) (aE : ∀ w, (isAgg (ρ.t 24)).run P w = .ok true w) (zE : ∀ w, (Go.sizeOf (ρ.t 24)).run P w = .ok 2 w)
    (hfn : ∃ fn, P.funcs[ρ.f 6]? = some fn ∧ (fn.name == "runtime.NumGoroutine") = false ∧ fn.body.isNone = false)
    (eg : ∀ args w, (callFunc g args).run P w = .ok (.enter g args) w)
    (hcmp : ∀ (w : World) (x y : Int × Int), Calls P g #[.agg #[.int .u64 x.1, .int .u64 x.2], .agg #[.int .u64 y.1, .int .u64 y.2]] w fun e w' => e = .returned (.int .i64 (cmpE x y)) ∧ ∃ q os', w' = grow (w.drewN q) os')
    {K : Lk} (hk : K.k = 7) (ht : K.t = g) {args : List V} {hp : List (Nat × Ob)} {nx : Nat} {v : V} {hp' : List (Nat × Ob)} {nx' : Nat}
    (h : libSem K args hp nx = some (v, hp', nx')) : FnOk Fence.wide P (ρ.f 6) args hp nx v hp' nx' := by
  unfold libSem at h
  rw [hk] at h
  simp only at h
  split at h
  · rename_i ix f
    split at h
    · rename_i s xs hid
      rw [guardP_some] at h
      obtain ⟨⟨hf, hs, hall, hlen⟩, h⟩ := h
      cases h
      subst hs
      have hf : f = g := hf.trans ht
      subst hf
      refine ⟨hfn, fun n Γ us H hh hn hargs => ?_⟩
      have hΓ : Γ.h ix = some (.row false 2 xs) := by rw [hh]; exact hid
      obtain ⟨hl, hv⟩ := hargs
      obtain ⟨u0, u1, rfl⟩ : ∃ u0 u1, us = #[u0, u1] := by
        match us, hl with
        | ⟨[a, b]⟩, _ => exact ⟨a, b, rfl⟩
      obtain ⟨_, hidn, hro⟩ := (hv 0 _ u0 rfl rfl).ref_inv
      obtain ⟨ua, uc, rfl, hla, hlc, _⟩ := (hv 1 _ u1 rfl rfl).fn_inv
      obtain rfl : ua = #[] := Array.eq_empty_of_size_eq_zero hla.symm
      obtain rfl : uc = #[] := Array.eq_empty_of_size_eq_zero hlc.symm
      obtain ⟨a, cap, rfl, hcap, hspot, hrow⟩ := hro false 2 xs hΓ
      by_cases hx : xs = []
      · subst hx
        refine callsIn_wide.2 (Calls.mono (AnyF.slices_SortFunc_none L a cap _ Γ.w) ?_)
        rintro e w' ⟨rfl, rfl⟩
        simp only
        refine ⟨Γ, rfl, H, ?_, hn, Evo.refl Γ, .tup _ _ rfl fun i c u hc hu => by simp at hc⟩
        rw [hh]; funext i
        rw [look_put, sortE_nil]
        by_cases hi : ix = i
        · subst hi; rw [if_pos rfl, hid]
        · rw [if_neg hi]
      · have hpos : 0 < xs.length := List.length_pos_iff.2 hx
        obtain ⟨b, base, c, E, z, hρ, rfl, hb, hsz⟩ := hrow (by omega)
        rcases H.row ix false 2 xs hΓ with ⟨hnone, _⟩ | ⟨b', base', c', E', z', hρ', hb', hun, _, hle, h1c, hxl, hvp⟩
        · rw [hρ] at hnone; cases hnone
        rw [hρ] at hρ'; cases hρ'
        rw [hb] at hb'; cases hb'
        have hlt := (Array.getElem?_eq_some_iff.1 hb).1
        obtain ⟨d, hd⟩ : ∃ d : Array (Int × Int), d = (xs.map e2).toArray := ⟨_, rfl⟩
        have hds : d.size = xs.length := by rw [hd]; simp
        have hdi : ∀ (i : Nat) (hi : i < xs.length), d[i]! = e2 xs[i] := fun i hi => by
          rw [hd, getElem!_pos _ i (by simpa using hi)]; simp
        have hxi : ∀ (i : Nat) (hi : i < xs.length), xs[i] = vE2 d[i]! := fun i hi => by
          rw [hdi i hi]; exact isE2_inv (List.all_eq_true.1 hall _ (List.getElem_mem hi))
        have hH : HoldsK encE 2 Γ.w b (base + 0 * 2) d := by
          unfold HoldsK Holds
          intro j hj
          rw [size_flatK, hds] at hj
          have hq : j / 2 < xs.length := by omega
          have hcj : base + j < c.size := by omega
          constructor
          · rw [get_flatK _ _ _ _ (by rw [hds]; exact hj)]
            unfold World.cell?
            simp only [hb]
            rw [show base + 0 * 2 + j = base + j by omega, Array.getElem?_eq_getElem hcj]
            have hget : c[base + (j / 2 * 2 + j % 2)]? = some c[base + j] := by
              rw [show base + (j / 2 * 2 + j % 2) = base + j by omega]; exact Array.getElem?_eq_getElem hcj
            have hxq := hxi (j / 2) hq
            have hq2 : j % 2 < 2 := Nat.mod_lt _ (by omega)
            have hm : (if (none : Option Nat).isSome = true then none else some c[base + j]) = some c[base + j] := rfl
            have key : c[base + j] = (encE d[j / 2]!)[j % 2]! := by
              match hr : j % 2, hq2 with
              | 0, _ =>
                have := hvp (j / 2) (xs[j / 2]) 0 (.int .u64 d[j / 2]!.1) c[base + j] (List.getElem?_eq_getElem hq) (by rw [hxq]; rfl) (by rw [hr] at hget; exact hget)
                rw [vp_int this]; rfl
              | 1, _ =>
                have := hvp (j / 2) (xs[j / 2]) 1 (.int .u64 d[j / 2]!.2) c[base + j] (List.getElem?_eq_getElem hq) (by rw [hxq]; rfl) (by rw [hr] at hget; exact hget)
                rw [vp_int this]; rfl
            rw [← key]; rfl
          · unfold World.frozen?
            simp only [hb]
            have := hun (base + 0 * 2 + j) (by omega)
            simp only [Bool.and_eq_false_iff, decide_eq_false_iff_not]
            omega
        have hcl : CmpLays P f #[] encE 2 cmpE b (base + 0 * 2) d.size Γ.w := fun m os dk _ x y => hcmp _ x y
        have hC := AnyQ.slices_SortFunc_eq (P := P) (ρ := ρ) L 2 aE zE encE encE_len (fun x v hv => by
          unfold encE at hv; rcases List.mem_cons.1 hv with rfl | hv
          · rfl
          · rcases List.mem_cons.1 hv with rfl | hv
            · rfl
            · cases hv) cmpE swoE f #[] b (base + 0 * 2) cap d Γ.w eg hcl hH hlt (by unfold maxLen' at hlen; omega)
        rw [hds] at hC
        refine callsIn_wide.2 (Calls.mono hC ?_)
        rintro e w' ⟨rfl, m, os, rfl⟩
        simp only
        rw [ltOf_cmpE]
        have hS := pdq_sorts ltE (ltOf_cmpE ▸ swoE) d 0 xs.length (Go.Lib.bitLen xs.length) true true (Nat.zero_le _) (by omega) (Or.inl rfl)
        obtain ⟨d', hd'⟩ : ∃ d', d' = Go.Sort.pdq ltE d 0 xs.length (Go.Lib.bitLen xs.length) true true := ⟨_, rfl⟩
        rw [← hd'] at hS ⊢
        have hds' : d'.size = xs.length := by rw [hS.1.1, hds]
        have hsort : sortE xs = d'.toList.map vE2 := by unfold sortE; rw [hd', hd]
        -- the block with its new cells
        obtain ⟨c2, hc2⟩ : ∃ c2, c2 = putCells id (base + 0 * 2) (flatK encE 2 d') c := ⟨_, rfl⟩
        have hc2s : c2.size = c.size := by rw [hc2]; simp [putCells]
        have hw1 : ∀ k, k < Γ.w.heap.size → (sortWorldK encE 2 Γ.w b (base + 0 * 2) m d' os).heap[k]? = (setBlk Γ.w b (.cells c2 E z)).heap[k]? := by
          intro k hk
          unfold sortWorldK grow putRowK putRow
          have e1 : (Go.Sort.ahead Γ.w m).heap[b]? = some (.cells c E z) := hb
          rw [mapBlock_set e1, ← hc2]
          show ((setBlk (Go.Sort.ahead Γ.w m) b (.cells c2 E z)).heap ++ os)[k]? = _
          rw [Array.getElem?_append_left (by simp [setBlk, Go.Sort.ahead]; exact hk)]
          rfl
        have hget2 : ∀ j, j < xs.length * 2 → c2[base + j]? = some ((encE d'[j / 2]!)[j % 2]!) := by
          intro j hj
          rw [hc2]
          unfold putCells
          rw [Array.getElem?_mapIdx, Array.getElem?_eq_getElem (by omega), Option.map_some, if_pos (by rw [size_flatK, hds']; omega), show base + j - (base + 0 * 2) = j by omega, get_flatK _ _ _ _ (by rw [hds']; exact hj), id]
        have hother2 : ∀ o, (o < base ∨ base + xs.length * 2 ≤ o) → c2[o]? = c[o]? := by
          intro o ho
          rw [hc2]
          unfold putCells
          rw [Array.getElem?_mapIdx]
          cases hco : c[o]? with
          | none => rfl
          | some u => rw [Option.map_some, if_neg (by rw [size_flatK, hds']; omega)]
        have hlive := live_row hΓ
        have hzz : ∀ o, Γ.Z b o → c2[o]? = c[o]? := by
          intro o ho
          obtain ⟨s', xs', e', _⟩ := (H.z b o ho).2 ix base hlive hρ
          rw [hΓ] at e'; cases e'
        have hob : ∀ fz s xs', (Ob.row false 2 (sortE xs)) = .row fz s xs' → ∃ fz0 xs0, Γ.h ix = some (.row fz0 s xs0) ∧ xs0.length = xs'.length ∧ fz = fz0 := by
          intro fz s xs' e; cases e; exact ⟨false, xs, hΓ, (sortE_length xs).symm, rfl⟩
        have hsl := sortE_length xs
        have hsi : ∀ (i : Nat) (x : V), (sortE xs)[i]? = some x → i < xs.length ∧ x = vE2 d'[i]! := by
          intro i x hi
          have hilt : i < xs.length := by rw [← hsl]; exact (List.getElem?_eq_some_iff.1 hi).1
          refine ⟨hilt, ?_⟩
          rw [hsort, List.getElem?_map, Array.getElem?_toList, Array.getElem?_eq_getElem (by omega)] at hi
          rw [getElem!_pos _ i (by omega)]
          exact (Option.some.inj hi).symm
        have hH1 := ok_write (Γ := Γ) H hlive hρ hb hc2s hzz (.row false 2 (sortE xs)) (fun _ e => by cases e) hob (by simp) (fun _ e => by cases e) (fun fz s xs' e => by
          cases e
          refine .inr ⟨b, base, c2, E, z, hρ, setBlk_same hlt, by rw [hc2s]; exact hun, by omega, by rw [hsl, hc2s]; exact hle, ?_, ?_, ?_⟩
          · intro j u hj
            by_cases hin : base ≤ j ∧ j < base + xs.length * 2
            · obtain ⟨i, rfl⟩ : ∃ i, j = base + i := ⟨j - base, by omega⟩
              rw [hget2 i (by omega)] at hj
              cases hj
              have : i % 2 < 2 := Nat.mod_lt _ (by omega)
              match i % 2, this with
              | 0, _ => rfl
              | 1, _ => rfl
            · rw [hother2 j (by omega)] at hj; exact h1c j u hj
          · intro i x hi
            rw [(hsi i x hi).2]; rfl
          · intro i x j y u hi hy hu
            obtain ⟨hilt, rfl⟩ := hsi i x hi
            have hj2 : j < 2 := (List.getElem?_eq_some_iff.1 hy).1
            rw [hget2 (i * 2 + j) (by omega), show (i * 2 + j) / 2 = i by omega, show (i * 2 + j) % 2 = j by omega] at hu
            match j, hj2 with
            | 0, _ => cases hy; cases hu; exact .int _ _
            | 1, _ => cases hy; cases hu; exact .int _ _)
        have hE1 := evo_write (Γ := Γ) H hlive hρ hb hc2s hzz (.row false 2 (sortE xs)) (fun _ e => by cases e) (fun fz s xs' e => let ⟨p, q, r, t, _⟩ := hob fz s xs' e; ⟨p, q, r, t⟩) (by simp)
        have hsz1 : (setBlk Γ.w b (.cells c2 E z)).heap.size = Γ.w.heap.size := by simp [setBlk]
        obtain ⟨H2, E2⟩ := step_ext hH1 (sortWorldK encE 2 Γ.w b (base + 0 * 2) m d' os) Γ.n (fun _ _ => False)
          (fun k hk => hw1 k (by rw [← hsz1]; exact hk)) (by rw [hsz1]; unfold sortWorldK grow putRowK putRow mapBlock; simp [Go.Sort.ahead]) rfl rfl rfl (fun _ h => h) (fun _ _ h => h.elim)
        have eZ : (fun b o => Γ.Z b o ∨ False) = Γ.Z := by funext b o; simp
        simp only [eZ] at H2 E2
        refine ⟨_, rfl, H2, ?_, hn, hE1.trans E2, .tup _ _ rfl fun i c u hc hu => by simp at hc⟩
        show upd Γ.h ix (some (.row false 2 (sortE xs))) = _
        funext i
        rw [look_put]
        by_cases hi : ix = i
        · subst hi; rw [if_pos rfl, upd_same]
        · rw [if_neg hi, upd_other _ _ (Ne.symm hi), hh]
    · cases h
  · rename_i nl cl s f
    cases h
    refine ⟨hfn, fun n Γ us H hh hn hargs => ?_⟩
    obtain ⟨hl, hv⟩ := hargs
    obtain ⟨u0, u1, rfl⟩ : ∃ u0 u1, us = #[u0, u1] := by
      match us, hl with
      | ⟨[a, b]⟩, _ => exact ⟨a, b, rfl⟩
    have h0 := (hv 0 _ u0 rfl rfl).sl_inv
    obtain ⟨a, cap, rfl⟩ : ∃ a cap, u0 = .slice a 0 cap := by cases h0; exact ⟨_, _, rfl⟩
    refine callsIn_wide.2 (Calls.mono (AnyF.slices_SortFunc_none L a cap _ Γ.w) ?_)
    rintro e w' ⟨rfl, rfl⟩
    simp only
    exact ⟨Γ, rfl, H, hh, hn, Evo.refl Γ, .tup _ _ rfl fun i c u hc hu => by simp at hc⟩
  · cases h
end Go.Sym
