/- DERIVED. From the evaluator's answer to a law's statement: arguments are opened; the end of the call is shut. -/
import Derived.Test.YtfjloeemhiffgaaSymCode9
import Derived.ProofKit
set_option linter.unusedVariables false
set_option linter.unusedSimpArgs false
namespace Go.Sym

def tiles (P : Program) : Nat → List Field → Option Nat
  | o, [] => some o
  | o, f :: r => if f.offset = o ∧ 0 < tsize P f.type then tiles P (o + tsize P f.type) r else none
def tyOk (P : Program) : Nat → TypeId → Bool
  | 0, _ => false
  | k + 1, t => match P.underlying t with
    | some .bool => true
    | some (.int _) => true
    | some .string => true
    | some (.slice e) => decide (0 < tsize P e) && (tagg P e == some true || tsize P e == 1) && tyOk P k e
    | some (.struct fs) => (tiles P 0 fs.toList == some (tsize P t)) && fs.toList.all fun f => tyOk P k f.type
    | _ => false

/-- A value out of its cells. -/
def mk (P : Program) (t : TypeId) (vs : List V) : V := match tagg P t with | some true => .agg vs | _ => vs.headD .junk

/-- Cells of a type. -/
def VTs (P : Program) (r : TypeId → List V → Prop) : List Field → List V → Prop
  | [], vs => vs = []
  | f :: fs, vs => r f.type (vs.take (tsize P f.type)) ∧ VTs P r fs (vs.drop (tsize P f.type))
def VT (P : Program) : Nat → TypeId → List V → Prop
  | 0, _, _ => False
  | k + 1, t, vs => match P.underlying t with
    | some .bool => ∃ b, vs = [.bool b]
    | some (.int q) => ∃ n, vs = [.int q n] ∧ (Lit.int q n).wf = true
    | some .string => ∃ s, vs = [.str s] ∧ s.length ≤ maxLen
    | some (.slice e) => ∃ nl xs, vs = [.sl (some nl) nl (tsize P e) xs] ∧ (nl = true → xs = []) ∧ xs.length ≤ maxLen ∧ ∀ x ∈ xs, ∃ ys, x = mk P e ys ∧ VT P k e ys
    | some (.struct fs) => VTs P (VT P k) fs.toList vs
    | _ => False
/-- An argument of a type. -/
def VArg (P : Program) (k : Nat) (t : TypeId) (v : V) : Prop := ∃ vs, v = mk P t vs ∧ VT P k t vs
def VArgs (P : Program) (k : Nat) : List TypeId → List V → Prop
  | [], [] => True
  | t :: ts, v :: vs => VArg P k t v ∧ VArgs P k ts vs
  | _, _ => False

def Zall (w : World) : Nat → Nat → Prop := fun b _ => b < w.heap.size

/-- Cells that stand to the model's. -/
def CP (w : World) (vs : List V) (us : List Value) : Prop := vs.length = us.length ∧ ∀ (i : Nat) (c : V) (u : Value), vs[i]? = some c → us[i]? = some u → VP w (Zall w) c u ∧ u.oneCell = true

theorem CP.append {w : World} {vs vs' : List V} {us us' : List Value} (h : CP w vs us) (h' : CP w vs' us') : CP w (vs ++ vs') (us ++ us') := by
  refine ⟨by simp [h.1, h'.1], fun i v u hv hu => ?_⟩
  by_cases hi : i < vs.length
  · rw [List.getElem?_append_left hi] at hv
    rw [List.getElem?_append_left (by rw [← h.1]; exact hi)] at hu
    exact h.2 i v u hv hu
  · rw [List.getElem?_append_right (by omega)] at hv
    rw [List.getElem?_append_right (by rw [← h.1]; omega)] at hu
    rw [← h.1] at hu
    exact h'.2 _ v u hv hu
theorem CP.one {w : World} {v : V} {u : Value} (h : VP w (Zall w) v u) (h1 : u.oneCell = true) : CP w [v] [u] := by
  refine ⟨rfl, fun i c x hc hx => ?_⟩
  cases i with
  | zero => simp at hc hx; subst hc hx; exact ⟨h, h1⟩
  | succ i => simp at hc

theorem mapM_some {α β : Type} (f : α → Option β) : ∀ {l : List α} {r : List β}, l.mapM f = some r → r.length = l.length ∧ ∀ (i : Nat) (x : α), l[i]? = some x → ∃ y, r[i]? = some y ∧ f x = some y := by
  intro l
  induction l with
  | nil => intro r h; simp at h; subst h; simp
  | cons a l ih =>
    intro r h
    rw [List.mapM_cons] at h
    simp only [Option.bind_eq_bind, Option.bind_eq_some_iff] at h
    obtain ⟨y, hy, r', hr, h⟩ := h
    cases h
    obtain ⟨h1, h2⟩ := ih hr
    refine ⟨by simp [h1], fun i x hx => ?_⟩
    cases i with
    | zero => simp at hx; subst hx; exact ⟨y, by simp, hy⟩
    | succ i => simpa using h2 i x (by simpa using hx)

section
variable {H : Type} {enc : TypeId × Value → H} {P : Program} {w : World}

theorem mk_cells {t : TypeId} {vs : List V} {us : List Value} (hc : CP w vs us) (hl : vs.length = tsize P t) (ht : (tagg P t == some true || tsize P t == 1) = true) : (mk P t vs).cells = vs := by
  unfold mk
  split
  · rfl
  · rename_i hna
    have h1 : tsize P t = 1 := by
      simp only [Bool.or_eq_true, beq_iff_eq] at ht
      rcases ht with h | h
      · exact absurd h hna
      · exact h
    match vs, hl, hc with
    | [], hl, _ => simp at hl; omega
    | [v], _, hc =>
      obtain ⟨u, hu⟩ : ∃ u, us = [u] := List.length_eq_one_iff.1 (by rw [← hc.1]; rfl)
      subst hu
      obtain ⟨hv, h1⟩ := hc.2 0 v u rfl rfl
      cases hv <;> first | rfl | (simp [Value.oneCell] at h1)
    | _ :: _ :: _, hl, _ => simp at hl; omega

theorem cells_some {base : Nat} {a : Addr} {n : Nat} {cs : List Value} (h : w.cells? base a n = some cs) : cs.length = n ∧ ∀ i, i < n → ∃ u, cs[i]? = some u ∧ w.cell? (a.add i) = some u := by
  unfold World.cells? at h
  split at h
  · obtain ⟨h1, h2⟩ := mapM_some _ h
    refine ⟨by simpa using h1, fun i hi => ?_⟩
    obtain ⟨y, hy, he⟩ := h2 i i (by simp [hi])
    exact ⟨y, hy, he⟩
  · cases h

theorem cell_spot {a : Addr} {u : Value} (h : w.cell? a = some u) : a.spot = none ∧ a.block < w.heap.size := by
  unfold World.cell? at h
  split at h
  · rename_i hb
    split at h
    · cases h
    · rename_i hs
      exact ⟨by simpa using hs, (Array.getElem?_eq_some_iff.1 hb).1⟩
  · cases h
theorem add_spot {a : Addr} (h : a.spot = none) (i j : Nat) : (a.add i).add j = ⟨a.block, a.off + i + j, none⟩ := by
  obtain ⟨b, o, sp⟩ := a
  simp only at h
  subst h
  rw [add_none, add_none]

theorem tsize_cells (t : TypeId) : P.cellsOf t = tsize P t := rfl

theorem tiles_le : ∀ (l : List Field) (o tot : Nat), tiles P o l = some tot → o ≤ tot := by
  intro l
  induction l with
  | nil => intro o tot h; simp only [tiles, Option.some.injEq] at h; omega
  | cons g r ih =>
    intro o tot h
    simp only [tiles] at h
    split at h
    · exact Nat.le_trans (Nat.le_add_right _ _) (ih _ _ h)
    · cases h

theorem trod_open : ∀ (k fuel : Nat) (t : TypeId) (cs : List Value) (d : DataW H) (ps : List MemPlace), tyOk P k t = true → DataW.trod enc P w 0 (fun _ => true) true fuel t cs = some (d, ps) →
    ∃ vs, CP w vs cs ∧ VT P k t vs := by
  intro k
  induction k with
  | zero => intro fuel t cs d ps h; cases h
  | succ k ih =>
    intro fuel t cs d ps hty h
    cases fuel with
    | zero => cases h
    | succ fuel =>
      simp only [DataW.trod] at h
      simp only [tyOk] at hty
      simp only [VT]
      split at hty
      · rename_i hu
        rw [hu] at h
        split at h <;> first | cases h | skip
        all_goals (rename_i hd; try cases hd)
        rename_i b
        exact ⟨_, CP.one (.bool b) rfl, b, rfl⟩
      · rename_i q hu
        rw [hu] at h
        split at h <;> first | cases h | skip
        all_goals (rename_i hd; try cases hd)
        rename_i k' n
        split at h
        · rename_i hk
          obtain ⟨rfl, hw⟩ := hk
          exact ⟨_, CP.one (.int k' n) rfl, n, rfl, hw⟩
        · cases h
      · rename_i hu
        rw [hu] at h
        split at h <;> first | cases h | skip
        all_goals (rename_i hd; try cases hd)
        rename_i s
        split at h
        · rename_i hs
          exact ⟨_, CP.one (.str s) rfl, _, rfl, hs⟩
        · cases h
      · rename_i e hu
        rw [hu] at h
        simp only [Bool.and_eq_true, decide_eq_true_eq] at hty
        obtain ⟨⟨hsz, hag⟩, htye⟩ := hty
        have hcase : cs = [.slice none 0 0] ∨ ∃ a len cap, cs = [.slice (some a) len cap] := by
          split at h <;> simp_all
        rcases hcase with rfl | ⟨a, len, cap, rfl⟩
        · refine ⟨[.sl (some true) true (tsize P e) []], CP.one (.sl (some true) true (tsize P e) [] none 0 (Nat.le_refl _) (fun _ => rfl) (fun _ => rfl) (by simp) (fun _ => rfl) (by simp) (fun h => absurd h (Nat.lt_irrefl 0)) (by simp) (by simp) (by simp)) rfl, true, [], rfl, fun _ => rfl, Nat.zero_le _, by simp⟩
        · simp only at h
          split at h
          · rename_i hcond
            obtain ⟨_, hlc, hcm⟩ := hcond
            simp only [if_true, Option.bind_eq_some_iff, Option.map_eq_some_iff] at h
            obtain ⟨elems, hel, rest, hre, hd⟩ := h
            obtain ⟨el1, el2⟩ := mapM_some _ hel
            obtain ⟨re1, re2⟩ := mapM_some _ hre
            have elem : ∀ i, i < cap → ∃ csi di, w.cells? 0 (a.add (i * P.cellsOf e)) (P.cellsOf e) = some csi ∧ DataW.trod enc P w 0 (fun _ => true) true fuel e csi = some di := by
              intro i hi
              by_cases hl : i < len
              · obtain ⟨y, _, hy⟩ := el2 i i (by simp [hl])
                rw [Option.bind_eq_some_iff] at hy
                obtain ⟨csi, h1, h2⟩ := hy
                exact ⟨csi, y, h1, h2⟩
              · obtain ⟨y, _, hy⟩ := re2 (i - len) (i - len) (List.getElem?_range (by omega))
                rw [show len + (i - len) = i by omega, Option.bind_eq_some_iff] at hy
                obtain ⟨csi, h1, h2⟩ := hy
                exact ⟨csi, y, h1, h2⟩
            have hsp : 0 < cap → a.spot = none ∧ a.block < w.heap.size := by
              intro h0
              obtain ⟨cs0, _, h1, _⟩ := elem 0 h0
              obtain ⟨_, hc⟩ := cells_some h1
              obtain ⟨u, _, hu0⟩ := hc 0 hsz
              rw [Nat.zero_mul] at hu0
              have e0 : (a.add 0).add 0 = a := by simp [Addr.add]
              rw [e0] at hu0
              exact cell_spot hu0
            have pick : ∀ i, ∃ vs, i < len → ∃ csi, w.cells? 0 (a.add (i * P.cellsOf e)) (P.cellsOf e) = some csi ∧ CP w vs csi ∧ VT P k e vs := by
              intro i
              by_cases hi : i < len
              · obtain ⟨csi, di, h1, h2⟩ := elem i (by omega)
                obtain ⟨vs, hvs, hvt⟩ := ih fuel e csi di.1 di.2 htye h2
                exact ⟨vs, fun _ => ⟨csi, h1, hvs, hvt⟩⟩
              · exact ⟨[], fun h => absurd h hi⟩
            obtain ⟨g, hg⟩ := Classical.axiomOfChoice pick
            have hget : ∀ i x, ((List.range len).map fun i => mk P e (g i))[i]? = some x → i < len ∧ x = mk P e (g i) := by
              intro i x hx
              simp only [List.getElem?_map, Option.map_eq_some_iff] at hx
              obtain ⟨j, hj, rfl⟩ := hx
              have hlt := (List.getElem?_eq_some_iff.1 hj).1
              simp only [List.length_range] at hlt
              rw [List.getElem?_range hlt] at hj
              cases hj
              exact ⟨hlt, rfl⟩
            have hcl : ∀ i, i < len → (g i).length = tsize P e ∧ (mk P e (g i)).cells = g i := by
              intro i hi
              obtain ⟨csi, h1, h2, _⟩ := hg i hi
              have hl : (g i).length = tsize P e := by rw [h2.1]; exact (cells_some h1).1
              exact ⟨hl, mk_cells h2 hl hag⟩
            have hcell : ∀ i j c, i < len → (g i)[j]? = some c → ∃ u, w.cell? ⟨a.block, a.off + (i * tsize P e + j), none⟩ = some u ∧ u.oneCell = true ∧ VP w (Zall w) c u := by
              intro i j c hi hj
              obtain ⟨csi, h1, h2, _⟩ := hg i hi
              have hjl : j < tsize P e := by rw [← (hcl i hi).1]; exact (List.getElem?_eq_some_iff.1 hj).1
              obtain ⟨u, hu1, hu2⟩ := (cells_some h1).2 j hjl
              rw [add_spot (hsp (by omega)).1] at hu2
              obtain ⟨hv, h1⟩ := h2.2 j c u hj hu1
              exact ⟨u, by rw [← Nat.add_assoc]; exact hu2, h1, hv⟩
            have hlen : ((List.range len).map fun i => mk P e (g i)).length = len := by simp
            refine ⟨[.sl (some false) false (tsize P e) ((List.range len).map fun i => mk P e (g i))], CP.one ?_ rfl, false, _, rfl, by simp, by rw [hlen]; omega, ?_⟩
            · have := VP.sl (w := w) (Z := Zall w) (some false) false (tsize P e) ((List.range len).map fun i => mk P e (g i)) (some a) cap (by rw [hlen]; exact hlc) (by simp) (by simp) (by simp) (by simp) (fun _ => hsz)
                (fun h0 ad had => by cases had; exact (hsp h0).1) (fun i x hx => by obtain ⟨hi, rfl⟩ := hget i x hx; rw [(hcl i hi).2]; exact (hcl i hi).1)
                (fun ad i x j c had hx hj => by
                  cases had
                  obtain ⟨hi, rfl⟩ := hget i x hx
                  rw [(hcl i hi).2] at hj
                  obtain ⟨u, h1, h2, _⟩ := hcell i j c hi hj
                  exact ⟨(hsp (by omega)).2, u, h1, h2⟩)
                (fun ad i x j c u had hx hj hu => by
                  cases had
                  obtain ⟨hi, rfl⟩ := hget i x hx
                  rw [(hcl i hi).2] at hj
                  obtain ⟨u', h1, h2, h3⟩ := hcell i j c hi hj
                  rw [h1] at hu; cases hu; exact h3)
              rw [hlen] at this
              exact this
            · intro x hx
              obtain ⟨i, hi⟩ := List.getElem?_of_mem hx
              obtain ⟨hl, rfl⟩ := hget i x hi
              obtain ⟨_, _, _, hvt⟩ := hg i hl
              exact ⟨g i, rfl, hvt⟩
          · cases h
      · rename_i fs hu
        rw [hu] at h
        simp only [Bool.and_eq_true, beq_iff_eq, List.all_eq_true] at hty
        obtain ⟨htl, hall⟩ := hty
        have hcase : cs.length = P.cellsOf t ∧ ∃ xs, (fs.toList.mapM fun f => DataW.trod enc P w 0 (fun _ => true) true fuel f.type ((cs.drop f.offset).take (P.cellsOf f.type))) = some xs := by
          split at h <;> first | (simp_all; done) | skip
          all_goals
            rename_i heq
            split at h
            · rename_i hl
              rw [Option.map_eq_some_iff] at h
              obtain ⟨xs, hxs, _⟩ := h
              simp_all
            · cases h
        obtain ⟨hlen, xs, hxs⟩ := hcase
        have go : ∀ (l : List Field) (o : Nat) (tot : Nat) (ys : List (DataW H × List MemPlace)), tiles P o l = some tot → tot = cs.length → (∀ f ∈ l, tyOk P k f.type = true) →
            (l.mapM fun f => DataW.trod enc P w 0 (fun _ => true) true fuel f.type ((cs.drop f.offset).take (P.cellsOf f.type))) = some ys → ∃ vs, CP w vs (cs.drop o) ∧ VTs P (VT P k) l vs := by
          intro l
          induction l with
          | nil =>
            intro o tot ys h1 h2 _ _
            simp only [tiles, Option.some.injEq] at h1
            subst h1 h2
            exact ⟨[], ⟨by simp, by simp⟩, rfl⟩
          | cons f r ihr =>
            intro o tot ys h1 h2 h3 h4
            simp only [tiles] at h1
            split at h1
            · rename_i ho
              obtain ⟨ho, hpos⟩ := ho
              rw [List.mapM_cons] at h4
              simp only [Option.bind_eq_bind, Option.bind_eq_some_iff] at h4
              obtain ⟨y, hy, ys', hys, _⟩ := h4
              obtain ⟨vs', hvs', hvt'⟩ := ihr _ tot ys' h1 h2 (fun g hg => h3 g (List.mem_cons_of_mem _ hg)) hys
              obtain ⟨vs, hvs, hvt⟩ := ih fuel f.type _ y.1 y.2 (h3 f (by simp)) hy
              have hle := tiles_le r _ tot h1
              have hl1 : vs.length = tsize P f.type := by
                rw [hvs.1, List.length_take, List.length_drop, ho, tsize_cells]
                omega
              refine ⟨vs ++ vs', ?_, ?_⟩
              · have := hvs.append hvs'
                rw [ho, tsize_cells, ← List.drop_drop, List.take_append_drop] at this
                exact this
              · simp only [VTs]
                rw [List.take_append_of_le_length (by omega), List.take_of_length_le (by omega), List.drop_append_of_le_length (by omega), List.drop_eq_nil_of_le (by omega)]
                exact ⟨hvt, hvt'⟩
            · cases h1
        exact go fs.toList 0 _ xs htl (by rw [hlen]; rfl) hall hxs
      · cases hty

/-- An argument is opened. -/
theorem arg_open {k : Nat} {t : TypeId} {v : Value} {d : DataW H} {ps : List MemPlace} (hty : tyOk P k t = true) (hok : ∃ base, Value.okWide P w .any base t v) (h : DataW.Trod enc P w 0 (fun _ => true) true t v d ps) :
    ∃ x, VArg P k t x ∧ VR (bare w (Zall w)) x v := by
  obtain ⟨fuel, h⟩ := h
  obtain ⟨vs, hc, hvt⟩ := trod_open k fuel t _ d ps hty h
  obtain ⟨base, hok⟩ := hok
  refine ⟨mk P t vs, ⟨vs, rfl, hvt⟩, ?_⟩
  cases k with
  | zero => cases hty
  | succ k =>
    simp only [tyOk] at hty
    unfold Value.okWide at hok
    have single : ∀ d, P.underlying t = some d → (∀ fs, d ≠ .struct fs) → (∀ n e, d ≠ .array n e) → v.oneCell = true → VR (bare w (Zall w)) (mk P t vs) v := by
      intro d hd h1 h2 hv1
      have htag : tagg P t = some false := by
        unfold tagg; rw [hd]; cases d <;> first | rfl | exact absurd rfl (h1 _) | exact absurd rfl (h2 _ _)
      rw [oneCell_cells hv1] at hc
      have hl := hc.1
      match vs, hl, hc with
      | [x], _, hc =>
        simp only [mk, htag, List.headD_cons]
        exact .pure (hc.2 0 x v rfl rfl).1
      | [], hl, _ => simp at hl
      | _ :: _ :: _, hl, _ => simp at hl
    split at hty
    · rename_i hu
      refine single _ hu (by simp) (by simp) ?_
      rw [hu] at hok
      simp only [Cell.okWide, Cell.ok, hu] at hok
      cases v <;> simp_all [Value.oneCell]
    · rename_i q hu
      refine single _ hu (by simp) (by simp) ?_
      rw [hu] at hok
      simp only [Cell.okWide, Cell.ok, hu] at hok
      cases v <;> simp_all [Value.oneCell]
    · rename_i hu
      refine single _ hu (by simp) (by simp) ?_
      rw [hu] at hok
      simp only [Cell.okWide, Cell.ok, hu] at hok
      cases v <;> simp_all [Value.oneCell]
    · rename_i e hu
      refine single _ hu (by simp) (by simp) ?_
      rw [hu] at hok
      simp only [Cell.okWide, Cell.ok, hu] at hok
      cases v <;> simp_all [Value.oneCell]
    · rename_i fs hu
      rw [hu] at hok
      obtain ⟨cs, rfl, _⟩ := hok
      have htag : tagg P t = some true := by unfold tagg; rw [hu]
      simp only [mk, htag]
      have hc' : CP w vs cs.toList := hc
      exact .pure (.agg vs cs (by simpa using hc'.1) (fun i u hu => by
        have hi : i < vs.length := by rw [hc'.1]; simpa using (Array.getElem?_eq_some_iff.1 hu).1
        exact (hc'.2 i vs[i] u (List.getElem?_eq_getElem hi) (by rw [Array.getElem?_toList]; exact hu)).2) fun i c u h1 h2 => (hc'.2 i c u h1 (by rw [Array.getElem?_toList]; exact h2)).1)
    · cases hty

theorem args_open {k : Nat} : ∀ {ts : List TypeId} {vs : List Value} {ds : List (DataW H)} {ps : List MemPlace}, (∀ t ∈ ts, tyOk P k t = true) → (∀ (j : Nat) t v, ts[j]? = some t → vs[j]? = some v → ∃ base, Value.okWide P w .any base t v) →
    DataW.TrodAll enc P w 0 (fun _ => true) true ts vs ds ps → ∃ xs, VArgs P k ts xs ∧ xs.length = vs.length ∧ ds.length = ts.length ∧ ∀ (i : Nat) (x : V) (u : Value), xs[i]? = some x → vs[i]? = some u → VR (bare w (Zall w)) x u := by
  intro ts
  induction ts with
  | nil =>
    intro vs ds ps _ _ h
    obtain ⟨rfl, rfl, _⟩ := Go.ChangeShapes.trodAll_nil h
    exact ⟨[], trivial, rfl, rfl, by simp⟩
  | cons t ts ih =>
    intro vs ds ps hty hok h
    obtain ⟨v, vs', d, ds', p, q, rfl, rfl, _, h1, h2⟩ := Go.ChangeShapes.trodAll_cons h
    obtain ⟨x, hx, hxv⟩ := arg_open (hty t (by simp)) (hok 0 t v rfl rfl) h1
    obtain ⟨xs, hxs, hl, hdl, hr⟩ := ih (fun t ht => hty t (List.mem_cons_of_mem _ ht)) (fun j t v h1 h2 => hok (j + 1) t v (by simpa using h1) (by simpa using h2)) h2
    refine ⟨x :: xs, ⟨hx, hxs⟩, by simp [hl], by simp [hdl], fun i y u hy hu => ?_⟩
    cases i with
    | zero => simp at hy hu; subst hy hu; exact hxv
    | succ i => exact hr i y u (by simpa using hy) (by simpa using hu)

theorem args_stay (hl : laidOutB P = true) {W' : World} (hb : Go.RowKit.Below w.heap.size w W') (sp : Nat → Bool) : ∀ {ts : List TypeId} {vs : List Value} {ds : List (DataW H)} {ps : List MemPlace}, (∀ t ∈ ts, P.readableRec t = true ∧ t < P.types.size) →
    DataW.TrodAll enc P w 0 (fun _ => true) true ts vs ds ps → (∀ p ∈ ps, p.block < w.heap.size ∧ sp p.block = true) → DataW.TrodAll enc P W' 0 sp true ts vs ds ps := by
  intro ts
  induction ts with
  | nil =>
    intro vs ds ps _ h _
    obtain ⟨rfl, rfl, rfl⟩ := Go.ChangeShapes.trodAll_nil h
    rfl
  | cons t ts ih =>
    intro vs ds ps hty h hlt
    obtain ⟨v, vs', d, ds', p, q, rfl, rfl, rfl, h1, h2⟩ := Go.ChangeShapes.trodAll_cons h
    obtain ⟨hr, hrow⟩ := hty t (by simp)
    exact ⟨p, q, WideElems.Trod_stays hl hr hrow h1 (fun x hx => hb.same (hlt x (List.mem_append_left _ hx)).1) (fun x hx => (hlt x (List.mem_append_left _ hx)).2),
      ih (fun t ht => hty t (List.mem_cons_of_mem _ ht)) h2 (fun x hx => hlt x (List.mem_append_right _ hx)), rfl⟩

/-- **The end of a law's call.** -/
theorem law_endL {C : Cfg} (hlib : LibOk Fence.wide P C) (hm : P.follows .mixedOrders = true) (hp : progOk P C = true) (hl : laidOutB P = true) {n : Nat} {f : Func} {s : ChangeSpec} {apart fresh handsOn : Bool} {k : Nat} {tb : TypeId}
    (hty : (f.params.toList.all fun t => tyOk P k t && P.readableRec t && decide (t < P.types.size)) = true) (hvars : s.vars = []) (hres : f.resultTypes = #[tb]) (htb : P.underlying tb = some .bool)
    (hfn : ∀ ds : List (DataW H), ds.length = f.params.toList.length → (s.fn H ds).results = [.lit (.bool true)] ∧ (s.fn H ds).args = ds ∧ (s.fn H ds).vars = [])
    (hev : ∀ xs, VArgs P k f.params.toList xs → ∃ j, evalP P C j n xs = some (.bool true)) {args : Array Value} {ds gs : List (DataW H)} {before : List MemPlace}
    (hval : ∀ (j : Nat) t v, f.params[j]? = some t → args[j]? = some v → ∃ base, Value.okWide P w .any base t v) (hW : DataW.Whole enc P f.params.toList s.vars apart w args.toList ds gs before) :
    Calls P n args w fun e W' => ∃ v, e = .returned v ∧ s.post enc P f apart fresh handsOn false w args v W' := by
  have hlt := hW.lt
  have hW0 := hW
  obtain ⟨p, q, hA, hV, rfl, hfz, hnd⟩ := hW
  rw [hvars] at hV
  obtain ⟨rfl, rfl⟩ := Go.ChangeShapes.trodVars_none hV
  have hty1 : ∀ t ∈ f.params.toList, tyOk P k t = true ∧ P.readableRec t = true ∧ t < P.types.size := fun t ht => by
    have := List.all_eq_true.1 hty t ht
    simpa [and_assoc] using this
  obtain ⟨xs, hxs, hxl, hdl, hxr⟩ := args_open (fun t ht => (hty1 t ht).1) (fun j t v h1 h2 => hval j t v (by simpa using h1) (by simpa using h2)) hA
  obtain ⟨j, hj⟩ := hev xs hxs
  refine Calls.mono (evalP_ok hm hp hlib hj (Z := Zall w) (fun b o h => h) ⟨by simpa using hxl, fun i x u h1 h2 => hxr i x u h1 (by simpa using h2)⟩) ?_
  rintro e W' he
  cases e with
  | panicked c => exact he.elim
  | outgrown => exact he.elim
  | returned u =>
    obtain ⟨hblk, hsz, hos, htp, hout, hvr⟩ := he
    have hu := hvr.bool_inv
    subst hu
    have hb : Go.RowKit.Below w.heap.size w W' := ⟨hos, htp, hout, hsz, hblk⟩
    obtain ⟨h1, h2, h3⟩ := hfn ds (by simpa using hdl)
    refine ⟨_, rfl, ds, [], p ++ [], [], p, [], hW0, ?_, ?_, ?_, World.keptBut_mono (fun x hx => hx) (hb.frame _), fun h => by cases h⟩
    · rw [List.append_nil, h1, hres]
      exact ⟨[], [], ⟨1, by simp [DataW.trod, htb, Value.cells]⟩, rfl, rfl⟩
    · rw [List.append_nil, h2]
      exact args_stay hl hb _ (fun t ht => (hty1 t ht).2) hA fun x hx => by
        have := hlt x (by simpa using hx)
        exact ⟨this, by simpa using this⟩
    · rw [List.append_nil, h3, hvars]
      rfl
end
end Go.Sym
