/- DERIVED. One operation within the machine: those that call no function; calls by value. -/
import Derived.Test.YtfjloeemhiffgaaSymOps8
import Derived.CallsIn
set_option linter.unusedVariables false
set_option linter.unusedSimpArgs false
namespace Go.Sym

def VRs (Γ : Cx) (vs : List V) (us : Array Value) : Prop := vs.length = us.size ∧ ∀ (i : Nat) (v : V) (u : Value), vs[i]? = some v → us[i]? = some u → VR Γ v u

theorem VRs.evo {Γ Δ : Cx} (E : Evo Γ Δ) {vs : List V} {us : Array Value} (h : VRs Γ vs us) : VRs Δ vs us := ⟨h.1, fun i v u hv hu => (h.2 i v u hv hu).evo E⟩
theorem VRs.append {Γ : Cx} {vs vs' : List V} {us us' : Array Value} (h : VRs Γ vs us) (h' : VRs Γ vs' us') : VRs Γ (vs ++ vs') (us ++ us') := by
  refine ⟨by simp [h.1, h'.1], fun i v u hv hu => ?_⟩
  by_cases hi : i < vs.length
  · rw [List.getElem?_append_left hi] at hv
    rw [Array.getElem?_append_left (by rw [← h.1]; exact hi)] at hu
    exact h.2 i v u hv hu
  · rw [List.getElem?_append_right (by omega)] at hv
    rw [Array.getElem?_append_right (by rw [← h.1]; omega)] at hu
    rw [← h.1] at hu
    exact h'.2 _ v u hv hu

theorem pure1_congr {h h' : Nat → Option Ob} {v : V} (hh : ∀ id ∈ rid1 v, h id = h' id) : pure1 h v = pure1 h' v := by
  cases v with
  | fn f a c => cases a <;> cases c <;> cases f <;> rfl
  | ref id => simp only [rid1, List.mem_singleton, forall_eq] at hh; simp only [pure1, hh]
  | sub id off len => simp only [rid1, List.mem_singleton, forall_eq] at hh; simp only [pure1, hh]
  | _ => rfl
theorem pures_congr {h h' : Nat → Option Ob} : ∀ {vs : List V}, (∀ id ∈ vs.flatMap rid1, h id = h' id) → pures h vs = pures h' vs := by
  intro vs
  induction vs with
  | nil => intro _; rfl
  | cons v r ih =>
    intro hh
    simp only [List.flatMap_cons, List.mem_append] at hh
    simp only [pures]
    rw [pure1_congr fun id hi => hh id (.inl hi), ih fun id hi => hh id (.inr hi)]
theorem purify_alt (v : V) : (∃ cs, v = .agg cs) ∨ ((∀ h, purify h v = pure1 h v) ∧ rid v = rid1 v) := by
  cases v <;> first | exact .inl ⟨_, rfl⟩ | exact .inr ⟨fun _ => rfl, rfl⟩
theorem purify_congr {h h' : Nat → Option Ob} {v : V} (hh : ∀ id ∈ rid v, h id = h' id) : purify h v = purify h' v := by
  rcases purify_alt v with ⟨cs, rfl⟩ | ⟨h1, h2⟩
  · simp only [purify]; rw [pures_congr hh]
  · rw [h1, h1]; exact pure1_congr (by rw [← h2]; exact hh)
theorem purifys_congr {h h' : Nat → Option Ob} : ∀ {vs : List V}, (∀ id ∈ vs.flatMap rid, h id = h' id) → purifys h vs = purifys h' vs := by
  intro vs
  induction vs with
  | nil => intro _; rfl
  | cons v r ih =>
    intro hh
    simp only [List.flatMap_cons, List.mem_append] at hh
    simp only [purifys]
    rw [purify_congr fun id hi => hh id (.inl hi), ih fun id hi => hh id (.inr hi)]
theorem freeze_congr {h h' : Nat → Option Ob} : ∀ {ids : List Nat}, (∀ id ∈ ids, h id = h' id) → freeze h ids = freeze h' ids := by
  intro ids
  induction ids with
  | nil => intro _; rfl
  | cons v r ih =>
    intro hh
    simp only [freeze]
    rw [hh v (by simp), ih fun id hi => hh id (by simp [hi])]
theorem elems_congr {h h' : Nat → Option Ob} {v : V} (hh : ∀ id ∈ rid v, h id = h' id) : elems h v = elems h' v := by
  cases v <;> first | rfl | (simp only [rid, rid1, List.mem_singleton, forall_eq] at hh; simp only [elems, hh])
theorem lenV_congr {h h' : Nat → Option Ob} {v : V} (hh : ∀ id ∈ rid v, h id = h' id) : lenV h v = lenV h' v := by
  cases v <;> first | rfl | (simp only [rid, rid1, List.mem_singleton, forall_eq] at hh; simp only [lenV, hh])
theorem sliceV_congr {h h' : Nat → Option Ob} {isS : Bool} {sz : Nat} {v : V} {lo hi mx : Option V} (hh : ∀ id ∈ rid1 v, h id = h' id) : sliceV h isS sz v lo hi mx = sliceV h' isS sz v lo hi mx := by
  cases v <;> first | rfl | (simp only [rid1, List.mem_singleton, forall_eq] at hh; simp only [sliceV, hh])
theorem fillS_congr {h h' : Nat → Option Ob} {size : Nat} : ∀ {ps : List (Nat × V)} {zs : List V}, (∀ id ∈ (ps.map fun p => rid p.2).flatten, h id = h' id) → fillS h size zs ps = fillS h' size zs ps := by
  intro ps
  induction ps with
  | nil => intro _ _; rfl
  | cons p r ih =>
    intro zs hh
    simp only [List.map_cons, List.flatten_cons, List.mem_append] at hh
    simp only [fillS]
    rw [purify_congr fun id hi => hh id (.inl hi)]
    have hi : ∀ x, fillS h size (zs.set p.1 x) r = fillS h' size (zs.set p.1 x) r := fun x => ih fun id hi => hh id (.inr hi)
    simp only [hi]
theorem appendV_congr {h h' : Nat → Option Ob} {b size bytes : Nat} {v : V} {ys : List V} (hh : ∀ id ∈ rid v, h id = h' id) : appendV h b size bytes v ys = appendV h' b size bytes v ys := by
  cases v with
  | ref id => simp only [rid, rid1, List.mem_singleton, forall_eq] at hh; simp only [appendV, hh]
  | sl n c s xs => cases c <;> cases xs <;> rfl
  | _ => rfl

theorem optmap_congr {e e' : Operand → V} {l : Option Operand} (h : ∀ x ∈ l.toList, e x = e' x) : l.map e = l.map e' := by
  cases l with
  | none => rfl
  | some x => simp [h x (by simp)]

theorem opSem_congr {P : Program} {op : Op} {e e' : Operand → V} {h h' : Nat → Option Ob} {b : Nat} (hx : ∀ x ∈ op.operands.toList, e x = e' x) (hh : ∀ id ∈ hreads op e, h id = h' id) :
    opSem P op e h b = opSem P op e' h' b := by
  cases op with
  | move x => simp only [opSem]; rw [hx x (by simp [Op.operands])]
  | assign x => simp only [opSem]; rw [hx x (by simp [Op.operands])]
  | pick c x y => simp only [opSem]; rw [hx c (by simp [Op.operands]), hx x (by simp [Op.operands]), hx y (by simp [Op.operands])]
  | alloc t => rfl
  | box t x => simp only [opSem]; rw [hx x (by simp [Op.operands])]
  | build t ps =>
    have hps : (ps.toList.map fun p => (p.1, e p.2)) = ps.toList.map fun p => (p.1, e' p.2) := List.map_congr_left fun p hp => by
      rw [hx p.2 (by simp only [Op.operands]; exact List.mem_map.2 ⟨p, hp, rfl⟩)]
    simp only [opSem, hps]
  | buildSlice t n ps =>
    have hps : (ps.toList.map fun p => (p.1, e p.2)) = ps.toList.map fun p => (p.1, e' p.2) := List.map_congr_left fun p hp => by
      rw [hx p.2 (by simp only [Op.operands]; exact List.mem_map.2 ⟨p, hp, rfl⟩)]
    have hps' : (ps.toList.map fun p => rid (e p.2)) = ps.toList.map fun p => rid (e' p.2) := List.map_congr_left fun p hp => by
      rw [hx p.2 (by simp only [Op.operands]; exact List.mem_map.2 ⟨p, hp, rfl⟩)]
    have hh' : ∀ id ∈ ((ps.toList.map fun p => rid (e' p.2)).flatten), h id = h' id := by rw [← hps']; exact hh
    simp only [opSem, hps, hps']
    cases hel : telem P t with
    | none => rfl
    | some el =>
      simp only [Option.bind_some]
      cases hz : tzero P el with
      | none => rfl
      | some z =>
        simp only [Option.bind_some]
        congr 1
        have hpz : purify h z = purify h' z := purify_congr fun id hi => by
          unfold tzero at hz
          simp only [Option.map_eq_some_iff] at hz
          obtain ⟨u, _, rfl⟩ := hz
          rw [rid_const] at hi; cases hi
        have hfs : ∀ zs, fillS h (tsize P el) zs (ps.toList.map fun p => (p.1, e' p.2)) = fillS h' (tsize P el) zs (ps.toList.map fun p => (p.1, e' p.2)) := fun zs =>
          fillS_congr (by rw [List.map_map]; exact hh')
        simp only [hpz, hfs, freeze_congr hh']
  | load t a =>
    have ha := hx a (by simp [Op.operands])
    simp only [hreads] at hh
    simp only [opSem, ← ha]
    generalize e a = v at *
    cases v <;> first | rfl | (simp only [aid, List.mem_singleton, forall_eq] at hh; simp only [hh])
  | store t a x =>
    have ha := hx a (by simp [Op.operands])
    have hx' := hx x (by simp [Op.operands])
    simp only [hreads, List.mem_append] at hh
    have h1 : purify h (e x) = purify h' (e x) := purify_congr fun id hi => hh id (.inr hi)
    have h2 : freeze h (rid (e x)) = freeze h' (rid (e x)) := freeze_congr fun id hi => hh id (.inr hi)
    have h3 : ∀ id ∈ aid (e a), h id = h' id := fun id hi => hh id (.inl hi)
    simp only [opSem, ← ha, ← hx', h1, h2]
    generalize e a = v at *
    cases v <;> first | rfl | (simp only [aid, List.mem_singleton, forall_eq] at h3; simp only [h3])
  | nilCheck x => simp only [opSem]; rw [hx x (by simp [Op.operands])]
  | binOp op t x y t' => simp only [opSem]; rw [hx x (by simp [Op.operands]), hx y (by simp [Op.operands])]
  | unOp op t x => simp only [opSem]; rw [hx x (by simp [Op.operands])]
  | convert s d x =>
    have h1 : elems h (e x) = elems h' (e x) := elems_congr fun id hi => hh id (by simpa [hreads] using hi)
    rw [hx x (by simp [Op.operands])] at h1
    simp only [opSem]
    rw [hx x (by simp [Op.operands]), h1]
  | makeFunc f a c =>
    simp only [opSem]
    rw [List.map_congr_left fun x h => hx x (by simp [Op.operands]; exact .inl (by simpa using h)), List.map_congr_left (l := c.toList) fun x h => hx x (by simp [Op.operands]; exact .inr (by simpa using h))]
  | makeSlice t n c =>
    simp only [opSem, hx n (by simp [Op.operands]), hx c (by simp [Op.operands])]
    cases hel : telem P t with
    | none => rfl
    | some el =>
      simp only [Option.bind_some]
      cases hz : tzero P el with
      | none => rfl
      | some z =>
        simp only [Option.bind_some]
        have hpz : purify h z = purify h' z := purify_congr fun id hi => by
          unfold tzero at hz
          simp only [Option.map_eq_some_iff] at hz
          obtain ⟨u, _, rfl⟩ := hz
          rw [rid_const] at hi; cases hi
        rw [hpz]
  | slice t x lo hi mx =>
    have ha := hx x (by simp [Op.operands])
    simp only [hreads] at hh
    simp only [opSem]
    rw [optmap_congr (e := e) (e' := e') (l := lo) fun x h => hx x (by simp [Op.operands]; right; left; simpa using h), optmap_congr (e := e) (e' := e') (l := hi) fun x h => hx x (by simp [Op.operands]; right; right; left; simpa using h),
      optmap_congr (e := e) (e' := e') (l := mx) fun x h => hx x (by simp [Op.operands]; right; right; right; simpa using h), ← ha]
    have h1 : ∀ id ∈ rid1 (e x), h id = h' id := fun id hi => hh id (by simp [hi])
    have h2 : ∀ id off, e x = .ptr id off → h id = h' id := fun id off he => hh id (by simp [he, aid])
    rw [sliceV_congr h1]
    have h3 : ∀ id off, e x = .ptr id off → ∀ (k : Option Ob → Option (V × List (Nat × Ob))), k (h id) = k (h' id) := fun id off he k => by rw [h2 id off he]
    split
    · rename_i n el id off hu hex
      rw [h2 id off hex]
    · rfl
    · rfl
  | fieldAddr t x f => simp only [opSem]; rw [hx x (by simp [Op.operands])]
  | field t x f => simp only [opSem]; rw [hx x (by simp [Op.operands])]
  | sliceToArrayPointer t x =>
    have ha := hx x (by simp [Op.operands])
    simp only [hreads] at hh
    simp only [opSem, ← ha]
    generalize e x = v at *
    generalize P.underlying t = ud at *
    cases ud <;> first | rfl | skip
    rename_i d
    cases d <;> first | rfl | (cases v <;> first | rfl | (simp only [rid1, List.mem_singleton, forall_eq] at hh; simp only [hh]))
  | indexAddr t x i =>
    have ha := hx x (by simp [Op.operands])
    simp only [hreads] at hh
    simp only [opSem, ← ha, ← hx i (by simp [Op.operands])]
    generalize e x = v at *
    generalize e i = iv at *
    generalize P.underlying t = ud at *
    cases iv <;> first | rfl | skip
    cases ud <;> first | rfl | skip
    rename_i d
    cases d <;> first | rfl | (cases v <;> first | rfl | (simp only [rid1, List.mem_singleton, forall_eq] at hh; simp only [hh]))
  | index t x i => simp only [opSem]; rw [hx x (by simp [Op.operands]), hx i (by simp [Op.operands])]
  | extract x i => simp only [opSem]; rw [hx x (by simp [Op.operands])]
  | call c =>
    obtain ⟨callee, args, tys⟩ := c
    cases callee with
    | builtin bi =>
      have hx' : ∀ x ∈ args.toList, e x = e' x := fun x h => hx x (by simp [Op.operands, Call.operands]; simpa using h)
      have hr : ∀ x ∈ args.toList, ∀ id ∈ rid (e x), h id = h' id := fun x hxm id hi => hh id (by
        simp only [hreads, List.mem_flatten]; exact ⟨_, List.mem_map.2 ⟨x, hxm, rfl⟩, hi⟩)
      cases bi with
      | len =>
        simp only [opSem]
        split <;> try rfl
        split <;> try rfl
        · split <;> try rfl
          rename_i x he; rw [hx' x (by simp [he])]
        · split <;> try rfl
          rename_i x he; rw [← hx' x (by simp [he]), lenV_congr (hr x (by simp [he]))]
      | max =>
        simp only [opSem]
        split <;> try rfl
        rename_i x y he; rw [hx' x (by simp [he]), hx' y (by simp [he])]
      | min =>
        simp only [opSem]
        split <;> try rfl
        rename_i x y he; rw [hx' x (by simp [he]), hx' y (by simp [he])]
      | append =>
        simp only [opSem]
        split <;> try rfl
        rename_i x y t u he _
        have e1 := hx' x (by simp [he])
        have e2 := hx' y (by simp [he])
        simp only [← e1, ← e2]
        have ha : ∀ b size bytes ys, appendV h b size bytes (e x) ys = appendV h' b size bytes (e x) ys := fun _ _ _ _ => appendV_congr (hr x (by simp [he]))
        have hel : elems h (e y) = elems h' (e y) := elems_congr (hr y (by simp [he]))
        cases htl : telem P t with
        | none => rfl
        | some el =>
          simp only [Option.bind_some]
          cases hz : tzero P el with
          | none => rfl
          | some z =>
            have hpz : purify h z = purify h' z := purify_congr fun id hi => by
              unfold tzero at hz
              simp only [Option.map_eq_some_iff] at hz
              obtain ⟨u, _, rfl⟩ := hz
              rw [rid_const] at hi; cases hi
            simp only [Option.bind_some, ha, hpz]
            generalize e y = v at *
            cases v <;> first | rfl | simp only [hel]
      | cap =>
        simp only [opSem]
        split <;> try rfl
        rename_i t x _ he
        rw [hx' x (by simp [he])]
      | clear =>
        simp only [opSem]
        split <;> try rfl
        rename_i x t he _
        have e1 := hx' x (by simp [he])
        have hr1 := hr x (by simp [he])
        simp only [← e1]
        cases htl : telem P t with
        | none => rfl
        | some el =>
          simp only [Option.bind_some]
          cases hz : tzero P el with
          | none => rfl
          | some z =>
            have hpz : purify h z = purify h' z := purify_congr fun id hi => by
              unfold tzero at hz
              simp only [Option.map_eq_some_iff] at hz
              obtain ⟨u, _, rfl⟩ := hz
              rw [rid_const] at hi; cases hi
            simp only [Option.bind_some, hpz]
            generalize e x = v at *
            cases v <;> first | rfl | skip
            rename_i id off len
            simp only [hr1 id (by simp [rid, rid1])]
      | _ => rfl
    | _ => rfl
  | _ => rfl
end Go.Sym
