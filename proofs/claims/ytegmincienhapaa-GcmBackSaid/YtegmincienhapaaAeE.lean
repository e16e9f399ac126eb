/- DERIVED. The keys of the rounds by the program; a block encrypted, for both sides. -/
import Derived.Test.YtegmincienhapaaAeD
set_option linter.unusedVariables false
set_option linter.unusedSimpArgs false
set_option maxRecDepth 1000000
namespace Go.Proofs.Ae
open Go Go.Sym Go.Proofs.Fl

theorem get_ub {x : List UInt8} {n : Nat} {c : UInt8} (h : x[n]? = some c) (y : List V) : (((x.map ub ++ y)[n]?).bind (dI IntKind.u8)) = some (c.toNat : Int) := by
  have hn : n < x.length := (List.getElem?_eq_some_iff.1 h).1
  rw [List.getElem?_append_left (by rw [List.length_map]; exact hn), List.getElem?_map, h]
  exact dI_int _ _
structure At4 (s : List UInt8) (i0 : Int) (x : List UInt8) (o0 o1 o2 o3 : UInt8) (p : Nat) : Prop where
  w : IntKind.i64.wrap (4 * IntKind.i64.wrap (i0 - IntKind.i64.wrap ((s.length : Int).tdiv 4))) = (p : Int)
  lt : p + 4 ≤ x.length
  le : x.length ≤ 1000
  a0 : x[p]? = some o0
  a1 : x[p + 1]? = some o1
  a2 : x[p + 2]? = some o2
  a3 : x[p + 3]? = some o3
theorem L70d {k : Nat} {i0 : Int} {s x : List UInt8} {o0 o1 o2 o3 a b c d : UInt8} {p f : Nat} (h : At4 s i0 x o0 o1 o2 o3 p) :
    L70_4 k i0 (a.toNat : Int) (b.toNat : Int) (c.toNat : Int) (d.toNat : Int) s (f + 5) 0 (x.map ub) = some (.e0 4 ((x ++ [o0 ^^^ a, o1 ^^^ b, o2 ^^^ c, o3 ^^^ d]).map ub)) := by
  have hw := h.w
  have hlt := h.lt
  have hle := h.le
  have e0 := get_ub h.a0
  have e1 := get_ub h.a1
  have e2 := get_ub h.a2
  have e3 := get_ub h.a3
  have s0 := e0 []
  rw [List.append_nil] at s0
  rw [L70_4, cT (by decide), hw, wi (n := (p : Int) + 0) (by omega) (by omega), gp (by rw [List.length_map]; omega), show ((p : Int) + 0).toNat = p by omega, s0, Option.bind_some, cT rfl, gp (by rw [List.length_map]; unfold maxLen'; omega), xor_b, show IntKind.i64.wrap (0 + 1) = 1 from rfl]
  rw [L70_4, cT (by decide), hw, wi (n := (p : Int) + 1) (by omega) (by omega), gp (by rw [List.length_append, List.length_map]; simp only [List.length_cons, List.length_nil]; omega), show ((p : Int) + 1).toNat = p + 1 by omega, e1, Option.bind_some, cF (by decide), cT rfl, gp (by rw [List.length_append, List.length_map]; simp only [List.length_cons, List.length_nil]; unfold maxLen'; omega), xor_b, show IntKind.i64.wrap (1 + 1) = 2 from rfl, List.append_assoc]
  rw [L70_4, cT (by decide), hw, wi (n := (p : Int) + 2) (by omega) (by omega), gp (by rw [List.length_append, List.length_map, List.length_append]; simp only [List.length_cons, List.length_nil]; omega), show ((p : Int) + 2).toNat = p + 2 by omega, e2, Option.bind_some, cF (by decide), cF (by decide), cT rfl, gp (by rw [List.length_append, List.length_map, List.length_append]; simp only [List.length_cons, List.length_nil]; unfold maxLen'; omega), xor_b, show IntKind.i64.wrap (2 + 1) = 3 from rfl, List.append_assoc]
  rw [L70_4, cT (by decide), hw, wi (n := (p : Int) + 3) (by omega) (by omega), gp (by rw [List.length_append, List.length_map, List.length_append, List.length_append]; simp only [List.length_cons, List.length_nil]; omega), show ((p : Int) + 3).toNat = p + 3 by omega, e3, Option.bind_some, cF (by decide), cF (by decide), cF (by decide), cT rfl, gp (by rw [List.length_append, List.length_map, List.length_append, List.length_append]; simp only [List.length_cons, List.length_nil]; unfold maxLen'; omega), xor_b, show IntKind.i64.wrap (3 + 1) = 4 from rfl, List.append_assoc]
  rw [L70_4, cF (by decide), List.map_append]
  rfl
theorem L70c {k : Nat} {i0 i5 : Int} {s x : List UInt8} {o0 o1 o2 o3 a b c d : UInt8} {p f : Nat} (h : At4 s i0 x o0 o1 o2 o3 p) :
    L70_3 k i0 i5 (a.toNat : Int) (b.toNat : Int) (c.toNat : Int) (d.toNat : Int) s (f + 5) 0 (x.map ub) = some (.e0 4 ((x ++ [o0 ^^^ a, o1 ^^^ b, o2 ^^^ c, o3 ^^^ d]).map ub)) := by
  have hw := h.w
  have hlt := h.lt
  have hle := h.le
  have e0 := get_ub h.a0
  have e1 := get_ub h.a1
  have e2 := get_ub h.a2
  have e3 := get_ub h.a3
  have s0 := e0 []
  rw [List.append_nil] at s0
  rw [L70_3, cT (by decide), hw, wi (n := (p : Int) + 0) (by omega) (by omega), gp (by rw [List.length_map]; omega), show ((p : Int) + 0).toNat = p by omega, s0, Option.bind_some, cT rfl, gp (by rw [List.length_map]; unfold maxLen'; omega), xor_b, show IntKind.i64.wrap (0 + 1) = 1 from rfl]
  rw [L70_3, cT (by decide), hw, wi (n := (p : Int) + 1) (by omega) (by omega), gp (by rw [List.length_append, List.length_map]; simp only [List.length_cons, List.length_nil]; omega), show ((p : Int) + 1).toNat = p + 1 by omega, e1, Option.bind_some, cF (by decide), cT rfl, gp (by rw [List.length_append, List.length_map]; simp only [List.length_cons, List.length_nil]; unfold maxLen'; omega), xor_b, show IntKind.i64.wrap (1 + 1) = 2 from rfl, List.append_assoc]
  rw [L70_3, cT (by decide), hw, wi (n := (p : Int) + 2) (by omega) (by omega), gp (by rw [List.length_append, List.length_map, List.length_append]; simp only [List.length_cons, List.length_nil]; omega), show ((p : Int) + 2).toNat = p + 2 by omega, e2, Option.bind_some, cF (by decide), cF (by decide), cT rfl, gp (by rw [List.length_append, List.length_map, List.length_append]; simp only [List.length_cons, List.length_nil]; unfold maxLen'; omega), xor_b, show IntKind.i64.wrap (2 + 1) = 3 from rfl, List.append_assoc]
  rw [L70_3, cT (by decide), hw, wi (n := (p : Int) + 3) (by omega) (by omega), gp (by rw [List.length_append, List.length_map, List.length_append, List.length_append]; simp only [List.length_cons, List.length_nil]; omega), show ((p : Int) + 3).toNat = p + 3 by omega, e3, Option.bind_some, cF (by decide), cF (by decide), cF (by decide), cT rfl, gp (by rw [List.length_append, List.length_map, List.length_append, List.length_append]; simp only [List.length_cons, List.length_nil]; unfold maxLen'; omega), xor_b, show IntKind.i64.wrap (3 + 1) = 4 from rfl, List.append_assoc]
  rw [L70_3, cF (by decide), List.map_append]
  rfl
theorem L70a {k : Nat} {i0 : Int} {s x : List UInt8} {o0 o1 o2 o3 a r b c d : UInt8} {p f : Nat} (h : At4 s i0 x o0 o1 o2 o3 p) :
    L70_1 k i0 (a.toNat : Int) (r.toNat : Int) (b.toNat : Int) (c.toNat : Int) (d.toNat : Int) s (f + 5) 0 (x.map ub) = some (.e0 4 ((x ++ [o0 ^^^ (a ^^^ r), o1 ^^^ b, o2 ^^^ c, o3 ^^^ d]).map ub)) := by
  have hw := h.w
  have hlt := h.lt
  have hle := h.le
  have e0 := get_ub h.a0
  have e1 := get_ub h.a1
  have e2 := get_ub h.a2
  have e3 := get_ub h.a3
  have s0 := e0 []
  rw [List.append_nil] at s0
  rw [L70_1, cT (by decide), hw, wi (n := (p : Int) + 0) (by omega) (by omega), gp (by rw [List.length_map]; omega), show ((p : Int) + 0).toNat = p by omega, s0, Option.bind_some, cT rfl, gp (by rw [List.length_map]; unfold maxLen'; omega), xor_b, xor_b, show IntKind.i64.wrap (0 + 1) = 1 from rfl]
  rw [L70_1, cT (by decide), hw, wi (n := (p : Int) + 1) (by omega) (by omega), gp (by rw [List.length_append, List.length_map]; simp only [List.length_cons, List.length_nil]; omega), show ((p : Int) + 1).toNat = p + 1 by omega, e1, Option.bind_some, cF (by decide), cT rfl, gp (by rw [List.length_append, List.length_map]; simp only [List.length_cons, List.length_nil]; unfold maxLen'; omega), xor_b, show IntKind.i64.wrap (1 + 1) = 2 from rfl, List.append_assoc]
  rw [L70_1, cT (by decide), hw, wi (n := (p : Int) + 2) (by omega) (by omega), gp (by rw [List.length_append, List.length_map, List.length_append]; simp only [List.length_cons, List.length_nil]; omega), show ((p : Int) + 2).toNat = p + 2 by omega, e2, Option.bind_some, cF (by decide), cF (by decide), cT rfl, gp (by rw [List.length_append, List.length_map, List.length_append]; simp only [List.length_cons, List.length_nil]; unfold maxLen'; omega), xor_b, show IntKind.i64.wrap (2 + 1) = 3 from rfl, List.append_assoc]
  rw [L70_1, cT (by decide), hw, wi (n := (p : Int) + 3) (by omega) (by omega), gp (by rw [List.length_append, List.length_map, List.length_append, List.length_append]; simp only [List.length_cons, List.length_nil]; omega), show ((p : Int) + 3).toNat = p + 3 by omega, e3, Option.bind_some, cF (by decide), cF (by decide), cF (by decide), cT rfl, gp (by rw [List.length_append, List.length_map, List.length_append, List.length_append]; simp only [List.length_cons, List.length_nil]; unfold maxLen'; omega), xor_b, show IntKind.i64.wrap (3 + 1) = 4 from rfl, List.append_assoc]
  rw [L70_1, cF (by decide), List.map_append]
  rfl
theorem L70b {k : Nat} {i0 : Int} {s : List UInt8} {x : List V} {a b c d : UInt8} {f : Nat} (hk : 20 ≤ k) :
    L70_2 k i0 s x (f + 5) 0 (a.toNat : Int) (b.toNat : Int) (c.toNat : Int) (d.toNat : Int) = some (.e0 4 ((sbU a).toNat : Int) ((sbU b).toNat : Int) ((sbU c).toNat : Int) ((sbU d).toNat : Int)) := by
  rw [L70_2, cT (by decide), cT rfl, u94 _ (by omega), Option.bind_some, show IntKind.i64.wrap (0 + 1) = 1 from rfl]
  rw [L70_2, cT (by decide), cF (by decide), cT rfl, u94 _ (by omega), Option.bind_some, show IntKind.i64.wrap (1 + 1) = 2 from rfl]
  rw [L70_2, cT (by decide), cF (by decide), cF (by decide), cT rfl, u94 _ (by omega), Option.bind_some, show IntKind.i64.wrap (2 + 1) = 3 from rfl]
  rw [L70_2, cT (by decide), cF (by decide), cF (by decide), cF (by decide), cT rfl, u94 _ (by omega), Option.bind_some, show IntKind.i64.wrap (3 + 1) = 4 from rfl]
  rw [L70_2, cF (by decide)]

theorem arr4 {x : List UInt8} {p : Nat} {a b c d : UInt8} (h : (x.drop p).take 4 = [a, b, c, d]) : (arr? (x.map ub) p 4).bind dAu8u8u8u8Z = some ((a.toNat : Int), (b.toNat : Int), (c.toNat : Int), (d.toNat : Int)) := by
  have hl : p + 4 ≤ x.length := by
    have := congrArg List.length h
    rw [List.length_take, List.length_drop] at this
    simp only [List.length_cons, List.length_nil] at this
    omega
  have e : ((x.map ub).drop p).take 4 = [ub a, ub b, ub c, ub d] := by rw [← List.map_drop, ← List.map_take, h]; rfl
  unfold arr?
  rw [e, guardP_pos ⟨by rw [List.length_map]; exact hl, rfl⟩]
  rfl
theorem L70m {k : Nat} {s : List UInt8} (h : keyOk s) (hk : 1000 ≤ k) : ∀ (m : Nat) (ws : List (List UInt8)) (f : Nat), ws.length + m = 4 * (kN s + 7) → kN s ≤ ws.length → four ws → m < f →
    ∃ z, L70_0 k s f ((ws.length : Nat) : Int) (ws.flatten.map ub) = some (.e0 z ((extW (kN s) m ws).flatten.map ub)) := by
  have hK := kN_cases h
  intro m
  induction m with
  | zero =>
    intro ws f hm hle hw hf
    obtain ⟨f, rfl⟩ : ∃ y, f = y + 1 := ⟨f - 1, by omega⟩
    rw [L70_0, w_len h, wi (n := ((kN s : Nat) : Int) + 7) (by omega) (by omega), wi (n := 4 * (((kN s : Nat) : Int) + 7)) (by omega) (by omega), cF (by omega)]
    exact ⟨_, rfl⟩
  | succ m ih =>
    intro ws f hm hle hw hf
    obtain ⟨f, rfl⟩ : ∃ y, f = y + 1 := ⟨f - 1, by omega⟩
    have hn := nextW_length hw (show 1 ≤ kN s by omega) hle
    obtain ⟨z, e⟩ := ih (ws ++ [nextW (kN s) ws]) f (by rw [List.length_append]; simp only [List.length_cons, List.length_nil]; omega) (by rw [List.length_append]; omega) (four_snoc hw hn) (by omega)
    rw [List.length_append, List.flatten_append] at e
    refine ⟨z, ?_⟩
    have hfl := flat_length hw
    generalize hi : ws.length = i at *
    have e' : L70_0 k s f (((i + 1 : Nat)) : Int) ((ws.flatten ++ nextW (kN s) ws).map ub) = some (.e0 z ((extW (kN s) (m + 1) ws).flatten.map ub)) := by
      simp only [List.flatten_cons, List.flatten_nil, List.append_nil] at e
      exact e
    obtain ⟨a, b, c, d, ht⟩ := len4 (four_at hw (show i - 1 < ws.length by omega))
    obtain ⟨o0, o1, o2, o3, ho⟩ := len4 (four_at hw (show i - kN s < ws.length by omega))
    have hnx : nextW (kN s) ws = xorL [o0, o1, o2, o3] (kst (kN s) i [a, b, c, d]) := by unfold nextW; rw [hi, ht, ho]
    have hword := flat_word hw (show i - 1 < ws.length by omega)
    rw [ht] at hword
    have at4 : At4 s (i : Int) ws.flatten o0 o1 o2 o3 (4 * (i - kN s)) := by
      have q : ∀ r, r < 4 → ws.flatten[4 * (i - kN s) + r]? = [o0, o1, o2, o3][r]? := fun r hr => by rw [flat_at hw (by omega) hr, ho]
      refine ⟨?_, by omega, by omega, q 0 (by omega), q 1 (by omega), q 2 (by omega), q 3 (by omega)⟩
      rw [w_len h, wi (n := (i : Int) - ((kN s : Nat) : Int)) (by omega) (by omega), wi (by omega) (by omega)]; omega
    rw [L70_0, wi (n := 4 * (i : Int)) (by omega) (by omega), wi (n := 4 * (i : Int) - 4) (by omega) (by omega), show (4 * (i : Int) - 4).toNat = 4 * (i - 1) by omega, show (4 * (i : Int)).toNat = 4 * i by omega]
    rw [w_len h, wi (n := ((kN s : Nat) : Int) + 7) (by omega) (by omega), wi (n := 4 * (((kN s : Nat) : Int) + 7)) (by omega) (by omega), cT (by omega), gp (by rw [List.length_map, hfl]; omega), gp (by omega), arr4 hword, Option.bind_some]
    simp only
    rw [gp (by omega)]
    have hmod : ((i : Int).tmod ((kN s : Nat) : Int)) = ((i % kN s : Nat) : Int) := by rw [tm (by omega)]; omega
    have hdiv : ((i : Int).tdiv ((kN s : Nat) : Int)) = ((i / kN s : Nat) : Int) := by rw [td (by omega)]; omega
    have hdlt : i / kN s - 1 < 10 ∧ 1 ≤ i / kN s := by rcases hK with hK | hK <;> rw [hK] <;> omega
    rw [hmod, hdiv, wi (n := (i : Int) + 1) (by omega) (by omega), show (i : Int) + 1 = ((i + 1 : Nat) : Int) by omega]
    by_cases h0 : i % kN s = 0
    · have hst : kst (kN s) i [a, b, c, d] = [sbU b ^^^ rcU (i / kN s - 1), sbU c, sbU d, sbU a] := by rw [kst_eq, if_pos h0]
      rw [hnx, hst] at e'
      rw [cT (by omega), u94 _ (by omega), Option.bind_some, wi (n := ((i / kN s : Nat) : Int)) (by omega) (by omega), wi (n := ((i / kN s : Nat) : Int) - 1) (by omega) (by omega), show ((i / kN s : Nat) : Int) - 1 = ((i / kN s - 1 : Nat) : Int) by omega, u95 hdlt.1 (by omega), Option.bind_some, u94 _ (by omega), Option.bind_some, u94 _ (by omega), Option.bind_some, u94 _ (by omega), Option.bind_some,
        show k + 17 = (k + 12) + 5 from rfl, L70a at4, Option.bind_some]
      exact e'
    · rw [cF (by omega)]
      by_cases h8 : kN s = 8
      · rw [cT (by omega)]
        by_cases h4 : i % kN s = 4
        · have hst : kst (kN s) i [a, b, c, d] = [sbU a, sbU b, sbU c, sbU d] := by rw [kst_eq, if_neg h0, if_pos ⟨h8, by rw [← h8]; exact h4⟩]
          rw [hnx, hst] at e'
          rw [cT (by omega), show k + 17 = (k + 12) + 5 from rfl, L70b (by omega), Option.bind_some]
          simp only
          rw [L70c at4, Option.bind_some]
          exact e'
        · have hst : kst (kN s) i [a, b, c, d] = [a, b, c, d] := by rw [kst_eq, if_neg h0, if_neg (fun h => h4 (by rw [h8]; exact h.2))]
          rw [hnx, hst] at e'
          rw [cF (by omega), show k + 17 = (k + 12) + 5 from rfl, L70d at4, Option.bind_some]
          exact e'
      · have hst : kst (kN s) i [a, b, c, d] = [a, b, c, d] := by rw [kst_eq, if_neg h0, if_neg (fun h => h8 h.1)]
        rw [hnx, hst] at e'
        rw [cF (by omega), show k + 17 = (k + 12) + 5 from rfl, L70d at4, Option.bind_some]
        exact e'
theorem L70n {k : Nat} {s : List UInt8} {i0 : Int} (h : keyOk s) (hk : 1000 ≤ k) : ∀ (c j f : Nat), kN s + 7 - j = c → j ≤ kN s + 7 → c < f →
    ∃ z, L70_5 k i0 s ((wsAll s).flatten.map ub) f ((16 * j : Nat) : Int) (((List.range j).map fun j => ((wsAll s).flatten.drop (16 * j)).take 16).map V.str) = some (.e0 z ((keys s).map V.str)) := by
  obtain ⟨h4, hl⟩ := wsAll_facts h
  have hfl := flat_length h4
  have hK := kN_cases h
  intro c
  induction c with
  | zero =>
    intro j f hc hj hf
    obtain ⟨f, rfl⟩ : ∃ y, f = y + 1 := ⟨f - 1, by omega⟩
    rw [L70_5, List.length_map, cF (by omega), show j = kN s + 7 by omega]
    exact ⟨_, rfl⟩
  | succ c ih =>
    intro j f hc hj hf
    obtain ⟨f, rfl⟩ : ∃ y, f = y + 1 := ⟨f - 1, by omega⟩
    obtain ⟨z, e⟩ := ih (j + 1) f (by omega) (by omega) (by omega)
    rw [List.range_succ, List.map_append, List.map_append] at e
    refine ⟨z, ?_⟩
    rw [L70_5, wi (n := ((16 * j : Nat) : Int) + 16) (by omega) (by omega), show ((16 * j : Nat) : Int) + 16 = ((16 * (j + 1) : Nat) : Int) by omega, Int.toNat_natCast, Int.toNat_natCast, show 16 * (j + 1) - 16 * j = 16 by omega, ← List.map_drop, ← List.map_take, byteOf_ub]
    rw [cT (by rw [List.length_map]; omega), gp (by rw [List.length_map]; omega), gp (all_ub _), gp (by rw [List.length_map, List.length_map, List.length_range]; unfold maxLen'; omega)]
    exact e
theorem g70 {k : Nat} {s : List UInt8} (h : keyOk s) (hk : 1000 ≤ k) : F70 k s = some (none, false, 1, (keys s).map V.str, 0) := by
  have hK := kN_cases h
  have hm : s.length % 4 = 0 := by rcases h with h | h <;> rw [h]
  obtain ⟨z, e1⟩ := L70m (k := k) h hk (4 * (kN s + 7) - kN s) (w0 s) (k + 17) (by rw [w0_length]; show kN s + _ = _; omega) (by rw [w0_length]; exact Nat.le_refl _) w0_four (by omega)
  rw [w0_flatten hm, w0_length] at e1
  obtain ⟨z', e2⟩ := L70n (k := k) (i0 := z) h hk (kN s + 7) 0 (k + 17) (by omega) (by omega) (by omega)
  have e1' : L70_0 k s (k + 17) (IntKind.i64.wrap ((s.length : Int).tdiv 4)) (List.map (fun c : UInt8 => V.int IntKind.u8 (c.toNat : Int)) s) = some (.e0 z ((wsAll s).flatten.map ub)) := by rw [w_len h]; exact e1
  have e2' : L70_5 k z s ((wsAll s).flatten.map ub) (k + 17) 0 [] = _ := e2
  unfold F70
  rcases h with h | h
  · rw [cNT (by omega), gp (by rw [h]; unfold maxLen'; omega), e1', Option.bind_some]
    simp only
    rw [e2', Option.bind_some]
  · rw [cNF (by omega), cNT (by omega), gp (by rw [h]; unfold maxLen'; omega), e1', Option.bind_some]
    simp only
    rw [e2', Option.bind_some]
def rounds : List (List UInt8) → List UInt8 → List UInt8
  | [], st => st
  | q :: r, st => bif r.isEmpty then xorL (turnL (boxL st)) q else rounds r (xorL (mixL (turnL (boxL st))) q)
def aesT (l : List (List UInt8)) (t : List UInt8) : List UInt8 := rounds (l.drop 1) (xorL t (l.getD 0 []))
def aes (s t : List UInt8) : List UInt8 := aesT (keys s) t
theorem turn_length {s : List UInt8} (h : s.length = 16) : (turnL s).length = 16 := by
  obtain ⟨c0, c1, c2, c3, c4, c5, c6, c7, c8, c9, c10, c11, c12, c13, c14, c15, rfl⟩ := len16 h; rfl
theorem mix_length {s : List UInt8} (h : s.length = 16) : (mixL s).length = 16 := by
  obtain ⟨c0, c1, c2, c3, c4, c5, c6, c7, c8, c9, c10, c11, c12, c13, c14, c15, rfl⟩ := len16 h; rfl
theorem box_length {s : List UInt8} : (boxL s).length = s.length := List.length_map ..
theorem xor_length {s t : List UInt8} (h : s.length = t.length) : (xorL s t).length = s.length := by unfold xorL; rw [List.length_zipWith]; omega
theorem rounds_length : ∀ (l : List (List UInt8)) (st : List UInt8), (∀ q ∈ l, q.length = 16) → st.length = 16 → (rounds l st).length = 16 := by
  intro l
  induction l with
  | nil => intro st _ h; exact h
  | cons q r ih =>
    intro st hq h
    have h1 := hq q (List.mem_cons_self ..)
    have h2 : (turnL (boxL st)).length = 16 := turn_length (by rw [box_length, h])
    rw [rounds]
    cases r with
    | nil => rw [List.isEmpty_nil, cond_true, xor_length (by omega)]; exact h2
    | cons q2 r => exact ih _ (fun x hx => hq x (List.mem_cons_of_mem _ hx)) (by rw [xor_length (by rw [mix_length h2, h1]), mix_length h2])
end Go.Proofs.Ae
