/-
  BitmapTakes: what is set is so, and no other place changes; what is found is free, and, taken, as many are taken more; a map that may be stays one, for all maps, places and numbers.
-/
import Derived.Test.YtpnpneffbkdomaaBmO
import Derived.Test.YtpnpneffbkdomaaBmE
import Derived.Test.YtpnpneffbkdomaaBmG
import Derived.Test.YtpnpneffbkdomaaFx10
set_option linter.unusedVariables false
set_option linter.unusedSimpArgs false
set_option maxRecDepth 100000
namespace Go.Proofs
open Go Go.Sym

theorem err_of {n j : Nat} {ws : List Wd} {fl : Wd} (hr : rightB n ws fl = true) (hj : j < n) : errB n ws fl j = 0 := by
  unfold errB
  rw [if_pos hr, if_neg (by omega)]
theorem set_right {n j : Nat} {t : Bool} {ws : List Wd} {fl : Wd} (hr : rightB n ws fl = true) (hj : j < n) : rightB n (setL ws j t) (fullW (setL ws j t)) = true := by
  obtain ⟨m, hm, h0, h1, h2, h3, h4⟩ := right_iff hr
  obtain rfl : n = m := by omega
  refine dec_t ⟨by omega, by omega, by rw [setL_length, Int.toNat_natCast, h2], rfl, fun i h5 h6 => ?_⟩
  rw [setL_length] at h5
  rw [Int.toNat_natCast] at h6
  rw [setL_taken (by omega) i h5, if_neg (by omega)]
  exact h4 i h5 h6
theorem cnt_set {n j : Nat} {ws : List Wd} (hl : n ≤ 64 * ws.length) (hj : j < n) (hf : takenB ws j = false) : cnt (takenB (setL ws j true)) n = cnt (takenB ws) n + 1 := by
  have gen : ∀ c : Nat, c ≤ n → cnt (takenB (setL ws j true)) c = cnt (takenB ws) c + if j < c then 1 else 0 := by
    intro c
    induction c with
    | zero => intro _; rfl
    | succ c ih =>
      intro hc
      simp only [cnt]
      rw [ih (by omega), setL_taken (by omega) c (by omega)]
      by_cases h : c = j
      · subst h
        rw [if_pos rfl, hf, if_neg (by omega), if_pos (by omega)]
        simp
      · rw [if_neg h]
        by_cases h2 : j < c
        · rw [if_pos h2, if_pos (by omega)]; omega
        · rw [if_neg h2, if_neg (by omega)]; omega
  rw [gen n (Nat.le_refl _), if_pos hj]
theorem scan_free {p : Nat → Bool} {m : Int} : ∀ (n i r j : Nat), r ≤ i → (∀ t, i - r ≤ t → t < i → p t = false) → 1 ≤ m → scan p m n i r = .inr j → ∀ t : Nat, (j : Int) + 1 - m ≤ t → t ≤ j → p t = false := by
  intro n
  induction n with
  | zero => intro i r j _ _ _ h; cases h
  | succ n ih =>
    intro i r j hr hp hm h
    simp only [scan] at h
    have hq : (if p i then 0 else r + 1) ≤ i + 1 := by split <;> omega
    have hp' : ∀ t, i + 1 - (if p i then 0 else r + 1) ≤ t → t < i + 1 → p t = false := by
      intro t h1 h2
      by_cases hi : p i = true
      · rw [if_pos hi] at h1; omega
      · rw [if_neg hi] at h1
        rcases Nat.lt_or_ge t i with h3 | h3
        · exact hp t (by omega) h3
        · obtain rfl : t = i := by omega
          simpa using hi
    generalize (if p i then 0 else r + 1) = q at h hq hp'
    by_cases he : (q : Int) = m
    · rw [if_pos he] at h
      cases h
      exact fun t h1 h2 => hp' t (by omega) (by omega)
    · rw [if_neg he] at h
      exact ih (i + 1) q j hq hp' hm h

theorem L10_17_run {k : Nat} {a0 a1 a3 a8 : Int} {n j : Nat} {b0 t b2 b3 : Bool} {x0 : List V} {o0 o1 o2 : Option Bool} {n0 : Nat} {ws vs : List Wd} {fl gl : Wd} (hr : rightB n ws fl = true) (hs : rightB n vs gl = true)
    (hl : ws.length ≤ 1000) (hl2 : vs.length ≤ 1000) (hn : n ≤ 4096) (hk : 1000 ≤ k) (hv : ∀ m : Nat, m < n → takenB vs m = if m = j then t else takenB ws m) : ∀ (c i f : Nat), n - i = c → i ≤ n → c < f →
    ∃ z, L10_17 k a0 a1 j a3 n (fl.toNat : Int) n (gl.toNat : Int) a8 b0 t b2 b3 x0 (ws.map uw) (vs.map uw) o0 o1 o2 n0 1 1 f (i : Int) = some (.e4 z) := by
  intro c
  induction c with
  | zero =>
    intro i f hc hi hf
    obtain ⟨f, rfl⟩ : ∃ g, f = g + 1 := ⟨f - 1, by omega⟩
    refine ⟨(i : Int), ?_⟩
    rw [L10_17, cF (by omega)]
  | succ c ih =>
    intro i f hc hi hf
    obtain ⟨f, rfl⟩ : ∃ g, f = g + 1 := ⟨f - 1, by omega⟩
    obtain ⟨z, hz⟩ := ih (i + 1) f (by omega) (by omega) (by omega)
    refine ⟨z, ?_⟩
    rw [L10_17, cT (by omega), g38 (by omega) (by omega) hl (by omega) (err_of hr (by omega)), Option.bind_some]
    simp only
    rw [g38 (by omega) (by omega) hl2 (by omega) (err_of hs (by omega)), Option.bind_some]
    simp only
    rw [Int.toNat_natCast, hv i (by omega), cNT trivial, wi (n := (i : Int) + 1) (by omega) (by omega), show ((i : Int) + 1) = ((i + 1 : Nat) : Int) by omega]
    by_cases h : i = j
    · rw [cT (by omega), if_pos h, cNT trivial, cNT rfl]; exact hz
    · rw [cF (by omega), if_neg h, cNT trivial, cNT rfl]; exact hz

theorem L10_18_run {k : Nat} {a0 a1 a2 a3 a6 a7 a8 a9 a11 a12 a13 : Int} {n at' m : Nat} {b0 b1 b3 : Bool} {x0 x2 : List V} {o0 o2 : Option Bool} {n0 n2 : Nat} (ha : a3 = m) (hn : n ≤ 4096) (hm : at' + m ≤ n) (hk : 1000 ≤ k) : ∀ (c f : Nat) (o : Option Bool) (b : Bool) (ws : List Wd) (fl : Wd), c ≤ m → c < f →
    rightB n ws fl = true → ws.length ≤ 1000 → (o = some true → ws = []) → (∀ j : Nat, at' + m - c ≤ j → j < at' + m → takenB ws j = false) →
    ∃ (z : Int) (b' : Bool) (ws' : List Wd) (o' : Option Bool) (fl' : Wd), L10_18 k a0 a1 a2 a3 n a6 a7 a8 a9 (at' : Int) a11 a12 a13 b0 b1 b3 x0 x2 o0 o2 n0 n2 f ((at' + m - c : Nat) : Int) n o b 1 (ws.map uw) (fl.toNat : Int) = some (.e3 z n (fl'.toNat : Int) b' (ws'.map uw) o' 1) ∧
      rightB n ws' fl' = true ∧ ws'.length = ws.length ∧ cnt (takenB ws') n = cnt (takenB ws) n + c := by
  intro c
  induction c with
  | zero =>
    intro f o b ws fl hc hf hr hl ho hfree
    obtain ⟨f, rfl⟩ : ∃ g, f = g + 1 := ⟨f - 1, by omega⟩
    refine ⟨((at' + m - 0 : Nat) : Int), b, ws, o, fl, ?_, hr, rfl, rfl⟩
    rw [L10_18, ha, wi (n := (at' : Int) + m) (by omega) (by omega), cF (by omega)]
  | succ c ih =>
    intro f o b ws fl hc hf hr hl ho hfree
    obtain ⟨f, rfl⟩ : ∃ g, f = g + 1 := ⟨f - 1, by omega⟩
    obtain ⟨n', hn', h0, h1, h2, h3, h4⟩ := right_iff hr
    obtain rfl : n = n' := by omega
    have hf0 := hfree (at' + m - (c + 1)) (Nat.le_refl _) (by omega)
    have hjn : at' + m - (c + 1) < n := by omega
    have hset := set_right (t := true) hr hjn
    obtain ⟨z, b', ws', o', fl', hz, hr', hl', hc'⟩ := ih f none false (setL ws (at' + m - (c + 1)) true) (fullW (setL ws (at' + m - (c + 1)) true)) (by omega) (by omega) hset (by rw [setL_length]; exact hl) (fun h => by cases h)
      (fun j h5 h6 => by rw [setL_taken (by omega) j (by omega), if_neg (by omega)]; exact hfree j (by omega) h6)
    refine ⟨z, b', ws', o', fl', ?_, hr', by rw [hl', setL_length], by rw [hc', cnt_set (by omega) hjn hf0]; omega⟩
    rw [L10_18, ha, wi (n := (at' : Int) + m) (by omega) (by omega), cT (by omega), g38 (by omega) (by omega) hl (by omega) (err_of hr hjn), Option.bind_some]
    simp only
    rw [g37 (by omega) (by omega) hl (by omega) ho (err_of hr hjn), Option.bind_some]
    simp only
    rw [Int.toNat_natCast, cNT trivial, cNT trivial, hf0, cond_false, wi (by omega) (by omega), show (((at' + m - (c + 1) : Nat) : Int) + 1) = ((at' + m - c : Nat) : Int) by omega, ← ha]
    exact hz

theorem law_bitmapTakes {k : Nat} {N i m : Int} {o : Option Bool} {b t : Bool} {ws : List Wd} {fl : Wd} (hN : -9223372036854775808 ≤ N) (hN2 : N < 9223372036854775808) (hm2 : m < 9223372036854775808) (ho : o = some true → ws = []) (hk : 5000 ≤ k) :
    F10 k N o b 1 (ws.map uw) (fl.toNat : Int) i m t = some true := by
  unfold F10
  have hl : (ws.take 70).length ≤ 1000 := by simp; omega
  have ho' : o = some true → ws.take 70 = [] := fun h => by rw [ho h]; rfl
  rw [g29, Option.bind_some]
  simp only
  generalize ws.take 70 = us at hl ho'
  by_cases he : errB N us fl i = 0
  case neg =>
    rw [g37e hN hN2 hl (by omega) he, Option.bind_some]
    simp only
    rw [cNF he, g35, Option.bind_some, cond_true]
    rfl
  obtain ⟨n, j, rfl, rfl, hj, h0, h1, h2, h3, h4⟩ := err_zero he
  have hr : rightB (n : Int) us fl = true := by
    unfold errB at he
    split at he
    · assumption
    · omega
  have hs := set_right (t := t) hr hj
  have hl2 : (setL us j t).length ≤ 1000 := by rw [setL_length]; exact hl
  have gs := g31 (k := k + 8) (N := n) (o := none) (b := false) (ws := setL us j t) (fl := fullW (setL us j t)) (by omega) (by omega) hl2 (by omega)
  rw [hs] at gs
  rw [g37 hN hN2 hl (by omega) ho' he, Option.bind_some]
  simp only
  rw [cNT trivial, Int.toNat_natCast]
  obtain ⟨z, hz⟩ := L10_17_run (k := k) (a0 := n) (a1 := (fl.toNat : Int)) (a3 := m) (a8 := 0) (b0 := b) (t := t) (b2 := false) (b3 := false) (x0 := ws.map uw) (o0 := o) (o1 := o) (o2 := none) (n0 := 1) hr hs hl hl2 (by omega) (by omega)
    (fun q hq => setL_taken (by omega) q (by omega)) n 0 (k + 14) (by omega) (by omega) (by omega)
  rw [show ((0 : Nat) : Int) = 0 from rfl] at hz
  rw [hz, Option.bind_some]
  simp only
  rw [g42 hN hN2 hl hm2 (by omega), hr]
  simp only [if_true, Int.toNat_natCast]
  have g4 := g41 (k := k + 5) (N := n) (o := o) (b := false) (ws := us) (fl := fl) hN hN2 hl (by omega)
  rw [hr] at g4
  simp only [if_true, Int.toNat_natCast] at g4
  by_cases hm : m < 1
  · rw [if_pos hm, Option.bind_some]
    simp only
    rw [g4, Option.bind_some]
    simp only
    rw [cNF (by omega), g35, Option.bind_some, cond_true, cT trivial, gs]; rfl
  rw [if_neg hm]
  unfold findI
  cases hq : scan (takenB us) m n 0 0 with
  | inl r' =>
    simp only
    rw [if_pos (by omega), Option.bind_some]
    simp only
    rw [g4, Option.bind_some]
    simp only
    rw [cNF (by omega), g35, Option.bind_some, cond_true, cT trivial, gs]; rfl
  | inr q =>
    have hle := scan_le _ _ _ _ (Nat.le_refl _) hq
    have hfr := scan_free _ _ _ _ (Nat.le_refl _) (fun t _ h => absurd h (Nat.not_lt_zero _)) (by omega) hq
    obtain ⟨mm, rfl⟩ : ∃ mm : Nat, m = mm := ⟨m.toNat, by omega⟩
    obtain ⟨at', hat⟩ : ∃ a : Nat, (q : Int) + 1 - mm = a := ⟨((q : Int) + 1 - mm).toNat, by omega⟩
    simp only
    rw [hat, if_neg (by omega), Option.bind_some]
    simp only
    rw [g4, Option.bind_some]
    simp only
    rw [cNT trivial]
    obtain ⟨y, b', ws', o', fl', hy, hr', hl', hc'⟩ := L10_18_run (k := k) (a0 := n) (a1 := (fl.toNat : Int)) (a2 := j) (a3 := mm) (a6 := n) (a7 := ((fullW (setL us j t)).toNat : Int)) (a8 := 0) (a9 := z) (a11 := 0) (a12 := ((cnt (takenB us) n : Nat) : Int)) (a13 := 0) (at' := at') (b0 := b) (b1 := t) (b3 := false) (x0 := ws.map uw) (x2 := (setL us j t).map uw) (o0 := o) (o2 := none) (n0 := 1) (n2 := 1)
      rfl (by omega) (show at' + mm ≤ n by omega) (show 1000 ≤ k by omega) mm (k + 14) o false us fl (Nat.le_refl _) (by omega) hr hl ho' (fun t h5 h6 => hfr t (by omega) (by omega))
    rw [show at' + mm - mm = at' by omega] at hy
    rw [hy, Option.bind_some]
    simp only
    have g5 := g41 (k := k + 5) (N := n) (o := o') (b := b') (ws := ws') (fl := fl') hN hN2 (by omega) (by omega)
    rw [hr'] at g5
    simp only [if_true, Int.toNat_natCast] at g5
    rw [hc'] at g5
    have gr := g31 (k := k + 8) (N := n) (o := o') (b := b') (ws := ws') (fl := fl') (by omega) (by omega) (by omega) (by omega)
    rw [hr'] at gr
    have hcl := cnt_le (takenB us) n
    rw [g5, Option.bind_some]
    simp only
    rw [g35, Option.bind_some, cond_true, cT trivial, cT trivial, wi (by omega) (by omega), cT (by omega), gr, Option.bind_some, cond_true, gs]; rfl
end Go.Proofs
namespace Go.Proofs.Ytpnpneffbkdomaa
open Go.Sym
theorem bitmapTakes_lifted (os : Os) (started : os.Started) (H : Type) (enc : TypeId × Value → H) :
    ReturnsInHanded {} Try.checked os 10 .any (Rows.bitmapTakesSpec.pre6 enc Try.prog Try.f10 Rows.bitmapTakesRow.domain false) (Rows.bitmapTakesSpec.post enc Try.prog Try.f10 false true false false) := by
  refine returnsInHanded_of_change (C := Try.checked) Try.own started (by kernel_rfl) Try.func10
    (ChangeSpec.witness6 (enc := enc) (C := Try.checked) false ⟨#[], #[.agg #[.int .i64 0, .slice none 0 0, .int .u64 0], .int .i64 0, .int .i64 0, .bool false], []⟩ 8 (by kernel_rfl) (by kernel_rfl) (by kernel_rfl) (by kernel_rfl)) ?_
  intro W base args ds gs before hval hW hcnd _
  refine law_end (P := Try.prog) (C := Try.cfg) (k := 4) (tb := 4) Try.mixed Try.progOk Try.laidOut (by kernel_rfl) rfl rfl Try.underlying4 ?_ ?_ (fun j t v h1 h2 => ⟨base, hval j t v h1 h2⟩) hW
  · intro ds hds
    match ds, hds with
    | [d, e, f, g], _ => exact ⟨rfl, rfl, rfl⟩
  · intro xs hxs
    obtain ⟨x, y, z, w, rfl, hx, hy, hz, hw⟩ := VArgs_four (P := Try.prog) (k := 4) (a := 51) (b := 3) (c := 3) (d := 4) hxs
    obtain ⟨N, n, ws, fl, rfl, hn, hN, hN2⟩ := open51 hx
    obtain ⟨i, rfl, _, _⟩ := open3 hy
    obtain ⟨m, rfl, _, hm⟩ := open3 hz
    obtain ⟨t, rfl⟩ := open4 hw
    exact ⟨_, F10_ok (law_bitmapTakes (k := 5000) hN hN2 hm (fun h => hn (Option.some.inj h)) (Nat.le_refl _))⟩

theorem bitmapTakes_holds : Rows.BitmapTakesSaid :=
  OpenClaim.holds_of_wide 10 Try.f10 rfl rfl rfl rfl rfl rfl rfl ⟨rfl, rfl, rfl, rfl, rfl⟩ rfl rfl rfl rfl rfl (by kernel_rfl) Try.func10 (by kernel_rfl)
    (of_decide_eq_true (by kernel_rfl)) (by unfold Func.isWrapper; first | (rw [if_pos (by decide +kernel)]; kernel_rfl) | (rw [if_neg (by decide +kernel)]; exact ⟨rfl, rfl⟩))
    (fun os started H enc _ => bitmapTakes_lifted os started H enc)
end Go.Proofs.Ytpnpneffbkdomaa
