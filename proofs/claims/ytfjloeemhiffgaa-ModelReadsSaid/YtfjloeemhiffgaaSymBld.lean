/- DERIVED. What the library's functions that are told by contracts answer: strings.Builder's WriteString and String, strings.Repeat. -/
import Derived.Test.YtfjloeemhiffgaaSymCode9
import Derived.Shelf.Strings.Builder1
import Derived.Shelf.Strings.Repeat
set_option linter.unusedVariables false
set_option linter.unusedSimpArgs false
namespace Go.Lib
open Go Go.RowKit

/-- A string's bytes go behind a row of the call's own: into it, or into a new one. -/
theorem append_string_far {P : Program} {w : World} (t u ty e : TypeId) (i : TypeInfo) (ht : P.underlying t = some (.slice e)) (hu : P.underlying u = some .string) (hi : P.info? e = some i) (hz : i.zero = some (.int .u8 0))
    (hsize : i.size = 1) (hby : i.bytes = 1) (v : Value) (n : Nat) (xs : List Value) (hown : w.ownsRow 0 e 1 v n xs) (s : ByteArray) (h63 : n + s.size ≤ maxLen) (hbytes : n + s.size ≤ 140737488355328) :
    ∃ v' w', (Builtin.append_ #[t, u] ty #[v, .string s]).run P w = .ok v' w' ∧ w'.ownsRow 0 e 1 v' (n + s.size) (xs ++ strCells s) ∧ w.grownBy w' v.ownBlock ∧
      (v'.ownBlock = v.ownBlock ∨ ∀ g, v'.ownBlock = some g → w.heap.size ≤ g) := by
  obtain ⟨v', w', hr, h2, h3, h4⟩ := run_append_own_string (P := P) w 0 t u ty e i ht hu hi hz hsize hby v n xs hown s h63 hbytes (Nat.zero_le _)
  refine ⟨v', w', hr, h2, h3, ?_⟩
  have hxl : xs.length = n := by simpa using hown.1
  rcases hown.2 with ⟨rfl, rfl⟩ | ⟨g, cap, cur, rfl, hbg, hg, hnc, hcm, hcs, htake⟩
  · right
    have hown2 : w.ownsRow w.heap.size e 1 (.slice none 0 0) 0 xs := ⟨hown.1, .inl ⟨rfl, rfl⟩⟩
    obtain ⟨v2, w2, hr2, k2, _, _⟩ := run_append_own_string (P := P) w w.heap.size t u ty e i ht hu hi hz hsize hby _ 0 xs hown2 s h63 hbytes (Nat.le_refl _)
    rw [hr] at hr2
    cases hr2
    intro g hgb
    rcases k2.2 with ⟨hv, _⟩ | ⟨g', cap', cur', hv, hge, _⟩
    · subst hv; cases hgb
    · subst hv; cases hgb; exact hge
  · by_cases hroom : n + s.size ≤ cap
    · left
      have hr1 := run_append_room_string (P := P) w t u ty e i ht hu hi hsize g n cap cur hg s hroom (by omega)
      rw [hr] at hr1
      cases hr1; rfl
    · right
      have hsmall : n + s.size ≤ 9223372036854775807 := by simp only [maxLen] at h63; omega
      have holds : ∀ j u, xs[j]? = some u → w.cell? ((⟨g, 0, none⟩ : Addr).add j) = some u := hown.cells (g := g) rfl
      have hr1 := run_append_grow_string (P := P) w t u ty e i (.int .u8 0) ht hu hi hz ⟨g, 0, none⟩ n cap xs (by rw [hsize]; simpa using hxl) holds s (by omega) (by omega) (by rw [hby]; exact growslice_fits (by omega) (by omega))
      rw [hr] at hr1
      cases hr1
      intro g' hgb
      cases hgb; exact Nat.le_refl _
theorem wpList_append_string_far {P : Program} {w : World} {ops : Array Oper} {rest : List Oper} {o : Oper} {a : Act} {Q : Exit → Act → World → Prop} (hgd : o.guard = none) (sl x : Operand) (t u : TypeId)
    (ho : o.op = .call { callee := .builtin .append, args := #[sl, x], argTypes := #[t, u] })
    (e : TypeId) (i : TypeInfo) (ht : P.underlying t = some (.slice e)) (hu : P.underlying u = some .string) (hi : P.info? e = some i) (hz : i.zero = some (.int .u8 0))
    (hsize : i.size = 1) (hby : i.bytes = 1)
    (v : Value) (n : Nat) (xs : List Value) (hs : a.eval sl = v) (hown : w.ownsRow 0 e 1 v n xs) (s : ByteArray) (hx : a.eval x = .string s)
    (h63 : n + s.size ≤ maxLen) (hbytes : n + s.size ≤ 140737488355328)
    (h : ∀ v' w', w'.ownsRow 0 e 1 v' (n + s.size) (xs ++ strCells s) → w.grownBy w' v.ownBlock → (v'.ownBlock = v.ownBlock ∨ ∀ g, v'.ownBlock = some g → w.heap.size ≤ g) → wpList P ops Q rest (a.put o.dst v') w') : wpList P ops Q (o :: rest) a w := by
  refine wpList_plain hgd fun K hK => ?_
  obtain ⟨v', w', hr, h2, h3, h4⟩ := append_string_far (P := P) (w := w) t u o.type e i ht hu hi hz hsize hby v n xs hown s h63 hbytes
  unfold Oper.wp execOp
  simp only [ho, resolve, invoke, builtin, Sem.run_bind, Sem.run_pure, Result.andThen_ok, List.map_toArray, List.map_cons, List.map_nil, hs, hx, hr]
  exact hK _ _ (h v' w' h2 h3 h4)
end Go.Lib

namespace Go.Proofs
open Go Go.Shelf Go.RowKit
variable {P : Program} {ρ : Ren}

set_option maxHeartbeats 4000000 in
set_option maxRecDepth 100000 in
/-- WriteString at a builder whose blocks are known: what else lies there stays. -/
theorem Bld.WriteString_far (L : Lays.n166 P ρ) (X : Builder.Extra P ρ) (b : Nat) (bs : List Value) (s : ByteArray) (w : World) (p v : Value) (hp : p = .pointer none ∨ p = .pointer (some ⟨b, 0, none⟩))
    (hbk0 : w.heap[b]? = some (.cells #[p, v] (ρ.t 72) (0, 0))) (hown0 : w.ownsRow 0 (ρ.t 5) 1 v bs.length bs) (hne0 : v.ownBlock ≠ some b) (hlen : bs.length + s.size ≤ 140737488355328) :
    Calls P (ρ.f 166) #[.pointer (some ⟨b, 0, none⟩), .string s] w fun e w' => e = .returned (.tuple #[.int .i64 s.size, .nilIface]) ∧
      ∃ v', w'.heap[b]? = some (.cells #[.pointer (some ⟨b, 0, none⟩), v'] (ρ.t 72) (0, 0)) ∧ w'.ownsRow 0 (ρ.t 5) 1 v' (bs.length + s.size) (bs ++ Lib.strCells s) ∧ v'.ownBlock ≠ some b ∧
        w.heap.size ≤ w'.heap.size ∧ w'.os = w.os ∧ w'.tape = w.tape ∧ w'.output = w.output ∧ (∀ k, k < w.heap.size → k ≠ b → some k ≠ v.ownBlock → w'.heap[k]? = w.heap[k]?) ∧
        (v'.ownBlock = v.ownBlock ∨ ∀ g, v'.ownBlock = some g → w.heap.size ≤ g) := by
  obtain ⟨i0, hi, hz0, hz1, hz2⟩ := info_parts X.infoByte
  have mixed := L.mixed
  have t72 := L.t72; have a72 := L.a72; have z72 := L.z72; have v72 := L.v72; have u72 := run_underlying L.t72
  have t70 := L.t70; have a70 := L.a70; have z70 := L.z70; have v70 := L.v70; have u70 := run_underlying L.t70
  have t37 := L.t37; have a37 := L.a37; have z37 := L.z37; have v37 := L.v37; have u37 := run_underlying L.t37
  have t3 := L.t3; have a3 := L.a3; have z3 := L.z3; have v3 := L.v3; have u3 := run_underlying L.t3
  have t9 := L.t9; have a9 := L.a9; have z9 := L.z9; have v9 := L.v9; have u9 := run_underlying L.t9
  have t4 := L.t4; have a4 := L.a4; have z4 := L.z4; have v4 := L.v4; have u4 := run_underlying L.t4
  have t164 := L.t164; have a164 := L.a164; have z164 := L.z164; have v164 := L.v164; have u164 := run_underlying L.t164
  have t5 := X.t5; have a5 := X.a5; have z5 := X.z5; have v5 := X.v5; have u5 := run_underlying X.t5
  have e240 : ∀ args w, (callFunc (ρ.f 240) args).run P w = .ok (.enter (ρ.f 240) args) w := enters_of L.f240 (by kernel_rfl) rfl
  -- behind copyCheck: only the builder's own address is written
  have cc : Calls P (ρ.f 240) #[.pointer (some ⟨b, 0, none⟩)] w fun e w' => e = .returned (.tuple #[]) ∧ w'.heap[b]? = some (.cells #[.pointer (some ⟨b, 0, none⟩), v] (ρ.t 72) (0, 0)) ∧ (∀ k, k ≠ b → w'.heap[k]? = w.heap[k]?) ∧ w'.heap.size = w.heap.size ∧ w'.os = w.os ∧ w'.tape = w.tape ∧ w'.output = w.output := by
    rcases hp with rfl | rfl
    · refine (Any.Builder_copyCheck_fresh { L with } X.toX72 b w (by simp [World.cell?, hbk0]) (by simp [World.shape?, hbk0]) (Lib.frozen_of_heap hbk0 0)).mono ?_
      rintro e w' ⟨rfl, rfl⟩
      refine ⟨rfl, ?_, fun k hk => ?_, by simp [World.setCell], rfl, rfl, rfl⟩
      · simp [World.setCell, Array.getElem?_modify, hbk0]
      · simp [World.setCell, Array.getElem?_modify, Ne.symm hk]
    · refine (Any.Builder_copyCheck_used { L with } X.toX72 b w (by simp [World.cell?, hbk0])).mono ?_
      rintro e w' ⟨rfl, rfl⟩
      exact ⟨rfl, hbk0, fun _ _ => rfl, rfl, rfl, rfl, rfl⟩
  go_enter L.f166, Body.n166_ntmps ρ
  go_wp2_with (go_at_fn (ρ.f 240); refine cc.mono ?_)
  rintro e w1 ⟨rfl, hbk, hfar, hsz1, hos1, htp1, hout1⟩
  have hown : w1.ownsRow 0 (ρ.t 5) 1 v bs.length bs := by
    refine ⟨hown0.1, ?_⟩
    rcases hown0.2 with h | ⟨g, cap, cur, hv, hB, hg, h3⟩
    · exact .inl h
    · refine .inr ⟨g, cap, cur, hv, hB, ?_, h3⟩
      rw [hfar g (fun e => hne0 (by rw [hv, e]; rfl))]; exact hg
  have c0 : w1.cell? ⟨b, 0, none⟩ = some (.pointer (some ⟨b, 0, none⟩)) := by rw [Lib.cell_of_heap hbk]; rfl
  have c1 : w1.cell? ⟨b, 1, none⟩ = some v := by rw [Lib.cell_of_heap hbk]; rfl
  go_wp2_with (at_builtin; refine Lib.wpList_append_string_far rfl _ _ (ρ.t 37) (ρ.t 9) rfl (ρ.t 5) i0 L.t37 L.t9 hi hz0 hz1 hz2 _ _ _ rfl hown s rfl ?c3 ?c4 ?_)
  case c3 => unfold maxLen; omega
  case c4 => omega
  intro v' w2 hown' hgrow hnew
  have hlt : b < w1.heap.size := (Array.getElem?_eq_some_iff.1 hbk).1
  have hb2 : w2.heap[b]? = some (.cells #[.pointer (some ⟨b, 0, none⟩), v] (ρ.t 72) (0, 0)) := by
    rw [hgrow.block b hlt (fun e => hne0 e.symm)]
    exact hbk
  have d0 : w2.cell? ⟨b, 0, none⟩ = some (.pointer (some ⟨b, 0, none⟩)) := by rw [Lib.cell_of_heap hb2]; rfl
  have d1 : w2.cell? ⟨b, 1, none⟩ = some v := by rw [Lib.cell_of_heap hb2]; rfl
  have f1 : w2.frozen? ⟨b, 1, none⟩ = false := Lib.frozen_of_heap hb2 1
  have hne' : v'.ownBlock ≠ some b := by
    rcases hnew with h | h
    · rw [h]; exact hne0
    · intro h'; have := h b h'; omega
  obtain ⟨ao, n', cap, rfl⟩ : ∃ ao n' cap, v' = .slice ao n' cap := by
    rcases hown'.2 with ⟨hv, _⟩ | ⟨g, cap, cur, hv, _⟩
    · exact ⟨_, _, _, hv⟩
    · exact ⟨_, _, _, hv⟩
  go_wp2
  go_ret2
  refine ⟨rfl, .slice ao n' cap, ?_, ?_, hne', ?_, ?_, ?_, ?_, ?_, ?_⟩
  · simp [World.setCell, Array.getElem?_modify, hb2]
  · refine ⟨hown'.1, ?_⟩
    rcases hown'.2 with h | ⟨g, cap', cur, hv, hB, hg, h3⟩
    · exact .inl h
    · refine .inr ⟨g, cap', cur, hv, hB, ?_, h3⟩
      have : g ≠ b := fun e => hne' (by rw [hv, e]; rfl)
      simp [World.setCell, Array.getElem?_modify, Ne.symm this, hg]
  · have := hgrow.size; simp [World.setCell]; omega
  · exact hgrow.os.trans hos1
  · exact hgrow.tape.trans htp1
  · exact hgrow.output.trans hout1
  · intro k hk hkb hkv
    have e1 : (w2.setCell ⟨b, 1, none⟩ (.slice ao n' cap)).heap[k]? = w2.heap[k]? := by simp [World.setCell, Array.getElem?_modify, Ne.symm hkb]
    rw [e1, hgrow.block k (by omega) hkv, hfar k hkb]
  · rcases hnew with h | h
    · exact .inl h
    · exact .inr fun g hg => by have := h g hg; omega

set_option maxHeartbeats 2000000 in
set_option maxRecDepth 100000 in
/-- String at a builder that holds a byte: only its row's frozen part is told anew. -/
theorem Bld.String_far (L : Lays.n169 P ρ) (X : Builder.Extra P ρ) (b : Nat) (l : List UInt8) (w : World) (p v : Value)
    (hbk : w.heap[b]? = some (.cells #[p, v] (ρ.t 72) (0, 0))) (hown : w.ownsRow 0 (ρ.t 5) 1 v l.length (Lib.byteCells l)) :
    Calls P (ρ.f 169) #[.pointer (some ⟨b, 0, none⟩)] w fun e w' => e = .returned (.string ⟨l.toArray⟩) ∧ w.heap.size ≤ w'.heap.size ∧ w'.os = w.os ∧ w'.tape = w.tape ∧ w'.output = w.output ∧ (∀ k, k < w.heap.size → some k ≠ v.ownBlock → w'.heap[k]? = w.heap[k]?) := by
  have mixed := L.mixed
  have t72 := L.t72; have a72 := L.a72; have z72 := L.z72; have v72 := L.v72; have u72 := run_underlying L.t72
  have t70 := L.t70; have a70 := L.a70; have z70 := L.z70; have v70 := L.v70; have u70 := run_underlying L.t70
  have t37 := L.t37; have a37 := L.a37; have z37 := L.z37; have v37 := L.v37; have u37 := run_underlying L.t37
  have t127 := L.t127; have a127 := L.a127; have z127 := L.z127; have v127 := L.v127; have u127 := run_underlying L.t127
  have t3 := L.t3; have a3 := L.a3; have z3 := L.z3; have v3 := L.v3; have u3 := run_underlying L.t3
  have t9 := L.t9; have a9 := L.a9; have z9 := L.z9; have v9 := L.v9; have u9 := run_underlying L.t9
  have t5 := X.t5; have a5 := X.a5; have z5 := X.z5; have v5 := X.v5; have u5 := run_underlying X.t5
  by_cases h0 : l = []
  · subst h0
    have fin : ∀ (e : Ending) (w' : World), (e = .returned (.string ⟨#[]⟩) ∧ Below w.heap.size w w') → e = .returned (.string ⟨([] : List UInt8).toArray⟩) ∧ w.heap.size ≤ w'.heap.size ∧ w'.os = w.os ∧ w'.tape = w.tape ∧ w'.output = w.output ∧ (∀ k, k < w.heap.size → some k ≠ v.ownBlock → w'.heap[k]? = w.heap[k]?) :=
      fun e w' ⟨he, hb⟩ => ⟨he, hb.size, hb.os, hb.tape, hb.output, fun k hk _ => hb.block k hk⟩
    rcases hown.2 with ⟨rfl, _⟩ | ⟨g, cap, cur, rfl, hbg, hg, _, _, _, _⟩
    · exact (Any.Builder_String_nil L X w.heap.size b p w hbk).mono fin
    · by_cases hc0 : cap = 0
      · subst hc0
        exact (Any.Builder_String_noroom L X w.heap.size b g p cur w (Nat.le_refl _) hbk hg).mono fin
      · exact (Any.Builder_String_room L X w.heap.size b g cap p w hc0 hbk).mono fin
  · have hl0 : l.length ≠ 0 := by simpa using h0
    obtain ⟨g, cap, cur, rfl, hbg, hg, hnc, hcm, hcs, htake⟩ : ∃ g cap cur, v = .slice (some ⟨g, 0, none⟩) l.length cap ∧ 0 ≤ g ∧ w.heap[g]? = some (.cells cur (ρ.t 5) (0, 0)) ∧ l.length ≤ cap ∧ cap ≤ maxLen ∧ cur.size = cap * 1 ∧ cur.toList.take (l.length * 1) = Lib.byteCells l := by
      rcases hown.2 with ⟨_, hz⟩ | ⟨g, cap, cur, hv, r⟩
      · exact absurd hz hl0
      · exact ⟨g, cap, cur, hv, r⟩
    have c1 : w.drew.cell? ⟨b, 1, none⟩ = some (.slice (some ⟨g, 0, none⟩) l.length cap) := by
      have : w.drew.heap[b]? = some (.cells #[p, .slice (some ⟨g, 0, none⟩) l.length cap] (ρ.t 72) (0, 0)) := hbk
      rw [Lib.cell_of_heap this]; rfl
    have hSD : (Builtin.unsafeSliceData_ #[(ρ.t 37)] (ρ.t 127) #[.slice (some ⟨g, 0, none⟩) l.length cap]).run P w.drew = .ok (.pointer (some ⟨g, 0, none⟩)) w.drew :=
      Lib.run_unsafeSliceData_row _ _ _ _ _ _ (by omega)
    have hUS : (Builtin.unsafeString_ #[(ρ.t 127), (ρ.t 3)] (ρ.t 9) #[.pointer (some ⟨g, 0, none⟩), .int .i64 l.length]).run P w.drew = .ok (.string ⟨l.toArray⟩) (w.drew.freeze ⟨g, 0, none⟩ l.length) := by
      refine Lib.run_unsafeString_row w.drew (ρ.t 127) (ρ.t 3) (ρ.t 9) (ρ.t 5) L.t127 X.cellsByte g cur.size (by have hg' : w.drew.heap[g]? = some (.cells cur (ρ.t 5) (0, 0)) := hg; simp [World.shape?, hg']) l h0 (by omega) (by unfold maxLen at hcm; omega) ?_
      intro j x hx
      exact hown.cells (g := g) rfl j (.int .u8 x.toNat) (by simp [Lib.byteCells, hx])
    have fin : w.heap.size ≤ (w.drew.freeze ⟨g, 0, none⟩ l.length).heap.size ∧ (w.drew.freeze ⟨g, 0, none⟩ l.length).os = w.os ∧ (w.drew.freeze ⟨g, 0, none⟩ l.length).tape = w.tape ∧ (w.drew.freeze ⟨g, 0, none⟩ l.length).output = w.output ∧ ∀ k, k < w.heap.size → some k ≠ (Value.slice (some ⟨g, 0, none⟩) l.length cap).ownBlock → (w.drew.freeze ⟨g, 0, none⟩ l.length).heap[k]? = w.heap[k]? := by
      unfold World.freeze
      rw [if_neg hl0]
      refine ⟨?_, rfl, rfl, rfl, fun k _ hk => ?_⟩
      · show w.heap.size ≤ (Array.modify w.heap g _).size
        rw [Array.size_modify]
        exact Nat.le_refl _
      · have hkg : g ≠ k := fun e => hk (by rw [← e]; rfl)
        show (Array.modify w.heap g _)[k]? = _
        rw [Array.getElem?_modify, if_neg hkg]
    go_enter L.f169, Body.n169_ntmps ρ
    go_wp2
    go_region_o
    all_goals (go_wp2; go_ret; exact ⟨rfl, fin⟩)
end Go.Proofs

namespace Go.Sym
open Go Go.Shelf Go.RowKit Go.Proofs
variable {P : Program} {ρ : Go.Shelf.Ren}
theorem bcells_append (a : List UInt8) (b : ByteArray) : bcells (a ++ b.data.toList) = bcells a ++ Lib.strCells b := by simp [bcells, Lib.strCells]
theorem bcells_length (a : List UInt8) : (bcells a).length = a.length := by simp [bcells]

/-- WriteString. -/
theorem fnOk_WriteString (L : Lays.n166 P ρ) (X : Builder.Extra P ρ) {K : Lk} (hk : K.k = 1) (ht : K.t = ρ.t 72) (he : K.e = ρ.t 5) {args : List V} {hp : List (Nat × Ob)} {nx : Nat} {v : V} {hp' : List (Nat × Ob)} {nx' : Nat}
    (h : libSem K args hp nx = some (v, hp', nx')) : FnOk Fence.wide P (ρ.f 166) args hp nx v hp' nx' := by
  unfold libSem at h
  rw [hk] at h
  simp only at h
  split at h
  · rename_i id x
    split at h
    · rename_i t e r s hid
      split at h
      · rename_i o hr
        split at h
        · rename_i hc
          simp only [Bool.and_eq_true, Nat.beq_eq] at hc
          obtain ⟨⟨rfl, h1⟩, h2⟩ := hc
          rw [guardP_some] at h
          obtain ⟨hlen, h⟩ := h
          cases h
          have h1 : t = ρ.t 72 := h1.trans ht
          have h2 : e = ρ.t 5 := h2.trans he
          subst h1 h2
          refine ⟨⟨_, L.f166, by kernel_rfl, rfl⟩, fun n Γ us H hh hn hargs => ?_⟩
          have hΓ : Γ.h o = some (.bld (ρ.t 72) (ρ.t 5) r s) := by rw [hh]; exact hid
          have hΓr : Γ.h r = some (.raw o) := by rw [hh]; exact hr
          obtain ⟨hl, hv⟩ := hargs
          obtain ⟨u0, u1, rfl⟩ : ∃ u0 u1, us = #[u0, u1] := by
            match us, hl with
            | ⟨[a, b]⟩, _ => exact ⟨a, b, rfl⟩
          obtain ⟨b, rfl, hidn, hρ⟩ := (hv 0 _ u0 rfl rfl).ptr_inv
          have hρ := hρ _ hΓ rfl
          obtain ⟨sx, rfl, rfl⟩ := (hv 1 _ u1 rfl rfl).str_inv
          obtain ⟨b', p, vv, hρ', hbk, hp0, hrow⟩ := H.bld o _ _ r s hΓ hΓr
          rw [hρ] at hρ'; cases hρ'
          have hne : o ≠ r := fun e => by subst e; rw [hΓ] at hΓr; cases hΓr
          have hnr := H.lt r (live_raw hΓr)
          have onx : o ≠ nx := fun e => hn nx (Nat.le_refl _) (e ▸ hidn)
          have rnx : r ≠ nx := fun e => hn nx (Nat.le_refl _) (e ▸ hnr)
          have hown : Γ.w.ownsRow 0 (ρ.t 5) 1 vv (bcells s).length (bcells s) := by
            refine ⟨by simp, ?_⟩
            rw [bcells_length]
            rcases hrow with ⟨hv, hs, _⟩ | ⟨g, cap, cur, hg, hv, hbg, h3, h4, h5, h6⟩
            · exact .inl ⟨hv, by rw [hs]; rfl⟩
            · exact .inr ⟨g, cap, cur, hv, Nat.zero_le _, hbg, h3, h4, h5, h6⟩
          have hob : vv.ownBlock ≠ some b := by
            rcases hrow with ⟨hv, hs, _⟩ | ⟨g, cap, cur, hg, hv, _⟩
            · rw [hv]; simp [Value.ownBlock]
            · rw [hv]
              intro hh
              have : g = b := by simpa [Value.ownBlock] using hh
              subst this
              exact hne (H.inj o r g 0 0 (live_bld hΓ) (live_raw hΓr) hρ hg)
          refine callsIn_wide.2 (Calls.mono (Bld.WriteString_far L X b (bcells s) sx Γ.w p vv hp0 hbk hown hob (by
            rw [bcells_length]; have := Lib.size_eq sx; simp only [maxBld] at hlen; omega)) ?_)
          rintro e w' ⟨rfl, v', hbk', hown', hob', hsz, hos, htp, hout, hfar, hnew⟩
          simp only
          obtain ⟨ρ', ρo, ρn, ρr⟩ : ∃ ρ' : Nat → Option (Nat × Nat), ρ' o = some (b, 0) ∧ ρ' nx = v'.ownBlock.map (·, 0) ∧ ∀ i, i ≠ nx → ρ' i = Γ.ρ i :=
            ⟨fun i => if i = nx then v'.ownBlock.map (·, 0) else Γ.ρ i, by simp [onx, hρ], by simp, fun i hi => by simp [hi]⟩
          have hh' : ∀ i, look (put (put (put hp r .dead) nx (.raw o)) o (.bld (ρ.t 72) (ρ.t 5) nx (s ++ sx.data.toList))) i = if i = o then some (.bld (ρ.t 72) (ρ.t 5) nx (s ++ sx.data.toList)) else if i = nx then some (.raw o) else if i = r then some .dead else Γ.h i := by
            intro i
            rw [look_put, look_put, look_put, hh]
            by_cases h1 : o = i
            · simp [h1]
            · rw [if_neg h1, if_neg (Ne.symm h1)]
              by_cases h2 : nx = i
              · simp [h2]
              · rw [if_neg h2, if_neg (Ne.symm h2)]
                by_cases h3 : r = i
                · simp [h3]
                · rw [if_neg h3, if_neg (Ne.symm h3)]
          generalize hgh : look (put (put (put hp r .dead) nx (.raw o)) o (.bld (ρ.t 72) (ρ.t 5) nx (s ++ sx.data.toList))) = h' at hh'
          have ho : h' o = some (.bld (ρ.t 72) (ρ.t 5) nx (s ++ sx.data.toList)) := by rw [hh', if_pos rfl]
          have hx : h' nx = some (.raw o) := by rw [hh', if_neg (Ne.symm onx), if_pos rfl]
          have hd : h' r = some .dead := by rw [hh', if_neg (Ne.symm hne), if_neg rnx, if_pos rfl]
          have hother : ∀ i, i ≠ o → i ≠ nx → i ≠ r → h' i = Γ.h i := fun i h1 h2 h3 => by rw [hh', if_neg h1, if_neg h2, if_neg h3]
          have hdead : ¬ live h' r := by rintro ⟨ob, e, h⟩; rw [hd] at e; cases e; exact h rfl
          have S : BStep Γ { Γ with ρ := ρ', h := h', n := fun i => Γ.n i ∨ i = nx, w := w' } (fun i => i = o ∨ i = r ∨ i = nx) := by
            refine ⟨rfl, fun _ h => .inl h, ?_, ?_, ?_, ?_, ?_, ?_, hsz, hos, htp, hout, ?_⟩
            · intro i hT
              simp only [not_or] at hT
              exact ⟨hother i hT.1 hT.2.2 hT.2.1, ρr i hT.2.2⟩
            · rintro i (rfl | rfl | rfl) hl
              · exact ⟨.inl ⟨_, _, _, _, hΓ⟩, fun b0 base hr0 => by rw [hρ] at hr0; cases hr0; exact ⟨_, _, _, hbk⟩⟩
              · refine ⟨.inr ⟨_, hΓr⟩, fun b0 base hr0 => ?_⟩
                rcases hrow with ⟨_, _, h0⟩ | ⟨g, cap, cur, hg, hv, hbg, _⟩
                · rw [h0] at hr0; cases hr0
                · rw [hg] at hr0; cases hr0; exact ⟨_, _, _, hbg⟩
              · exact absurd (H.lt _ hl) (hn _ (Nat.le_refl _))
            · rintro i (rfl | rfl | rfl) hl
              · refine ⟨.inl ⟨_, _, _, _, ho⟩, .inl hidn, fun b0 base (hr0 : ρ' i = _) => ?_⟩
                rw [ρo] at hr0; cases hr0
                exact ⟨(Array.getElem?_eq_some_iff.1 hbk').1, .inr ⟨i, 0, .inl rfl, live_bld hΓ, hρ⟩⟩
              · exact absurd hl hdead
              · refine ⟨.inr ⟨_, hx⟩, .inr rfl, fun b0 base (hr0 : ρ' i = _) => ?_⟩
                rw [ρn, Option.map_eq_some_iff] at hr0
                obtain ⟨g, hg, he⟩ := hr0
                cases he
                refine ⟨?_, ?_⟩
                · rcases hown'.2 with ⟨hv, _⟩ | ⟨g', cap, cur, hv, _, hbg, _⟩
                  · rw [hv] at hg; cases hg
                  · rw [hv] at hg; cases hg; exact (Array.getElem?_eq_some_iff.1 hbg).1
                · rcases hnew with h | h
                  · rw [h] at hg
                    rcases hrow with ⟨hv, _, _⟩ | ⟨g', cap, cur, hg', hv, hbg, _⟩
                    · rw [hv] at hg; cases hg
                    · rw [hv] at hg; cases hg
                      exact .inr ⟨r, 0, .inr (.inl rfl), live_raw hΓr, hg'⟩
                  · exact .inl (h _ hg)
            · rintro i (rfl | rfl | rfl) hni hl
              · refine ⟨live_bld hΓ, by rw [hρ]; exact ρo, fun t e r0 s0 (h0 : h' i = _) => ?_, fun o0 (h0 : h' i = _) => ?_, fun b0 base c E z hr0 hb0 => ?_⟩
                · rw [ho] at h0; cases h0; exact ⟨r, s, hΓ⟩
                · rw [ho] at h0; cases h0
                · rw [hρ] at hr0; cases hr0
                  rw [hbk] at hb0; cases hb0
                  exact ⟨_, _, _, hbk', rfl⟩
              · exact absurd hl hdead
              · exact absurd hni (hn _ (Nat.le_refl _))
            · rintro i j b0 bi bj (rfl | rfl | rfl) (rfl | rfl | rfl) hi hj (ei : ρ' _ = _) (ej : ρ' _ = _)
              all_goals first | rfl | exact absurd hi hdead | exact absurd hj hdead | skip
              · rw [ρo] at ei; cases ei
                rw [ρn, Option.map_eq_some_iff] at ej
                obtain ⟨g, hg, he⟩ := ej
                cases he; exact absurd hg hob'
              · rw [ρo] at ej; cases ej
                rw [ρn, Option.map_eq_some_iff] at ei
                obtain ⟨g, hg, he⟩ := ei
                cases he; exact absurd hg hob'
            · intro k hk hno
              refine hfar k hk (fun e => ?_) (fun e => ?_)
              · subst e; exact hno o 0 (.inl rfl) (live_bld hΓ) hρ
              · rcases hrow with ⟨hv, _, _⟩ | ⟨g, cap, cur, hg, hv, hbg, _⟩
                · rw [hv] at e; cases e
                · rw [hv] at e; cases e
                  exact hno r 0 (.inr (.inl rfl)) (live_raw hΓr) hg
            · intro i t e r0 s0 (h1 : h' i = _) (h2 : h' r0 = _)
              by_cases hi : i = o
              · subst hi
                rw [ho] at h1; cases h1
                refine .inl ⟨.inl rfl, .inr (.inr rfl), b, .pointer (some ⟨b, 0, none⟩), v', ρo, hbk', .inr rfl, ?_⟩
                have e1 : (s ++ sx.data.toList).length = (bcells s).length + sx.size := by rw [List.length_append, bcells_length, Lib.size_eq]
                rcases hown'.2 with ⟨hv, hz⟩ | ⟨g, cap, cur, hv, _, hbg, h3, h4, h5, h6⟩
                · refine .inl ⟨hv, List.eq_nil_of_length_eq_zero (by omega), ?_⟩
                  show ρ' nx = none
                  rw [ρn, hv]; rfl
                · refine .inr ⟨g, cap, cur, by show ρ' nx = _; rw [ρn, hv]; rfl, by rw [e1]; exact hv, hbg, by rw [e1]; exact h3, h4, h5, ?_⟩
                  rw [e1, bcells_append]; exact h6
              · have hi2 : i ≠ nx := fun e => by subst e; rw [hx] at h1; cases h1
                have hi3 : i ≠ r := fun e => by subst e; rw [hd] at h1; cases h1
                refine .inr ⟨by simp only [not_or]; exact ⟨hi, hi3, hi2⟩, ?_⟩
                rintro (rfl | rfl | rfl)
                · rw [ho] at h2; cases h2
                · rw [hd] at h2; cases h2
                · rw [hx] at h2; cases h2; exact hi rfl
          obtain ⟨H1, E1⟩ := S.ok H
          refine ⟨_, rfl, H1, rfl, ?_, E1, ?_⟩
          · rintro k hk (h | h)
            · exact hn k (by omega) h
            · omega
          · refine .tup _ _ rfl fun i c u hc hu => ?_
            match i, hc, hu with
            | 0, hc, hu =>
              simp at hc hu; subst hc hu
              exact .pure (.int _ _)
            | 1, hc, hu => simp at hc hu; subst hc hu; exact .pure .nili
            | i + 2, hc, hu => simp at hc
        · cases h
      · cases h
    · cases h
  · cases h

/-- String. -/
theorem fnOk_String (L : Lays.n169 P ρ) (X : Builder.Extra P ρ) {K : Lk} (hk : K.k = 2) (ht : K.t = ρ.t 72) (he : K.e = ρ.t 5) {args : List V} {hp : List (Nat × Ob)} {nx : Nat} {v : V} {hp' : List (Nat × Ob)} {nx' : Nat}
    (h : libSem K args hp nx = some (v, hp', nx')) : FnOk Fence.wide P (ρ.f 169) args hp nx v hp' nx' := by
  unfold libSem at h
  rw [hk] at h
  simp only at h
  split at h
  · rename_i id
    split at h
    · rename_i t e r s hid
      split at h
      · rename_i o hr
        split at h
        · rename_i hc
          simp only [Bool.and_eq_true, Nat.beq_eq] at hc
          obtain ⟨⟨rfl, h1⟩, h2⟩ := hc
          cases h
          have h1 : t = ρ.t 72 := h1.trans ht
          have h2 : e = ρ.t 5 := h2.trans he
          subst h1 h2
          refine ⟨⟨_, L.f169, by kernel_rfl, rfl⟩, fun n Γ us H hh hn hargs => ?_⟩
          have hΓ : Γ.h o = some (.bld (ρ.t 72) (ρ.t 5) r s) := by rw [hh]; exact hid
          have hΓr : Γ.h r = some (.raw o) := by rw [hh]; exact hr
          obtain ⟨hl, hv⟩ := hargs
          obtain ⟨u0, rfl⟩ : ∃ u0, us = #[u0] := by
            match us, hl with
            | ⟨[a]⟩, _ => exact ⟨a, rfl⟩
          obtain ⟨b, rfl, hidn, hρ⟩ := (hv 0 _ u0 rfl rfl).ptr_inv
          have hρ := hρ _ hΓ rfl
          obtain ⟨b', p, vv, hρ', hbk, hp0, hrow⟩ := H.bld o _ _ r s hΓ hΓr
          rw [hρ] at hρ'; cases hρ'
          have hne : o ≠ r := fun e => by subst e; rw [hΓ] at hΓr; cases hΓr
          have hown : Γ.w.ownsRow 0 (ρ.t 5) 1 vv s.length (Lib.byteCells s) := by
            refine ⟨by rw [Lib.byteCells_length]; omega, ?_⟩
            rcases hrow with ⟨hv, hs, _⟩ | ⟨g, cap, cur, hg, hv, hbg, h3, h4, h5, h6⟩
            · exact .inl ⟨hv, by rw [hs]; rfl⟩
            · exact .inr ⟨g, cap, cur, hv, Nat.zero_le _, hbg, h3, h4, h5, h6⟩
          refine callsIn_wide.2 (Calls.mono (Bld.String_far L X b s Γ.w p vv hbk hown) ?_)
          rintro e w' ⟨rfl, hsz, hos, htp, hout, hfar⟩
          simp only
          have hh' : ∀ i, look (put (put hp r .dead) o .dead) i = if i = o then some .dead else if i = r then some .dead else Γ.h i := by
            intro i
            rw [look_put, look_put, hh]
            by_cases h1 : o = i
            · simp [h1]
            · rw [if_neg h1, if_neg (Ne.symm h1)]
              by_cases h3 : r = i
              · simp [h3]
              · rw [if_neg h3, if_neg (Ne.symm h3)]
          generalize hgh : look (put (put hp r .dead) o .dead) = h' at hh'
          have ho : h' o = some .dead := by rw [hh', if_pos rfl]
          have hd : h' r = some .dead := by rw [hh', if_neg (Ne.symm hne), if_pos rfl]
          have hother : ∀ i, i ≠ o → i ≠ r → h' i = Γ.h i := fun i h1 h2 => by rw [hh', if_neg h1, if_neg h2]
          have hdead : ∀ i, (i = o ∨ i = r) → ¬ live h' i := by
            rintro i (rfl | rfl) ⟨ob, e, h⟩
            · rw [ho] at e; cases e; exact h rfl
            · rw [hd] at e; cases e; exact h rfl
          have S : BStep Γ { Γ with h := h', w := w' } (fun i => i = o ∨ i = r) := by
            refine ⟨rfl, fun _ h => h, ?_, ?_, fun i hT hl => absurd hl (hdead i hT), fun i hT _ hl => absurd hl (hdead i hT), fun i j _ _ _ hT _ hl => absurd hl (hdead i hT), ?_, hsz, hos, htp, hout, ?_⟩
            · intro i hT
              simp only [not_or] at hT
              exact ⟨hother i hT.1 hT.2, rfl⟩
            · rintro i (rfl | rfl) hl
              · exact ⟨.inl ⟨_, _, _, _, hΓ⟩, fun b0 base hr0 => by rw [hρ] at hr0; cases hr0; exact ⟨_, _, _, hbk⟩⟩
              · refine ⟨.inr ⟨_, hΓr⟩, fun b0 base hr0 => ?_⟩
                rcases hrow with ⟨_, _, h0⟩ | ⟨g, cap, cur, hg, hv, hbg, _⟩
                · rw [h0] at hr0; cases hr0
                · rw [hg] at hr0; cases hr0; exact ⟨_, _, _, hbg⟩
            · intro k hk hno
              refine hfar k hk (fun e => ?_)
              rcases hrow with ⟨hv, _, _⟩ | ⟨g, cap, cur, hg, hv, hbg, _⟩
              · rw [hv] at e; cases e
              · rw [hv] at e; cases e
                exact hno r 0 (.inr rfl) (live_raw hΓr) hg
            · intro i t e r0 s0 (h1 : h' i = _) (h2 : h' r0 = _)
              refine .inr ⟨fun hT => hdead i hT (live_bld h1), fun hT => hdead r0 hT (live_raw h2)⟩
          obtain ⟨H1, E1⟩ := S.ok H
          refine ⟨_, rfl, H1, rfl, hn, E1, ?_⟩
          have e : (⟨s.toArray⟩ : ByteArray).data.toList = s := by simp
          have q : VR { Γ with h := h', w := w' } (.str (⟨s.toArray⟩ : ByteArray).data.toList) (.string ⟨s.toArray⟩) := .pure (.str _)
          rw [e] at q; exact q
        · cases h
      · cases h
    · cases h
  · cases h

theorem repeatN_eq (s : List UInt8) (n : Nat) : repeatN s n = Lib.repeatL s n := by
  induction n with
  | zero => rfl
  | succ n ih => simp [repeatN, Lib.repeatL, ih]
/-- strings.Repeat. -/
theorem fnOk_Repeat (L : Lays.n105 P ρ) (X : Builder.Extra P ρ) {K : Lk} (hk : K.k = 3) {args : List V} {hp : List (Nat × Ob)} {nx : Nat} {v : V} {hp' : List (Nat × Ob)} {nx' : Nat}
    (h : libSem K args hp nx = some (v, hp', nx')) : FnOk Fence.wide P (ρ.f 105) args hp nx v hp' nx' := by
  unfold libSem at h
  rw [hk] at h
  simp only at h
  split at h
  · rename_i s n
    rw [guardP_some] at h
    obtain ⟨⟨h0, h1, h2⟩, h⟩ := h
    cases h
    obtain ⟨m, rfl⟩ : ∃ m : Nat, n = m := ⟨n.toNat, by omega⟩
    rw [Int.toNat_natCast] at h1 ⊢
    refine ⟨⟨_, L.f105, by kernel_rfl, rfl⟩, fun n Γ us H hh hn hargs => ?_⟩
    obtain ⟨hl, hv⟩ := hargs
    obtain ⟨u0, u1, rfl⟩ : ∃ u0 u1, us = #[u0, u1] := by
      match us, hl with
      | ⟨[a, b]⟩, _ => exact ⟨a, b, rfl⟩
    obtain ⟨sx, rfl, rfl⟩ := (hv 0 _ u0 rfl rfl).str_inv
    have hu1 := hv 1 _ u1 rfl rfl
    have hu1 : u1 = .int .i64 (m : Int) := by cases hu1 with | pure h => cases h; rfl
    subst hu1
    refine callsIn_wide.2 (Calls.mono (Any.strings_Repeat L X sx m Γ.w (by simp only [maxBld] at h2; omega) (by have := Lib.size_eq sx; simp only [maxBld] at h1; rw [this]; omega)) ?_)
    rintro e w' ⟨rfl, hb⟩
    simp only
    obtain ⟨H1, E1⟩ := step_ext H w' Γ.n (fun _ _ => False) (fun k hk => hb.block k hk) hb.size hb.os hb.tape hb.output (fun _ h => h) (fun _ _ h => h.elim)
    have e : (fun b o => Γ.Z b o ∨ False) = Γ.Z := by funext b o; simp
    rw [e] at H1 E1
    refine ⟨_, rfl, H1, hh, hn, E1, ?_⟩
    rw [repeatN_eq]
    have e2 : (⟨(Lib.repeatL sx.data.toList m).toArray⟩ : ByteArray).data.toList = Lib.repeatL sx.data.toList m := by simp
    have q : VR { Γ with w := w' } (.str (⟨(Lib.repeatL sx.data.toList m).toArray⟩ : ByteArray).data.toList) (.string ⟨(Lib.repeatL sx.data.toList m).toArray⟩) := .pure (.str _)
    rw [e2] at q; exact q
  · cases h

end Go.Sym
