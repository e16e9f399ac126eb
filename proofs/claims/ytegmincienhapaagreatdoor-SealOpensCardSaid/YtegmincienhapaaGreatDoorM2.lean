/-
  Lemmas on the machine of plain values and on what functions of this program answer, part 2.
-/
import Derived.Test.YtegmincienhapaaGreatDoorM1
import Derived.Shelf.Strings.Builder1
import Derived.Shelf.Strings.Repeat
import Derived.Shelf.Strings.SlTrimAscii
import Derived.Shelf.Strings.Builder2
import Derived.Shelf.Strings.Trim
import Derived.Shelf.Small.Utf8
import Derived.Shelf.Small.Strs
import Derived.Shelf.Strings.BuilderF
import Derived.Shelf.Strings.Search1
import Derived.Shelf.Strings.Prefix
import Derived.Shelf.Unicode.Decode
import Derived.Shelf.Strings.Runes
import Derived.Shelf.Strings.AsciiSet
import Derived.Shelf.Bits.Mul64
import Derived.Shelf.Unicode.DecodeSlow
import Derived.Shelf.Unicode.DecodeAny
import Derived.Shelf.Unicode.DecodeLast
import Derived.Test.YtegmincienhapaaGreatDoorProg
import Derived.Test.YtegmincienhapaaGreatDoorRows
set_option linter.unusedVariables false
set_option linter.unusedSimpArgs false
namespace Go.Lib
open Go Go.RowKit
theorem append_string_far {P : Program} {w : World} (t u ty e : TypeId) (i : TypeInfo) (ht : P.underlying t = some (.slice e)) (hu : P.underlying u = some .string) (hi : P.info? e = some i) (hz : i.zero = some (.int .u8 0))
    (hsize : i.size = 1) (hby : i.bytes = 1) (v : Value) (n : Nat) (xs : List Value) (hown : w.ownsRow 0 e 1 v n xs) (s : ByteArray) (h63 : n + s.size ≤ maxLen) (hbytes : n + s.size ≤ 140737488355328) :
    ∃ v' w', (Builtin.append_ #[t, u] ty #[v, .string s]).run P w = .ok v' w' ∧ w'.ownsRow 0 e 1 v' (n + s.size) (xs ++ strCells s) ∧ w.grownBy w' v.ownBlock ∧
      (v'.ownBlock = v.ownBlock ∨ ∀ g, v'.ownBlock = some g → w.heap.size ≤ g) := by
  obtain ⟨v', w', hr, h2, h3, h4⟩ := run_append_own_string (P := P) w 0 t u ty e i ht hu hi hz hsize hby v n xs hown s h63 hbytes (Nat.zero_le _)
  refine ⟨v', w', hr, h2, h3, ?_⟩
  have hxl : xs.length = n := by simpa using hown.1
  rcases hown.2 with ⟨rfl, rfl⟩ | ⟨g, cap, cur, rfl, hbg, hg, hnc, hcm, hcs, htake⟩
  · right
    have hown2 : w.ownsRow w.heap.size e 1 (.slice none 0 0) 0 xs := ⟨hown.1, .inl ⟨rfl, rfl⟩⟩
    obtain ⟨v2, w2, hr2, k2, _, _⟩ := run_append_own_string (P := P) w w.heap.size t u ty e i ht hu hi hz hsize hby _ 0 xs hown2 s h63 hbytes (Nat.le_refl _)
    rw [hr] at hr2
    cases hr2
    intro g hgb
    rcases k2.2 with ⟨hv, _⟩ | ⟨g', cap', cur', hv, hge, _⟩
    · subst hv; cases hgb
    · subst hv; cases hgb; exact hge
  · by_cases hroom : n + s.size ≤ cap
    · left
      have hr1 := run_append_room_string (P := P) w t u ty e i ht hu hi hsize g n cap cur hg s hroom (by omega)
      rw [hr] at hr1
      cases hr1; rfl
    · right
      have hsmall : n + s.size ≤ 9223372036854775807 := by simp only [maxLen] at h63; omega
      have holds : ∀ j u, xs[j]? = some u → w.cell? ((⟨g, 0, none⟩ : Addr).add j) = some u := hown.cells (g := g) rfl
      have hr1 := run_append_grow_string (P := P) w t u ty e i (.int .u8 0) ht hu hi hz ⟨g, 0, none⟩ n cap xs (by rw [hsize]; simpa using hxl) holds s (by omega) (by omega) (by rw [hby]; exact growslice_fits (by omega) (by omega))
      rw [hr] at hr1
      cases hr1
      intro g' hgb
      cases hgb; exact Nat.le_refl _
theorem wpList_append_string_far {P : Program} {w : World} {ops : Array Oper} {rest : List Oper} {o : Oper} {a : Act} {Q : Exit → Act → World → Prop} (hgd : o.guard = none) (sl x : Operand) (t u : TypeId)
    (ho : o.op = .call { callee := .builtin .append, args := #[sl, x], argTypes := #[t, u] })
    (e : TypeId) (i : TypeInfo) (ht : P.underlying t = some (.slice e)) (hu : P.underlying u = some .string) (hi : P.info? e = some i) (hz : i.zero = some (.int .u8 0))
    (hsize : i.size = 1) (hby : i.bytes = 1)
    (v : Value) (n : Nat) (xs : List Value) (hs : a.eval sl = v) (hown : w.ownsRow 0 e 1 v n xs) (s : ByteArray) (hx : a.eval x = .string s)
    (h63 : n + s.size ≤ maxLen) (hbytes : n + s.size ≤ 140737488355328)
    (h : ∀ v' w', w'.ownsRow 0 e 1 v' (n + s.size) (xs ++ strCells s) → w.grownBy w' v.ownBlock → (v'.ownBlock = v.ownBlock ∨ ∀ g, v'.ownBlock = some g → w.heap.size ≤ g) → wpList P ops Q rest (a.put o.dst v') w') : wpList P ops Q (o :: rest) a w := by
  refine wpList_plain hgd fun K hK => ?_
  obtain ⟨v', w', hr, h2, h3, h4⟩ := append_string_far (P := P) (w := w) t u o.type e i ht hu hi hz hsize hby v n xs hown s h63 hbytes
  unfold Oper.wp execOp
  simp only [ho, resolve, invoke, builtin, Sem.run_bind, Sem.run_pure, Result.andThen_ok, List.map_toArray, List.map_cons, List.map_nil, hs, hx, hr]
  exact hK _ _ (h v' w' h2 h3 h4)
end Go.Lib
namespace Go.Proofs
open Go Go.Shelf Go.RowKit
variable {P : Program} {ρ : Ren}
set_option maxHeartbeats 4000000 in
set_option maxRecDepth 100000 in
theorem Bld.WriteString_far (L : Lays.n166 P ρ) (X : Builder.Extra P ρ) (b : Nat) (bs : List Value) (s : ByteArray) (w : World) (p v : Value) (hp : p = .pointer none ∨ p = .pointer (some ⟨b, 0, none⟩))
    (hbk0 : w.heap[b]? = some (.cells #[p, v] (ρ.t 72) (0, 0))) (hown0 : w.ownsRow 0 (ρ.t 5) 1 v bs.length bs) (hne0 : v.ownBlock ≠ some b) (hlen : bs.length + s.size ≤ 140737488355328) :
    Calls P (ρ.f 166) #[.pointer (some ⟨b, 0, none⟩), .string s] w fun e w' => e = .returned (.tuple #[.int .i64 s.size, .nilIface]) ∧
      ∃ v', w'.heap[b]? = some (.cells #[.pointer (some ⟨b, 0, none⟩), v'] (ρ.t 72) (0, 0)) ∧ w'.ownsRow 0 (ρ.t 5) 1 v' (bs.length + s.size) (bs ++ Lib.strCells s) ∧ v'.ownBlock ≠ some b ∧
        w.heap.size ≤ w'.heap.size ∧ w'.os = w.os ∧ w'.tape = w.tape ∧ w'.output = w.output ∧ (∀ k, k < w.heap.size → k ≠ b → some k ≠ v.ownBlock → w'.heap[k]? = w.heap[k]?) ∧
        (v'.ownBlock = v.ownBlock ∨ ∀ g, v'.ownBlock = some g → w.heap.size ≤ g) := by
  obtain ⟨i0, hi, hz0, hz1, hz2⟩ := info_parts X.infoByte
  have mixed := L.mixed
  have t72 := L.t72; have a72 := L.a72; have z72 := L.z72; have v72 := L.v72; have u72 := run_underlying L.t72
  have t70 := L.t70; have a70 := L.a70; have z70 := L.z70; have v70 := L.v70; have u70 := run_underlying L.t70
  have t37 := L.t37; have a37 := L.a37; have z37 := L.z37; have v37 := L.v37; have u37 := run_underlying L.t37
  have t3 := L.t3; have a3 := L.a3; have z3 := L.z3; have v3 := L.v3; have u3 := run_underlying L.t3
  have t9 := L.t9; have a9 := L.a9; have z9 := L.z9; have v9 := L.v9; have u9 := run_underlying L.t9
  have t4 := L.t4; have a4 := L.a4; have z4 := L.z4; have v4 := L.v4; have u4 := run_underlying L.t4
  have t164 := L.t164; have a164 := L.a164; have z164 := L.z164; have v164 := L.v164; have u164 := run_underlying L.t164
  have t5 := X.t5; have a5 := X.a5; have z5 := X.z5; have v5 := X.v5; have u5 := run_underlying X.t5
  have e240 : ∀ args w, (callFunc (ρ.f 240) args).run P w = .ok (.enter (ρ.f 240) args) w := enters_of L.f240 (by kernel_rfl) rfl
  have cc : Calls P (ρ.f 240) #[.pointer (some ⟨b, 0, none⟩)] w fun e w' => e = .returned (.tuple #[]) ∧ w'.heap[b]? = some (.cells #[.pointer (some ⟨b, 0, none⟩), v] (ρ.t 72) (0, 0)) ∧ (∀ k, k ≠ b → w'.heap[k]? = w.heap[k]?) ∧ w'.heap.size = w.heap.size ∧ w'.os = w.os ∧ w'.tape = w.tape ∧ w'.output = w.output := by
    rcases hp with rfl | rfl
    · refine (Any.Builder_copyCheck_fresh { L with } X.toX72 b w (by simp [World.cell?, hbk0]) (by simp [World.shape?, hbk0]) (Lib.frozen_of_heap hbk0 0)).mono ?_
      rintro e w' ⟨rfl, rfl⟩
      refine ⟨rfl, ?_, fun k hk => ?_, by simp [World.setCell], rfl, rfl, rfl⟩
      · simp [World.setCell, Array.getElem?_modify, hbk0]
      · simp [World.setCell, Array.getElem?_modify, Ne.symm hk]
    · refine (Any.Builder_copyCheck_used { L with } X.toX72 b w (by simp [World.cell?, hbk0])).mono ?_
      rintro e w' ⟨rfl, rfl⟩
      exact ⟨rfl, hbk0, fun _ _ => rfl, rfl, rfl, rfl, rfl⟩
  go_enter L.f166, Body.n166_ntmps ρ
  go_wp2_with (go_at_fn (ρ.f 240); refine cc.mono ?_)
  rintro e w1 ⟨rfl, hbk, hfar, hsz1, hos1, htp1, hout1⟩
  have hown : w1.ownsRow 0 (ρ.t 5) 1 v bs.length bs := by
    refine ⟨hown0.1, ?_⟩
    rcases hown0.2 with h | ⟨g, cap, cur, hv, hB, hg, h3⟩
    · exact .inl h
    · refine .inr ⟨g, cap, cur, hv, hB, ?_, h3⟩
      rw [hfar g (fun e => hne0 (by rw [hv, e]; rfl))]; exact hg
  have c0 : w1.cell? ⟨b, 0, none⟩ = some (.pointer (some ⟨b, 0, none⟩)) := by rw [Lib.cell_of_heap hbk]; rfl
  have c1 : w1.cell? ⟨b, 1, none⟩ = some v := by rw [Lib.cell_of_heap hbk]; rfl
  go_wp2_with (at_builtin; refine Lib.wpList_append_string_far rfl _ _ (ρ.t 37) (ρ.t 9) rfl (ρ.t 5) i0 L.t37 L.t9 hi hz0 hz1 hz2 _ _ _ rfl hown s rfl ?c3 ?c4 ?_)
  case c3 => unfold maxLen; omega
  case c4 => omega
  intro v' w2 hown' hgrow hnew
  have hlt : b < w1.heap.size := (Array.getElem?_eq_some_iff.1 hbk).1
  have hb2 : w2.heap[b]? = some (.cells #[.pointer (some ⟨b, 0, none⟩), v] (ρ.t 72) (0, 0)) := by
    rw [hgrow.block b hlt (fun e => hne0 e.symm)]
    exact hbk
  have d0 : w2.cell? ⟨b, 0, none⟩ = some (.pointer (some ⟨b, 0, none⟩)) := by rw [Lib.cell_of_heap hb2]; rfl
  have d1 : w2.cell? ⟨b, 1, none⟩ = some v := by rw [Lib.cell_of_heap hb2]; rfl
  have f1 : w2.frozen? ⟨b, 1, none⟩ = false := Lib.frozen_of_heap hb2 1
  have hne' : v'.ownBlock ≠ some b := by
    rcases hnew with h | h
    · rw [h]; exact hne0
    · intro h'; have := h b h'; omega
  obtain ⟨ao, n', cap, rfl⟩ : ∃ ao n' cap, v' = .slice ao n' cap := by
    rcases hown'.2 with ⟨hv, _⟩ | ⟨g, cap, cur, hv, _⟩
    · exact ⟨_, _, _, hv⟩
    · exact ⟨_, _, _, hv⟩
  go_wp2
  go_ret2
  refine ⟨rfl, .slice ao n' cap, ?_, ?_, hne', ?_, ?_, ?_, ?_, ?_, ?_⟩
  · simp [World.setCell, Array.getElem?_modify, hb2]
  · refine ⟨hown'.1, ?_⟩
    rcases hown'.2 with h | ⟨g, cap', cur, hv, hB, hg, h3⟩
    · exact .inl h
    · refine .inr ⟨g, cap', cur, hv, hB, ?_, h3⟩
      have : g ≠ b := fun e => hne' (by rw [hv, e]; rfl)
      simp [World.setCell, Array.getElem?_modify, Ne.symm this, hg]
  · have := hgrow.size; simp [World.setCell]; omega
  · exact hgrow.os.trans hos1
  · exact hgrow.tape.trans htp1
  · exact hgrow.output.trans hout1
  · intro k hk hkb hkv
    have e1 : (w2.setCell ⟨b, 1, none⟩ (.slice ao n' cap)).heap[k]? = w2.heap[k]? := by simp [World.setCell, Array.getElem?_modify, Ne.symm hkb]
    rw [e1, hgrow.block k (by omega) hkv, hfar k hkb]
  · rcases hnew with h | h
    · exact .inl h
    · exact .inr fun g hg => by have := h g hg; omega
set_option maxHeartbeats 2000000 in
set_option maxRecDepth 100000 in
theorem Bld.String_far (L : Lays.n169 P ρ) (X : Builder.Extra P ρ) (b : Nat) (l : List UInt8) (w : World) (p v : Value)
    (hbk : w.heap[b]? = some (.cells #[p, v] (ρ.t 72) (0, 0))) (hown : w.ownsRow 0 (ρ.t 5) 1 v l.length (Lib.byteCells l)) :
    Calls P (ρ.f 169) #[.pointer (some ⟨b, 0, none⟩)] w fun e w' => e = .returned (.string ⟨l.toArray⟩) ∧ w.heap.size ≤ w'.heap.size ∧ w'.os = w.os ∧ w'.tape = w.tape ∧ w'.output = w.output ∧ (∀ k, k < w.heap.size → some k ≠ v.ownBlock → w'.heap[k]? = w.heap[k]?) := by
  have mixed := L.mixed
  have t72 := L.t72; have a72 := L.a72; have z72 := L.z72; have v72 := L.v72; have u72 := run_underlying L.t72
  have t70 := L.t70; have a70 := L.a70; have z70 := L.z70; have v70 := L.v70; have u70 := run_underlying L.t70
  have t37 := L.t37; have a37 := L.a37; have z37 := L.z37; have v37 := L.v37; have u37 := run_underlying L.t37
  have t127 := L.t127; have a127 := L.a127; have z127 := L.z127; have v127 := L.v127; have u127 := run_underlying L.t127
  have t3 := L.t3; have a3 := L.a3; have z3 := L.z3; have v3 := L.v3; have u3 := run_underlying L.t3
  have t9 := L.t9; have a9 := L.a9; have z9 := L.z9; have v9 := L.v9; have u9 := run_underlying L.t9
  have t5 := X.t5; have a5 := X.a5; have z5 := X.z5; have v5 := X.v5; have u5 := run_underlying X.t5
  by_cases h0 : l = []
  · subst h0
    have fin : ∀ (e : Ending) (w' : World), (e = .returned (.string ⟨#[]⟩) ∧ Below w.heap.size w w') → e = .returned (.string ⟨([] : List UInt8).toArray⟩) ∧ w.heap.size ≤ w'.heap.size ∧ w'.os = w.os ∧ w'.tape = w.tape ∧ w'.output = w.output ∧ (∀ k, k < w.heap.size → some k ≠ v.ownBlock → w'.heap[k]? = w.heap[k]?) :=
      fun e w' ⟨he, hb⟩ => ⟨he, hb.size, hb.os, hb.tape, hb.output, fun k hk _ => hb.block k hk⟩
    rcases hown.2 with ⟨rfl, _⟩ | ⟨g, cap, cur, rfl, hbg, hg, _, _, _, _⟩
    · exact (Any.Builder_String_nil L X w.heap.size b p w hbk).mono fin
    · by_cases hc0 : cap = 0
      · subst hc0
        exact (Any.Builder_String_noroom L X w.heap.size b g p cur w (Nat.le_refl _) hbk hg).mono fin
      · exact (Any.Builder_String_room L X w.heap.size b g cap p w hc0 hbk).mono fin
  · have hl0 : l.length ≠ 0 := by simpa using h0
    obtain ⟨g, cap, cur, rfl, hbg, hg, hnc, hcm, hcs, htake⟩ : ∃ g cap cur, v = .slice (some ⟨g, 0, none⟩) l.length cap ∧ 0 ≤ g ∧ w.heap[g]? = some (.cells cur (ρ.t 5) (0, 0)) ∧ l.length ≤ cap ∧ cap ≤ maxLen ∧ cur.size = cap * 1 ∧ cur.toList.take (l.length * 1) = Lib.byteCells l := by
      rcases hown.2 with ⟨_, hz⟩ | ⟨g, cap, cur, hv, r⟩
      · exact absurd hz hl0
      · exact ⟨g, cap, cur, hv, r⟩
    have c1 : w.drew.cell? ⟨b, 1, none⟩ = some (.slice (some ⟨g, 0, none⟩) l.length cap) := by
      have : w.drew.heap[b]? = some (.cells #[p, .slice (some ⟨g, 0, none⟩) l.length cap] (ρ.t 72) (0, 0)) := hbk
      rw [Lib.cell_of_heap this]; rfl
    have hSD : (Builtin.unsafeSliceData_ #[(ρ.t 37)] (ρ.t 127) #[.slice (some ⟨g, 0, none⟩) l.length cap]).run P w.drew = .ok (.pointer (some ⟨g, 0, none⟩)) w.drew :=
      Lib.run_unsafeSliceData_row _ _ _ _ _ _ (by omega)
    have hUS : (Builtin.unsafeString_ #[(ρ.t 127), (ρ.t 3)] (ρ.t 9) #[.pointer (some ⟨g, 0, none⟩), .int .i64 l.length]).run P w.drew = .ok (.string ⟨l.toArray⟩) (w.drew.freeze ⟨g, 0, none⟩ l.length) := by
      refine Lib.run_unsafeString_row w.drew (ρ.t 127) (ρ.t 3) (ρ.t 9) (ρ.t 5) L.t127 X.cellsByte g cur.size (by have hg' : w.drew.heap[g]? = some (.cells cur (ρ.t 5) (0, 0)) := hg; simp [World.shape?, hg']) l h0 (by omega) (by unfold maxLen at hcm; omega) ?_
      intro j x hx
      exact hown.cells (g := g) rfl j (.int .u8 x.toNat) (by simp [Lib.byteCells, hx])
    have fin : w.heap.size ≤ (w.drew.freeze ⟨g, 0, none⟩ l.length).heap.size ∧ (w.drew.freeze ⟨g, 0, none⟩ l.length).os = w.os ∧ (w.drew.freeze ⟨g, 0, none⟩ l.length).tape = w.tape ∧ (w.drew.freeze ⟨g, 0, none⟩ l.length).output = w.output ∧ ∀ k, k < w.heap.size → some k ≠ (Value.slice (some ⟨g, 0, none⟩) l.length cap).ownBlock → (w.drew.freeze ⟨g, 0, none⟩ l.length).heap[k]? = w.heap[k]? := by
      unfold World.freeze
      rw [if_neg hl0]
      refine ⟨?_, rfl, rfl, rfl, fun k _ hk => ?_⟩
      · show w.heap.size ≤ (Array.modify w.heap g _).size
        rw [Array.size_modify]
        exact Nat.le_refl _
      · have hkg : g ≠ k := fun e => hk (by rw [← e]; rfl)
        show (Array.modify w.heap g _)[k]? = _
        rw [Array.getElem?_modify, if_neg hkg]
    go_enter L.f169, Body.n169_ntmps ρ
    go_wp2
    go_region_o
    all_goals (go_wp2; go_ret; exact ⟨rfl, fin⟩)
end Go.Proofs
namespace Go.Sym
open Go Go.Shelf Go.RowKit Go.Proofs
variable {P : Program} {ρ : Go.Shelf.Ren}
theorem bcells_append (a : List UInt8) (b : ByteArray) : bcells (a ++ b.data.toList) = bcells a ++ Lib.strCells b := by simp [bcells, Lib.strCells]
theorem bcells_length (a : List UInt8) : (bcells a).length = a.length := by simp [bcells]
theorem fnOk_WriteString (L : Lays.n166 P ρ) (X : Builder.Extra P ρ) {K : Lk} (hk : K.k = 1) (ht : K.t = ρ.t 72) (he : K.e = ρ.t 5) {args : List V} {hp : List (Nat × Ob)} {nx : Nat} {v : V} {hp' : List (Nat × Ob)} {nx' : Nat}
    (h : libSem K args hp nx = some (v, hp', nx')) : FnOk Fence.wide P (ρ.f 166) args hp nx v hp' nx' := by
  unfold libSem at h
  rw [hk] at h
  simp only at h
  split at h
  · rename_i id x
    split at h
    · rename_i t e r s hid
      split at h
      · rename_i o hr
        split at h
        · rename_i hc
          simp only [Bool.and_eq_true, Nat.beq_eq] at hc
          obtain ⟨⟨rfl, h1⟩, h2⟩ := hc
          rw [guardP_some] at h
          obtain ⟨hlen, h⟩ := h
          cases h
          have h1 : t = ρ.t 72 := h1.trans ht
          have h2 : e = ρ.t 5 := h2.trans he
          subst h1 h2
          refine ⟨⟨_, L.f166, by kernel_rfl, rfl⟩, fun n Γ us H hh hn hargs => ?_⟩
          have hΓ : Γ.h o = some (.bld (ρ.t 72) (ρ.t 5) r s) := by rw [hh]; exact hid
          have hΓr : Γ.h r = some (.raw o) := by rw [hh]; exact hr
          obtain ⟨hl, hv⟩ := hargs
          obtain ⟨u0, u1, rfl⟩ : ∃ u0 u1, us = #[u0, u1] := by
            match us, hl with
            | ⟨[a, b]⟩, _ => exact ⟨a, b, rfl⟩
          obtain ⟨b, rfl, hidn, hρ⟩ := (hv 0 _ u0 rfl rfl).ptr_inv
          have hρ := hρ _ hΓ rfl
          obtain ⟨sx, rfl, rfl⟩ := (hv 1 _ u1 rfl rfl).str_inv
          obtain ⟨b', p, vv, hρ', hbk, hp0, hrow⟩ := H.bld o _ _ r s hΓ hΓr
          rw [hρ] at hρ'; cases hρ'
          have hne : o ≠ r := fun e => by subst e; rw [hΓ] at hΓr; cases hΓr
          have hnr := H.lt r (live_raw hΓr)
          have onx : o ≠ nx := fun e => hn nx (Nat.le_refl _) (e ▸ hidn)
          have rnx : r ≠ nx := fun e => hn nx (Nat.le_refl _) (e ▸ hnr)
          have hown : Γ.w.ownsRow 0 (ρ.t 5) 1 vv (bcells s).length (bcells s) := by
            refine ⟨by simp, ?_⟩
            rw [bcells_length]
            rcases hrow with ⟨hv, hs, _⟩ | ⟨g, cap, cur, hg, hv, hbg, h3, h4, h5, h6⟩
            · exact .inl ⟨hv, by rw [hs]; rfl⟩
            · exact .inr ⟨g, cap, cur, hv, Nat.zero_le _, hbg, h3, h4, h5, h6⟩
          have hob : vv.ownBlock ≠ some b := by
            rcases hrow with ⟨hv, hs, _⟩ | ⟨g, cap, cur, hg, hv, _⟩
            · rw [hv]; simp [Value.ownBlock]
            · rw [hv]
              intro hh
              have : g = b := by simpa [Value.ownBlock] using hh
              subst this
              exact hne (H.inj o r g 0 0 (live_bld hΓ) (live_raw hΓr) hρ hg)
          refine callsIn_wide.2 (Calls.mono (Bld.WriteString_far L X b (bcells s) sx Γ.w p vv hp0 hbk hown hob (by
            rw [bcells_length]; have := Lib.size_eq sx; simp only [maxBld] at hlen; omega)) ?_)
          rintro e w' ⟨rfl, v', hbk', hown', hob', hsz, hos, htp, hout, hfar, hnew⟩
          simp only
          obtain ⟨ρ', ρo, ρn, ρr⟩ : ∃ ρ' : Nat → Option (Nat × Nat), ρ' o = some (b, 0) ∧ ρ' nx = v'.ownBlock.map (·, 0) ∧ ∀ i, i ≠ nx → ρ' i = Γ.ρ i :=
            ⟨fun i => if i = nx then v'.ownBlock.map (·, 0) else Γ.ρ i, by simp [onx, hρ], by simp, fun i hi => by simp [hi]⟩
          have hh' : ∀ i, look (put (put (put hp r .dead) nx (.raw o)) o (.bld (ρ.t 72) (ρ.t 5) nx (s ++ sx.data.toList))) i = if i = o then some (.bld (ρ.t 72) (ρ.t 5) nx (s ++ sx.data.toList)) else if i = nx then some (.raw o) else if i = r then some .dead else Γ.h i := by
            intro i
            rw [look_put, look_put, look_put, hh]
            by_cases h1 : o = i
            · simp [h1]
            · rw [if_neg h1, if_neg (Ne.symm h1)]
              by_cases h2 : nx = i
              · simp [h2]
              · rw [if_neg h2, if_neg (Ne.symm h2)]
                by_cases h3 : r = i
                · simp [h3]
                · rw [if_neg h3, if_neg (Ne.symm h3)]
          generalize hgh : look (put (put (put hp r .dead) nx (.raw o)) o (.bld (ρ.t 72) (ρ.t 5) nx (s ++ sx.data.toList))) = h' at hh'
          have ho : h' o = some (.bld (ρ.t 72) (ρ.t 5) nx (s ++ sx.data.toList)) := by rw [hh', if_pos rfl]
          have hx : h' nx = some (.raw o) := by rw [hh', if_neg (Ne.symm onx), if_pos rfl]
          have hd : h' r = some .dead := by rw [hh', if_neg (Ne.symm hne), if_neg rnx, if_pos rfl]
          have hother : ∀ i, i ≠ o → i ≠ nx → i ≠ r → h' i = Γ.h i := fun i h1 h2 h3 => by rw [hh', if_neg h1, if_neg h2, if_neg h3]
          have hdead : ¬ live h' r := by rintro ⟨ob, e, h⟩; rw [hd] at e; cases e; exact h rfl
          have S : BStep Γ { Γ with ρ := ρ', h := h', n := fun i => Γ.n i ∨ i = nx, w := w' } (fun i => i = o ∨ i = r ∨ i = nx) := by
            refine ⟨rfl, fun _ h => .inl h, ?_, ?_, ?_, ?_, ?_, ?_, hsz, hos, htp, hout, ?_⟩
            · intro i hT
              simp only [not_or] at hT
              exact ⟨hother i hT.1 hT.2.2 hT.2.1, ρr i hT.2.2⟩
            · rintro i (rfl | rfl | rfl) hl
              · exact ⟨.inl ⟨_, _, _, _, hΓ⟩, fun b0 base hr0 => by rw [hρ] at hr0; cases hr0; exact ⟨_, _, _, hbk⟩⟩
              · refine ⟨.inr ⟨_, hΓr⟩, fun b0 base hr0 => ?_⟩
                rcases hrow with ⟨_, _, h0⟩ | ⟨g, cap, cur, hg, hv, hbg, _⟩
                · rw [h0] at hr0; cases hr0
                · rw [hg] at hr0; cases hr0; exact ⟨_, _, _, hbg⟩
              · exact absurd (H.lt _ hl) (hn _ (Nat.le_refl _))
            · rintro i (rfl | rfl | rfl) hl
              · refine ⟨.inl ⟨_, _, _, _, ho⟩, .inl hidn, fun b0 base (hr0 : ρ' i = _) => ?_⟩
                rw [ρo] at hr0; cases hr0
                exact ⟨(Array.getElem?_eq_some_iff.1 hbk').1, .inr ⟨i, 0, .inl rfl, live_bld hΓ, hρ⟩⟩
              · exact absurd hl hdead
              · refine ⟨.inr ⟨_, hx⟩, .inr rfl, fun b0 base (hr0 : ρ' i = _) => ?_⟩
                rw [ρn, Option.map_eq_some_iff] at hr0
                obtain ⟨g, hg, he⟩ := hr0
                cases he
                refine ⟨?_, ?_⟩
                · rcases hown'.2 with ⟨hv, _⟩ | ⟨g', cap, cur, hv, _, hbg, _⟩
                  · rw [hv] at hg; cases hg
                  · rw [hv] at hg; cases hg; exact (Array.getElem?_eq_some_iff.1 hbg).1
                · rcases hnew with h | h
                  · rw [h] at hg
                    rcases hrow with ⟨hv, _, _⟩ | ⟨g', cap, cur, hg', hv, hbg, _⟩
                    · rw [hv] at hg; cases hg
                    · rw [hv] at hg; cases hg
                      exact .inr ⟨r, 0, .inr (.inl rfl), live_raw hΓr, hg'⟩
                  · exact .inl (h _ hg)
            · rintro i (rfl | rfl | rfl) hni hl
              · refine ⟨live_bld hΓ, by rw [hρ]; exact ρo, fun t e r0 s0 (h0 : h' i = _) => ?_, fun o0 (h0 : h' i = _) => ?_, fun b0 base c E z hr0 hb0 => ?_⟩
                · rw [ho] at h0; cases h0; exact ⟨r, s, hΓ⟩
                · rw [ho] at h0; cases h0
                · rw [hρ] at hr0; cases hr0
                  rw [hbk] at hb0; cases hb0
                  exact ⟨_, _, _, hbk', rfl⟩
              · exact absurd hl hdead
              · exact absurd hni (hn _ (Nat.le_refl _))
            · rintro i j b0 bi bj (rfl | rfl | rfl) (rfl | rfl | rfl) hi hj (ei : ρ' _ = _) (ej : ρ' _ = _)
              all_goals first | rfl | exact absurd hi hdead | exact absurd hj hdead | skip
              · rw [ρo] at ei; cases ei
                rw [ρn, Option.map_eq_some_iff] at ej
                obtain ⟨g, hg, he⟩ := ej
                cases he; exact absurd hg hob'
              · rw [ρo] at ej; cases ej
                rw [ρn, Option.map_eq_some_iff] at ei
                obtain ⟨g, hg, he⟩ := ei
                cases he; exact absurd hg hob'
            · intro k hk hno
              refine hfar k hk (fun e => ?_) (fun e => ?_)
              · subst e; exact hno o 0 (.inl rfl) (live_bld hΓ) hρ
              · rcases hrow with ⟨hv, _, _⟩ | ⟨g, cap, cur, hg, hv, hbg, _⟩
                · rw [hv] at e; cases e
                · rw [hv] at e; cases e
                  exact hno r 0 (.inr (.inl rfl)) (live_raw hΓr) hg
            · intro i t e r0 s0 (h1 : h' i = _) (h2 : h' r0 = _)
              by_cases hi : i = o
              · subst hi
                rw [ho] at h1; cases h1
                refine .inl ⟨.inl rfl, .inr (.inr rfl), b, .pointer (some ⟨b, 0, none⟩), v', ρo, hbk', .inr rfl, ?_⟩
                have e1 : (s ++ sx.data.toList).length = (bcells s).length + sx.size := by rw [List.length_append, bcells_length, Lib.size_eq]
                rcases hown'.2 with ⟨hv, hz⟩ | ⟨g, cap, cur, hv, _, hbg, h3, h4, h5, h6⟩
                · refine .inl ⟨hv, List.eq_nil_of_length_eq_zero (by omega), ?_⟩
                  show ρ' nx = none
                  rw [ρn, hv]; rfl
                · refine .inr ⟨g, cap, cur, by show ρ' nx = _; rw [ρn, hv]; rfl, by rw [e1]; exact hv, hbg, by rw [e1]; exact h3, h4, h5, ?_⟩
                  rw [e1, bcells_append]; exact h6
              · have hi2 : i ≠ nx := fun e => by subst e; rw [hx] at h1; cases h1
                have hi3 : i ≠ r := fun e => by subst e; rw [hd] at h1; cases h1
                refine .inr ⟨by simp only [not_or]; exact ⟨hi, hi3, hi2⟩, ?_⟩
                rintro (rfl | rfl | rfl)
                · rw [ho] at h2; cases h2
                · rw [hd] at h2; cases h2
                · rw [hx] at h2; cases h2; exact hi rfl
          obtain ⟨H1, E1⟩ := S.ok H
          refine ⟨_, rfl, H1, rfl, ?_, E1, ?_⟩
          · rintro k hk (h | h)
            · exact hn k (by omega) h
            · omega
          · refine .tup _ _ rfl fun i c u hc hu => ?_
            match i, hc, hu with
            | 0, hc, hu =>
              simp at hc hu; subst hc hu
              exact .pure (.int _ _)
            | 1, hc, hu => simp at hc hu; subst hc hu; exact .pure .nili
            | i + 2, hc, hu => simp at hc
        · cases h
      · cases h
    · cases h
  · cases h
theorem fnOk_String (L : Lays.n169 P ρ) (X : Builder.Extra P ρ) {K : Lk} (hk : K.k = 2) (ht : K.t = ρ.t 72) (he : K.e = ρ.t 5) {args : List V} {hp : List (Nat × Ob)} {nx : Nat} {v : V} {hp' : List (Nat × Ob)} {nx' : Nat}
    (h : libSem K args hp nx = some (v, hp', nx')) : FnOk Fence.wide P (ρ.f 169) args hp nx v hp' nx' := by
  unfold libSem at h
  rw [hk] at h
  simp only at h
  split at h
  · rename_i id
    split at h
    · rename_i t e r s hid
      split at h
      · rename_i o hr
        split at h
        · rename_i hc
          simp only [Bool.and_eq_true, Nat.beq_eq] at hc
          obtain ⟨⟨rfl, h1⟩, h2⟩ := hc
          cases h
          have h1 : t = ρ.t 72 := h1.trans ht
          have h2 : e = ρ.t 5 := h2.trans he
          subst h1 h2
          refine ⟨⟨_, L.f169, by kernel_rfl, rfl⟩, fun n Γ us H hh hn hargs => ?_⟩
          have hΓ : Γ.h o = some (.bld (ρ.t 72) (ρ.t 5) r s) := by rw [hh]; exact hid
          have hΓr : Γ.h r = some (.raw o) := by rw [hh]; exact hr
          obtain ⟨hl, hv⟩ := hargs
          obtain ⟨u0, rfl⟩ : ∃ u0, us = #[u0] := by
            match us, hl with
            | ⟨[a]⟩, _ => exact ⟨a, rfl⟩
          obtain ⟨b, rfl, hidn, hρ⟩ := (hv 0 _ u0 rfl rfl).ptr_inv
          have hρ := hρ _ hΓ rfl
          obtain ⟨b', p, vv, hρ', hbk, hp0, hrow⟩ := H.bld o _ _ r s hΓ hΓr
          rw [hρ] at hρ'; cases hρ'
          have hne : o ≠ r := fun e => by subst e; rw [hΓ] at hΓr; cases hΓr
          have hown : Γ.w.ownsRow 0 (ρ.t 5) 1 vv s.length (Lib.byteCells s) := by
            refine ⟨by rw [Lib.byteCells_length]; omega, ?_⟩
            rcases hrow with ⟨hv, hs, _⟩ | ⟨g, cap, cur, hg, hv, hbg, h3, h4, h5, h6⟩
            · exact .inl ⟨hv, by rw [hs]; rfl⟩
            · exact .inr ⟨g, cap, cur, hv, Nat.zero_le _, hbg, h3, h4, h5, h6⟩
          refine callsIn_wide.2 (Calls.mono (Bld.String_far L X b s Γ.w p vv hbk hown) ?_)
          rintro e w' ⟨rfl, hsz, hos, htp, hout, hfar⟩
          simp only
          have hh' : ∀ i, look (put (put hp r .dead) o .dead) i = if i = o then some .dead else if i = r then some .dead else Γ.h i := by
            intro i
            rw [look_put, look_put, hh]
            by_cases h1 : o = i
            · simp [h1]
            · rw [if_neg h1, if_neg (Ne.symm h1)]
              by_cases h3 : r = i
              · simp [h3]
              · rw [if_neg h3, if_neg (Ne.symm h3)]
          generalize hgh : look (put (put hp r .dead) o .dead) = h' at hh'
          have ho : h' o = some .dead := by rw [hh', if_pos rfl]
          have hd : h' r = some .dead := by rw [hh', if_neg (Ne.symm hne), if_pos rfl]
          have hother : ∀ i, i ≠ o → i ≠ r → h' i = Γ.h i := fun i h1 h2 => by rw [hh', if_neg h1, if_neg h2]
          have hdead : ∀ i, (i = o ∨ i = r) → ¬ live h' i := by
            rintro i (rfl | rfl) ⟨ob, e, h⟩
            · rw [ho] at e; cases e; exact h rfl
            · rw [hd] at e; cases e; exact h rfl
          have S : BStep Γ { Γ with h := h', w := w' } (fun i => i = o ∨ i = r) := by
            refine ⟨rfl, fun _ h => h, ?_, ?_, fun i hT hl => absurd hl (hdead i hT), fun i hT _ hl => absurd hl (hdead i hT), fun i j _ _ _ hT _ hl => absurd hl (hdead i hT), ?_, hsz, hos, htp, hout, ?_⟩
            · intro i hT
              simp only [not_or] at hT
              exact ⟨hother i hT.1 hT.2, rfl⟩
            · rintro i (rfl | rfl) hl
              · exact ⟨.inl ⟨_, _, _, _, hΓ⟩, fun b0 base hr0 => by rw [hρ] at hr0; cases hr0; exact ⟨_, _, _, hbk⟩⟩
              · refine ⟨.inr ⟨_, hΓr⟩, fun b0 base hr0 => ?_⟩
                rcases hrow with ⟨_, _, h0⟩ | ⟨g, cap, cur, hg, hv, hbg, _⟩
                · rw [h0] at hr0; cases hr0
                · rw [hg] at hr0; cases hr0; exact ⟨_, _, _, hbg⟩
            · intro k hk hno
              refine hfar k hk (fun e => ?_)
              rcases hrow with ⟨hv, _, _⟩ | ⟨g, cap, cur, hg, hv, hbg, _⟩
              · rw [hv] at e; cases e
              · rw [hv] at e; cases e
                exact hno r 0 (.inr rfl) (live_raw hΓr) hg
            · intro i t e r0 s0 (h1 : h' i = _) (h2 : h' r0 = _)
              refine .inr ⟨fun hT => hdead i hT (live_bld h1), fun hT => hdead r0 hT (live_raw h2)⟩
          obtain ⟨H1, E1⟩ := S.ok H
          refine ⟨_, rfl, H1, rfl, hn, E1, ?_⟩
          have e : (⟨s.toArray⟩ : ByteArray).data.toList = s := by simp
          have q : VR { Γ with h := h', w := w' } (.str (⟨s.toArray⟩ : ByteArray).data.toList) (.string ⟨s.toArray⟩) := .pure (.str _)
          rw [e] at q; exact q
        · cases h
      · cases h
    · cases h
  · cases h
theorem repeatN_eq (s : List UInt8) (n : Nat) : repeatN s n = Lib.repeatL s n := by
  induction n with
  | zero => rfl
  | succ n ih => simp [repeatN, Lib.repeatL, ih]
theorem fnOk_Repeat (L : Lays.n105 P ρ) (X : Builder.Extra P ρ) {K : Lk} (hk : K.k = 3) {args : List V} {hp : List (Nat × Ob)} {nx : Nat} {v : V} {hp' : List (Nat × Ob)} {nx' : Nat}
    (h : libSem K args hp nx = some (v, hp', nx')) : FnOk Fence.wide P (ρ.f 105) args hp nx v hp' nx' := by
  unfold libSem at h
  rw [hk] at h
  simp only at h
  split at h
  · rename_i s n
    rw [guardP_some] at h
    obtain ⟨⟨h0, h1, h2⟩, h⟩ := h
    cases h
    obtain ⟨m, rfl⟩ : ∃ m : Nat, n = m := ⟨n.toNat, by omega⟩
    rw [Int.toNat_natCast] at h1 ⊢
    refine ⟨⟨_, L.f105, by kernel_rfl, rfl⟩, fun n Γ us H hh hn hargs => ?_⟩
    obtain ⟨hl, hv⟩ := hargs
    obtain ⟨u0, u1, rfl⟩ : ∃ u0 u1, us = #[u0, u1] := by
      match us, hl with
      | ⟨[a, b]⟩, _ => exact ⟨a, b, rfl⟩
    obtain ⟨sx, rfl, rfl⟩ := (hv 0 _ u0 rfl rfl).str_inv
    have hu1 := hv 1 _ u1 rfl rfl
    have hu1 : u1 = .int .i64 (m : Int) := by cases hu1 with | pure h => cases h; rfl
    subst hu1
    refine callsIn_wide.2 (Calls.mono (Any.strings_Repeat L X sx m Γ.w (by simp only [maxBld] at h2; omega) (by have := Lib.size_eq sx; simp only [maxBld] at h1; rw [this]; omega)) ?_)
    rintro e w' ⟨rfl, hb⟩
    simp only
    obtain ⟨H1, E1⟩ := step_ext H w' Γ.n (fun _ _ => False) (fun k hk => hb.block k hk) hb.size hb.os hb.tape hb.output (fun _ h => h) (fun _ _ h => h.elim)
    have e : (fun b o => Γ.Z b o ∨ False) = Γ.Z := by funext b o; simp
    rw [e] at H1 E1
    refine ⟨_, rfl, H1, hh, hn, E1, ?_⟩
    rw [repeatN_eq]
    have e2 : (⟨(Lib.repeatL sx.data.toList m).toArray⟩ : ByteArray).data.toList = Lib.repeatL sx.data.toList m := by simp
    have q : VR { Γ with w := w' } (.str (⟨(Lib.repeatL sx.data.toList m).toArray⟩ : ByteArray).data.toList) (.string ⟨(Lib.repeatL sx.data.toList m).toArray⟩) := .pure (.str _)
    rw [e2] at q; exact q
  · cases h
theorem fnOk_Len (L : Lays.n170 P ρ) {K : Lk} (hk : K.k = 4) (ht : K.t = ρ.t 72) (he : K.e = ρ.t 5) {args : List V} {hp : List (Nat × Ob)} {nx : Nat} {v : V} {hp' : List (Nat × Ob)} {nx' : Nat}
    (h : libSem K args hp nx = some (v, hp', nx')) : FnOk Fence.wide P (ρ.f 170) args hp nx v hp' nx' := by
  unfold libSem at h
  rw [hk] at h
  simp only at h
  split at h
  · rename_i id
    split at h
    · rename_i t e r s hid
      split at h
      · rename_i o hr
        split at h
        · rename_i hc
          simp only [Bool.and_eq_true, Nat.beq_eq] at hc
          obtain ⟨⟨rfl, h1⟩, h2⟩ := hc
          cases h
          have h1 : t = ρ.t 72 := h1.trans ht
          have h2 : e = ρ.t 5 := h2.trans he
          subst h1 h2
          refine ⟨⟨_, L.f170, by kernel_rfl, rfl⟩, fun n Γ us H hh hn hargs => ?_⟩
          have hΓ : Γ.h o = some (.bld (ρ.t 72) (ρ.t 5) r s) := by rw [hh]; exact hid
          have hΓr : Γ.h r = some (.raw o) := by rw [hh]; exact hr
          obtain ⟨hl, hv⟩ := hargs
          obtain ⟨u0, rfl⟩ : ∃ u0, us = #[u0] := by
            match us, hl with
            | ⟨[a]⟩, _ => exact ⟨a, rfl⟩
          obtain ⟨b, rfl, hidn, hρ⟩ := (hv 0 _ u0 rfl rfl).ptr_inv
          have hρ := hρ _ hΓ rfl
          obtain ⟨b', p, vv, hρ', hbk, hp0, hrow⟩ := H.bld o _ _ r s hΓ hΓr
          rw [hρ] at hρ'; cases hρ'
          have hne : o ≠ r := fun e => by subst e; rw [hΓ] at hΓr; cases hΓr
          have hob : vv.ownBlock ≠ some b := by
            rcases hrow with ⟨hv, hs, _⟩ | ⟨g, cap, cur, hg, hv, _⟩
            · rw [hv]; simp [Value.ownBlock]
            · rw [hv]
              intro hh
              have : g = b := by simpa [Value.ownBlock] using hh
              subst this
              exact hne (H.inj o r g 0 0 (live_bld hΓ) (live_raw hΓr) hρ hg)
          have hown : Γ.w.ownsRow 0 (ρ.t 5) 1 vv (bcells s).length (bcells s) := by
            refine ⟨by simp, ?_⟩
            rw [bcells_length]
            rcases hrow with ⟨hv, hs, _⟩ | ⟨g, cap, cur, hg, hv, hbg, h3, h4, h5, h6⟩
            · exact .inl ⟨hv, by rw [hs]; rfl⟩
            · exact .inr ⟨g, cap, cur, hv, Nat.zero_le _, hbg, h3, h4, h5, h6⟩
          have hB : Lib.IsBuilder (ρ.t 72) (ρ.t 5) 0 b (bcells s) Γ.w := by
            rcases hp0 with rfl | rfl
            · exact .inl ⟨Nat.zero_le _, vv, hbk, hown, hob⟩
            · exact .inr ⟨Nat.zero_le _, vv, hbk, hown, hob⟩
          refine callsIn_wide.2 (Calls.mono (Any.Builder_Len L 0 b (bcells s) Γ.w hB) ?_)
          rintro e w' ⟨rfl, rfl⟩
          simp only
          refine ⟨Γ, rfl, H, hh, hn, Evo.refl Γ, ?_⟩
          rw [bcells_length]
          exact .pure (.int _ _)
        · cases h
      · cases h
    · cases h
  · cases h
end Go.Sym
set_option linter.unusedVariables false
set_option linter.unusedSimpArgs false
namespace Go.Sym
open Go Go.Shelf Go.RowKit Go.Proofs
variable {P : Program} {ρ : Go.Shelf.Ren}
theorem fnOk_Trim (L : Lays.n160 P ρ) (h116 : (P.info? (ρ.t 116)).map (fun i => (i.zero, i.size)) = some (some (.agg (Array.replicate 256 (.bool false))), 256)) {K : Lk} (hk : K.k = 5) {args : List V} {hp : List (Nat × Ob)} {nx : Nat} {v : V} {hp' : List (Nat × Ob)} {nx' : Nat}
    (h : libSem K args hp nx = some (v, hp', nx')) : FnOk Fence.wide P (ρ.f 160) args hp nx v hp' nx' := by
  unfold libSem at h
  rw [hk] at h
  simp only at h
  split at h
  · rename_i s c
    rw [guardP_some] at h
    obtain ⟨⟨h0, h1, h2⟩, h⟩ := h
    cases h
    refine ⟨⟨_, L.f160, by kernel_rfl, rfl⟩, fun n Γ us H hh hn hargs => ?_⟩
    obtain ⟨hl, hv⟩ := hargs
    obtain ⟨u0, u1, rfl⟩ : ∃ u0 u1, us = #[u0, u1] := by
      match us, hl with
      | ⟨[a, b]⟩, _ => exact ⟨a, b, rfl⟩
    obtain ⟨sx, rfl, rfl⟩ := (hv 0 _ u0 rfl rfl).str_inv
    obtain ⟨cx, rfl, rfl⟩ := (hv 1 _ u1 rfl rfl).str_inv
    refine callsIn_wide.2 (Calls.mono (Any.strings_Trim_laid L h116 sx cx Γ.w (by have := Lib.size_eq sx; simp only [maxBld] at h0; omega) (by have := Lib.size_eq cx; omega) (ascii_of_all h2)) ?_)
    rintro e w' ⟨rfl, hb⟩
    simp only
    obtain ⟨H1, E1⟩ := step_ext H w' Γ.n (fun _ _ => False) (fun k hk => hb.block k hk) hb.size hb.os hb.tape hb.output (fun _ h => h) (fun _ _ h => h.elim)
    have e : (fun b o => Γ.Z b o ∨ False) = Γ.Z := by funext b o; simp
    rw [e] at H1 E1
    refine ⟨_, rfl, H1, hh, hn, E1, ?_⟩
    have e1 : trimB sx.data.toList cx.data.toList = Lib.trimS sx.data.toList cx.data.toList := rfl
    rw [e1]
    have e2 : (⟨(Lib.trimS sx.data.toList cx.data.toList).toArray⟩ : ByteArray).data.toList = Lib.trimS sx.data.toList cx.data.toList := by simp
    have q : VR { Γ with w := w' } (.str (⟨(Lib.trimS sx.data.toList cx.data.toList).toArray⟩ : ByteArray).data.toList) (.string ⟨(Lib.trimS sx.data.toList cx.data.toList).toArray⟩) := .pure (.str _)
    rw [e2] at q; exact q
  · cases h
def LibL (P : Program) (l : List (Nat × Lk)) : Prop := ∀ f kind args hp nx v hp' nx', look l f = some kind → libSem kind args hp nx = some (v, hp', nx') → FnOk Fence.wide P f args hp nx v hp' nx'
theorem LibL.nil : LibL P [] := fun _ _ _ _ _ _ _ _ h => by cases h
theorem LibL.cons {f : Nat} {K : Lk} {l : List (Nat × Lk)} (h : ∀ args hp nx v hp' nx', libSem K args hp nx = some (v, hp', nx') → FnOk Fence.wide P f args hp nx v hp' nx') (t : LibL P l) : LibL P ((f, K) :: l) := by
  intro g kind args hp nx v hp' nx' hl hs
  simp only [look] at hl
  split at hl
  · rename_i e; cases hl; subst e; exact h _ _ _ _ _ _ hs
  · exact t _ _ _ _ _ _ _ _ hl hs
theorem LibL.ok {C : Cfg} {l : List (Nat × Lk)} (h : LibL P l) (hC : C.lib = l) : LibOk Fence.wide P C := by
  intro f kind args hp nx v hp' nx' hl hs
  rw [hC] at hl
  exact h _ _ _ _ _ _ _ _ hl hs
end Go.Sym
namespace Go.Proofs
open Go.Shelf
def Tryz.lays160_ren : Go.Shelf.Ren := ⟨fun | 160 => 27 | 232 => 38 | 231 => 37 | 227 => 39 | 234 => 41 | 233 => 40 | 236 => 43 | 235 => 42 | 228 => 54 | 271 => 57 | 151 => 56 | 197 => 55 | 120 => 85 | 152 => 84 | 260 => 83 | 137 => 111 | 119 => 112 | 224 => 113 | 225 => 114 | 217 => 127 | 266 => 128 | n => n, fun | 9 => 9 | 4 => 4 | 3 => 3 | 5 => 5 | 117 => 71 | 116 => 70 | 0 => 0 | 124 => 74 | 21 => 21 | 105 => 85 | 46 => 92 | 119 => 144 | 139 => 147 | 138 => 146 | n => n, fun | 3 => 0 | 4 => 1 | n => n⟩
theorem Tryz.lays160 : Go.Proofs.Lays.n160 Tryz.prog Tryz.lays160_ren := {
  mixed := by kernel_rfl
  f119 := Tryz.func112.trans (congrArg some (by kernel_rfl))
  f120 := Tryz.func85.trans (congrArg some (by kernel_rfl))
  f137 := Tryz.func111.trans (congrArg some (by kernel_rfl))
  f151 := Tryz.func56.trans (congrArg some (by kernel_rfl))
  f152 := Tryz.func84.trans (congrArg some (by kernel_rfl))
  f160 := Tryz.func27.trans (congrArg some (by kernel_rfl))
  f197 := Tryz.func55.trans (congrArg some (by kernel_rfl))
  f217 := Tryz.func127.trans (congrArg some (by kernel_rfl))
  f224 := Tryz.func113.trans (congrArg some (by kernel_rfl))
  f225 := Tryz.func114.trans (congrArg some (by kernel_rfl))
  f227 := Tryz.func39.trans (congrArg some (by kernel_rfl))
  f228 := Tryz.func54.trans (congrArg some (by kernel_rfl))
  f231 := Tryz.func37.trans (congrArg some (by kernel_rfl))
  f232 := Tryz.func38.trans (congrArg some (by kernel_rfl))
  f233 := Tryz.func40.trans (congrArg some (by kernel_rfl))
  f234 := Tryz.func41.trans (congrArg some (by kernel_rfl))
  f235 := Tryz.func42.trans (congrArg some (by kernel_rfl))
  f236 := Tryz.func43.trans (congrArg some (by kernel_rfl))
  f260 := Tryz.func83.trans (congrArg some (by kernel_rfl))
  f266 := Tryz.func128.trans (congrArg some (by kernel_rfl))
  f271 := Tryz.func57.trans (congrArg some (by kernel_rfl))
  t0 := Tryz.underlying0
  a0 := Tryz.isAgg0
  z0 := Tryz.sizeOf0
  v0 := Tryz.zeroValue0
  t3 := Tryz.underlying3
  a3 := Tryz.isAgg3
  z3 := Tryz.sizeOf3
  v3 := Tryz.zeroValue3
  t4 := Tryz.underlying4
  a4 := Tryz.isAgg4
  z4 := Tryz.sizeOf4
  v4 := Tryz.zeroValue4
  t5 := Tryz.underlying5
  a5 := Tryz.isAgg5
  z5 := Tryz.sizeOf5
  v5 := Tryz.zeroValue5
  t9 := Tryz.underlying9
  a9 := Tryz.isAgg9
  z9 := Tryz.sizeOf9
  v9 := Tryz.zeroValue9
  t21 := Tryz.underlying21
  a21 := Tryz.isAgg21
  z21 := Tryz.sizeOf21
  v21 := Tryz.zeroValue21
  t46 := Tryz.underlying92
  a46 := Tryz.isAgg92
  z46 := Tryz.sizeOf92
  v46 := Tryz.zeroValue92
  t105 := Tryz.underlying85
  a105 := Tryz.isAgg85
  z105 := Tryz.sizeOf85
  v105 := Tryz.zeroValue85
  t116 := Tryz.underlying70
  a116 := Tryz.isAgg70
  z116 := Tryz.sizeOf70
  t117 := Tryz.underlying71
  a117 := Tryz.isAgg71
  z117 := Tryz.sizeOf71
  v117 := Tryz.zeroValue71
  t119 := Tryz.underlying144
  a119 := Tryz.isAgg144
  z119 := Tryz.sizeOf144
  t124 := Tryz.underlying74
  a124 := Tryz.isAgg74
  z124 := Tryz.sizeOf74
  v124 := Tryz.zeroValue74
  t138 := Tryz.underlying146
  a138 := Tryz.isAgg146
  z138 := Tryz.sizeOf146
  v138 := Tryz.zeroValue146
  t139 := Tryz.underlying147
  a139 := Tryz.isAgg147
  z139 := Tryz.sizeOf147
  v139 := Tryz.zeroValue147
  g3 := by kernel_rfl
  g4 := by kernel_rfl }
def Tryz.lays105_ren : Go.Shelf.Ren := ⟨fun | 105 => 47 | 212 => 66 | 99 => 67 | 165 => 68 | 166 => 69 | 170 => 70 | 169 => 71 | 263 => 90 | 264 => 91 | 206 => 92 | 240 => 93 | 241 => 94 | 276 => 118 | 277 => 119 | n => n, fun | 9 => 9 | 3 => 3 | 4 => 4 | 20 => 20 | 0 => 0 | 46 => 92 | 109 => 102 | 5 => 5 | 72 => 107 | 76 => 111 | 51 => 66 | 146 => 127 | 53 => 22 | 148 => 129 | 70 => 105 | 37 => 62 | 75 => 110 | 127 => 131 | 164 => 152 | 80 => 114 | n => n, fun | n => n⟩
theorem Tryz.lays105 : Go.Proofs.Lays.n105 Tryz.prog Tryz.lays105_ren := {
  mixed := by kernel_rfl
  f99 := Tryz.func67.trans (congrArg some (by kernel_rfl))
  f105 := Tryz.func47.trans (congrArg some (by kernel_rfl))
  f165 := Tryz.func68.trans (congrArg some (by kernel_rfl))
  f166 := Tryz.func69.trans (congrArg some (by kernel_rfl))
  f169 := Tryz.func71.trans (congrArg some (by kernel_rfl))
  f170 := Tryz.func70.trans (congrArg some (by kernel_rfl))
  f206 := Tryz.func92.trans (congrArg some (by kernel_rfl))
  f212 := Tryz.func66.trans (congrArg some (by kernel_rfl))
  f240 := Tryz.func93.trans (congrArg some (by kernel_rfl))
  f241 := Tryz.func94.trans (congrArg some (by kernel_rfl))
  f263 := Tryz.func90.trans (congrArg some (by kernel_rfl))
  f264 := Tryz.func91.trans (congrArg some (by kernel_rfl))
  f276 := Tryz.func118.trans (congrArg some (by kernel_rfl))
  f277 := Tryz.func119.trans (congrArg some (by kernel_rfl))
  t0 := Tryz.underlying0
  a0 := Tryz.isAgg0
  z0 := Tryz.sizeOf0
  v0 := Tryz.zeroValue0
  t3 := Tryz.underlying3
  a3 := Tryz.isAgg3
  z3 := Tryz.sizeOf3
  v3 := Tryz.zeroValue3
  t4 := Tryz.underlying4
  a4 := Tryz.isAgg4
  z4 := Tryz.sizeOf4
  v4 := Tryz.zeroValue4
  t5 := Tryz.underlying5
  a5 := Tryz.isAgg5
  z5 := Tryz.sizeOf5
  v5 := Tryz.zeroValue5
  t9 := Tryz.underlying9
  a9 := Tryz.isAgg9
  z9 := Tryz.sizeOf9
  v9 := Tryz.zeroValue9
  t20 := Tryz.underlying20
  a20 := Tryz.isAgg20
  z20 := Tryz.sizeOf20
  v20 := Tryz.zeroValue20
  t37 := Tryz.underlying62
  a37 := Tryz.isAgg62
  z37 := Tryz.sizeOf62
  v37 := Tryz.zeroValue62
  t46 := Tryz.underlying92
  a46 := Tryz.isAgg92
  z46 := Tryz.sizeOf92
  v46 := Tryz.zeroValue92
  t51 := Tryz.underlying66
  a51 := Tryz.isAgg66
  z51 := Tryz.sizeOf66
  v51 := Tryz.zeroValue66
  t53 := Tryz.underlying22
  a53 := Tryz.isAgg22
  z53 := Tryz.sizeOf22
  v53 := Tryz.zeroValue22
  t70 := Tryz.underlying105
  a70 := Tryz.isAgg105
  z70 := Tryz.sizeOf105
  v70 := Tryz.zeroValue105
  t72 := Tryz.underlying107
  a72 := Tryz.isAgg107
  z72 := Tryz.sizeOf107
  v72 := Tryz.zeroValue107
  t75 := Tryz.underlying110
  a75 := Tryz.isAgg110
  z75 := Tryz.sizeOf110
  v75 := Tryz.zeroValue110
  t76 := Tryz.underlying111
  a76 := Tryz.isAgg111
  z76 := Tryz.sizeOf111
  v76 := Tryz.zeroValue111
  t109 := Tryz.underlying102
  a109 := Tryz.isAgg102
  z109 := Tryz.sizeOf102
  v109 := Tryz.zeroValue102
  t127 := Tryz.underlying131
  a127 := Tryz.isAgg131
  z127 := Tryz.sizeOf131
  v127 := Tryz.zeroValue131
  t146 := Tryz.underlying127
  a146 := Tryz.isAgg127
  z146 := Tryz.sizeOf127
  v146 := Tryz.zeroValue127
  t148 := Tryz.underlying129
  a148 := Tryz.isAgg129
  z148 := Tryz.sizeOf129
  v148 := Tryz.zeroValue129
  t164 := Tryz.underlying152
  a164 := Tryz.isAgg152
  z164 := Tryz.sizeOf152
  v164 := Tryz.zeroValue152 }
theorem Tryz.Builder_Extra_105 : Builder.Extra Tryz.prog Tryz.lays105_ren := {
  sizeBuilder := by kernel_rfl
  liesBuilder := by kernel_rfl
  t5 := Tryz.underlying5
  a5 := Tryz.isAgg5
  z5 := Tryz.sizeOf5
  v5 := Tryz.zeroValue5
  infoByte := by kernel_rfl
  cellsByte := by kernel_rfl
  sizeByte := by kernel_rfl
  neB5 := by decide }
end Go.Proofs
set_option linter.unusedVariables false
set_option linter.unusedSimpArgs false
namespace Go.Proofs
open Go.Sym
def Tryz.cfg : Cfg := { fcs := [
  (3, ⟨[0, 1, 2, 3, 4, 10, 11, 12, 13, 14, 15, 36, 49], [], []⟩),
  (5, ⟨[0, 2], [], []⟩),
  (6, ⟨[0, 1, 2, 3, 4, 10, 11, 12, 13, 14, 17, 18, 22, 28, 37, 67], [(9, [(6, 12), (10, 12)])], []⟩),
  (15, ⟨[0, 2, 3, 8, 27], [(4, [])], []⟩),
  (16, ⟨[0, 1, 4, 5, 6, 7, 9, 10, 11, 14, 20, 21, 22, 23, 34, 39, 49], [(14, [])], [(7, 2003)]⟩),
  (28, ⟨[0, 2, 3, 4], [(2, [(4, 6), (4, 8)])], []⟩),
  (44, ⟨[0, 1, 4, 5, 17], [(1, []), (4, [])], []⟩),
  (45, ⟨[0, 2, 3, 5, 8, 9, 10], [], []⟩),
  (58, ⟨[0, 1, 2], [], []⟩),
  (86, ⟨[0, 1, 3, 8, 18], [], []⟩),
  (29, ⟨[0, 2, 3, 4, 5, 20], [], []⟩),
  (18, ⟨[0, 1, 4], [(1, [(3, 5)])], []⟩),
  (24, ⟨[0, 2], [], []⟩),
  (36, ⟨[0, 1, 4, 5, 6, 10, 11, 12], [], []⟩),
  (19, ⟨[0, 1, 2, 6], [], []⟩),
  (17, ⟨[0, 1, 2, 3, 8, 9, 10, 11, 33, 43], [(5, [(5, 8)]), (7, [(2, 5)])], []⟩),
  (30, ⟨[0, 1, 2], [], []⟩),
  (31, ⟨[0, 1, 2, 3, 6, 7, 9], [(1, [(1, 2)])], []⟩),
  (46, ⟨[0, 1, 4, 5, 6, 7, 14], [], []⟩),
  (59, ⟨[0, 2, 3, 4, 5, 6, 7, 8, 9, 10, 11, 22, 30, 42, 66, 75, 76, 85, 86, 108], [(10, [(2, 9), (7, 9), (2, 10), (7, 10), (2, 12), (7, 12), (11, 12), (2, 13), (7, 13), (11, 13), (2, 15), (7, 15), (11, 15), (14, 15), (2, 16), (7, 16), (11, 16), (14, 16)]), (20, [])], [(10, 1)]⟩),
  (87, ⟨[0, 2, 3], [], []⟩),
  (115, ⟨[0, 2], [], []⟩),
  (88, ⟨[0, 1, 4, 5, 7, 12], [], []⟩),
  (89, ⟨[0, 1, 4, 5, 6, 7, 8, 14], [], []⟩),
  (117, ⟨[0, 2, 3, 7], [], []⟩),
  (116, ⟨[0, 1, 4, 5], [], []⟩),
  (61, ⟨[0, 1, 2, 3, 4, 5, 12, 13, 14, 15, 26], [(1, [])], []⟩),
  (62, ⟨[0, 1, 2, 4, 5, 6, 7], [(4, [])], []⟩),
  (63, ⟨[0, 1, 2, 3, 4, 5], [], []⟩),
  (64, ⟨[0, 1, 2, 3, 4, 5, 6], [], []⟩),
  (65, ⟨[0, 1, 2, 3, 4, 5, 6, 8, 28, 29], [(9, [(3, 15), (4, 15)])], []⟩),
  (60, ⟨[0, 1, 4, 5, 6, 9], [], []⟩),
  (48, ⟨[0, 1, 2, 6, 7, 8, 9, 11, 12, 15, 20, 21, 22, 23], [], []⟩),
  (72, ⟨[0, 2], [(1, [(1, 3)])], []⟩),
  (95, ⟨[0, 2, 3, 5, 8, 9, 10, 11], [], []⟩),
  (73, ⟨[0, 1, 4, 5, 6, 11, 12], [(5, [(0, 3), (0, 5), (3, 7), (5, 7), (0, 8), (2, 8), (3, 8), (5, 8), (0, 10), (0, 12)])], []⟩),
  (97, ⟨[0, 1, 2], [], []⟩),
  (121, ⟨[0, 1, 3, 5, 24], [], []⟩),
  (96, ⟨[0, 2], [], []⟩),
  (120, ⟨[0, 1, 2, 4, 5, 6, 7], [], [(2, 1)]⟩),
  (98, ⟨[0, 2, 3, 4, 5, 6], [], []⟩),
  (74, ⟨[0, 1, 2, 3, 4, 5, 6, 8, 15], [], []⟩),
  (99, ⟨[0, 1, 2, 3, 18], [], []⟩),
  (100, ⟨[0, 1, 2, 4], [], []⟩),
  (75, ⟨[0, 1, 2], [(1, [(2, 3), (2, 4)])], []⟩),
  (32, ⟨[0, 1, 2, 3, 6], [], []⟩),
  (49, ⟨[0, 1, 2, 3, 6, 7, 8, 12], [], []⟩),
  (50, ⟨[0, 1, 4, 5, 6, 10, 11, 12], [(5, [])], []⟩),
  (7, ⟨[0, 1, 4], [], []⟩),
  (8, ⟨[0, 1, 2, 3, 4, 5], [], []⟩),
  (12, ⟨[0, 1, 2, 3, 4, 5, 12, 13, 14, 15, 16, 22, 41], [], []⟩),
  (23, ⟨[0, 1, 2, 3, 8, 9, 10, 11, 27], [], []⟩),
  (9, ⟨[0, 2], [], []⟩),
  (10, ⟨[0, 1, 2, 3, 4, 10, 11, 12, 20, 40], [(4, [(3, 7), (3, 11), (9, 11), (3, 13), (7, 13), (9, 13), (11, 13), (12, 13)])], []⟩),
  (20, ⟨[0, 2, 3, 4, 9], [], []⟩),
  (13, ⟨[0, 1, 4], [], []⟩),
  (25, ⟨[0, 1, 4, 5, 6, 9], [], []⟩),
  (22, ⟨[0, 1, 2, 6], [], []⟩),
  (21, ⟨[0, 1, 2, 3, 8, 9, 23], [(2, [(6, 9)]), (4, [(2, 6)])], []⟩),
  (33, ⟨[0, 1, 2, 3, 8, 9], [], []⟩),
  (51, ⟨[0, 1, 4, 5, 6, 7, 18, 28], [], []⟩),
  (76, ⟨[0, 2, 3, 4, 5, 12], [(6, [])], []⟩),
  (101, ⟨[0, 2, 3, 4, 5, 6, 7, 14, 32, 43, 69], [(12, []), (13, [(6, 11), (8, 11), (9, 11)])], []⟩),
  (79, ⟨[0, 2, 3, 4, 9], [], []⟩),
  (103, ⟨[0, 2, 3, 4, 5, 6, 11], [], []⟩),
  (123, ⟨[0, 2, 3, 5, 12], [], []⟩),
  (104, ⟨[0, 1, 4, 5, 6, 7, 9, 16, 25, 31], [], []⟩),
  (124, ⟨[0, 1, 4], [], []⟩),
  (125, ⟨[0, 2], [], []⟩),
  (102, ⟨[0, 2], [], []⟩),
  (122, ⟨[0, 1, 4, 5, 6, 9], [], []⟩),
  (77, ⟨[0, 1, 4, 5, 6, 11], [(5, [])], []⟩),
  (78, ⟨[0, 2, 3, 4, 5, 8, 12], [], []⟩),
  (80, ⟨[0, 2, 3, 4, 5, 6, 7, 10, 14, 18], [(12, [])], []⟩),
  (105, ⟨[0, 1, 4, 7, 12], [], []⟩),
  (52, ⟨[0, 1, 2, 6, 7, 9, 14, 15, 16, 17], [], []⟩),
  (81, ⟨[0, 1, 4, 5], [], []⟩),
  (106, ⟨[0, 2, 3, 4, 8, 17], [], []⟩),
  (107, ⟨[0, 2, 3, 4, 6], [], []⟩),
  (34, ⟨[0, 1, 4, 5, 6, 11], [(5, [])], []⟩),
  (82, ⟨[0, 1, 4, 5, 6, 11, 17], [], []⟩),
  (108, ⟨[0, 1, 4, 5, 6, 7, 8, 11, 15, 39], [], []⟩),
  (126, ⟨[0, 1, 4, 5, 6, 15], [], []⟩),
  (109, ⟨[0, 1, 4, 5], [], []⟩),
  (110, ⟨[0, 2, 3, 4, 5, 6, 9, 13, 24], [], []⟩),
  (35, ⟨[0, 1, 2, 3, 8, 9, 13], [], []⟩),
  (53, ⟨[0, 2], [], []⟩),
  (4, ⟨[0, 1, 2, 3, 4, 5, 12, 13, 14, 15, 16, 42, 70, 71, 82], [], []⟩),
  (11, ⟨[0, 1, 4, 5, 9], [], []⟩),
  (14, ⟨[0, 1, 2, 3, 4, 5, 12], [], []⟩),
  (26, ⟨[0, 1, 2, 3, 8, 9], [], []⟩)], inl := [28,29,44,69,70,71,96,120,97,121,32,60,61,58,86,106], lib := [(69, ⟨1, 107, 5⟩), (71, ⟨2, 107, 5⟩), (47, ⟨3, 0, 0⟩), (70, ⟨4, 107, 5⟩), (27, ⟨5, 0, 0⟩)] }
theorem Tryz.progOk : progOk Tryz.prog Tryz.cfg = true := by kernel_rfl
theorem Tryz.libOk : LibOk Fence.wide Tryz.prog Tryz.cfg := (LibL.cons (fun _ _ _ _ _ _ h => fnOk_WriteString { Tryz.lays105 with } Tryz.Builder_Extra_105 rfl rfl rfl h) (LibL.cons (fun _ _ _ _ _ _ h => fnOk_String { Tryz.lays105 with } Tryz.Builder_Extra_105 rfl rfl rfl h) (LibL.cons (fun _ _ _ _ _ _ h => fnOk_Repeat Tryz.lays105 Tryz.Builder_Extra_105 rfl h) (LibL.cons (fun _ _ _ _ _ _ h => fnOk_Len { Tryz.lays105 with } rfl rfl rfl h) (LibL.cons (fun _ _ _ _ _ _ h => fnOk_Trim Tryz.lays160 (by kernel_rfl) rfl h) LibL.nil))))).ok rfl
theorem Tryz.own : ownKnob Tryz.prog.godebug = none := by kernel_rfl
theorem Tryz.laidOut : laidOutB Tryz.prog = true := by kernel_rfl
theorem Tryz.mixed : Tryz.prog.follows .mixedOrders = true := by kernel_rfl
theorem wf_u64 {n : Int} (h : (Lit.int .u64 n).wf = true) : 0 ≤ n ∧ n < 18446744073709551616 := by
  simp [Lit.wf, IntKind.min, IntKind.max, IntKind.signed, IntKind.bits] at h
  omega
end Go.Proofs
namespace Go.Proofs
open Go Go.Sym
abbrev vb (n : Int) : V := V.int .u8 n
abbrev vi (n : Int) : V := V.int .i64 n
abbrev vu (n : Int) : V := V.int .u64 n
noncomputable abbrev cP (k f : Nat) (xs : List V) : Option V := callP (evalFn Tryz.prog Tryz.cfg k) f xs
theorem bE {α β : Type} {x : Option α} {f : α → Option β} {r : β} (h : x.bind f = some r) : ∃ a, x = some a ∧ f a = some r := Option.bind_eq_some_iff.1 h
theorem aI {a b : Prop} (h : a) (g : b) : a ∧ b := And.intro h g
abbrev bN (u : UInt8) : Int := (u.toNat : Int)
abbrev wI (n : Int) : Int := IntKind.i64.wrap n
abbrev wU (n : Int) : Int := IntKind.u64.wrap n
abbrev wB (n : Int) : Int := IntKind.u8.wrap n
abbrev x8 (a b : Int) : Int := IntKind.u8.wrap (↑(BitVec.ofInt IntKind.u8.bits a ^^^ BitVec.ofInt IntKind.u8.bits b).toNat : Int)
noncomputable abbrev eC (k d n f : Nat) (c : Code) (s : St) : Option (Exit × St) := evalCode Tryz.prog Tryz.cfg (evalFn Tryz.prog Tryz.cfg (k + d)) n (Tryz.cfg.fc f) (k + d) c s
end Go.Proofs
set_option linter.unusedVariables false
set_option maxHeartbeats 0
set_option maxRecDepth 100000
namespace Go.Proofs
open Go Go.Sym
theorem P117_0 (i0 : Int) (k : Nat)
    (c0 : decide (128 ≤ i0) = true) :
    cP ((k + 3)) 117 [vb i0] = some (vb (wB (↑(BitVec.ofInt IntKind.u8.bits (wB (i0 * 2 ^ min (Int.toNat 1) IntKind.u8.bits)) ^^^ BitVec.ofInt IntKind.u8.bits 27).toNat : Int))) :=
  byF (k := k) (d := 3) [Hn.br 7 true] (aI c0 trivial) (by kernel_rfl)
theorem P117_1 (i0 : Int) (k : Nat)
    (c0 : decide (128 ≤ i0) = false) :
    cP ((k + 3)) 117 [vb i0] = some (vb (wB (i0 * 2 ^ min (Int.toNat 1) IntKind.u8.bits))) :=
  byF (k := k) (d := 3) [Hn.br 7 false] (aI c0 trivial) (by kernel_rfl)
def F117 (k : Nat) (i0 : Int) : Option (Int) :=
  (bif decide (128 ≤ i0) then (some (IntKind.u8.wrap (↑(BitVec.ofInt IntKind.u8.bits (IntKind.u8.wrap (i0 * 2 ^ min (Int.toNat 1) IntKind.u8.bits)) ^^^ BitVec.ofInt IntKind.u8.bits 27).toNat : Int))) else (some (IntKind.u8.wrap (i0 * 2 ^ min (Int.toNat 1) IntKind.u8.bits))))
theorem F117_ok {i0 : Int} {k : Nat} {r : Int} (h : F117 k i0 = some r) :
    cP ((k + 3)) 117 [vb i0] = some (vb r) := by
  unfold F117 at h
  rcases cond_elim h with ⟨e0, h⟩ | ⟨e0, h⟩
  ·
    have h := Option.some.inj h; subst h; exact P117_0 i0 k e0
  ·
    have h := Option.some.inj h; subst h; exact P117_1 i0 k e0
theorem L89_0_b0 (i1 i2 i3 i4 i5 : Int) (k : Nat)
    (c0 : decide (i4 < 8) = true)
    (c1 : GrdP ((0 : Int) ≤ i4) (vb (i1.fdiv ((2 : Int) ^ min i4.toNat IntKind.u8.bits))))
    (c2 : decide (wB (↑(BitVec.ofInt IntKind.u8.bits (i1.fdiv (2 ^ min i4.toNat IntKind.u8.bits)) &&& BitVec.ofInt IntKind.u8.bits 1).toNat : Int) = 1) = true)
    (c3 : cP ((k + 5)) 117 [vb i2] = some (vb i5)) :
    eC k 5 0 89 (loopBody Tryz.f89 0) { tm := [(0, vb i2), (1, vb i1), (4, vb 0), (5, vb i3), (7, vi i4)], hp := [], nx := 0 } = some (Exit.normal, { tm := [(0, vb i5), (1, vb i1), (4, vb 0), (5, vb (x8 i3 i2)), (6, vi i4), (7, vi (wI (i4 + 1))), (8, V.bool true), (14, V.bool true)], hp := [], nx := 68 }) :=
  byL (k := k) (d := 5) [Hn.br 8 true, Hn.op 12 (vb (i1.fdiv (2 ^ min i4.toNat IntKind.u8.bits))) [], Hn.br 14 true, Hn.call 19 (vb i5)] (aI c0 (aI c1 (aI c2 (aI c3 trivial)))) (by kernel_rfl)
theorem L89_0_b0h (i1 i2 i3 i4 i5 : Int) : head 0 [0, 1, 4, 5, 7] (Tryz.cfg.fc 89).acc { tm := [(0, vb i5), (1, vb i1), (4, vb 0), (5, vb (x8 i3 i2)), (6, vi i4), (7, vi (wI (i4 + 1))), (8, V.bool true), (14, V.bool true)], hp := [], nx := 68 } = { tm := [(0, vb i5), (1, vb i1), (4, vb 0), (5, vb (x8 i3 i2)), (7, vi (wI (i4 + 1)))], hp := [], nx := 0 } := by kernel_rfl
theorem L89_0_b1 (i1 i2 i3 i4 i5 : Int) (k : Nat)
    (c0 : decide (i4 < 8) = true)
    (c1 : GrdP ((0 : Int) ≤ i4) (vb (i1.fdiv ((2 : Int) ^ min i4.toNat IntKind.u8.bits))))
    (c2 : decide (wB (↑(BitVec.ofInt IntKind.u8.bits (i1.fdiv (2 ^ min i4.toNat IntKind.u8.bits)) &&& BitVec.ofInt IntKind.u8.bits 1).toNat : Int) = 1) = false)
    (c3 : cP ((k + 5)) 117 [vb i2] = some (vb i5)) :
    eC k 5 0 89 (loopBody Tryz.f89 0) { tm := [(0, vb i2), (1, vb i1), (4, vb 0), (5, vb i3), (7, vi i4)], hp := [], nx := 0 } = some (Exit.normal, { tm := [(0, vb i5), (1, vb i1), (4, vb 0), (5, vb i3), (6, vi i4), (7, vi (wI (i4 + 1))), (8, V.bool true), (14, V.bool false)], hp := [], nx := 52 }) :=
  byL (k := k) (d := 5) [Hn.br 8 true, Hn.op 12 (vb (i1.fdiv (2 ^ min i4.toNat IntKind.u8.bits))) [], Hn.br 14 false, Hn.call 19 (vb i5)] (aI c0 (aI c1 (aI c2 (aI c3 trivial)))) (by kernel_rfl)
theorem L89_0_b1h (i1 i3 i4 i5 : Int) : head 0 [0, 1, 4, 5, 7] (Tryz.cfg.fc 89).acc { tm := [(0, vb i5), (1, vb i1), (4, vb 0), (5, vb i3), (6, vi i4), (7, vi (wI (i4 + 1))), (8, V.bool true), (14, V.bool false)], hp := [], nx := 52 } = { tm := [(0, vb i5), (1, vb i1), (4, vb 0), (5, vb i3), (7, vi (wI (i4 + 1)))], hp := [], nx := 0 } := by kernel_rfl
theorem L89_0_b2 (i1 i2 i3 i4 : Int) (k : Nat)
    (c0 : decide (i4 < 8) = false) :
    eC k 5 0 89 (loopBody Tryz.f89 0) { tm := [(0, vb i2), (1, vb i1), (4, vb 0), (5, vb i3), (7, vi i4)], hp := [], nx := 0 } = some (Exit.exit 0, { tm := [(0, vb i2), (1, vb i1), (4, vb 0), (5, vb i3), (7, vi i4), (8, V.bool false)], hp := [], nx := 4 }) :=
  byL (k := k) (d := 5) [Hn.br 8 false] (aI c0 trivial) (by kernel_rfl)
inductive L89_0_R where
  | e0 (i2 : Int) (i3 : Int) (i4 : Int)
noncomputable def L89_0_end (i1 : Int) : L89_0_R → Exit × St
  | .e0 i2 i3 i4 => (Exit.exit 0, { tm := [(0, V.int .u8 i2), (1, V.int .u8 i1), (4, V.int .u8 0), (5, V.int .u8 i3), (7, V.int .i64 i4), (8, V.bool false)], hp := [], nx := 4 })
def L89_0 (k : Nat) (i1 : Int) : Nat → Int → Int → Int → Option L89_0_R
  | 0, _, _, _ => none
  | f + 1, i2, i3, i4 => (bif decide (i4 < 8) then (guardP ((0 : Int) ≤ i4) (bif decide (IntKind.u8.wrap (↑(BitVec.ofInt IntKind.u8.bits (i1.fdiv (2 ^ min i4.toNat IntKind.u8.bits)) &&& BitVec.ofInt IntKind.u8.bits 1).toNat : Int) = 1) then ((F117 (k + 2) (i2)).bind fun i5 => (L89_0 k i1 f (i5) (IntKind.u8.wrap (↑(BitVec.ofInt IntKind.u8.bits i3 ^^^ BitVec.ofInt IntKind.u8.bits i2).toNat : Int)) (IntKind.i64.wrap (i4 + 1)))) else ((F117 (k + 2) (i2)).bind fun i5 => (L89_0 k i1 f (i5) (i3) (IntKind.i64.wrap (i4 + 1)))))) else (some (L89_0_R.e0 i2 i3 i4)))
theorem L89_0_ok {i1 : Int} {k : Nat} : ∀ {f : Nat} {i2 : Int} {i3 : Int} {i4 : Int} {r : L89_0_R}, L89_0 k i1 f i2 i3 i4 = some r →
    LoopsN Tryz.prog Tryz.cfg (k + 5) 0 Tryz.f89 (Tryz.cfg.fc 89) 0 [0, 1, 4, 5, 7] f { tm := [(0, vb i2), (1, vb i1), (4, vb 0), (5, vb i3), (7, vi i4)], hp := [], nx := 0 } (L89_0_end i1 r) := by
  intro f
  induction f with
  | zero => intro i2 i3 i4 r h; cases h
  | succ f ih =>
    intro i2 i3 i4 r h
    rw [L89_0] at h
    rcases cond_elim h with ⟨e0, h⟩ | ⟨e0, h⟩
    ·
      obtain ⟨e1, h⟩ := guardP_some.1 h
      rcases cond_elim h with ⟨e2, h⟩ | ⟨e2, h⟩
      ·
        obtain ⟨i5, e3, h⟩ := bE h
        exact LoopsN.next (L89_0_b0 i1 i2 i3 i4 i5 k e0 (GrdP.mk e1) e2 (F117_ok e3)) (L89_0_b0h i1 i2 i3 i4 i5) (ih h)
      ·
        obtain ⟨i5, e3, h⟩ := bE h
        exact LoopsN.next (L89_0_b1 i1 i2 i3 i4 i5 k e0 (GrdP.mk e1) e2 (F117_ok e3)) (L89_0_b1h i1 i3 i4 i5) (ih h)
    ·
      cases h; exact LoopsN.done (L89_0_b2 i1 i2 i3 i4 k e0) (fun h => by cases h)
theorem P89_0 (i0 i1 i2 i3 i4 : Int) (k : Nat)
    (c0 : LoopsN Tryz.prog Tryz.cfg (k + 5) 0 Tryz.f89 (Tryz.cfg.fc 89) 0 [0, 1, 4, 5, 7] (k + 5) { tm := [(0, vb i0), (1, vb i1), (4, vb 0), (5, vb 0), (7, vi 0)], hp := [], nx := 0 } (Exit.exit 0, { tm := [(0, vb i2), (1, vb i1), (4, vb 0), (5, vb i3), (7, vi i4), (8, V.bool false)], hp := [], nx := 4 })) :
    cP ((k + 6)) 89 [vb i0, vb i1] = some (vb i3) :=
  byF (k := k) (d := 6) [Hn.loop (Exit.exit 0, { tm := [(0, vb i2), (1, vb i1), (4, vb 0), (5, vb i3), (7, vi i4), (8, V.bool false)], hp := [], nx := 4 })] (aI c0 trivial) (by kernel_rfl)
def F89 (k : Nat) (i0 i1 : Int) : Option (Int) :=
  ((L89_0 k i1 (k + 5) (i0) (0) (0)).bind fun
    | L89_0_R.e0 i2 i3 i4 => (some (i3)))
theorem F89_ok {i0 i1 : Int} {k : Nat} {r : Int} (h : F89 k i0 i1 = some r) :
    cP ((k + 6)) 89 [vb i0, vb i1] = some (vb r) := by
  unfold F89 at h
  obtain ⟨ee, e0, h⟩ := bE h
  cases ee with
  | e0 i2 i3 i4 =>
    have h := Option.some.inj h; subst h; exact P89_0 i0 i1 i2 i3 i4 k (L89_0_ok e0)
theorem L88_0_b0 (i2 i3 i4 i5 i6 : Int) (k : Nat)
    (c0 : decide (0 < i3) = true)
    (c1 : decide (wI (↑(BitVec.ofInt IntKind.i64.bits i3 &&& BitVec.ofInt IntKind.i64.bits 1).toNat : Int) = 1) = true)
    (c2 : cP ((k + 8)) 89 [vb i4, vb i2] = some (vb i5))
    (c3 : cP ((k + 8)) 89 [vb i2, vb i2] = some (vb i6)) :
    eC k 8 0 88 (loopBody Tryz.f88 0) { tm := [(0, vb i2), (1, vi i3), (4, vb 0), (5, vb i4)], hp := [], nx := 0 } = some (Exit.normal, { tm := [(0, vb i6), (1, vi (i3.fdiv (2 ^ min (Int.toNat 1) IntKind.i64.bits))), (4, vb 0), (5, vb i5), (7, V.bool true), (12, V.bool true)], hp := [], nx := 64 }) :=
  byL (k := k) (d := 8) [Hn.br 7 true, Hn.br 12 true, Hn.call 15 (vb i5), Hn.call 18 (vb i6)] (aI c0 (aI c1 (aI c2 (aI c3 trivial)))) (by kernel_rfl)
theorem L88_0_b0h (i3 i5 i6 : Int) : head 0 [0, 1, 4, 5] (Tryz.cfg.fc 88).acc { tm := [(0, vb i6), (1, vi (i3.fdiv (2 ^ min (Int.toNat 1) IntKind.i64.bits))), (4, vb 0), (5, vb i5), (7, V.bool true), (12, V.bool true)], hp := [], nx := 64 } = { tm := [(0, vb i6), (1, vi (i3.fdiv (2 ^ min (Int.toNat 1) IntKind.i64.bits))), (4, vb 0), (5, vb i5)], hp := [], nx := 0 } := by kernel_rfl
theorem L88_0_b1 (i2 i3 i4 i5 : Int) (k : Nat)
    (c0 : decide (0 < i3) = true)
    (c1 : decide (wI (↑(BitVec.ofInt IntKind.i64.bits i3 &&& BitVec.ofInt IntKind.i64.bits 1).toNat : Int) = 1) = false)
    (c2 : cP ((k + 8)) 89 [vb i2, vb i2] = some (vb i5)) :
    eC k 8 0 88 (loopBody Tryz.f88 0) { tm := [(0, vb i2), (1, vi i3), (4, vb 0), (5, vb i4)], hp := [], nx := 0 } = some (Exit.normal, { tm := [(0, vb i5), (1, vi (i3.fdiv (2 ^ min (Int.toNat 1) IntKind.i64.bits))), (4, vb 0), (5, vb i4), (7, V.bool true), (12, V.bool false)], hp := [], nx := 48 }) :=
  byL (k := k) (d := 8) [Hn.br 7 true, Hn.br 12 false, Hn.call 18 (vb i5)] (aI c0 (aI c1 (aI c2 trivial))) (by kernel_rfl)
theorem L88_0_b1h (i3 i4 i5 : Int) : head 0 [0, 1, 4, 5] (Tryz.cfg.fc 88).acc { tm := [(0, vb i5), (1, vi (i3.fdiv (2 ^ min (Int.toNat 1) IntKind.i64.bits))), (4, vb 0), (5, vb i4), (7, V.bool true), (12, V.bool false)], hp := [], nx := 48 } = { tm := [(0, vb i5), (1, vi (i3.fdiv (2 ^ min (Int.toNat 1) IntKind.i64.bits))), (4, vb 0), (5, vb i4)], hp := [], nx := 0 } := by kernel_rfl
theorem L88_0_b2 (i2 i3 i4 : Int) (k : Nat)
    (c0 : decide (0 < i3) = false) :
    eC k 8 0 88 (loopBody Tryz.f88 0) { tm := [(0, vb i2), (1, vi i3), (4, vb 0), (5, vb i4)], hp := [], nx := 0 } = some (Exit.exit 0, { tm := [(0, vb i2), (1, vi i3), (4, vb 0), (5, vb i4), (7, V.bool false)], hp := [], nx := 8 }) :=
  byL (k := k) (d := 8) [Hn.br 7 false] (aI c0 trivial) (by kernel_rfl)
inductive L88_0_R where
  | e0 (i2 : Int) (i3 : Int) (i4 : Int)
noncomputable def L88_0_end : L88_0_R → Exit × St
  | .e0 i2 i3 i4 => (Exit.exit 0, { tm := [(0, V.int .u8 i2), (1, V.int .i64 i3), (4, V.int .u8 0), (5, V.int .u8 i4), (7, V.bool false)], hp := [], nx := 8 })
def L88_0 (k : Nat) : Nat → Int → Int → Int → Option L88_0_R
  | 0, _, _, _ => none
  | f + 1, i2, i3, i4 => (bif decide (0 < i3) then (bif decide (IntKind.i64.wrap (↑(BitVec.ofInt IntKind.i64.bits i3 &&& BitVec.ofInt IntKind.i64.bits 1).toNat : Int) = 1) then ((F89 (k + 2) (i4) (i2)).bind fun i5 => ((F89 (k + 2) (i2) (i2)).bind fun i6 => (L88_0 k f (i6) (i3.fdiv (2 ^ min (Int.toNat 1) IntKind.i64.bits)) (i5)))) else ((F89 (k + 2) (i2) (i2)).bind fun i5 => (L88_0 k f (i5) (i3.fdiv (2 ^ min (Int.toNat 1) IntKind.i64.bits)) (i4)))) else (some (L88_0_R.e0 i2 i3 i4)))
theorem L88_0_ok {k : Nat} : ∀ {f : Nat} {i2 i3 i4 : Int} {r : L88_0_R}, L88_0 k f i2 i3 i4 = some r →
    LoopsN Tryz.prog Tryz.cfg (k + 8) 0 Tryz.f88 (Tryz.cfg.fc 88) 0 [0, 1, 4, 5] f { tm := [(0, vb i2), (1, vi i3), (4, vb 0), (5, vb i4)], hp := [], nx := 0 } (L88_0_end r) := by
  intro f
  induction f with
  | zero => intro i2 i3 i4 r h; cases h
  | succ f ih =>
    intro i2 i3 i4 r h
    rw [L88_0] at h
    rcases cond_elim h with ⟨e0, h⟩ | ⟨e0, h⟩
    ·
      rcases cond_elim h with ⟨e1, h⟩ | ⟨e1, h⟩
      ·
        obtain ⟨i5, e2, h⟩ := bE h
        obtain ⟨i6, e3, h⟩ := bE h
        exact LoopsN.next (L88_0_b0 i2 i3 i4 i5 i6 k e0 e1 (F89_ok e2) (F89_ok e3)) (L88_0_b0h i3 i5 i6) (ih h)
      ·
        obtain ⟨i5, e2, h⟩ := bE h
        exact LoopsN.next (L88_0_b1 i2 i3 i4 i5 k e0 e1 (F89_ok e2)) (L88_0_b1h i3 i4 i5) (ih h)
    ·
      cases h; exact LoopsN.done (L88_0_b2 i2 i3 i4 k e0) (fun h => by cases h)
theorem P88_0 (i0 i1 i2 i3 i4 : Int) (k : Nat)
    (c0 : LoopsN Tryz.prog Tryz.cfg (k + 8) 0 Tryz.f88 (Tryz.cfg.fc 88) 0 [0, 1, 4, 5] (k + 8) { tm := [(0, vb i0), (1, vi i1), (4, vb 0), (5, vb 1)], hp := [], nx := 0 } (Exit.exit 0, { tm := [(0, vb i2), (1, vi i3), (4, vb 0), (5, vb i4), (7, V.bool false)], hp := [], nx := 8 })) :
    cP ((k + 9)) 88 [vb i0, vi i1] = some (vb i4) :=
  byF (k := k) (d := 9) [Hn.loop (Exit.exit 0, { tm := [(0, vb i2), (1, vi i3), (4, vb 0), (5, vb i4), (7, V.bool false)], hp := [], nx := 8 })] (aI c0 trivial) (by kernel_rfl)
def F88 (k : Nat) (i0 i1 : Int) : Option (Int) :=
  ((L88_0 k (k + 8) (i0) (i1) (1)).bind fun
    | L88_0_R.e0 i2 i3 i4 => (some (i4)))
theorem F88_ok {i0 i1 : Int} {k : Nat} {r : Int} (h : F88 k i0 i1 = some r) :
    cP ((k + 9)) 88 [vb i0, vi i1] = some (vb r) := by
  unfold F88 at h
  obtain ⟨ee, e0, h⟩ := bE h
  cases ee with
  | e0 i2 i3 i4 =>
    have h := Option.some.inj h; subst h; exact P88_0 i0 i1 i2 i3 i4 k (L88_0_ok e0)
theorem P115_0 (i0 i1 : Int) (k : Nat)
    (c0 : cP ((k + 11)) 88 [vb i0, vi 254] = some (vb i1)) :
    cP ((k + 12)) 115 [vb i0] = some (vb i1) :=
  byF (k := k) (d := 12) [Hn.call 4 (vb i1)] (aI c0 trivial) (by kernel_rfl)
def F115 (k : Nat) (i0 : Int) : Option (Int) :=
  ((F88 (k + 2) (i0) (254)).bind fun i1 => (some (i1)))
theorem F115_ok {i0 : Int} {k : Nat} {r : Int} (h : F115 k i0 = some r) :
    cP ((k + 12)) 115 [vb i0] = some (vb r) := by
  unfold F115 at h
  obtain ⟨i1, e0, h⟩ := bE h
  have h := Option.some.inj h; subst h; exact P115_0 i0 i1 k (F88_ok e0)
theorem P116_0 (i0 i1 : Int) (k : Nat)
    (c0 : GrdP ((0 : Int) ≤ wU ((8 : Int) - wU (↑(BitVec.ofInt IntKind.u64.bits (wU i1) &&& BitVec.ofInt IntKind.u64.bits (7 : Int)).toNat : Int))) (vb (i0.fdiv ((2 : Int) ^ min (wU ((8 : Int) - wU (↑(BitVec.ofInt IntKind.u64.bits (wU i1) &&& BitVec.ofInt IntKind.u64.bits (7 : Int)).toNat : Int))).toNat IntKind.u8.bits)))) :
    cP ((k + 3)) 116 [vb i0, vi i1] = some (vb (wB (↑(BitVec.ofInt IntKind.u8.bits (wB (i0 * 2 ^ min (wU (↑(BitVec.ofInt IntKind.u64.bits (wU i1) &&& BitVec.ofInt IntKind.u64.bits 7).toNat : Int)).toNat IntKind.u8.bits)) ||| BitVec.ofInt IntKind.u8.bits (i0.fdiv (2 ^ min (wU (8 - wU (↑(BitVec.ofInt IntKind.u64.bits (wU i1) &&& BitVec.ofInt IntKind.u64.bits 7).toNat : Int))).toNat IntKind.u8.bits))).toNat : Int))) :=
  byF (k := k) (d := 3) [Hn.op 15 (vb (i0.fdiv (2 ^ min (wU (8 - wU (↑(BitVec.ofInt IntKind.u64.bits (wU i1) &&& BitVec.ofInt IntKind.u64.bits 7).toNat : Int))).toNat IntKind.u8.bits))) []] (aI c0 trivial) (by kernel_rfl)
def F116 (k : Nat) (i0 i1 : Int) : Option (Int) :=
  (guardP ((0 : Int) ≤ IntKind.u64.wrap ((8 : Int) - IntKind.u64.wrap (↑(BitVec.ofInt IntKind.u64.bits (IntKind.u64.wrap i1) &&& BitVec.ofInt IntKind.u64.bits (7 : Int)).toNat : Int))) (some (IntKind.u8.wrap (↑(BitVec.ofInt IntKind.u8.bits (IntKind.u8.wrap (i0 * 2 ^ min (IntKind.u64.wrap (↑(BitVec.ofInt IntKind.u64.bits (IntKind.u64.wrap i1) &&& BitVec.ofInt IntKind.u64.bits 7).toNat : Int)).toNat IntKind.u8.bits)) ||| BitVec.ofInt IntKind.u8.bits (i0.fdiv (2 ^ min (IntKind.u64.wrap (8 - IntKind.u64.wrap (↑(BitVec.ofInt IntKind.u64.bits (IntKind.u64.wrap i1) &&& BitVec.ofInt IntKind.u64.bits 7).toNat : Int))).toNat IntKind.u8.bits))).toNat : Int))))
theorem F116_ok {i0 i1 : Int} {k : Nat} {r : Int} (h : F116 k i0 i1 = some r) :
    cP ((k + 3)) 116 [vb i0, vi i1] = some (vb r) := by
  unfold F116 at h
  obtain ⟨e0, h⟩ := guardP_some.1 h
  have h := Option.some.inj h; subst h; exact P116_0 i0 i1 k (GrdP.mk e0)
theorem P87_0 (i0 i1 i2 i3 i4 i5 : Int) (k : Nat)
    (c0 : cP ((k + 14)) 115 [vb i0] = some (vb i1))
    (c1 : cP ((k + 14)) 116 [vb i1, vi 1] = some (vb i2))
    (c2 : cP ((k + 14)) 116 [vb i1, vi 2] = some (vb i3))
    (c3 : cP ((k + 14)) 116 [vb i1, vi 3] = some (vb i4))
    (c4 : cP ((k + 14)) 116 [vb i1, vi 4] = some (vb i5)) :
    cP ((k + 15)) 87 [vb i0] = some (vb (wB (↑(BitVec.ofInt IntKind.u8.bits (wB (↑(BitVec.ofInt IntKind.u8.bits (x8 (x8 (x8 i1 i2) i3) i4) ^^^ BitVec.ofInt IntKind.u8.bits i5).toNat : Int)) ^^^ BitVec.ofInt IntKind.u8.bits 99).toNat : Int))) :=
  byF (k := k) (d := 15) [Hn.call 5 (vb i1), Hn.call 8 (vb i2), Hn.call 11 (vb i3), Hn.call 14 (vb i4), Hn.call 17 (vb i5)] (aI c0 (aI c1 (aI c2 (aI c3 (aI c4 trivial))))) (by kernel_rfl)
def F87 (k : Nat) (i0 : Int) : Option (Int) :=
  ((F115 (k + 2) (i0)).bind fun i1 => ((F116 (k + 11) (i1) (1)).bind fun i2 => ((F116 (k + 11) (i1) (2)).bind fun i3 => ((F116 (k + 11) (i1) (3)).bind fun i4 => ((F116 (k + 11) (i1) (4)).bind fun i5 => (some (IntKind.u8.wrap (↑(BitVec.ofInt IntKind.u8.bits (IntKind.u8.wrap (↑(BitVec.ofInt IntKind.u8.bits (IntKind.u8.wrap (↑(BitVec.ofInt IntKind.u8.bits (IntKind.u8.wrap (↑(BitVec.ofInt IntKind.u8.bits (IntKind.u8.wrap (↑(BitVec.ofInt IntKind.u8.bits i1 ^^^ BitVec.ofInt IntKind.u8.bits i2).toNat : Int)) ^^^ BitVec.ofInt IntKind.u8.bits i3).toNat : Int)) ^^^ BitVec.ofInt IntKind.u8.bits i4).toNat : Int)) ^^^ BitVec.ofInt IntKind.u8.bits i5).toNat : Int)) ^^^ BitVec.ofInt IntKind.u8.bits 99).toNat : Int))))))))
theorem F87_ok {i0 : Int} {k : Nat} {r : Int} (h : F87 k i0 = some r) :
    cP ((k + 15)) 87 [vb i0] = some (vb r) := by
  unfold F87 at h
  obtain ⟨i1, e0, h⟩ := bE h
  obtain ⟨i2, e1, h⟩ := bE h
  obtain ⟨i3, e2, h⟩ := bE h
  obtain ⟨i4, e3, h⟩ := bE h
  obtain ⟨i5, e4, h⟩ := bE h
  have h := Option.some.inj h; subst h; exact P87_0 i0 i1 i2 i3 i4 i5 k (F115_ok e0) (F116_ok e1) (F116_ok e2) (F116_ok e3) (F116_ok e4)
theorem P124_0 (i0 i1 : Int) (k : Nat)
    (c0 : GrdP ((0 : Int) ≤ i1) (vi (i0.fdiv ((2 : Int) ^ min i1.toNat IntKind.i64.bits)))) :
    cP ((k + 3)) 124 [vi i0, vi i1] = some (vi (wI (↑(BitVec.ofInt IntKind.i64.bits (i0.fdiv (2 ^ min i1.toNat IntKind.i64.bits)) &&& BitVec.ofInt IntKind.i64.bits 1).toNat : Int))) :=
  byF (k := k) (d := 3) [Hn.op 7 (vi (i0.fdiv (2 ^ min i1.toNat IntKind.i64.bits))) []] (aI c0 trivial) (by kernel_rfl)
def F124 (k : Nat) (i0 i1 : Int) : Option (Int) :=
  (guardP ((0 : Int) ≤ i1) (some (IntKind.i64.wrap (↑(BitVec.ofInt IntKind.i64.bits (i0.fdiv (2 ^ min i1.toNat IntKind.i64.bits)) &&& BitVec.ofInt IntKind.i64.bits 1).toNat : Int))))
theorem F124_ok {i0 i1 : Int} {k : Nat} {r : Int} (h : F124 k i0 i1 = some r) :
    cP ((k + 3)) 124 [vi i0, vi i1] = some (vi r) := by
  unfold F124 at h
  obtain ⟨e0, h⟩ := guardP_some.1 h
  have h := Option.some.inj h; subst h; exact P124_0 i0 i1 k (GrdP.mk e0)
theorem P125_0 (i0 : Int) (k : Nat)
    (c0 : GrdP ((0 : Int) ≤ i0) (vi (wI ((1 : Int) * (2 : Int) ^ min i0.toNat IntKind.i64.bits)))) :
    cP ((k + 3)) 125 [vi i0] = some (vi (wI (1 * 2 ^ min i0.toNat IntKind.i64.bits))) :=
  byF (k := k) (d := 3) [Hn.op 4 (vi (wI (1 * 2 ^ min i0.toNat IntKind.i64.bits))) []] (aI c0 trivial) (by kernel_rfl)
def F125 (k : Nat) (i0 : Int) : Option (Int) :=
  (guardP ((0 : Int) ≤ i0) (some (IntKind.i64.wrap (1 * 2 ^ min i0.toNat IntKind.i64.bits))))
theorem F125_ok {i0 : Int} {k : Nat} {r : Int} (h : F125 k i0 = some r) :
    cP ((k + 3)) 125 [vi i0] = some (vi r) := by
  unfold F125 at h
  obtain ⟨e0, h⟩ := guardP_some.1 h
  have h := Option.some.inj h; subst h; exact P125_0 i0 k (GrdP.mk e0)
theorem L104_0_b0 (i0 i1 i2 i3 i4 i5 : Int) (k : Nat)
    (c0 : decide (i3 < 8) = true)
    (c1 : cP ((k + 5)) 124 [vi (wI i1), vi i3] = some (vi i4))
    (c2 : decide (i4 = 1) = true)
    (c3 : cP ((k + 5)) 125 [vi i3] = some (vi i5)) :
    eC k 5 0 104 (loopBody Tryz.f104 0) { tm := [(0, vb i0), (1, vb i1), (4, vb 0), (5, vi i2), (6, vi i3)], hp := [], nx := 0 } = some (Exit.normal, { tm := [(0, vb i0), (1, vb i1), (4, vb 0), (5, vi (wI (↑(BitVec.ofInt IntKind.i64.bits i2 ^^^ BitVec.ofInt IntKind.i64.bits (wI (wI i0 * i5))).toNat : Int))), (6, vi (wI (i3 + 1))), (9, V.bool true), (16, V.bool true)], hp := [], nx := 72 }) :=
  byL (k := k) (d := 5) [Hn.br 9 true, Hn.call 15 (vi i4), Hn.br 16 true, Hn.call 21 (vi i5)] (aI c0 (aI c1 (aI c2 (aI c3 trivial)))) (by kernel_rfl)
theorem L104_0_b0h (i0 i1 i2 i3 i5 : Int) : head 0 [0, 1, 4, 5, 6] (Tryz.cfg.fc 104).acc { tm := [(0, vb i0), (1, vb i1), (4, vb 0), (5, vi (wI (↑(BitVec.ofInt IntKind.i64.bits i2 ^^^ BitVec.ofInt IntKind.i64.bits (wI (wI i0 * i5))).toNat : Int))), (6, vi (wI (i3 + 1))), (9, V.bool true), (16, V.bool true)], hp := [], nx := 72 } = { tm := [(0, vb i0), (1, vb i1), (4, vb 0), (5, vi (wI (↑(BitVec.ofInt IntKind.i64.bits i2 ^^^ BitVec.ofInt IntKind.i64.bits (wI (wI i0 * i5))).toNat : Int))), (6, vi (wI (i3 + 1)))], hp := [], nx := 0 } := by kernel_rfl
theorem L104_0_b1 (i0 i1 i2 i3 i4 : Int) (k : Nat)
    (c0 : decide (i3 < 8) = true)
    (c1 : cP ((k + 5)) 124 [vi (wI i1), vi i3] = some (vi i4))
    (c2 : decide (i4 = 1) = false) :
    eC k 5 0 104 (loopBody Tryz.f104 0) { tm := [(0, vb i0), (1, vb i1), (4, vb 0), (5, vi i2), (6, vi i3)], hp := [], nx := 0 } = some (Exit.normal, { tm := [(0, vb i0), (1, vb i1), (4, vb 0), (5, vi i2), (6, vi (wI (i3 + 1))), (9, V.bool true), (16, V.bool false)], hp := [], nx := 40 }) :=
  byL (k := k) (d := 5) [Hn.br 9 true, Hn.call 15 (vi i4), Hn.br 16 false] (aI c0 (aI c1 (aI c2 trivial))) (by kernel_rfl)
theorem L104_0_b1h (i0 i1 i2 i3 : Int) : head 0 [0, 1, 4, 5, 6] (Tryz.cfg.fc 104).acc { tm := [(0, vb i0), (1, vb i1), (4, vb 0), (5, vi i2), (6, vi (wI (i3 + 1))), (9, V.bool true), (16, V.bool false)], hp := [], nx := 40 } = { tm := [(0, vb i0), (1, vb i1), (4, vb 0), (5, vi i2), (6, vi (wI (i3 + 1)))], hp := [], nx := 0 } := by kernel_rfl
theorem L104_0_b2 (i0 i1 i2 i3 : Int) (k : Nat)
    (c0 : decide (i3 < 8) = false) :
    eC k 5 0 104 (loopBody Tryz.f104 0) { tm := [(0, vb i0), (1, vb i1), (4, vb 0), (5, vi i2), (6, vi i3)], hp := [], nx := 0 } = some (Exit.exit 0, { tm := [(0, vb i0), (1, vb i1), (4, vb 0), (5, vi i2), (6, vi i3), (9, V.bool false)], hp := [], nx := 8 }) :=
  byL (k := k) (d := 5) [Hn.br 9 false] (aI c0 trivial) (by kernel_rfl)
inductive L104_0_R where
  | e0 (i2 : Int) (i3 : Int)
noncomputable def L104_0_end (i0 : Int) (i1 : Int) : L104_0_R → Exit × St
  | .e0 i2 i3 => (Exit.exit 0, { tm := [(0, V.int .u8 i0), (1, V.int .u8 i1), (4, V.int .u8 0), (5, V.int .i64 i2), (6, V.int .i64 i3), (9, V.bool false)], hp := [], nx := 8 })
def L104_0 (k : Nat) (i0 i1 : Int) : Nat → Int → Int → Option L104_0_R
  | 0, _, _ => none
  | f + 1, i2, i3 => (bif decide (i3 < 8) then ((F124 (k + 2) (IntKind.i64.wrap i1) (i3)).bind fun i4 => (bif decide (i4 = 1) then ((F125 (k + 2) (i3)).bind fun i5 => (L104_0 k i0 i1 f (IntKind.i64.wrap (↑(BitVec.ofInt IntKind.i64.bits i2 ^^^ BitVec.ofInt IntKind.i64.bits (IntKind.i64.wrap (IntKind.i64.wrap i0 * i5))).toNat : Int)) (IntKind.i64.wrap (i3 + 1)))) else (L104_0 k i0 i1 f (i2) (IntKind.i64.wrap (i3 + 1))))) else (some (L104_0_R.e0 i2 i3)))
theorem L104_0_ok {i0 i1 : Int} {k : Nat} : ∀ {f : Nat} {i2 : Int} {i3 : Int} {r : L104_0_R}, L104_0 k i0 i1 f i2 i3 = some r →
    LoopsN Tryz.prog Tryz.cfg (k + 5) 0 Tryz.f104 (Tryz.cfg.fc 104) 0 [0, 1, 4, 5, 6] f { tm := [(0, vb i0), (1, vb i1), (4, vb 0), (5, vi i2), (6, vi i3)], hp := [], nx := 0 } (L104_0_end i0 i1 r) := by
  intro f
  induction f with
  | zero => intro i2 i3 r h; cases h
  | succ f ih =>
    intro i2 i3 r h
    rw [L104_0] at h
    rcases cond_elim h with ⟨e0, h⟩ | ⟨e0, h⟩
    ·
      obtain ⟨i4, e1, h⟩ := bE h
      rcases cond_elim h with ⟨e2, h⟩ | ⟨e2, h⟩
      ·
        obtain ⟨i5, e3, h⟩ := bE h
        exact LoopsN.next (L104_0_b0 i0 i1 i2 i3 i4 i5 k e0 (F124_ok e1) e2 (F125_ok e3)) (L104_0_b0h i0 i1 i2 i3 i5) (ih h)
      ·
        exact LoopsN.next (L104_0_b1 i0 i1 i2 i3 i4 k e0 (F124_ok e1) e2) (L104_0_b1h i0 i1 i2 i3) (ih h)
    ·
      cases h; exact LoopsN.done (L104_0_b2 i0 i1 i2 i3 k e0) (fun h => by cases h)
theorem L104_1_b0 (i0 i1 i3 i4 i5 i6 i7 : Int) (k : Nat)
    (c0 : decide (8 ≤ i5) = true)
    (c1 : cP ((k + 5)) 124 [vi i4, vi i5] = some (vi i6))
    (c2 : decide (i6 = 1) = true)
    (c3 : cP ((k + 5)) 125 [vi (wI (i5 - 8))] = some (vi i7)) :
    eC k 5 0 104 (loopBody Tryz.f104 1) { tm := [(0, vb i0), (1, vb i1), (4, vb 0), (5, vi i4), (6, vi i3), (7, vi i5), (9, V.bool false)], hp := [], nx := 0 } = some (Exit.normal, { tm := [(0, vb i0), (1, vb i1), (4, vb 0), (5, vi (wI (↑(BitVec.ofInt IntKind.i64.bits i4 ^^^ BitVec.ofInt IntKind.i64.bits (wI (283 * i7))).toNat : Int))), (6, vi i3), (7, vi (wI (i5 - 1))), (9, V.bool false), (25, V.bool true), (31, V.bool true)], hp := [], nx := 64 }) :=
  byL (k := k) (d := 5) [Hn.br 25 true, Hn.call 30 (vi i6), Hn.br 31 true, Hn.call 35 (vi i7)] (aI c0 (aI c1 (aI c2 (aI c3 trivial)))) (by kernel_rfl)
theorem L104_1_b0h (i0 i1 i3 i4 i5 i7 : Int) : head 0 [0, 1, 4, 5, 6, 7, 9] (Tryz.cfg.fc 104).acc { tm := [(0, vb i0), (1, vb i1), (4, vb 0), (5, vi (wI (↑(BitVec.ofInt IntKind.i64.bits i4 ^^^ BitVec.ofInt IntKind.i64.bits (wI (283 * i7))).toNat : Int))), (6, vi i3), (7, vi (wI (i5 - 1))), (9, V.bool false), (25, V.bool true), (31, V.bool true)], hp := [], nx := 64 } = { tm := [(0, vb i0), (1, vb i1), (4, vb 0), (5, vi (wI (↑(BitVec.ofInt IntKind.i64.bits i4 ^^^ BitVec.ofInt IntKind.i64.bits (wI (283 * i7))).toNat : Int))), (6, vi i3), (7, vi (wI (i5 - 1))), (9, V.bool false)], hp := [], nx := 0 } := by kernel_rfl
theorem L104_1_b1 (i0 i1 i3 i4 i5 i6 : Int) (k : Nat)
    (c0 : decide (8 ≤ i5) = true)
    (c1 : cP ((k + 5)) 124 [vi i4, vi i5] = some (vi i6))
    (c2 : decide (i6 = 1) = false) :
    eC k 5 0 104 (loopBody Tryz.f104 1) { tm := [(0, vb i0), (1, vb i1), (4, vb 0), (5, vi i4), (6, vi i3), (7, vi i5), (9, V.bool false)], hp := [], nx := 0 } = some (Exit.normal, { tm := [(0, vb i0), (1, vb i1), (4, vb 0), (5, vi i4), (6, vi i3), (7, vi (wI (i5 - 1))), (9, V.bool false), (25, V.bool true), (31, V.bool false)], hp := [], nx := 36 }) :=
  byL (k := k) (d := 5) [Hn.br 25 true, Hn.call 30 (vi i6), Hn.br 31 false] (aI c0 (aI c1 (aI c2 trivial))) (by kernel_rfl)
theorem L104_1_b1h (i0 i1 i3 i4 i5 : Int) : head 0 [0, 1, 4, 5, 6, 7, 9] (Tryz.cfg.fc 104).acc { tm := [(0, vb i0), (1, vb i1), (4, vb 0), (5, vi i4), (6, vi i3), (7, vi (wI (i5 - 1))), (9, V.bool false), (25, V.bool true), (31, V.bool false)], hp := [], nx := 36 } = { tm := [(0, vb i0), (1, vb i1), (4, vb 0), (5, vi i4), (6, vi i3), (7, vi (wI (i5 - 1))), (9, V.bool false)], hp := [], nx := 0 } := by kernel_rfl
theorem L104_1_b2 (i0 i1 i3 i4 i5 : Int) (k : Nat)
    (c0 : decide (8 ≤ i5) = false) :
    eC k 5 0 104 (loopBody Tryz.f104 1) { tm := [(0, vb i0), (1, vb i1), (4, vb 0), (5, vi i4), (6, vi i3), (7, vi i5), (9, V.bool false)], hp := [], nx := 0 } = some (Exit.exit 2, { tm := [(0, vb i0), (1, vb i1), (4, vb 0), (5, vi i4), (6, vi i3), (7, vi i5), (9, V.bool false), (25, V.bool false)], hp := [], nx := 8 }) :=
  byL (k := k) (d := 5) [Hn.br 25 false] (aI c0 trivial) (by kernel_rfl)
inductive L104_1_R where
  | e0 (i4 : Int) (i5 : Int)
noncomputable def L104_1_end (i0 : Int) (i1 : Int) (i3 : Int) : L104_1_R → Exit × St
  | .e0 i4 i5 => (Exit.exit 2, { tm := [(0, V.int .u8 i0), (1, V.int .u8 i1), (4, V.int .u8 0), (5, V.int .i64 i4), (6, V.int .i64 i3), (7, V.int .i64 i5), (9, V.bool false), (25, V.bool false)], hp := [], nx := 8 })
def L104_1 (k : Nat) (i0 i1 i3 : Int) : Nat → Int → Int → Option L104_1_R
  | 0, _, _ => none
  | f + 1, i4, i5 => (bif decide (8 ≤ i5) then ((F124 (k + 2) (i4) (i5)).bind fun i6 => (bif decide (i6 = 1) then ((F125 (k + 2) (IntKind.i64.wrap (i5 - 8))).bind fun i7 => (L104_1 k i0 i1 i3 f (IntKind.i64.wrap (↑(BitVec.ofInt IntKind.i64.bits i4 ^^^ BitVec.ofInt IntKind.i64.bits (IntKind.i64.wrap (283 * i7))).toNat : Int)) (IntKind.i64.wrap (i5 - 1)))) else (L104_1 k i0 i1 i3 f (i4) (IntKind.i64.wrap (i5 - 1))))) else (some (L104_1_R.e0 i4 i5)))
theorem L104_1_ok {i0 i1 i3 : Int} {k : Nat} : ∀ {f : Nat} {i4 : Int} {i5 : Int} {r : L104_1_R}, L104_1 k i0 i1 i3 f i4 i5 = some r →
    LoopsN Tryz.prog Tryz.cfg (k + 5) 0 Tryz.f104 (Tryz.cfg.fc 104) 1 [0, 1, 4, 5, 6, 7, 9] f { tm := [(0, vb i0), (1, vb i1), (4, vb 0), (5, vi i4), (6, vi i3), (7, vi i5), (9, V.bool false)], hp := [], nx := 0 } (L104_1_end i0 i1 i3 r) := by
  intro f
  induction f with
  | zero => intro i4 i5 r h; cases h
  | succ f ih =>
    intro i4 i5 r h
    rw [L104_1] at h
    rcases cond_elim h with ⟨e0, h⟩ | ⟨e0, h⟩
    ·
      obtain ⟨i6, e1, h⟩ := bE h
      rcases cond_elim h with ⟨e2, h⟩ | ⟨e2, h⟩
      ·
        obtain ⟨i7, e3, h⟩ := bE h
        exact LoopsN.next (L104_1_b0 i0 i1 i3 i4 i5 i6 i7 k e0 (F124_ok e1) e2 (F125_ok e3)) (L104_1_b0h i0 i1 i3 i4 i5 i7) (ih h)
      ·
        exact LoopsN.next (L104_1_b1 i0 i1 i3 i4 i5 i6 k e0 (F124_ok e1) e2) (L104_1_b1h i0 i1 i3 i4 i5) (ih h)
    ·
      cases h; exact LoopsN.done (L104_1_b2 i0 i1 i3 i4 i5 k e0) (fun h => by cases h)
theorem P104_0 (i0 i1 i2 i3 i4 i5 : Int) (k : Nat)
    (c0 : LoopsN Tryz.prog Tryz.cfg (k + 5) 0 Tryz.f104 (Tryz.cfg.fc 104) 0 [0, 1, 4, 5, 6] (k + 5) { tm := [(0, vb i0), (1, vb i1), (4, vb 0), (5, vi 0), (6, vi 0)], hp := [], nx := 0 } (Exit.exit 0, { tm := [(0, vb i0), (1, vb i1), (4, vb 0), (5, vi i2), (6, vi i3), (9, V.bool false)], hp := [], nx := 8 }))
    (c1 : LoopsN Tryz.prog Tryz.cfg (k + 5) 0 Tryz.f104 (Tryz.cfg.fc 104) 1 [0, 1, 4, 5, 6, 7, 9] (k + 5) { tm := [(0, vb i0), (1, vb i1), (4, vb 0), (5, vi i2), (6, vi i3), (7, vi 14), (9, V.bool false)], hp := [], nx := 0 } (Exit.exit 2, { tm := [(0, vb i0), (1, vb i1), (4, vb 0), (5, vi i4), (6, vi i3), (7, vi i5), (9, V.bool false), (25, V.bool false)], hp := [], nx := 8 })) :
    cP ((k + 6)) 104 [vb i0, vb i1] = some (vb (wB i4)) :=
  byF (k := k) (d := 6) [Hn.loop (Exit.exit 0, { tm := [(0, vb i0), (1, vb i1), (4, vb 0), (5, vi i2), (6, vi i3), (9, V.bool false)], hp := [], nx := 8 }), Hn.loop (Exit.exit 2, { tm := [(0, vb i0), (1, vb i1), (4, vb 0), (5, vi i4), (6, vi i3), (7, vi i5), (9, V.bool false), (25, V.bool false)], hp := [], nx := 8 })] (aI c0 (aI c1 trivial)) (by kernel_rfl)
def F104 (k : Nat) (i0 i1 : Int) : Option (Int) :=
  ((L104_0 k i0 i1 (k + 5) (0) (0)).bind fun
    | L104_0_R.e0 i2 i3 => ((L104_1 k i0 i1 i3 (k + 5) (i2) (14)).bind fun
    | L104_1_R.e0 i4 i5 => (some (IntKind.u8.wrap i4))))
theorem F104_ok {i0 i1 : Int} {k : Nat} {r : Int} (h : F104 k i0 i1 = some r) :
    cP ((k + 6)) 104 [vb i0, vb i1] = some (vb r) := by
  unfold F104 at h
  obtain ⟨ee, e0, h⟩ := bE h
  cases ee with
  | e0 i2 i3 =>
    obtain ⟨ee, e1, h⟩ := bE h
    cases ee with
    | e0 i4 i5 =>
      have h := Option.some.inj h; subst h; exact P104_0 i0 i1 i2 i3 i4 i5 k (L104_0_ok e0) (L104_1_ok e1)
theorem L123_0_b0 (i0 i1 i2 : Int) (k : Nat)
    (c0 : decide (i1 < 256) = true)
    (c1 : cP ((k + 8)) 104 [vb i0, vb (wB i1)] = some (vb i2))
    (c2 : decide (i2 = 1) = true) :
    eC k 8 0 123 (loopBody Tryz.f123 0) { tm := [(0, vb i0), (2, vb 0), (3, vi i1)], hp := [], nx := 0 } = some (Exit.ret, { tm := [(0, vb i0), (2, vb (wB i1)), (3, vi i1), (5, V.bool true), (12, V.bool true)], hp := [], nx := 40 }) :=
  byL (k := k) (d := 8) [Hn.br 5 true, Hn.call 11 (vb i2), Hn.br 12 true] (aI c0 (aI c1 (aI c2 trivial))) (by kernel_rfl)
theorem L123_0_b1 (i0 i1 i2 : Int) (k : Nat)
    (c0 : decide (i1 < 256) = true)
    (c1 : cP ((k + 8)) 104 [vb i0, vb (wB i1)] = some (vb i2))
    (c2 : decide (i2 = 1) = false) :
    eC k 8 0 123 (loopBody Tryz.f123 0) { tm := [(0, vb i0), (2, vb 0), (3, vi i1)], hp := [], nx := 0 } = some (Exit.normal, { tm := [(0, vb i0), (2, vb 0), (3, vi (wI (i1 + 1))), (5, V.bool true), (12, V.bool false)], hp := [], nx := 40 }) :=
  byL (k := k) (d := 8) [Hn.br 5 true, Hn.call 11 (vb i2), Hn.br 12 false] (aI c0 (aI c1 (aI c2 trivial))) (by kernel_rfl)
theorem L123_0_b1h (i0 i1 : Int) : head 0 [0, 2, 3] (Tryz.cfg.fc 123).acc { tm := [(0, vb i0), (2, vb 0), (3, vi (wI (i1 + 1))), (5, V.bool true), (12, V.bool false)], hp := [], nx := 40 } = { tm := [(0, vb i0), (2, vb 0), (3, vi (wI (i1 + 1)))], hp := [], nx := 0 } := by kernel_rfl
theorem L123_0_b2 (i0 i1 : Int) (k : Nat)
    (c0 : decide (i1 < 256) = false) :
    eC k 8 0 123 (loopBody Tryz.f123 0) { tm := [(0, vb i0), (2, vb 0), (3, vi i1)], hp := [], nx := 0 } = some (Exit.exit 0, { tm := [(0, vb i0), (2, vb 0), (3, vi i1), (5, V.bool false)], hp := [], nx := 8 }) :=
  byL (k := k) (d := 8) [Hn.br 5 false] (aI c0 trivial) (by kernel_rfl)
inductive L123_0_R where
  | e0 (i1 : Int)
  | e1 (i1 : Int)
noncomputable def L123_0_end (i0 : Int) : L123_0_R → Exit × St
  | .e0 i1 => (Exit.ret, { tm := [(0, V.int .u8 i0), (2, V.int .u8 (IntKind.u8.wrap i1)), (3, V.int .i64 i1), (5, V.bool true), (12, V.bool true)], hp := [], nx := 40 })
  | .e1 i1 => (Exit.exit 0, { tm := [(0, V.int .u8 i0), (2, V.int .u8 0), (3, V.int .i64 i1), (5, V.bool false)], hp := [], nx := 8 })
def L123_0 (k : Nat) (i0 : Int) : Nat → Int → Option L123_0_R
  | 0, _ => none
  | f + 1, i1 => (bif decide (i1 < 256) then ((F104 (k + 2) (i0) (IntKind.u8.wrap i1)).bind fun i2 => (bif decide (i2 = 1) then (some (L123_0_R.e0 i1)) else (L123_0 k i0 f (IntKind.i64.wrap (i1 + 1))))) else (some (L123_0_R.e1 i1)))
theorem L123_0_ok {i0 : Int} {k : Nat} : ∀ {f : Nat} {i1 : Int} {r : L123_0_R}, L123_0 k i0 f i1 = some r →
    LoopsN Tryz.prog Tryz.cfg (k + 8) 0 Tryz.f123 (Tryz.cfg.fc 123) 0 [0, 2, 3] f { tm := [(0, vb i0), (2, vb 0), (3, vi i1)], hp := [], nx := 0 } (L123_0_end i0 r) := by
  intro f
  induction f with
  | zero => intro i1 r h; cases h
  | succ f ih =>
    intro i1 r h
    rw [L123_0] at h
    rcases cond_elim h with ⟨e0, h⟩ | ⟨e0, h⟩
    ·
      obtain ⟨i2, e1, h⟩ := bE h
      rcases cond_elim h with ⟨e2, h⟩ | ⟨e2, h⟩
      ·
        cases h; exact LoopsN.done (L123_0_b0 i0 i1 i2 k e0 (F104_ok e1) e2) (fun h => by cases h)
      ·
        exact LoopsN.next (L123_0_b1 i0 i1 i2 k e0 (F104_ok e1) e2) (L123_0_b1h i0 i1) (ih h)
    ·
      cases h; exact LoopsN.done (L123_0_b2 i0 i1 k e0) (fun h => by cases h)
theorem P123_0 (i0 i1 : Int) (k : Nat)
    (c0 : LoopsN Tryz.prog Tryz.cfg (k + 8) 0 Tryz.f123 (Tryz.cfg.fc 123) 0 [0, 2, 3] (k + 8) { tm := [(0, vb i0), (2, vb 0), (3, vi 1)], hp := [], nx := 0 } (Exit.exit 0, { tm := [(0, vb i0), (2, vb 0), (3, vi i1), (5, V.bool false)], hp := [], nx := 8 })) :
    cP ((k + 9)) 123 [vb i0] = some (vb 0) :=
  byF (k := k) (d := 9) [Hn.loop (Exit.exit 0, { tm := [(0, vb i0), (2, vb 0), (3, vi i1), (5, V.bool false)], hp := [], nx := 8 })] (aI c0 trivial) (by kernel_rfl)
theorem P123_1 (i0 i1 : Int) (k : Nat)
    (c0 : LoopsN Tryz.prog Tryz.cfg (k + 8) 0 Tryz.f123 (Tryz.cfg.fc 123) 0 [0, 2, 3] (k + 8) { tm := [(0, vb i0), (2, vb 0), (3, vi 1)], hp := [], nx := 0 } (Exit.ret, { tm := [(0, vb i0), (2, vb (wB i1)), (3, vi i1), (5, V.bool true), (12, V.bool true)], hp := [], nx := 40 })) :
    cP ((k + 9)) 123 [vb i0] = some (vb (wB i1)) :=
  byF (k := k) (d := 9) [Hn.loop (Exit.ret, { tm := [(0, vb i0), (2, vb (wB i1)), (3, vi i1), (5, V.bool true), (12, V.bool true)], hp := [], nx := 40 })] (aI c0 trivial) (by kernel_rfl)
def F123 (k : Nat) (i0 : Int) : Option (Int) :=
  ((L123_0 k i0 (k + 8) (1)).bind fun
    | L123_0_R.e0 i1 => (some (IntKind.u8.wrap i1))
    | L123_0_R.e1 i1 => (some (0)))
theorem F123_ok {i0 : Int} {k : Nat} {r : Int} (h : F123 k i0 = some r) :
    cP ((k + 9)) 123 [vb i0] = some (vb r) := by
  unfold F123 at h
  obtain ⟨ee, e0, h⟩ := bE h
  cases ee with
  | e0 i1 =>
    have h := Option.some.inj h; subst h; exact P123_1 i0 i1 k (L123_0_ok e0)
  | e1 i1 =>
    have h := Option.some.inj h; subst h; exact P123_0 i0 i1 k (L123_0_ok e0)
theorem L122_0_b0 (i0 i1 i2 i3 i4 : Int) (k : Nat)
    (c0 : decide (i3 < i1) = true)
    (c1 : cP ((k + 8)) 104 [vb i2, vb i0] = some (vb i4)) :
    eC k 8 0 122 (loopBody Tryz.f122 0) { tm := [(0, vb i0), (1, vi i1), (4, vb 0), (5, vb i2), (6, vi i3)], hp := [], nx := 0 } = some (Exit.normal, { tm := [(0, vb i0), (1, vi i1), (4, vb 0), (5, vb i4), (6, vi (wI (i3 + 1))), (9, V.bool true)], hp := [], nx := 40 }) :=
  byL (k := k) (d := 8) [Hn.br 9 true, Hn.call 14 (vb i4)] (aI c0 (aI c1 trivial)) (by kernel_rfl)
theorem L122_0_b0h (i0 i1 i3 i4 : Int) : head 0 [0, 1, 4, 5, 6] (Tryz.cfg.fc 122).acc { tm := [(0, vb i0), (1, vi i1), (4, vb 0), (5, vb i4), (6, vi (wI (i3 + 1))), (9, V.bool true)], hp := [], nx := 40 } = { tm := [(0, vb i0), (1, vi i1), (4, vb 0), (5, vb i4), (6, vi (wI (i3 + 1)))], hp := [], nx := 0 } := by kernel_rfl
theorem L122_0_b1 (i0 i1 i2 i3 : Int) (k : Nat)
    (c0 : decide (i3 < i1) = false) :
    eC k 8 0 122 (loopBody Tryz.f122 0) { tm := [(0, vb i0), (1, vi i1), (4, vb 0), (5, vb i2), (6, vi i3)], hp := [], nx := 0 } = some (Exit.exit 0, { tm := [(0, vb i0), (1, vi i1), (4, vb 0), (5, vb i2), (6, vi i3), (9, V.bool false)], hp := [], nx := 12 }) :=
  byL (k := k) (d := 8) [Hn.br 9 false] (aI c0 trivial) (by kernel_rfl)
inductive L122_0_R where
  | e0 (i2 : Int) (i3 : Int)
noncomputable def L122_0_end (i0 : Int) (i1 : Int) : L122_0_R → Exit × St
  | .e0 i2 i3 => (Exit.exit 0, { tm := [(0, V.int .u8 i0), (1, V.int .i64 i1), (4, V.int .u8 0), (5, V.int .u8 i2), (6, V.int .i64 i3), (9, V.bool false)], hp := [], nx := 12 })
def L122_0 (k : Nat) (i0 i1 : Int) : Nat → Int → Int → Option L122_0_R
  | 0, _, _ => none
  | f + 1, i2, i3 => (bif decide (i3 < i1) then ((F104 (k + 2) (i2) (i0)).bind fun i4 => (L122_0 k i0 i1 f (i4) (IntKind.i64.wrap (i3 + 1)))) else (some (L122_0_R.e0 i2 i3)))
theorem L122_0_ok {i0 i1 : Int} {k : Nat} : ∀ {f : Nat} {i2 : Int} {i3 : Int} {r : L122_0_R}, L122_0 k i0 i1 f i2 i3 = some r →
    LoopsN Tryz.prog Tryz.cfg (k + 8) 0 Tryz.f122 (Tryz.cfg.fc 122) 0 [0, 1, 4, 5, 6] f { tm := [(0, vb i0), (1, vi i1), (4, vb 0), (5, vb i2), (6, vi i3)], hp := [], nx := 0 } (L122_0_end i0 i1 r) := by
  intro f
  induction f with
  | zero => intro i2 i3 r h; cases h
  | succ f ih =>
    intro i2 i3 r h
    rw [L122_0] at h
    rcases cond_elim h with ⟨e0, h⟩ | ⟨e0, h⟩
    ·
      obtain ⟨i4, e1, h⟩ := bE h
      exact LoopsN.next (L122_0_b0 i0 i1 i2 i3 i4 k e0 (F104_ok e1)) (L122_0_b0h i0 i1 i3 i4) (ih h)
    ·
      cases h; exact LoopsN.done (L122_0_b1 i0 i1 i2 i3 k e0) (fun h => by cases h)
theorem P122_0 (i0 i1 i2 i3 : Int) (k : Nat)
    (c0 : LoopsN Tryz.prog Tryz.cfg (k + 8) 0 Tryz.f122 (Tryz.cfg.fc 122) 0 [0, 1, 4, 5, 6] (k + 8) { tm := [(0, vb i0), (1, vi i1), (4, vb 0), (5, vb 1), (6, vi 0)], hp := [], nx := 0 } (Exit.exit 0, { tm := [(0, vb i0), (1, vi i1), (4, vb 0), (5, vb i2), (6, vi i3), (9, V.bool false)], hp := [], nx := 12 })) :
    cP ((k + 9)) 122 [vb i0, vi i1] = some (vb i2) :=
  byF (k := k) (d := 9) [Hn.loop (Exit.exit 0, { tm := [(0, vb i0), (1, vi i1), (4, vb 0), (5, vb i2), (6, vi i3), (9, V.bool false)], hp := [], nx := 12 })] (aI c0 trivial) (by kernel_rfl)
def F122 (k : Nat) (i0 i1 : Int) : Option (Int) :=
  ((L122_0 k i0 i1 (k + 8) (1) (0)).bind fun
    | L122_0_R.e0 i2 i3 => (some (i2)))
theorem F122_ok {i0 i1 : Int} {k : Nat} {r : Int} (h : F122 k i0 i1 = some r) :
    cP ((k + 9)) 122 [vb i0, vi i1] = some (vb r) := by
  unfold F122 at h
  obtain ⟨ee, e0, h⟩ := bE h
  cases ee with
  | e0 i2 i3 =>
    have h := Option.some.inj h; subst h; exact P122_0 i0 i1 i2 i3 k (L122_0_ok e0)
theorem L103_0_b0 (i0 i1 i2 i3 i4 i5 i6 i7 i8 i9 i10 : Int) (k : Nat)
    (c0 : decide (i3 < 8) = true)
    (c1 : cP ((k + 11)) 124 [vi (wI i1), vi i3] = some (vi i4))
    (c2 : cP ((k + 11)) 124 [vi (wI i1), vi ((wI (i3 + 4)).tmod 8)] = some (vi i5))
    (c3 : cP ((k + 11)) 124 [vi (wI i1), vi ((wI (i3 + 5)).tmod 8)] = some (vi i6))
    (c4 : cP ((k + 11)) 124 [vi (wI i1), vi ((wI (i3 + 6)).tmod 8)] = some (vi i7))
    (c5 : cP ((k + 11)) 124 [vi (wI i1), vi ((wI (i3 + 7)).tmod 8)] = some (vi i8))
    (c6 : cP ((k + 11)) 124 [vi 99, vi i3] = some (vi i9))
    (c7 : cP ((k + 11)) 125 [vi i3] = some (vi i10)) :
    eC k 11 0 103 (loopBody Tryz.f103 0) { tm := [(0, vb i0), (2, vb 0), (3, vi (wI i1)), (4, vi i2), (5, vi i3)], hp := [], nx := 0 } = some (Exit.normal, { tm := [(0, vb i0), (2, vb 0), (3, vi (wI i1)), (4, vi (wI (i2 + wI ((wI (wI (wI (wI (wI (i4 + i5) + i6) + i7) + i8) + i9)).tmod 2 * i10)))), (5, vi (wI (i3 + 1))), (6, vi (wI (wI (wI (wI (wI (i4 + i5) + i6) + i7) + i8) + i9))), (11, V.bool true)], hp := [], nx := 176 }) :=
  byL (k := k) (d := 11) [Hn.br 11 true, Hn.call 16 (vi i4), Hn.call 21 (vi i5), Hn.call 27 (vi i6), Hn.call 33 (vi i7), Hn.call 39 (vi i8), Hn.call 42 (vi i9), Hn.call 48 (vi i10)] (aI c0 (aI c1 (aI c2 (aI c3 (aI c4 (aI c5 (aI c6 (aI c7 trivial)))))))) (by kernel_rfl)
theorem L103_0_b0h (i0 i1 i2 i3 i4 i5 i6 i7 i8 i9 i10 : Int) : head 0 [0, 2, 3, 4, 5] (Tryz.cfg.fc 103).acc { tm := [(0, vb i0), (2, vb 0), (3, vi (wI i1)), (4, vi (wI (i2 + wI ((wI (wI (wI (wI (wI (i4 + i5) + i6) + i7) + i8) + i9)).tmod 2 * i10)))), (5, vi (wI (i3 + 1))), (6, vi (wI (wI (wI (wI (wI (i4 + i5) + i6) + i7) + i8) + i9))), (11, V.bool true)], hp := [], nx := 176 } = { tm := [(0, vb i0), (2, vb 0), (3, vi (wI i1)), (4, vi (wI (i2 + wI ((wI (wI (wI (wI (wI (i4 + i5) + i6) + i7) + i8) + i9)).tmod 2 * i10)))), (5, vi (wI (i3 + 1)))], hp := [], nx := 0 } := by kernel_rfl
theorem L103_0_b1 (i0 i1 i2 i3 : Int) (k : Nat)
    (c0 : decide (i3 < 8) = false) :
    eC k 11 0 103 (loopBody Tryz.f103 0) { tm := [(0, vb i0), (2, vb 0), (3, vi (wI i1)), (4, vi i2), (5, vi i3)], hp := [], nx := 0 } = some (Exit.exit 0, { tm := [(0, vb i0), (2, vb 0), (3, vi (wI i1)), (4, vi i2), (5, vi i3), (11, V.bool false)], hp := [], nx := 8 }) :=
  byL (k := k) (d := 11) [Hn.br 11 false] (aI c0 trivial) (by kernel_rfl)
inductive L103_0_R where
  | e0 (i2 : Int) (i3 : Int)
noncomputable def L103_0_end (i0 : Int) (i1 : Int) : L103_0_R → Exit × St
  | .e0 i2 i3 => (Exit.exit 0, { tm := [(0, V.int .u8 i0), (2, V.int .u8 0), (3, V.int .i64 (IntKind.i64.wrap i1)), (4, V.int .i64 i2), (5, V.int .i64 i3), (11, V.bool false)], hp := [], nx := 8 })
def L103_0 (k : Nat) (i0 i1 : Int) : Nat → Int → Int → Option L103_0_R
  | 0, _, _ => none
  | f + 1, i2, i3 => (bif decide (i3 < 8) then ((F124 (k + 8) (IntKind.i64.wrap i1) (i3)).bind fun i4 => ((F124 (k + 8) (IntKind.i64.wrap i1) ((IntKind.i64.wrap (i3 + 4)).tmod 8)).bind fun i5 => ((F124 (k + 8) (IntKind.i64.wrap i1) ((IntKind.i64.wrap (i3 + 5)).tmod 8)).bind fun i6 => ((F124 (k + 8) (IntKind.i64.wrap i1) ((IntKind.i64.wrap (i3 + 6)).tmod 8)).bind fun i7 => ((F124 (k + 8) (IntKind.i64.wrap i1) ((IntKind.i64.wrap (i3 + 7)).tmod 8)).bind fun i8 => ((F124 (k + 8) (99) (i3)).bind fun i9 => ((F125 (k + 8) (i3)).bind fun i10 => (L103_0 k i0 i1 f (IntKind.i64.wrap (i2 + IntKind.i64.wrap ((IntKind.i64.wrap (IntKind.i64.wrap (IntKind.i64.wrap (IntKind.i64.wrap (IntKind.i64.wrap (i4 + i5) + i6) + i7) + i8) + i9)).tmod 2 * i10))) (IntKind.i64.wrap (i3 + 1)))))))))) else (some (L103_0_R.e0 i2 i3)))
theorem L103_0_ok {i0 i1 : Int} {k : Nat} : ∀ {f : Nat} {i2 : Int} {i3 : Int} {r : L103_0_R}, L103_0 k i0 i1 f i2 i3 = some r →
    LoopsN Tryz.prog Tryz.cfg (k + 11) 0 Tryz.f103 (Tryz.cfg.fc 103) 0 [0, 2, 3, 4, 5] f { tm := [(0, vb i0), (2, vb 0), (3, vi (wI i1)), (4, vi i2), (5, vi i3)], hp := [], nx := 0 } (L103_0_end i0 i1 r) := by
  intro f
  induction f with
  | zero => intro i2 i3 r h; cases h
  | succ f ih =>
    intro i2 i3 r h
    rw [L103_0] at h
    rcases cond_elim h with ⟨e0, h⟩ | ⟨e0, h⟩
    ·
      obtain ⟨i4, e1, h⟩ := bE h
      obtain ⟨i5, e2, h⟩ := bE h
      obtain ⟨i6, e3, h⟩ := bE h
      obtain ⟨i7, e4, h⟩ := bE h
      obtain ⟨i8, e5, h⟩ := bE h
      obtain ⟨i9, e6, h⟩ := bE h
      obtain ⟨i10, e7, h⟩ := bE h
      exact LoopsN.next (L103_0_b0 i0 i1 i2 i3 i4 i5 i6 i7 i8 i9 i10 k e0 (F124_ok e1) (F124_ok e2) (F124_ok e3) (F124_ok e4) (F124_ok e5) (F124_ok e6) (F125_ok e7)) (L103_0_b0h i0 i1 i2 i3 i4 i5 i6 i7 i8 i9 i10) (ih h)
    ·
      cases h; exact LoopsN.done (L103_0_b1 i0 i1 i2 i3 k e0) (fun h => by cases h)
theorem P103_0 (i0 i1 i2 i3 : Int) (k : Nat)
    (c0 : cP ((k + 11)) 123 [vb i0] = some (vb i1))
    (c1 : LoopsN Tryz.prog Tryz.cfg (k + 11) 0 Tryz.f103 (Tryz.cfg.fc 103) 0 [0, 2, 3, 4, 5] (k + 11) { tm := [(0, vb i0), (2, vb 0), (3, vi (wI i1)), (4, vi 0), (5, vi 0)], hp := [], nx := 0 } (Exit.exit 0, { tm := [(0, vb i0), (2, vb 0), (3, vi (wI i1)), (4, vi i2), (5, vi i3), (11, V.bool false)], hp := [], nx := 8 })) :
    cP ((k + 12)) 103 [vb i0] = some (vb (wB i2)) :=
  byF (k := k) (d := 12) [Hn.call 8 (vb i1), Hn.loop (Exit.exit 0, { tm := [(0, vb i0), (2, vb 0), (3, vi (wI i1)), (4, vi i2), (5, vi i3), (11, V.bool false)], hp := [], nx := 8 })] (aI c0 (aI c1 trivial)) (by kernel_rfl)
def F103 (k : Nat) (i0 : Int) : Option (Int) :=
  ((F123 (k + 2) (i0)).bind fun i1 => ((L103_0 k i0 i1 (k + 11) (0) (0)).bind fun
    | L103_0_R.e0 i2 i3 => (some (IntKind.u8.wrap i2))))
theorem F103_ok {i0 : Int} {k : Nat} {r : Int} (h : F103 k i0 = some r) :
    cP ((k + 12)) 103 [vb i0] = some (vb r) := by
  unfold F103 at h
  obtain ⟨i1, e0, h⟩ := bE h
  obtain ⟨ee, e1, h⟩ := bE h
  cases ee with
  | e0 i2 i3 =>
    have h := Option.some.inj h; subst h; exact P103_0 i0 i1 i2 i3 k (F123_ok e0) (L103_0_ok e1)
end Go.Proofs
set_option linter.unusedVariables false
set_option maxHeartbeats 0
set_option maxRecDepth 100000
namespace Go.Proofs
open Go Go.Sym
theorem P102_0 (b0 : Bool) (x0 : List V) (o0 : Option Bool) (n0 k : Nat)
    (c0 : GrdW ((n0 = (1 : Nat) ∨ x0.isEmpty = true) ∧ x0.all isByte = true) (V.str (List.map Sym.byteOf x0)) []) :
    cP ((k + 3)) 102 [V.sl o0 b0 n0 x0] = some (V.str (List.map Sym.byteOf x0)) :=
  byF (k := k) (d := 3) [Hn.op 4 (V.str (List.map Sym.byteOf x0)) []] (aI c0 trivial) (by kernel_rfl)
def F102 (k : Nat) (o0 : Option Bool) (b0 : Bool) (n0 : Nat) (x0 : List V) : Option (List UInt8) :=
  (guardP (n0 = (1 : Nat) ∨ x0.isEmpty = true) (guardP (x0.all isByte = true) (some (List.map Sym.byteOf x0))))
theorem F102_ok {o0 : Option Bool} {b0 : Bool} {n0 : Nat} {x0 : List V} {k : Nat} {r : List UInt8} (h : F102 k o0 b0 n0 x0 = some r) :
    cP ((k + 3)) 102 [V.sl o0 b0 n0 x0] = some (V.str r) := by
  unfold F102 at h
  obtain ⟨e0, h⟩ := guardP_some.1 h
  obtain ⟨e1, h⟩ := guardP_some.1 h
  have h := Option.some.inj h; subst h; exact P102_0 b0 x0 o0 n0 k (GrdW.mk ⟨e0, e1⟩)
theorem L79_0_b0 (i0 i1 : Int) (s0 : List UInt8) (x0 : List V) (u0 : UInt8) (k : Nat)
    (c0 : decide (i0 < (↑s0.length : Int)) = true)
    (c1 : StrP s0 i0 u0)
    (c2 : cP ((k + 14)) 103 [vb (bN u0)] = some (vb i1))
    (c3 : GrdW ((1 : Nat) = (1 : Nat) ∧ (0 : Nat) < (1 : Nat) ∧ (1 : Nat) ≤ (64 : Nat) ∧ x0.length + (1 : Nat) ≤ maxLen') (V.ref (41 : Nat)) [((0 : Nat), Ob.dead), ((41 : Nat), Ob.row false (1 : Nat) (x0 ++ [vb i1]))]) :
    eC k 14 0 79 (loopBody Tryz.f79 0) { tm := [(0, V.str s0), (2, V.str []), (3, V.ref 0), (4, vi i0)], hp := [(0, Ob.row false 1 x0)], nx := 1 } = some (Exit.normal, { tm := [(0, V.str s0), (2, V.str []), (3, V.ref 41), (4, vi (wI (i0 + 1))), (9, V.bool true)], hp := [(0, Ob.dead), (37, Ob.row false 1 [vb i1]), (41, Ob.row false 1 (x0 ++ [vb i1]))], nx := 61 }) :=
  byL (k := k) (d := 14) [Hn.br 9 true, Hn.op 15 (vb (bN u0)) [], Hn.call 16 (vb i1), Hn.op 18 (V.ref 41) [(0, Ob.dead), (41, Ob.row false 1 (x0 ++ [vb i1]))]] (aI c0 (aI c1 (aI c2 (aI c3 trivial)))) (by kernel_rfl)
theorem L79_0_b0h (i0 i1 : Int) (s0 : List UInt8) (x0 : List V) : head 0 [0, 2, 3, 4] (Tryz.cfg.fc 79).acc { tm := [(0, V.str s0), (2, V.str []), (3, V.ref 41), (4, vi (wI (i0 + 1))), (9, V.bool true)], hp := [(0, Ob.dead), (37, Ob.row false 1 [vb i1]), (41, Ob.row false 1 (x0 ++ [vb i1]))], nx := 61 } = { tm := [(0, V.str s0), (2, V.str []), (3, V.ref 0), (4, vi (wI (i0 + 1)))], hp := [(0, Ob.row false 1 (x0 ++ [vb i1]))], nx := 1 } := by kernel_rfl
theorem L79_0_b1 (i0 : Int) (s0 : List UInt8) (x0 : List V) (k : Nat)
    (c0 : decide (i0 < (↑s0.length : Int)) = false) :
    eC k 14 0 79 (loopBody Tryz.f79 0) { tm := [(0, V.str s0), (2, V.str []), (3, V.ref 0), (4, vi i0)], hp := [(0, Ob.row false 1 x0)], nx := 1 } = some (Exit.exit 0, { tm := [(0, V.str s0), (2, V.str []), (3, V.ref 0), (4, vi i0), (9, V.bool false)], hp := [(0, Ob.row false 1 x0)], nx := 17 }) :=
  byL (k := k) (d := 14) [Hn.br 9 false] (aI c0 trivial) (by kernel_rfl)
inductive L79_0_R where
  | e0 (i0 : Int) (x0 : List V)
noncomputable def L79_0_end (s0 : List UInt8) : L79_0_R → Exit × St
  | .e0 i0 x0 => (Exit.exit 0, { tm := [(0, V.str s0), (2, V.str []), (3, V.ref 0), (4, V.int .i64 i0), (9, V.bool false)], hp := [(0, Ob.row false 1 x0)], nx := 17 })
def L79_0 (k : Nat) (s0 : List UInt8) : Nat → Int → List V → Option L79_0_R
  | 0, _, _ => none
  | f + 1, i0, x0 => (bif decide (i0 < (↑s0.length : Int)) then ((satB (s0) (i0)).bind fun u0 => ((F103 (k + 2) ((↑u0.toNat : Int))).bind fun i1 => (guardP (x0.length + (1 : Nat) ≤ maxLen') (L79_0 k s0 f (IntKind.i64.wrap (i0 + 1)) (x0 ++ [V.int .u8 i1]))))) else (some (L79_0_R.e0 i0 x0)))
theorem L79_0_ok {s0 : List UInt8} {k : Nat} : ∀ {f : Nat} {i0 : Int} {x0 : List V} {r : L79_0_R}, L79_0 k s0 f i0 x0 = some r →
    LoopsN Tryz.prog Tryz.cfg (k + 14) 0 Tryz.f79 (Tryz.cfg.fc 79) 0 [0, 2, 3, 4] f { tm := [(0, V.str s0), (2, V.str []), (3, V.ref 0), (4, vi i0)], hp := [(0, Ob.row false 1 x0)], nx := 1 } (L79_0_end s0 r) := by
  intro f
  induction f with
  | zero => intro i0 x0 r h; cases h
  | succ f ih =>
    intro i0 x0 r h
    rw [L79_0] at h
    rcases cond_elim h with ⟨e0, h⟩ | ⟨e0, h⟩
    ·
      obtain ⟨u0, e1, h⟩ := bE h
      obtain ⟨i1, e2, h⟩ := bE h
      obtain ⟨e3, h⟩ := guardP_some.1 h
      exact LoopsN.next (L79_0_b0 i0 i1 s0 x0 u0 k e0 (StrP.of_at e1) (F103_ok e2) (GrdW.mk ⟨rfl, by decide, by decide, e3⟩)) (L79_0_b0h i0 i1 s0 x0) (ih h)
    ·
      cases h; exact LoopsN.done (L79_0_b1 i0 s0 x0 k e0) (fun h => by cases h)
theorem P79_0 (i0 : Int) (s0 s1 : List UInt8) (x0 : List V) (k : Nat)
    (c0 : LoopsN Tryz.prog Tryz.cfg (k + 14) 0 Tryz.f79 (Tryz.cfg.fc 79) 0 [0, 2, 3, 4] (k + 14) { tm := [(0, V.str s0), (2, V.str []), (3, V.ref 0), (4, vi 0)], hp := [(0, Ob.row false 1 [])], nx := 1 } (Exit.exit 0, { tm := [(0, V.str s0), (2, V.str []), (3, V.ref 0), (4, vi i0), (9, V.bool false)], hp := [(0, Ob.row false 1 x0)], nx := 17 }))
    (c1 : cP ((k + 14)) 102 [V.sl none false 1 x0] = some (V.str s1)) :
    cP ((k + 15)) 79 [V.str s0] = some (V.str s1) :=
  byF (k := k) (d := 15) [Hn.loop (Exit.exit 0, { tm := [(0, V.str s0), (2, V.str []), (3, V.ref 0), (4, vi i0), (9, V.bool false)], hp := [(0, Ob.row false 1 x0)], nx := 17 }), Hn.call 20 (V.str s1)] (aI c0 (aI c1 trivial)) (by kernel_rfl)
def F79 (k : Nat) (s0 : List UInt8) : Option (List UInt8) :=
  ((L79_0 k s0 (k + 14) (0) ([])).bind fun
    | L79_0_R.e0 i0 x0 => ((F102 (k + 11) (none) (false) (1) (x0)).bind fun s1 => (some (s1))))
theorem F79_ok {s0 : List UInt8} {k : Nat} {r : List UInt8} (h : F79 k s0 = some r) :
    cP ((k + 15)) 79 [V.str s0] = some (V.str r) := by
  unfold F79 at h
  obtain ⟨ee, e0, h⟩ := bE h
  cases ee with
  | e0 i0 x0 =>
    obtain ⟨s1, e1, h⟩ := bE h
    have h := Option.some.inj h; subst h; exact P79_0 i0 s0 s1 x0 k (L79_0_ok e0) (F102_ok e1)
theorem P78_0 (s0 s1 : List UInt8) (u0 u1 u2 u3 u4 u5 u6 u7 u8 u9 u10 u11 u12 u13 u14 u15 : UInt8) (k : Nat)
    (c0 : StrP s0 0 u0)
    (c1 : StrP s0 5 u1)
    (c2 : StrP s0 10 u2)
    (c3 : StrP s0 15 u3)
    (c4 : StrP s0 4 u4)
    (c5 : StrP s0 9 u5)
    (c6 : StrP s0 14 u6)
    (c7 : StrP s0 3 u7)
    (c8 : StrP s0 8 u8)
    (c9 : StrP s0 13 u9)
    (c10 : StrP s0 2 u10)
    (c11 : StrP s0 7 u11)
    (c12 : StrP s0 12 u12)
    (c13 : StrP s0 1 u13)
    (c14 : StrP s0 6 u14)
    (c15 : StrP s0 11 u15)
    (c16 : cP ((k + 10)) 102 [V.sl none false 1 [vb (bN u0), vb (bN u1), vb (bN u2), vb (bN u3), vb (bN u4), vb (bN u5), vb (bN u6), vb (bN u7), vb (bN u8), vb (bN u9), vb (bN u10), vb (bN u11), vb (bN u12), vb (bN u13), vb (bN u14), vb (bN u15)]] = some (V.str s1)) :
    cP ((k + 11)) 78 [V.str s0] = some (V.str s1) :=
  byF (k := k) (d := 11) [Hn.rounds, Hn.rounds, Hn.op 24 (vb (bN u0)) [], Hn.op 24 (vb (bN u1)) [], Hn.op 24 (vb (bN u2)) [], Hn.op 24 (vb (bN u3)) [], Hn.rounds, Hn.op 24 (vb (bN u4)) [], Hn.op 24 (vb (bN u5)) [], Hn.op 24 (vb (bN u6)) [], Hn.op 24 (vb (bN u7)) [], Hn.rounds, Hn.op 24 (vb (bN u8)) [], Hn.op 24 (vb (bN u9)) [], Hn.op 24 (vb (bN u10)) [], Hn.op 24 (vb (bN u11)) [], Hn.rounds, Hn.op 24 (vb (bN u12)) [], Hn.op 24 (vb (bN u13)) [], Hn.op 24 (vb (bN u14)) [], Hn.op 24 (vb (bN u15)) [], Hn.call 28 (V.str s1)] (aI c0 (aI c1 (aI c2 (aI c3 (aI c4 (aI c5 (aI c6 (aI c7 (aI c8 (aI c9 (aI c10 (aI c11 (aI c12 (aI c13 (aI c14 (aI c15 (aI c16 trivial))))))))))))))))) (by kernel_rfl)
def F78 (k : Nat) (s0 : List UInt8) : Option (List UInt8) :=
  ((satB (s0) (0)).bind fun u0 => ((satB (s0) (5)).bind fun u1 => ((satB (s0) (10)).bind fun u2 => ((satB (s0) (15)).bind fun u3 => ((satB (s0) (4)).bind fun u4 => ((satB (s0) (9)).bind fun u5 => ((satB (s0) (14)).bind fun u6 => ((satB (s0) (3)).bind fun u7 => ((satB (s0) (8)).bind fun u8 => ((satB (s0) (13)).bind fun u9 => ((satB (s0) (2)).bind fun u10 => ((satB (s0) (7)).bind fun u11 => ((satB (s0) (12)).bind fun u12 => ((satB (s0) (1)).bind fun u13 => ((satB (s0) (6)).bind fun u14 => ((satB (s0) (11)).bind fun u15 => ((F102 (k + 7) (none) (false) (1) ([V.int .u8 (↑u0.toNat : Int), V.int .u8 (↑u1.toNat : Int), V.int .u8 (↑u2.toNat : Int), V.int .u8 (↑u3.toNat : Int), V.int .u8 (↑u4.toNat : Int), V.int .u8 (↑u5.toNat : Int), V.int .u8 (↑u6.toNat : Int), V.int .u8 (↑u7.toNat : Int), V.int .u8 (↑u8.toNat : Int), V.int .u8 (↑u9.toNat : Int), V.int .u8 (↑u10.toNat : Int), V.int .u8 (↑u11.toNat : Int), V.int .u8 (↑u12.toNat : Int), V.int .u8 (↑u13.toNat : Int), V.int .u8 (↑u14.toNat : Int), V.int .u8 (↑u15.toNat : Int)])).bind fun s1 => (some (s1)))))))))))))))))))
theorem F78_ok {s0 : List UInt8} {k : Nat} {r : List UInt8} (h : F78 k s0 = some r) :
    cP ((k + 11)) 78 [V.str s0] = some (V.str r) := by
  unfold F78 at h
  obtain ⟨u0, e0, h⟩ := bE h
  obtain ⟨u1, e1, h⟩ := bE h
  obtain ⟨u2, e2, h⟩ := bE h
  obtain ⟨u3, e3, h⟩ := bE h
  obtain ⟨u4, e4, h⟩ := bE h
  obtain ⟨u5, e5, h⟩ := bE h
  obtain ⟨u6, e6, h⟩ := bE h
  obtain ⟨u7, e7, h⟩ := bE h
  obtain ⟨u8, e8, h⟩ := bE h
  obtain ⟨u9, e9, h⟩ := bE h
  obtain ⟨u10, e10, h⟩ := bE h
  obtain ⟨u11, e11, h⟩ := bE h
  obtain ⟨u12, e12, h⟩ := bE h
  obtain ⟨u13, e13, h⟩ := bE h
  obtain ⟨u14, e14, h⟩ := bE h
  obtain ⟨u15, e15, h⟩ := bE h
  obtain ⟨s1, e16, h⟩ := bE h
  have h := Option.some.inj h; subst h; exact P78_0 s0 s1 u0 u1 u2 u3 u4 u5 u6 u7 u8 u9 u10 u11 u12 u13 u14 u15 k (StrP.of_at e0) (StrP.of_at e1) (StrP.of_at e2) (StrP.of_at e3) (StrP.of_at e4) (StrP.of_at e5) (StrP.of_at e6) (StrP.of_at e7) (StrP.of_at e8) (StrP.of_at e9) (StrP.of_at e10) (StrP.of_at e11) (StrP.of_at e12) (StrP.of_at e13) (StrP.of_at e14) (StrP.of_at e15) (F102_ok e16)
theorem P105_0 (i0 i1 : Int) (k : Nat)
    (c0 : decide (i0 = i1) = true) :
    cP ((k + 3)) 105 [vi i0, vi i1] = some (vb 2) :=
  byF (k := k) (d := 3) [Hn.br 7 true] (aI c0 trivial) (by kernel_rfl)
theorem P105_1 (i0 i1 : Int) (k : Nat)
    (c0 : decide (i0 = i1) = false)
    (c1 : decide ((wI (i0 + 1)).tmod 4 = i1) = true) :
    cP ((k + 3)) 105 [vi i0, vi i1] = some (vb 3) :=
  byF (k := k) (d := 3) [Hn.br 7 false, Hn.br 12 true] (aI c0 (aI c1 trivial)) (by kernel_rfl)
theorem P105_2 (i0 i1 : Int) (k : Nat)
    (c0 : decide (i0 = i1) = false)
    (c1 : decide ((wI (i0 + 1)).tmod 4 = i1) = false) :
    cP ((k + 3)) 105 [vi i0, vi i1] = some (vb 1) :=
  byF (k := k) (d := 3) [Hn.br 7 false, Hn.br 12 false] (aI c0 (aI c1 trivial)) (by kernel_rfl)
def F105 (k : Nat) (i0 i1 : Int) : Option (Int) :=
  (bif decide (i0 = i1) then (some (2)) else (bif decide ((IntKind.i64.wrap (i0 + 1)).tmod 4 = i1) then (some (3)) else (some (1))))
theorem F105_ok {i0 i1 : Int} {k : Nat} {r : Int} (h : F105 k i0 i1 = some r) :
    cP ((k + 3)) 105 [vi i0, vi i1] = some (vb r) := by
  unfold F105 at h
  rcases cond_elim h with ⟨e0, h⟩ | ⟨e0, h⟩
  ·
    have h := Option.some.inj h; subst h; exact P105_0 i0 i1 k e0
  ·
    rcases cond_elim h with ⟨e1, h⟩ | ⟨e1, h⟩
    ·
      have h := Option.some.inj h; subst h; exact P105_1 i0 i1 k e0 e1
    ·
      have h := Option.some.inj h; subst h; exact P105_2 i0 i1 k e0 e1
theorem L80_2_b0 (i0 i1 i2 i3 i4 i5 : Int) (s0 : List UInt8) (x1 : List V) (u0 : UInt8) (k : Nat)
    (c0 : decide (i3 < 4) = true)
    (c1 : StrP s0 (wI (wI (4 * i0) + i3)) u0)
    (c2 : cP ((k + 8)) 105 [vi i1, vi i3] = some (vb i4))
    (c3 : cP ((k + 8)) 104 [vb (bN u0), vb i4] = some (vb i5)) :
    eC k 8 0 80 (loopBody Tryz.f80 2) { tm := [(0, V.str s0), (2, V.str []), (3, V.ref 0), (4, vi i0), (5, vi i1), (6, vb i2), (7, vi i3), (10, V.bool true), (14, V.bool true)], hp := [(0, Ob.row false 1 x1)], nx := 1 } = some (Exit.normal, { tm := [(0, V.str s0), (2, V.str []), (3, V.ref 0), (4, vi i0), (5, vi i1), (6, vb (x8 i2 i5)), (7, vi (wI (i3 + 1))), (10, V.bool true), (14, V.bool true), (18, V.bool true)], hp := [(0, Ob.row false 1 x1)], nx := 73 }) :=
  byL (k := k) (d := 8) [Hn.br 18 true, Hn.op 27 (vb (bN u0)) [], Hn.call 30 (vb i4), Hn.call 31 (vb i5)] (aI c0 (aI c1 (aI c2 (aI c3 trivial)))) (by kernel_rfl)
theorem L80_2_b0h (i0 i1 i2 i3 i5 : Int) (s0 : List UInt8) (x1 : List V) : head 0 [0, 2, 3, 4, 5, 6, 7, 10, 14] (Tryz.cfg.fc 80).acc { tm := [(0, V.str s0), (2, V.str []), (3, V.ref 0), (4, vi i0), (5, vi i1), (6, vb (x8 i2 i5)), (7, vi (wI (i3 + 1))), (10, V.bool true), (14, V.bool true), (18, V.bool true)], hp := [(0, Ob.row false 1 x1)], nx := 73 } = { tm := [(0, V.str s0), (2, V.str []), (3, V.ref 0), (4, vi i0), (5, vi i1), (6, vb (x8 i2 i5)), (7, vi (wI (i3 + 1))), (10, V.bool true), (14, V.bool true)], hp := [(0, Ob.row false 1 x1)], nx := 1 } := by kernel_rfl
theorem L80_2_b1 (i0 i1 i2 i3 : Int) (s0 : List UInt8) (x1 : List V) (k : Nat)
    (c0 : decide (i3 < 4) = false) :
    eC k 8 0 80 (loopBody Tryz.f80 2) { tm := [(0, V.str s0), (2, V.str []), (3, V.ref 0), (4, vi i0), (5, vi i1), (6, vb i2), (7, vi i3), (10, V.bool true), (14, V.bool true)], hp := [(0, Ob.row false 1 x1)], nx := 1 } = some (Exit.exit 4, { tm := [(0, V.str s0), (2, V.str []), (3, V.ref 0), (4, vi i0), (5, vi i1), (6, vb i2), (7, vi i3), (10, V.bool true), (14, V.bool true), (18, V.bool false)], hp := [(0, Ob.row false 1 x1)], nx := 9 }) :=
  byL (k := k) (d := 8) [Hn.br 18 false] (aI c0 trivial) (by kernel_rfl)
inductive L80_2_R where
  | e0 (i2 : Int) (i3 : Int)
noncomputable def L80_2_end (i0 : Int) (i1 : Int) (s0 : List UInt8) (x1 : List V) : L80_2_R → Exit × St
  | .e0 i2 i3 => (Exit.exit 4, { tm := [(0, V.str s0), (2, V.str []), (3, V.ref 0), (4, V.int .i64 i0), (5, V.int .i64 i1), (6, V.int .u8 i2), (7, V.int .i64 i3), (10, V.bool true), (14, V.bool true), (18, V.bool false)], hp := [(0, Ob.row false 1 x1)], nx := 9 })
def L80_2 (k : Nat) (i0 i1 : Int) (s0 : List UInt8) (x1 : List V) : Nat → Int → Int → Option L80_2_R
  | 0, _, _ => none
  | f + 1, i2, i3 => (bif decide (i3 < 4) then ((satB (s0) (IntKind.i64.wrap (IntKind.i64.wrap (4 * i0) + i3))).bind fun u0 => ((F105 (k + 5) (i1) (i3)).bind fun i4 => ((F104 (k + 2) ((↑u0.toNat : Int)) (i4)).bind fun i5 => (L80_2 k i0 i1 s0 x1 f (IntKind.u8.wrap (↑(BitVec.ofInt IntKind.u8.bits i2 ^^^ BitVec.ofInt IntKind.u8.bits i5).toNat : Int)) (IntKind.i64.wrap (i3 + 1)))))) else (some (L80_2_R.e0 i2 i3)))
theorem L80_2_ok {i0 i1 : Int} {s0 : List UInt8} {x1 : List V} {k : Nat} : ∀ {f : Nat} {i2 : Int} {i3 : Int} {r : L80_2_R}, L80_2 k i0 i1 s0 x1 f i2 i3 = some r →
    LoopsN Tryz.prog Tryz.cfg (k + 8) 0 Tryz.f80 (Tryz.cfg.fc 80) 2 [0, 2, 3, 4, 5, 6, 7, 10, 14] f { tm := [(0, V.str s0), (2, V.str []), (3, V.ref 0), (4, vi i0), (5, vi i1), (6, vb i2), (7, vi i3), (10, V.bool true), (14, V.bool true)], hp := [(0, Ob.row false 1 x1)], nx := 1 } (L80_2_end i0 i1 s0 x1 r) := by
  intro f
  induction f with
  | zero => intro i2 i3 r h; cases h
  | succ f ih =>
    intro i2 i3 r h
    rw [L80_2] at h
    rcases cond_elim h with ⟨e0, h⟩ | ⟨e0, h⟩
    ·
      obtain ⟨u0, e1, h⟩ := bE h
      obtain ⟨i4, e2, h⟩ := bE h
      obtain ⟨i5, e3, h⟩ := bE h
      exact LoopsN.next (L80_2_b0 i0 i1 i2 i3 i4 i5 s0 x1 u0 k e0 (StrP.of_at e1) (F105_ok e2) (F104_ok e3)) (L80_2_b0h i0 i1 i2 i3 i5 s0 x1) (ih h)
    ·
      cases h; exact LoopsN.done (L80_2_b1 i0 i1 i2 i3 s0 x1 k e0) (fun h => by cases h)
theorem L80_1_b0 (i0 i1 i2 i3 : Int) (s0 : List UInt8) (x1 : List V) (k : Nat)
    (c0 : decide (i1 < 4) = true)
    (c1 : LoopsN Tryz.prog Tryz.cfg (k + 8) 0 Tryz.f80 (Tryz.cfg.fc 80) 2 [0, 2, 3, 4, 5, 6, 7, 10, 14] (k + 8) { tm := [(0, V.str s0), (2, V.str []), (3, V.ref 0), (4, vi i0), (5, vi i1), (6, vb 0), (7, vi 0), (10, V.bool true), (14, V.bool true)], hp := [(0, Ob.row false 1 x1)], nx := 1 } (Exit.exit 4, { tm := [(0, V.str s0), (2, V.str []), (3, V.ref 0), (4, vi i0), (5, vi i1), (6, vb i2), (7, vi i3), (10, V.bool true), (14, V.bool true), (18, V.bool false)], hp := [(0, Ob.row false 1 x1)], nx := 9 }))
    (c2 : GrdW ((1 : Nat) = (1 : Nat) ∧ (0 : Nat) < (1 : Nat) ∧ (1 : Nat) ≤ (64 : Nat) ∧ x1.length + (1 : Nat) ≤ maxLen') (V.ref (21 : Nat)) [((0 : Nat), Ob.dead), ((21 : Nat), Ob.row false (1 : Nat) (x1 ++ [vb i2]))]) :
    eC k 8 0 80 (loopBody Tryz.f80 1) { tm := [(0, V.str s0), (2, V.str []), (3, V.ref 0), (4, vi i0), (5, vi i1), (10, V.bool true)], hp := [(0, Ob.row false 1 x1)], nx := 1 } = some (Exit.normal, { tm := [(0, V.str s0), (2, V.str []), (3, V.ref 21), (4, vi i0), (5, vi (wI (i1 + 1))), (6, vb i2), (7, vi i3), (10, V.bool true), (14, V.bool true), (18, V.bool false)], hp := [(0, Ob.dead), (17, Ob.row false 1 [vb i2]), (21, Ob.row false 1 (x1 ++ [vb i2]))], nx := 41 }) :=
  byL (k := k) (d := 8) [Hn.br 14 true, Hn.loop (Exit.exit 4, { tm := [(0, V.str s0), (2, V.str []), (3, V.ref 0), (4, vi i0), (5, vi i1), (6, vb i2), (7, vi i3), (10, V.bool true), (14, V.bool true), (18, V.bool false)], hp := [(0, Ob.row false 1 x1)], nx := 9 }), Hn.op 36 (V.ref 21) [(0, Ob.dead), (21, Ob.row false 1 (x1 ++ [vb i2]))]] (aI c0 (aI c1 (aI c2 trivial))) (by kernel_rfl)
theorem L80_1_b0h (i0 i1 i2 i3 : Int) (s0 : List UInt8) (x1 : List V) : head 0 [0, 2, 3, 4, 5, 10] (Tryz.cfg.fc 80).acc { tm := [(0, V.str s0), (2, V.str []), (3, V.ref 21), (4, vi i0), (5, vi (wI (i1 + 1))), (6, vb i2), (7, vi i3), (10, V.bool true), (14, V.bool true), (18, V.bool false)], hp := [(0, Ob.dead), (17, Ob.row false 1 [vb i2]), (21, Ob.row false 1 (x1 ++ [vb i2]))], nx := 41 } = { tm := [(0, V.str s0), (2, V.str []), (3, V.ref 0), (4, vi i0), (5, vi (wI (i1 + 1))), (10, V.bool true)], hp := [(0, Ob.row false 1 (x1 ++ [vb i2]))], nx := 1 } := by kernel_rfl
theorem L80_1_b1 (i0 i1 : Int) (s0 : List UInt8) (x1 : List V) (k : Nat)
    (c0 : decide (i1 < 4) = false) :
    eC k 8 0 80 (loopBody Tryz.f80 1) { tm := [(0, V.str s0), (2, V.str []), (3, V.ref 0), (4, vi i0), (5, vi i1), (10, V.bool true)], hp := [(0, Ob.row false 1 x1)], nx := 1 } = some (Exit.exit 2, { tm := [(0, V.str s0), (2, V.str []), (3, V.ref 0), (4, vi i0), (5, vi i1), (10, V.bool true), (14, V.bool false)], hp := [(0, Ob.row false 1 x1)], nx := 9 }) :=
  byL (k := k) (d := 8) [Hn.br 14 false] (aI c0 trivial) (by kernel_rfl)
inductive L80_1_R where
  | e0 (i1 : Int) (x1 : List V)
noncomputable def L80_1_end (i0 : Int) (s0 : List UInt8) : L80_1_R → Exit × St
  | .e0 i1 x1 => (Exit.exit 2, { tm := [(0, V.str s0), (2, V.str []), (3, V.ref 0), (4, V.int .i64 i0), (5, V.int .i64 i1), (10, V.bool true), (14, V.bool false)], hp := [(0, Ob.row false 1 x1)], nx := 9 })
def L80_1 (k : Nat) (i0 : Int) (s0 : List UInt8) : Nat → Int → List V → Option L80_1_R
  | 0, _, _ => none
  | f + 1, i1, x1 => (bif decide (i1 < 4) then ((L80_2 k i0 i1 s0 x1 (k + 8) (0) (0)).bind fun
    | L80_2_R.e0 i2 i3 => (guardP (x1.length + (1 : Nat) ≤ maxLen') (L80_1 k i0 s0 f (IntKind.i64.wrap (i1 + 1)) (x1 ++ [V.int .u8 i2])))) else (some (L80_1_R.e0 i1 x1)))
theorem L80_1_ok {i0 : Int} {s0 : List UInt8} {k : Nat} : ∀ {f : Nat} {i1 : Int} {x1 : List V} {r : L80_1_R}, L80_1 k i0 s0 f i1 x1 = some r →
    LoopsN Tryz.prog Tryz.cfg (k + 8) 0 Tryz.f80 (Tryz.cfg.fc 80) 1 [0, 2, 3, 4, 5, 10] f { tm := [(0, V.str s0), (2, V.str []), (3, V.ref 0), (4, vi i0), (5, vi i1), (10, V.bool true)], hp := [(0, Ob.row false 1 x1)], nx := 1 } (L80_1_end i0 s0 r) := by
  intro f
  induction f with
  | zero => intro i1 x1 r h; cases h
  | succ f ih =>
    intro i1 x1 r h
    rw [L80_1] at h
    rcases cond_elim h with ⟨e0, h⟩ | ⟨e0, h⟩
    ·
      obtain ⟨ee, e1, h⟩ := bE h
      cases ee with
      | e0 i2 i3 =>
        obtain ⟨e2, h⟩ := guardP_some.1 h
        exact LoopsN.next (L80_1_b0 i0 i1 i2 i3 s0 x1 k e0 (L80_2_ok e1) (GrdW.mk ⟨rfl, by decide, by decide, e2⟩)) (L80_1_b0h i0 i1 i2 i3 s0 x1) (ih h)
    ·
      cases h; exact LoopsN.done (L80_1_b1 i0 i1 s0 x1 k e0) (fun h => by cases h)
theorem L80_0_b0 (i0 i1 : Int) (s0 : List UInt8) (x0 x1 : List V) (k : Nat)
    (c0 : decide (i0 < 4) = true)
    (c1 : LoopsN Tryz.prog Tryz.cfg (k + 8) 0 Tryz.f80 (Tryz.cfg.fc 80) 1 [0, 2, 3, 4, 5, 10] (k + 8) { tm := [(0, V.str s0), (2, V.str []), (3, V.ref 0), (4, vi i0), (5, vi 0), (10, V.bool true)], hp := [(0, Ob.row false 1 x0)], nx := 1 } (Exit.exit 2, { tm := [(0, V.str s0), (2, V.str []), (3, V.ref 0), (4, vi i0), (5, vi i1), (10, V.bool true), (14, V.bool false)], hp := [(0, Ob.row false 1 x1)], nx := 9 })) :
    eC k 8 0 80 (loopBody Tryz.f80 0) { tm := [(0, V.str s0), (2, V.str []), (3, V.ref 0), (4, vi i0)], hp := [(0, Ob.row false 1 x0)], nx := 1 } = some (Exit.normal, { tm := [(0, V.str s0), (2, V.str []), (3, V.ref 0), (4, vi (wI (i0 + 1))), (5, vi i1), (10, V.bool true), (14, V.bool false)], hp := [(0, Ob.row false 1 x1)], nx := 21 }) :=
  byL (k := k) (d := 8) [Hn.br 10 true, Hn.loop (Exit.exit 2, { tm := [(0, V.str s0), (2, V.str []), (3, V.ref 0), (4, vi i0), (5, vi i1), (10, V.bool true), (14, V.bool false)], hp := [(0, Ob.row false 1 x1)], nx := 9 })] (aI c0 (aI c1 trivial)) (by kernel_rfl)
theorem L80_0_b0h (i0 i1 : Int) (s0 : List UInt8) (x1 : List V) : head 0 [0, 2, 3, 4] (Tryz.cfg.fc 80).acc { tm := [(0, V.str s0), (2, V.str []), (3, V.ref 0), (4, vi (wI (i0 + 1))), (5, vi i1), (10, V.bool true), (14, V.bool false)], hp := [(0, Ob.row false 1 x1)], nx := 21 } = { tm := [(0, V.str s0), (2, V.str []), (3, V.ref 0), (4, vi (wI (i0 + 1)))], hp := [(0, Ob.row false 1 x1)], nx := 1 } := by kernel_rfl
theorem L80_0_b1 (i0 : Int) (s0 : List UInt8) (x0 : List V) (k : Nat)
    (c0 : decide (i0 < 4) = false) :
    eC k 8 0 80 (loopBody Tryz.f80 0) { tm := [(0, V.str s0), (2, V.str []), (3, V.ref 0), (4, vi i0)], hp := [(0, Ob.row false 1 x0)], nx := 1 } = some (Exit.exit 0, { tm := [(0, V.str s0), (2, V.str []), (3, V.ref 0), (4, vi i0), (10, V.bool false)], hp := [(0, Ob.row false 1 x0)], nx := 9 }) :=
  byL (k := k) (d := 8) [Hn.br 10 false] (aI c0 trivial) (by kernel_rfl)
inductive L80_0_R where
  | e0 (i0 : Int) (x0 : List V)
noncomputable def L80_0_end (s0 : List UInt8) : L80_0_R → Exit × St
  | .e0 i0 x0 => (Exit.exit 0, { tm := [(0, V.str s0), (2, V.str []), (3, V.ref 0), (4, V.int .i64 i0), (10, V.bool false)], hp := [(0, Ob.row false 1 x0)], nx := 9 })
def L80_0 (k : Nat) (s0 : List UInt8) : Nat → Int → List V → Option L80_0_R
  | 0, _, _ => none
  | f + 1, i0, x0 => (bif decide (i0 < 4) then ((L80_1 k i0 s0 (k + 8) (0) (x0)).bind fun
    | L80_1_R.e0 i1 x1 => (L80_0 k s0 f (IntKind.i64.wrap (i0 + 1)) (x1))) else (some (L80_0_R.e0 i0 x0)))
theorem L80_0_ok {s0 : List UInt8} {k : Nat} : ∀ {f : Nat} {i0 : Int} {x0 : List V} {r : L80_0_R}, L80_0 k s0 f i0 x0 = some r →
    LoopsN Tryz.prog Tryz.cfg (k + 8) 0 Tryz.f80 (Tryz.cfg.fc 80) 0 [0, 2, 3, 4] f { tm := [(0, V.str s0), (2, V.str []), (3, V.ref 0), (4, vi i0)], hp := [(0, Ob.row false 1 x0)], nx := 1 } (L80_0_end s0 r) := by
  intro f
  induction f with
  | zero => intro i0 x0 r h; cases h
  | succ f ih =>
    intro i0 x0 r h
    rw [L80_0] at h
    rcases cond_elim h with ⟨e0, h⟩ | ⟨e0, h⟩
    ·
      obtain ⟨ee, e1, h⟩ := bE h
      cases ee with
      | e0 i1 x1 =>
        exact LoopsN.next (L80_0_b0 i0 i1 s0 x0 x1 k e0 (L80_1_ok e1)) (L80_0_b0h i0 i1 s0 x1) (ih h)
    ·
      cases h; exact LoopsN.done (L80_0_b1 i0 s0 x0 k e0) (fun h => by cases h)
theorem P80_0 (i0 : Int) (s0 s1 : List UInt8) (x0 : List V) (k : Nat)
    (c0 : LoopsN Tryz.prog Tryz.cfg (k + 8) 0 Tryz.f80 (Tryz.cfg.fc 80) 0 [0, 2, 3, 4] (k + 8) { tm := [(0, V.str s0), (2, V.str []), (3, V.ref 0), (4, vi 0)], hp := [(0, Ob.row false 1 [])], nx := 1 } (Exit.exit 0, { tm := [(0, V.str s0), (2, V.str []), (3, V.ref 0), (4, vi i0), (10, V.bool false)], hp := [(0, Ob.row false 1 x0)], nx := 9 }))
    (c1 : cP ((k + 8)) 102 [V.sl none false 1 x0] = some (V.str s1)) :
    cP ((k + 9)) 80 [V.str s0] = some (V.str s1) :=
  byF (k := k) (d := 9) [Hn.loop (Exit.exit 0, { tm := [(0, V.str s0), (2, V.str []), (3, V.ref 0), (4, vi i0), (10, V.bool false)], hp := [(0, Ob.row false 1 x0)], nx := 9 }), Hn.call 38 (V.str s1)] (aI c0 (aI c1 trivial)) (by kernel_rfl)
def F80 (k : Nat) (s0 : List UInt8) : Option (List UInt8) :=
  ((L80_0 k s0 (k + 8) (0) ([])).bind fun
    | L80_0_R.e0 i0 x0 => ((F102 (k + 5) (none) (false) (1) (x0)).bind fun s1 => (some (s1))))
theorem F80_ok {s0 : List UInt8} {k : Nat} {r : List UInt8} (h : F80 k s0 = some r) :
    cP ((k + 9)) 80 [V.str s0] = some (V.str r) := by
  unfold F80 at h
  obtain ⟨ee, e0, h⟩ := bE h
  cases ee with
  | e0 i0 x0 =>
    obtain ⟨s1, e1, h⟩ := bE h
    have h := Option.some.inj h; subst h; exact P80_0 i0 s0 s1 x0 k (L80_0_ok e0) (F102_ok e1)
theorem L77_0_b0 (i0 : Int) (s0 s1 : List UInt8) (x0 : List V) (u0 u1 : UInt8) (k : Nat)
    (c0 : decide (i0 < (↑s0.length : Int)) = true)
    (c1 : StrP s0 i0 u0)
    (c2 : StrP s1 i0 u1)
    (c3 : GrdW ((1 : Nat) = (1 : Nat) ∧ (0 : Nat) < (1 : Nat) ∧ (1 : Nat) ≤ (64 : Nat) ∧ x0.length + (1 : Nat) ≤ maxLen') (V.ref (53 : Nat)) [((0 : Nat), Ob.dead), ((53 : Nat), Ob.row false (1 : Nat) (x0 ++ [vb (x8 (bN u0) (bN u1))]))]) :
    eC k 5 0 77 (loopBody Tryz.f77 0) { tm := [(0, V.str s0), (1, V.str s1), (4, V.str []), (5, V.ref 0), (6, vi i0)], hp := [(0, Ob.row false 1 x0)], nx := 1 } = some (Exit.normal, { tm := [(0, V.str s0), (1, V.str s1), (4, V.str []), (5, V.ref 53), (6, vi (wI (i0 + 1))), (11, V.bool true)], hp := [(0, Ob.dead), (49, Ob.row false 1 [vb (x8 (bN u0) (bN u1))]), (53, Ob.row false 1 (x0 ++ [vb (x8 (bN u0) (bN u1))]))], nx := 73 }) :=
  byL (k := k) (d := 5) [Hn.br 11 true, Hn.op 17 (vb (bN u0)) [], Hn.op 20 (vb (bN u1)) [], Hn.op 23 (V.ref 53) [(0, Ob.dead), (53, Ob.row false 1 (x0 ++ [vb (x8 (bN u0) (bN u1))]))]] (aI c0 (aI c1 (aI c2 (aI c3 trivial)))) (by kernel_rfl)
theorem L77_0_b0h (i0 : Int) (s0 s1 : List UInt8) (x0 : List V) (u0 u1 : UInt8) : head 0 [0, 1, 4, 5, 6] (Tryz.cfg.fc 77).acc { tm := [(0, V.str s0), (1, V.str s1), (4, V.str []), (5, V.ref 53), (6, vi (wI (i0 + 1))), (11, V.bool true)], hp := [(0, Ob.dead), (49, Ob.row false 1 [vb (x8 (bN u0) (bN u1))]), (53, Ob.row false 1 (x0 ++ [vb (x8 (bN u0) (bN u1))]))], nx := 73 } = { tm := [(0, V.str s0), (1, V.str s1), (4, V.str []), (5, V.ref 0), (6, vi (wI (i0 + 1)))], hp := [(0, Ob.row false 1 (x0 ++ [vb (x8 (bN u0) (bN u1))]))], nx := 1 } := by kernel_rfl
theorem L77_0_b1 (i0 : Int) (s0 s1 : List UInt8) (x0 : List V) (k : Nat)
    (c0 : decide (i0 < (↑s0.length : Int)) = false) :
    eC k 5 0 77 (loopBody Tryz.f77 0) { tm := [(0, V.str s0), (1, V.str s1), (4, V.str []), (5, V.ref 0), (6, vi i0)], hp := [(0, Ob.row false 1 x0)], nx := 1 } = some (Exit.exit 0, { tm := [(0, V.str s0), (1, V.str s1), (4, V.str []), (5, V.ref 0), (6, vi i0), (11, V.bool false)], hp := [(0, Ob.row false 1 x0)], nx := 17 }) :=
  byL (k := k) (d := 5) [Hn.br 11 false] (aI c0 trivial) (by kernel_rfl)
inductive L77_0_R where
  | e0 (i0 : Int) (x0 : List V)
noncomputable def L77_0_end (s0 : List UInt8) (s1 : List UInt8) : L77_0_R → Exit × St
  | .e0 i0 x0 => (Exit.exit 0, { tm := [(0, V.str s0), (1, V.str s1), (4, V.str []), (5, V.ref 0), (6, V.int .i64 i0), (11, V.bool false)], hp := [(0, Ob.row false 1 x0)], nx := 17 })
def L77_0 (k : Nat) (s0 s1 : List UInt8) : Nat → Int → List V → Option L77_0_R
  | 0, _, _ => none
  | f + 1, i0, x0 => (bif decide (i0 < (↑s0.length : Int)) then ((satB (s0) (i0)).bind fun u0 => ((satB (s1) (i0)).bind fun u1 => (guardP (x0.length + (1 : Nat) ≤ maxLen') (L77_0 k s0 s1 f (IntKind.i64.wrap (i0 + 1)) (x0 ++ [V.int .u8 (IntKind.u8.wrap (↑(BitVec.ofInt IntKind.u8.bits (↑u0.toNat : Int) ^^^ BitVec.ofInt IntKind.u8.bits (↑u1.toNat : Int)).toNat : Int))]))))) else (some (L77_0_R.e0 i0 x0)))
theorem L77_0_ok {s0 s1 : List UInt8} {k : Nat} : ∀ {f : Nat} {i0 : Int} {x0 : List V} {r : L77_0_R}, L77_0 k s0 s1 f i0 x0 = some r →
    LoopsN Tryz.prog Tryz.cfg (k + 5) 0 Tryz.f77 (Tryz.cfg.fc 77) 0 [0, 1, 4, 5, 6] f { tm := [(0, V.str s0), (1, V.str s1), (4, V.str []), (5, V.ref 0), (6, vi i0)], hp := [(0, Ob.row false 1 x0)], nx := 1 } (L77_0_end s0 s1 r) := by
  intro f
  induction f with
  | zero => intro i0 x0 r h; cases h
  | succ f ih =>
    intro i0 x0 r h
    rw [L77_0] at h
    rcases cond_elim h with ⟨e0, h⟩ | ⟨e0, h⟩
    ·
      obtain ⟨u0, e1, h⟩ := bE h
      obtain ⟨u1, e2, h⟩ := bE h
      obtain ⟨e3, h⟩ := guardP_some.1 h
      exact LoopsN.next (L77_0_b0 i0 s0 s1 x0 u0 u1 k e0 (StrP.of_at e1) (StrP.of_at e2) (GrdW.mk ⟨rfl, by decide, by decide, e3⟩)) (L77_0_b0h i0 s0 s1 x0 u0 u1) (ih h)
    ·
      cases h; exact LoopsN.done (L77_0_b1 i0 s0 s1 x0 k e0) (fun h => by cases h)
theorem P77_0 (i0 : Int) (s0 s1 s2 : List UInt8) (x0 : List V) (k : Nat)
    (c0 : LoopsN Tryz.prog Tryz.cfg (k + 5) 0 Tryz.f77 (Tryz.cfg.fc 77) 0 [0, 1, 4, 5, 6] (k + 5) { tm := [(0, V.str s0), (1, V.str s1), (4, V.str []), (5, V.ref 0), (6, vi 0)], hp := [(0, Ob.row false 1 [])], nx := 1 } (Exit.exit 0, { tm := [(0, V.str s0), (1, V.str s1), (4, V.str []), (5, V.ref 0), (6, vi i0), (11, V.bool false)], hp := [(0, Ob.row false 1 x0)], nx := 17 }))
    (c1 : cP ((k + 5)) 102 [V.sl none false 1 x0] = some (V.str s2)) :
    cP ((k + 6)) 77 [V.str s0, V.str s1] = some (V.str s2) :=
  byF (k := k) (d := 6) [Hn.loop (Exit.exit 0, { tm := [(0, V.str s0), (1, V.str s1), (4, V.str []), (5, V.ref 0), (6, vi i0), (11, V.bool false)], hp := [(0, Ob.row false 1 x0)], nx := 17 }), Hn.call 25 (V.str s2)] (aI c0 (aI c1 trivial)) (by kernel_rfl)
def F77 (k : Nat) (s0 s1 : List UInt8) : Option (List UInt8) :=
  ((L77_0 k s0 s1 (k + 5) (0) ([])).bind fun
    | L77_0_R.e0 i0 x0 => ((F102 (k + 2) (none) (false) (1) (x0)).bind fun s2 => (some (s2))))
theorem F77_ok {s0 s1 : List UInt8} {k : Nat} {r : List UInt8} (h : F77 k s0 s1 = some r) :
    cP ((k + 6)) 77 [V.str s0, V.str s1] = some (V.str r) := by
  unfold F77 at h
  obtain ⟨ee, e0, h⟩ := bE h
  cases ee with
  | e0 i0 x0 =>
    obtain ⟨s2, e1, h⟩ := bE h
    have h := Option.some.inj h; subst h; exact P77_0 i0 s0 s1 s2 x0 k (L77_0_ok e0) (F102_ok e1)
theorem L101_0_b0 (i0 : Int) (s0 : List UInt8) (x0 : List V) (k : Nat)
    (c0 : decide (i0 < wI ((↑s0.length : Int).tdiv 4)) = true)
    (c1 : SlcP false 0 (V.str s0) (some (vi (wI (4 * i0)))) (some (vi (wI (wI (4 * i0) + 4)))) none (V.str (List.drop (wI (4 * i0)).toNat (List.take (wI (wI (4 * i0) + 4)).toNat s0))))
    (c2 : GrdW ((1 : Nat) = (1 : Nat) ∧ (0 : Nat) < (1 : Nat) ∧ (16 : Nat) ≤ (64 : Nat) ∧ x0.length + (1 : Nat) ≤ maxLen') (V.ref (49 : Nat)) [((0 : Nat), Ob.dead), ((49 : Nat), Ob.row false (1 : Nat) (x0 ++ [V.str (List.drop (wI ((4 : Int) * i0)).toNat (List.take (wI (wI ((4 : Int) * i0) + (4 : Int))).toNat s0))]))]) :
    eC k 17 0 101 (loopBody Tryz.f101 0) { tm := [(0, V.str s0), (2, V.sl (some true) true 0 []), (3, vi (wI ((↑s0.length : Int).tdiv 4))), (4, V.ref 0), (5, vi i0)], hp := [(0, Ob.row false 1 x0)], nx := 1 } = some (Exit.normal, { tm := [(0, V.str s0), (2, V.sl (some true) true 0 []), (3, vi (wI ((↑s0.length : Int).tdiv 4))), (4, V.ref 49), (5, vi (wI (i0 + 1))), (14, V.bool true)], hp := [(0, Ob.dead), (45, Ob.row false 1 [V.str (List.drop (wI (4 * i0)).toNat (List.take (wI (wI (4 * i0) + 4)).toNat s0))]), (49, Ob.row false 1 (x0 ++ [V.str (List.drop (wI (4 * i0)).toNat (List.take (wI (wI (4 * i0) + 4)).toNat s0))]))], nx := 69 }) :=
  byL (k := k) (d := 17) [Hn.br 14 true, Hn.op 24 (V.str (List.drop (wI (4 * i0)).toNat (List.take (wI (wI (4 * i0) + 4)).toNat s0))) [], Hn.op 26 (V.ref 49) [(0, Ob.dead), (49, Ob.row false 1 (x0 ++ [V.str (List.drop (wI (4 * i0)).toNat (List.take (wI (wI (4 * i0) + 4)).toNat s0))]))]] (aI c0 (aI c1 (aI c2 trivial))) (by kernel_rfl)
theorem L101_0_b0h (i0 : Int) (s0 : List UInt8) (x0 : List V) : head 0 [0, 2, 3, 4, 5] (Tryz.cfg.fc 101).acc { tm := [(0, V.str s0), (2, V.sl (some true) true 0 []), (3, vi (wI ((↑s0.length : Int).tdiv 4))), (4, V.ref 49), (5, vi (wI (i0 + 1))), (14, V.bool true)], hp := [(0, Ob.dead), (45, Ob.row false 1 [V.str (List.drop (wI (4 * i0)).toNat (List.take (wI (wI (4 * i0) + 4)).toNat s0))]), (49, Ob.row false 1 (x0 ++ [V.str (List.drop (wI (4 * i0)).toNat (List.take (wI (wI (4 * i0) + 4)).toNat s0))]))], nx := 69 } = { tm := [(0, V.str s0), (2, V.sl (some true) true 0 []), (3, vi (wI ((↑s0.length : Int).tdiv 4))), (4, V.ref 0), (5, vi (wI (i0 + 1)))], hp := [(0, Ob.row false 1 (x0 ++ [V.str (List.drop (wI (4 * i0)).toNat (List.take (wI (wI (4 * i0) + 4)).toNat s0))]))], nx := 1 } := by kernel_rfl
theorem L101_0_b1 (i0 : Int) (s0 : List UInt8) (x0 : List V) (k : Nat)
    (c0 : decide (i0 < wI ((↑s0.length : Int).tdiv 4)) = false) :
    eC k 17 0 101 (loopBody Tryz.f101 0) { tm := [(0, V.str s0), (2, V.sl (some true) true 0 []), (3, vi (wI ((↑s0.length : Int).tdiv 4))), (4, V.ref 0), (5, vi i0)], hp := [(0, Ob.row false 1 x0)], nx := 1 } = some (Exit.exit 0, { tm := [(0, V.str s0), (2, V.sl (some true) true 0 []), (3, vi (wI ((↑s0.length : Int).tdiv 4))), (4, V.ref 0), (5, vi i0), (14, V.bool false)], hp := [(0, Ob.row false 1 x0)], nx := 13 }) :=
  byL (k := k) (d := 17) [Hn.br 14 false] (aI c0 trivial) (by kernel_rfl)
inductive L101_0_R where
  | e0 (i0 : Int) (x0 : List V)
noncomputable def L101_0_end (s0 : List UInt8) : L101_0_R → Exit × St
  | .e0 i0 x0 => (Exit.exit 0, { tm := [(0, V.str s0), (2, V.sl (some true) true 0 []), (3, V.int .i64 (IntKind.i64.wrap ((↑s0.length : Int).tdiv 4))), (4, V.ref 0), (5, V.int .i64 i0), (14, V.bool false)], hp := [(0, Ob.row false 1 x0)], nx := 13 })
def L101_0 (k : Nat) (s0 : List UInt8) : Nat → Int → List V → Option L101_0_R
  | 0, _, _ => none
  | f + 1, i0, x0 => (bif decide (i0 < IntKind.i64.wrap ((↑s0.length : Int).tdiv 4)) then (guardP ((0 : Int) ≤ IntKind.i64.wrap ((4 : Int) * i0) ∧ IntKind.i64.wrap ((4 : Int) * i0) ≤ IntKind.i64.wrap (IntKind.i64.wrap ((4 : Int) * i0) + (4 : Int)) ∧ IntKind.i64.wrap (IntKind.i64.wrap ((4 : Int) * i0) + (4 : Int)) ≤ (↑s0.length : Int)) (guardP (x0.length + (1 : Nat) ≤ maxLen') (L101_0 k s0 f (IntKind.i64.wrap (i0 + 1)) (x0 ++ [V.str (List.drop (IntKind.i64.wrap (4 * i0)).toNat (List.take (IntKind.i64.wrap (IntKind.i64.wrap (4 * i0) + 4)).toNat s0))])))) else (some (L101_0_R.e0 i0 x0)))
theorem L101_0_ok {s0 : List UInt8} {k : Nat} : ∀ {f : Nat} {i0 : Int} {x0 : List V} {r : L101_0_R}, L101_0 k s0 f i0 x0 = some r →
    LoopsN Tryz.prog Tryz.cfg (k + 17) 0 Tryz.f101 (Tryz.cfg.fc 101) 0 [0, 2, 3, 4, 5] f { tm := [(0, V.str s0), (2, V.sl (some true) true 0 []), (3, vi (wI ((↑s0.length : Int).tdiv 4))), (4, V.ref 0), (5, vi i0)], hp := [(0, Ob.row false 1 x0)], nx := 1 } (L101_0_end s0 r) := by
  intro f
  induction f with
  | zero => intro i0 x0 r h; cases h
  | succ f ih =>
    intro i0 x0 r h
    rw [L101_0] at h
    rcases cond_elim h with ⟨e0, h⟩ | ⟨e0, h⟩
    ·
      obtain ⟨e1, h⟩ := guardP_some.1 h
      obtain ⟨e2, h⟩ := guardP_some.1 h
      exact LoopsN.next (L101_0_b0 i0 s0 x0 k e0 (SlcP.strMid e1) (GrdW.mk ⟨rfl, by decide, by decide, e2⟩)) (L101_0_b0h i0 s0 x0) (ih h)
    ·
      cases h; exact LoopsN.done (L101_0_b1 i0 s0 x0 k e0) (fun h => by cases h)
theorem L101_1_b0 (i0 i1 i2 : Int) (s0 s1 s2 s3 s4 s5 : List UInt8) (x1 : List V) (u0 : UInt8) (k : Nat)
    (c0 : decide (i1 < wI (4 * wI (wI ((↑s0.length : Int).tdiv 4) + 7))) = true)
    (c1 : IdxR x1.length (wI (i1 - 1)) 1 1 (V.ept 0 (wI (i1 - 1)).toNat 0))
    (c2 : LdP Tryz.prog 9 x1 (wI (i1 - 1)).toNat 0 (V.str s1))
    (c3 : GrdP (IntKind.i64 = IntKind.i64 ∧ wI ((↑s0.length : Int).tdiv (4 : Int)) ≠ (0 : Int)) (vi (i1.tmod (wI ((↑s0.length : Int).tdiv (4 : Int))))))
    (c4 : decide (i1.tmod (wI ((↑s0.length : Int).tdiv 4)) = 0) = true)
    (c5 : SlcP false 0 (V.str s1) (some (vi 1)) none none (V.str (List.drop (Int.toNat 1) s1)))
    (c6 : SlcP false 0 (V.str s1) none (some (vi 1)) none (V.str (List.take (Int.toNat 1) s1)))
    (c7 : GrdP ((List.drop (Int.toNat (1 : Int)) s1).length + (List.take (Int.toNat (1 : Int)) s1).length ≤ maxText) (V.str (List.drop (Int.toNat (1 : Int)) s1 ++ List.take (Int.toNat (1 : Int)) s1)))
    (c8 : cP ((k + 17)) 79 [V.str (List.drop (Int.toNat 1) s1 ++ List.take (Int.toNat 1) s1)] = some (V.str s2))
    (c9 : StrP s2 0 u0)
    (c10 : GrdP (IntKind.i64 = IntKind.i64 ∧ wI ((↑s0.length : Int).tdiv (4 : Int)) ≠ (0 : Int)) (vi (wI (i1.tdiv (wI ((↑s0.length : Int).tdiv (4 : Int)))))))
    (c11 : cP ((k + 17)) 122 [vb 2, vi (wI (wI (i1.tdiv (wI ((↑s0.length : Int).tdiv 4))) - 1))] = some (vb i2))
    (c12 : cP ((k + 17)) 102 [V.sl none false 1 [vb (x8 (bN u0) i2)]] = some (V.str s3))
    (c13 : SlcP false 0 (V.str s2) (some (vi 1)) none none (V.str (List.drop (Int.toNat 1) s2)))
    (c14 : GrdP (s3.length + (List.drop (Int.toNat (1 : Int)) s2).length ≤ maxText) (V.str (s3 ++ List.drop (Int.toNat (1 : Int)) s2)))
    (c15 : IdxR x1.length (wI (i1 - wI ((↑s0.length : Int).tdiv 4))) 1 1 (V.ept 0 (wI (i1 - wI ((↑s0.length : Int).tdiv 4))).toNat 0))
    (c16 : LdP Tryz.prog 9 x1 (wI (i1 - wI ((↑s0.length : Int).tdiv 4))).toNat 0 (V.str s4))
    (c17 : cP ((k + 17)) 77 [V.str s4, V.str (s3 ++ List.drop (Int.toNat 1) s2)] = some (V.str s5))
    (c18 : GrdW ((1 : Nat) = (1 : Nat) ∧ (0 : Nat) < (1 : Nat) ∧ (16 : Nat) ≤ (64 : Nat) ∧ x1.length + (1 : Nat) ≤ maxLen') (V.ref (185 : Nat)) [((0 : Nat), Ob.dead), ((185 : Nat), Ob.row false (1 : Nat) (x1 ++ [V.str s5]))]) :
    eC k 17 0 101 (loopBody Tryz.f101 1) { tm := [(0, V.str s0), (2, V.sl (some true) true 0 []), (3, vi (wI ((↑s0.length : Int).tdiv 4))), (4, V.ref 0), (5, vi i0), (6, vi i1), (14, V.bool false)], hp := [(0, Ob.row false 1 x1)], nx := 1 } = some (Exit.normal, { tm := [(0, V.str s0), (2, V.sl (some true) true 0 []), (3, vi (wI ((↑s0.length : Int).tdiv 4))), (4, V.ref 185), (5, vi i0), (6, vi (wI (i1 + 1))), (7, V.str (s3 ++ List.drop (Int.toNat 1) s2)), (14, V.bool false), (32, V.bool true), (43, V.bool true)], hp := [(0, Ob.dead), (121, Ob.row false 1 [vb (x8 (bN u0) i2)]), (181, Ob.row false 1 [V.str s5]), (185, Ob.row false 1 (x1 ++ [V.str s5]))], nx := 205 }) :=
  byL (k := k) (d := 17) [Hn.br 32 true, Hn.op 38 (V.ept 0 (wI (i1 - 1)).toNat 0) [], Hn.op 39 (V.str s1) [], Hn.op 42 (vi (i1.tmod (wI ((↑s0.length : Int).tdiv 4)))) [], Hn.br 43 true, Hn.op 45 (V.str (List.drop (Int.toNat 1) s1)) [], Hn.op 47 (V.str (List.take (Int.toNat 1) s1)) [], Hn.op 48 (V.str (List.drop (Int.toNat 1) s1 ++ List.take (Int.toNat 1) s1)) [], Hn.call 49 (V.str s2), Hn.op 51 (vb (bN u0)) [], Hn.op 54 (vi (wI (i1.tdiv (wI ((↑s0.length : Int).tdiv 4))))) [], Hn.call 56 (vb i2), Hn.call 59 (V.str s3), Hn.op 61 (V.str (List.drop (Int.toNat 1) s2)) [], Hn.op 62 (V.str (s3 ++ List.drop (Int.toNat 1) s2)) [], Hn.op 77 (V.ept 0 (wI (i1 - wI ((↑s0.length : Int).tdiv 4))).toNat 0) [], Hn.op 78 (V.str s4) [], Hn.call 80 (V.str s5), Hn.op 82 (V.ref 185) [(0, Ob.dead), (185, Ob.row false 1 (x1 ++ [V.str s5]))]] (aI c0 (aI c1 (aI c2 (aI c3 (aI c4 (aI c5 (aI c6 (aI c7 (aI c8 (aI c9 (aI c10 (aI c11 (aI c12 (aI c13 (aI c14 (aI c15 (aI c16 (aI c17 (aI c18 trivial))))))))))))))))))) (by kernel_rfl)
theorem L101_1_b0h (i0 i1 i2 : Int) (s0 s2 s3 s5 : List UInt8) (x1 : List V) (u0 : UInt8) : head 0 [0, 2, 3, 4, 5, 6, 14] (Tryz.cfg.fc 101).acc { tm := [(0, V.str s0), (2, V.sl (some true) true 0 []), (3, vi (wI ((↑s0.length : Int).tdiv 4))), (4, V.ref 185), (5, vi i0), (6, vi (wI (i1 + 1))), (7, V.str (s3 ++ List.drop (Int.toNat 1) s2)), (14, V.bool false), (32, V.bool true), (43, V.bool true)], hp := [(0, Ob.dead), (121, Ob.row false 1 [vb (x8 (bN u0) i2)]), (181, Ob.row false 1 [V.str s5]), (185, Ob.row false 1 (x1 ++ [V.str s5]))], nx := 205 } = { tm := [(0, V.str s0), (2, V.sl (some true) true 0 []), (3, vi (wI ((↑s0.length : Int).tdiv 4))), (4, V.ref 0), (5, vi i0), (6, vi (wI (i1 + 1))), (14, V.bool false)], hp := [(0, Ob.row false 1 (x1 ++ [V.str s5]))], nx := 1 } := by kernel_rfl
theorem L101_1_b1 (i0 i1 : Int) (s0 s1 s2 s3 s4 : List UInt8) (x1 : List V) (k : Nat)
    (c0 : decide (i1 < wI (4 * wI (wI ((↑s0.length : Int).tdiv 4) + 7))) = true)
    (c1 : IdxR x1.length (wI (i1 - 1)) 1 1 (V.ept 0 (wI (i1 - 1)).toNat 0))
    (c2 : LdP Tryz.prog 9 x1 (wI (i1 - 1)).toNat 0 (V.str s1))
    (c3 : GrdP (IntKind.i64 = IntKind.i64 ∧ wI ((↑s0.length : Int).tdiv (4 : Int)) ≠ (0 : Int)) (vi (i1.tmod (wI ((↑s0.length : Int).tdiv (4 : Int))))))
    (c4 : decide (i1.tmod (wI ((↑s0.length : Int).tdiv 4)) = 0) = false)
    (c5 : decide (wI ((↑s0.length : Int).tdiv 4) = 8) = true)
    (c6 : decide (i1.tmod 8 = 4) = true)
    (c7 : cP ((k + 17)) 79 [V.str s1] = some (V.str s2))
    (c8 : IdxR x1.length (wI (i1 - wI ((↑s0.length : Int).tdiv 4))) 1 1 (V.ept 0 (wI (i1 - wI ((↑s0.length : Int).tdiv 4))).toNat 0))
    (c9 : LdP Tryz.prog 9 x1 (wI (i1 - wI ((↑s0.length : Int).tdiv 4))).toNat 0 (V.str s3))
    (c10 : cP ((k + 17)) 77 [V.str s3, V.str s2] = some (V.str s4))
    (c11 : GrdW ((1 : Nat) = (1 : Nat) ∧ (0 : Nat) < (1 : Nat) ∧ (16 : Nat) ≤ (64 : Nat) ∧ x1.length + (1 : Nat) ≤ maxLen') (V.ref (141 : Nat)) [((0 : Nat), Ob.dead), ((141 : Nat), Ob.row false (1 : Nat) (x1 ++ [V.str s4]))]) :
    eC k 17 0 101 (loopBody Tryz.f101 1) { tm := [(0, V.str s0), (2, V.sl (some true) true 0 []), (3, vi (wI ((↑s0.length : Int).tdiv 4))), (4, V.ref 0), (5, vi i0), (6, vi i1), (14, V.bool false)], hp := [(0, Ob.row false 1 x1)], nx := 1 } = some (Exit.normal, { tm := [(0, V.str s0), (2, V.sl (some true) true 0 []), (3, vi (wI ((↑s0.length : Int).tdiv 4))), (4, V.ref 141), (5, vi i0), (6, vi (wI (i1 + 1))), (7, V.str s2), (14, V.bool false), (32, V.bool true), (43, V.bool false), (69, V.bool true)], hp := [(0, Ob.dead), (137, Ob.row false 1 [V.str s4]), (141, Ob.row false 1 (x1 ++ [V.str s4]))], nx := 161 }) :=
  byL (k := k) (d := 17) [Hn.br 32 true, Hn.op 38 (V.ept 0 (wI (i1 - 1)).toNat 0) [], Hn.op 39 (V.str s1) [], Hn.op 42 (vi (i1.tmod (wI ((↑s0.length : Int).tdiv 4)))) [], Hn.br 43 false, Hn.br 65 true, Hn.br 69 true, Hn.call 71 (V.str s2), Hn.op 77 (V.ept 0 (wI (i1 - wI ((↑s0.length : Int).tdiv 4))).toNat 0) [], Hn.op 78 (V.str s3) [], Hn.call 80 (V.str s4), Hn.op 82 (V.ref 141) [(0, Ob.dead), (141, Ob.row false 1 (x1 ++ [V.str s4]))]] (aI c0 (aI c1 (aI c2 (aI c3 (aI c4 (aI c5 (aI c6 (aI c7 (aI c8 (aI c9 (aI c10 (aI c11 trivial)))))))))))) (by kernel_rfl)
theorem L101_1_b1h (i0 i1 : Int) (s0 s2 s4 : List UInt8) (x1 : List V) : head 0 [0, 2, 3, 4, 5, 6, 14] (Tryz.cfg.fc 101).acc { tm := [(0, V.str s0), (2, V.sl (some true) true 0 []), (3, vi (wI ((↑s0.length : Int).tdiv 4))), (4, V.ref 141), (5, vi i0), (6, vi (wI (i1 + 1))), (7, V.str s2), (14, V.bool false), (32, V.bool true), (43, V.bool false), (69, V.bool true)], hp := [(0, Ob.dead), (137, Ob.row false 1 [V.str s4]), (141, Ob.row false 1 (x1 ++ [V.str s4]))], nx := 161 } = { tm := [(0, V.str s0), (2, V.sl (some true) true 0 []), (3, vi (wI ((↑s0.length : Int).tdiv 4))), (4, V.ref 0), (5, vi i0), (6, vi (wI (i1 + 1))), (14, V.bool false)], hp := [(0, Ob.row false 1 (x1 ++ [V.str s4]))], nx := 1 } := by kernel_rfl
theorem L101_1_b2 (i0 i1 : Int) (s0 s1 s2 s3 : List UInt8) (x1 : List V) (k : Nat)
    (c0 : decide (i1 < wI (4 * wI (wI ((↑s0.length : Int).tdiv 4) + 7))) = true)
    (c1 : IdxR x1.length (wI (i1 - 1)) 1 1 (V.ept 0 (wI (i1 - 1)).toNat 0))
    (c2 : LdP Tryz.prog 9 x1 (wI (i1 - 1)).toNat 0 (V.str s1))
    (c3 : GrdP (IntKind.i64 = IntKind.i64 ∧ wI ((↑s0.length : Int).tdiv (4 : Int)) ≠ (0 : Int)) (vi (i1.tmod (wI ((↑s0.length : Int).tdiv (4 : Int))))))
    (c4 : decide (i1.tmod (wI ((↑s0.length : Int).tdiv 4)) = 0) = false)
    (c5 : decide (wI ((↑s0.length : Int).tdiv 4) = 8) = true)
    (c6 : decide (i1.tmod 8 = 4) = false)
    (c7 : IdxR x1.length (wI (i1 - wI ((↑s0.length : Int).tdiv 4))) 1 1 (V.ept 0 (wI (i1 - wI ((↑s0.length : Int).tdiv 4))).toNat 0))
    (c8 : LdP Tryz.prog 9 x1 (wI (i1 - wI ((↑s0.length : Int).tdiv 4))).toNat 0 (V.str s2))
    (c9 : cP ((k + 17)) 77 [V.str s2, V.str s1] = some (V.str s3))
    (c10 : GrdW ((1 : Nat) = (1 : Nat) ∧ (0 : Nat) < (1 : Nat) ∧ (16 : Nat) ≤ (64 : Nat) ∧ x1.length + (1 : Nat) ≤ maxLen') (V.ref (129 : Nat)) [((0 : Nat), Ob.dead), ((129 : Nat), Ob.row false (1 : Nat) (x1 ++ [V.str s3]))]) :
    eC k 17 0 101 (loopBody Tryz.f101 1) { tm := [(0, V.str s0), (2, V.sl (some true) true 0 []), (3, vi (wI ((↑s0.length : Int).tdiv 4))), (4, V.ref 0), (5, vi i0), (6, vi i1), (14, V.bool false)], hp := [(0, Ob.row false 1 x1)], nx := 1 } = some (Exit.normal, { tm := [(0, V.str s0), (2, V.sl (some true) true 0 []), (3, vi (wI ((↑s0.length : Int).tdiv 4))), (4, V.ref 129), (5, vi i0), (6, vi (wI (i1 + 1))), (7, V.str s1), (14, V.bool false), (32, V.bool true), (43, V.bool false), (69, V.bool false)], hp := [(0, Ob.dead), (125, Ob.row false 1 [V.str s3]), (129, Ob.row false 1 (x1 ++ [V.str s3]))], nx := 149 }) :=
  byL (k := k) (d := 17) [Hn.br 32 true, Hn.op 38 (V.ept 0 (wI (i1 - 1)).toNat 0) [], Hn.op 39 (V.str s1) [], Hn.op 42 (vi (i1.tmod (wI ((↑s0.length : Int).tdiv 4)))) [], Hn.br 43 false, Hn.br 65 true, Hn.br 69 false, Hn.op 77 (V.ept 0 (wI (i1 - wI ((↑s0.length : Int).tdiv 4))).toNat 0) [], Hn.op 78 (V.str s2) [], Hn.call 80 (V.str s3), Hn.op 82 (V.ref 129) [(0, Ob.dead), (129, Ob.row false 1 (x1 ++ [V.str s3]))]] (aI c0 (aI c1 (aI c2 (aI c3 (aI c4 (aI c5 (aI c6 (aI c7 (aI c8 (aI c9 (aI c10 trivial))))))))))) (by kernel_rfl)
theorem L101_1_b2h (i0 i1 : Int) (s0 s1 s3 : List UInt8) (x1 : List V) : head 0 [0, 2, 3, 4, 5, 6, 14] (Tryz.cfg.fc 101).acc { tm := [(0, V.str s0), (2, V.sl (some true) true 0 []), (3, vi (wI ((↑s0.length : Int).tdiv 4))), (4, V.ref 129), (5, vi i0), (6, vi (wI (i1 + 1))), (7, V.str s1), (14, V.bool false), (32, V.bool true), (43, V.bool false), (69, V.bool false)], hp := [(0, Ob.dead), (125, Ob.row false 1 [V.str s3]), (129, Ob.row false 1 (x1 ++ [V.str s3]))], nx := 149 } = { tm := [(0, V.str s0), (2, V.sl (some true) true 0 []), (3, vi (wI ((↑s0.length : Int).tdiv 4))), (4, V.ref 0), (5, vi i0), (6, vi (wI (i1 + 1))), (14, V.bool false)], hp := [(0, Ob.row false 1 (x1 ++ [V.str s3]))], nx := 1 } := by kernel_rfl
theorem L101_1_b3 (i0 i1 : Int) (s0 s1 s2 s3 : List UInt8) (x1 : List V) (k : Nat)
    (c0 : decide (i1 < wI (4 * wI (wI ((↑s0.length : Int).tdiv 4) + 7))) = true)
    (c1 : IdxR x1.length (wI (i1 - 1)) 1 1 (V.ept 0 (wI (i1 - 1)).toNat 0))
    (c2 : LdP Tryz.prog 9 x1 (wI (i1 - 1)).toNat 0 (V.str s1))
    (c3 : GrdP (IntKind.i64 = IntKind.i64 ∧ wI ((↑s0.length : Int).tdiv (4 : Int)) ≠ (0 : Int)) (vi (i1.tmod (wI ((↑s0.length : Int).tdiv (4 : Int))))))
    (c4 : decide (i1.tmod (wI ((↑s0.length : Int).tdiv 4)) = 0) = false)
    (c5 : decide (wI ((↑s0.length : Int).tdiv 4) = 8) = false)
    (c6 : IdxR x1.length (wI (i1 - wI ((↑s0.length : Int).tdiv 4))) 1 1 (V.ept 0 (wI (i1 - wI ((↑s0.length : Int).tdiv 4))).toNat 0))
    (c7 : LdP Tryz.prog 9 x1 (wI (i1 - wI ((↑s0.length : Int).tdiv 4))).toNat 0 (V.str s2))
    (c8 : cP ((k + 17)) 77 [V.str s2, V.str s1] = some (V.str s3))
    (c9 : GrdW ((1 : Nat) = (1 : Nat) ∧ (0 : Nat) < (1 : Nat) ∧ (16 : Nat) ≤ (64 : Nat) ∧ x1.length + (1 : Nat) ≤ maxLen') (V.ref (129 : Nat)) [((0 : Nat), Ob.dead), ((129 : Nat), Ob.row false (1 : Nat) (x1 ++ [V.str s3]))]) :
    eC k 17 0 101 (loopBody Tryz.f101 1) { tm := [(0, V.str s0), (2, V.sl (some true) true 0 []), (3, vi (wI ((↑s0.length : Int).tdiv 4))), (4, V.ref 0), (5, vi i0), (6, vi i1), (14, V.bool false)], hp := [(0, Ob.row false 1 x1)], nx := 1 } = some (Exit.normal, { tm := [(0, V.str s0), (2, V.sl (some true) true 0 []), (3, vi (wI ((↑s0.length : Int).tdiv 4))), (4, V.ref 129), (5, vi i0), (6, vi (wI (i1 + 1))), (7, V.str s1), (14, V.bool false), (32, V.bool true), (43, V.bool false), (69, V.bool false)], hp := [(0, Ob.dead), (125, Ob.row false 1 [V.str s3]), (129, Ob.row false 1 (x1 ++ [V.str s3]))], nx := 149 }) :=
  byL (k := k) (d := 17) [Hn.br 32 true, Hn.op 38 (V.ept 0 (wI (i1 - 1)).toNat 0) [], Hn.op 39 (V.str s1) [], Hn.op 42 (vi (i1.tmod (wI ((↑s0.length : Int).tdiv 4)))) [], Hn.br 43 false, Hn.br 65 false, Hn.op 77 (V.ept 0 (wI (i1 - wI ((↑s0.length : Int).tdiv 4))).toNat 0) [], Hn.op 78 (V.str s2) [], Hn.call 80 (V.str s3), Hn.op 82 (V.ref 129) [(0, Ob.dead), (129, Ob.row false 1 (x1 ++ [V.str s3]))]] (aI c0 (aI c1 (aI c2 (aI c3 (aI c4 (aI c5 (aI c6 (aI c7 (aI c8 (aI c9 trivial)))))))))) (by kernel_rfl)
theorem L101_1_b3h (i0 i1 : Int) (s0 s1 s3 : List UInt8) (x1 : List V) : head 0 [0, 2, 3, 4, 5, 6, 14] (Tryz.cfg.fc 101).acc { tm := [(0, V.str s0), (2, V.sl (some true) true 0 []), (3, vi (wI ((↑s0.length : Int).tdiv 4))), (4, V.ref 129), (5, vi i0), (6, vi (wI (i1 + 1))), (7, V.str s1), (14, V.bool false), (32, V.bool true), (43, V.bool false), (69, V.bool false)], hp := [(0, Ob.dead), (125, Ob.row false 1 [V.str s3]), (129, Ob.row false 1 (x1 ++ [V.str s3]))], nx := 149 } = { tm := [(0, V.str s0), (2, V.sl (some true) true 0 []), (3, vi (wI ((↑s0.length : Int).tdiv 4))), (4, V.ref 0), (5, vi i0), (6, vi (wI (i1 + 1))), (14, V.bool false)], hp := [(0, Ob.row false 1 (x1 ++ [V.str s3]))], nx := 1 } := by kernel_rfl
theorem L101_1_b4 (i0 i1 : Int) (s0 : List UInt8) (x1 : List V) (k : Nat)
    (c0 : decide (i1 < wI (4 * wI (wI ((↑s0.length : Int).tdiv 4) + 7))) = false) :
    eC k 17 0 101 (loopBody Tryz.f101 1) { tm := [(0, V.str s0), (2, V.sl (some true) true 0 []), (3, vi (wI ((↑s0.length : Int).tdiv 4))), (4, V.ref 0), (5, vi i0), (6, vi i1), (14, V.bool false)], hp := [(0, Ob.row false 1 x1)], nx := 1 } = some (Exit.exit 2, { tm := [(0, V.str s0), (2, V.sl (some true) true 0 []), (3, vi (wI ((↑s0.length : Int).tdiv 4))), (4, V.ref 0), (5, vi i0), (6, vi i1), (14, V.bool false), (32, V.bool false)], hp := [(0, Ob.row false 1 x1)], nx := 21 }) :=
  byL (k := k) (d := 17) [Hn.br 32 false] (aI c0 trivial) (by kernel_rfl)
inductive L101_1_R where
  | e0 (i1 : Int) (x1 : List V)
noncomputable def L101_1_end (i0 : Int) (s0 : List UInt8) : L101_1_R → Exit × St
  | .e0 i1 x1 => (Exit.exit 2, { tm := [(0, V.str s0), (2, V.sl (some true) true 0 []), (3, V.int .i64 (IntKind.i64.wrap ((↑s0.length : Int).tdiv 4))), (4, V.ref 0), (5, V.int .i64 i0), (6, V.int .i64 i1), (14, V.bool false), (32, V.bool false)], hp := [(0, Ob.row false 1 x1)], nx := 21 })
def L101_1 (k : Nat) (i0 : Int) (s0 : List UInt8) : Nat → Int → List V → Option L101_1_R
  | 0, _, _ => none
  | f + 1, i1, x1 => (bif decide (i1 < IntKind.i64.wrap (4 * IntKind.i64.wrap (IntKind.i64.wrap ((↑s0.length : Int).tdiv 4) + 7))) then (guardP ((0 : Int) ≤ IntKind.i64.wrap (i1 - (1 : Int)) ∧ IntKind.i64.wrap (i1 - (1 : Int)) < (↑x1.length : Int)) ((((x1)[(IntKind.i64.wrap (i1 - 1)).toNat]?).bind dS).bind fun s1 => (guardP (IntKind.i64.wrap ((↑s0.length : Int).tdiv (4 : Int)) ≠ (0 : Int)) (bif decide (i1.tmod (IntKind.i64.wrap ((↑s0.length : Int).tdiv 4)) = 0) then (guardP ((0 : Int) ≤ (1 : Int) ∧ (1 : Int) ≤ (↑s1.length : Int)) (guardP ((List.drop (Int.toNat (1 : Int)) s1).length + (List.take (Int.toNat (1 : Int)) s1).length ≤ maxText) ((F79 (k + 2) (List.drop (Int.toNat 1) s1 ++ List.take (Int.toNat 1) s1)).bind fun s2 => ((satB (s2) (0)).bind fun u0 => ((F122 (k + 8) (2) (IntKind.i64.wrap (IntKind.i64.wrap (i1.tdiv (IntKind.i64.wrap ((↑s0.length : Int).tdiv 4))) - 1))).bind fun i2 => ((F102 (k + 14) (none) (false) (1) ([V.int .u8 (IntKind.u8.wrap (↑(BitVec.ofInt IntKind.u8.bits (↑u0.toNat : Int) ^^^ BitVec.ofInt IntKind.u8.bits i2).toNat : Int))])).bind fun s3 => (guardP ((0 : Int) ≤ (1 : Int) ∧ (1 : Int) ≤ (↑s2.length : Int)) (guardP (s3.length + (List.drop (Int.toNat (1 : Int)) s2).length ≤ maxText) (guardP ((0 : Int) ≤ IntKind.i64.wrap (i1 - IntKind.i64.wrap ((↑s0.length : Int).tdiv (4 : Int))) ∧ IntKind.i64.wrap (i1 - IntKind.i64.wrap ((↑s0.length : Int).tdiv (4 : Int))) < (↑x1.length : Int)) ((((x1)[(IntKind.i64.wrap (i1 - IntKind.i64.wrap ((↑s0.length : Int).tdiv 4))).toNat]?).bind dS).bind fun s4 => ((F77 (k + 11) (s4) (s3 ++ List.drop (Int.toNat 1) s2)).bind fun s5 => (guardP (x1.length + (1 : Nat) ≤ maxLen') (L101_1 k i0 s0 f (IntKind.i64.wrap (i1 + 1)) (x1 ++ [V.str s5])))))))))))))) else (bif decide (IntKind.i64.wrap ((↑s0.length : Int).tdiv 4) = 8) then (bif decide (i1.tmod 8 = 4) then ((F79 (k + 2) (s1)).bind fun s2 => (guardP ((0 : Int) ≤ IntKind.i64.wrap (i1 - IntKind.i64.wrap ((↑s0.length : Int).tdiv (4 : Int))) ∧ IntKind.i64.wrap (i1 - IntKind.i64.wrap ((↑s0.length : Int).tdiv (4 : Int))) < (↑x1.length : Int)) ((((x1)[(IntKind.i64.wrap (i1 - IntKind.i64.wrap ((↑s0.length : Int).tdiv 4))).toNat]?).bind dS).bind fun s3 => ((F77 (k + 11) (s3) (s2)).bind fun s4 => (guardP (x1.length + (1 : Nat) ≤ maxLen') (L101_1 k i0 s0 f (IntKind.i64.wrap (i1 + 1)) (x1 ++ [V.str s4]))))))) else (guardP ((0 : Int) ≤ IntKind.i64.wrap (i1 - IntKind.i64.wrap ((↑s0.length : Int).tdiv (4 : Int))) ∧ IntKind.i64.wrap (i1 - IntKind.i64.wrap ((↑s0.length : Int).tdiv (4 : Int))) < (↑x1.length : Int)) ((((x1)[(IntKind.i64.wrap (i1 - IntKind.i64.wrap ((↑s0.length : Int).tdiv 4))).toNat]?).bind dS).bind fun s2 => ((F77 (k + 11) (s2) (s1)).bind fun s3 => (guardP (x1.length + (1 : Nat) ≤ maxLen') (L101_1 k i0 s0 f (IntKind.i64.wrap (i1 + 1)) (x1 ++ [V.str s3]))))))) else (guardP ((0 : Int) ≤ IntKind.i64.wrap (i1 - IntKind.i64.wrap ((↑s0.length : Int).tdiv (4 : Int))) ∧ IntKind.i64.wrap (i1 - IntKind.i64.wrap ((↑s0.length : Int).tdiv (4 : Int))) < (↑x1.length : Int)) ((((x1)[(IntKind.i64.wrap (i1 - IntKind.i64.wrap ((↑s0.length : Int).tdiv 4))).toNat]?).bind dS).bind fun s2 => ((F77 (k + 11) (s2) (s1)).bind fun s3 => (guardP (x1.length + (1 : Nat) ≤ maxLen') (L101_1 k i0 s0 f (IntKind.i64.wrap (i1 + 1)) (x1 ++ [V.str s3]))))))))))) else (some (L101_1_R.e0 i1 x1)))
theorem L101_1_ok {i0 : Int} {s0 : List UInt8} {k : Nat} : ∀ {f : Nat} {i1 : Int} {x1 : List V} {r : L101_1_R}, L101_1 k i0 s0 f i1 x1 = some r →
    LoopsN Tryz.prog Tryz.cfg (k + 17) 0 Tryz.f101 (Tryz.cfg.fc 101) 1 [0, 2, 3, 4, 5, 6, 14] f { tm := [(0, V.str s0), (2, V.sl (some true) true 0 []), (3, vi (wI ((↑s0.length : Int).tdiv 4))), (4, V.ref 0), (5, vi i0), (6, vi i1), (14, V.bool false)], hp := [(0, Ob.row false 1 x1)], nx := 1 } (L101_1_end i0 s0 r) := by
  intro f
  induction f with
  | zero => intro i1 x1 r h; cases h
  | succ f ih =>
    intro i1 x1 r h
    rw [L101_1] at h
    rcases cond_elim h with ⟨e0, h⟩ | ⟨e0, h⟩
    ·
      obtain ⟨e1, h⟩ := guardP_some.1 h
      obtain ⟨s1, e2, h⟩ := bE h
      obtain ⟨e3, h⟩ := guardP_some.1 h
      rcases cond_elim h with ⟨e4, h⟩ | ⟨e4, h⟩
      ·
        obtain ⟨e5, h⟩ := guardP_some.1 h
        obtain ⟨e6, h⟩ := guardP_some.1 h
        obtain ⟨s2, e7, h⟩ := bE h
        obtain ⟨u0, e8, h⟩ := bE h
        obtain ⟨i2, e9, h⟩ := bE h
        obtain ⟨s3, e10, h⟩ := bE h
        obtain ⟨e11, h⟩ := guardP_some.1 h
        obtain ⟨e12, h⟩ := guardP_some.1 h
        obtain ⟨e13, h⟩ := guardP_some.1 h
        obtain ⟨s4, e14, h⟩ := bE h
        obtain ⟨s5, e15, h⟩ := bE h
        obtain ⟨e16, h⟩ := guardP_some.1 h
        exact LoopsN.next (L101_1_b0 i0 i1 i2 s0 s1 s2 s3 s4 s5 x1 u0 k e0 (IdxR.mk' e1 rfl) (LdP.mk (get_d dS_ok e2 :) (by kernel_rfl)) (GrdP.mk ⟨rfl, e3⟩) e4 (SlcP.strFromS e5) (SlcP.strUptoS e5) (GrdP.mk e6) (F79_ok e7) (StrP.of_at e8) (GrdP.mk ⟨rfl, e3⟩) (F122_ok e9) (F102_ok e10) (SlcP.strFromS e11) (GrdP.mk e12) (IdxR.mk' e13 rfl) (LdP.mk (get_d dS_ok e14 :) (by kernel_rfl)) (F77_ok e15) (GrdW.mk ⟨rfl, by decide, by decide, e16⟩)) (L101_1_b0h i0 i1 i2 s0 s2 s3 s5 x1 u0) (ih h)
      ·
        rcases cond_elim h with ⟨e5, h⟩ | ⟨e5, h⟩
        ·
          rcases cond_elim h with ⟨e6, h⟩ | ⟨e6, h⟩
          ·
            obtain ⟨s2, e7, h⟩ := bE h
            obtain ⟨e8, h⟩ := guardP_some.1 h
            obtain ⟨s3, e9, h⟩ := bE h
            obtain ⟨s4, e10, h⟩ := bE h
            obtain ⟨e11, h⟩ := guardP_some.1 h
            exact LoopsN.next (L101_1_b1 i0 i1 s0 s1 s2 s3 s4 x1 k e0 (IdxR.mk' e1 rfl) (LdP.mk (get_d dS_ok e2 :) (by kernel_rfl)) (GrdP.mk ⟨rfl, e3⟩) e4 e5 e6 (F79_ok e7) (IdxR.mk' e8 rfl) (LdP.mk (get_d dS_ok e9 :) (by kernel_rfl)) (F77_ok e10) (GrdW.mk ⟨rfl, by decide, by decide, e11⟩)) (L101_1_b1h i0 i1 s0 s2 s4 x1) (ih h)
          ·
            obtain ⟨e7, h⟩ := guardP_some.1 h
            obtain ⟨s2, e8, h⟩ := bE h
            obtain ⟨s3, e9, h⟩ := bE h
            obtain ⟨e10, h⟩ := guardP_some.1 h
            exact LoopsN.next (L101_1_b2 i0 i1 s0 s1 s2 s3 x1 k e0 (IdxR.mk' e1 rfl) (LdP.mk (get_d dS_ok e2 :) (by kernel_rfl)) (GrdP.mk ⟨rfl, e3⟩) e4 e5 e6 (IdxR.mk' e7 rfl) (LdP.mk (get_d dS_ok e8 :) (by kernel_rfl)) (F77_ok e9) (GrdW.mk ⟨rfl, by decide, by decide, e10⟩)) (L101_1_b2h i0 i1 s0 s1 s3 x1) (ih h)
        ·
          obtain ⟨e6, h⟩ := guardP_some.1 h
          obtain ⟨s2, e7, h⟩ := bE h
          obtain ⟨s3, e8, h⟩ := bE h
          obtain ⟨e9, h⟩ := guardP_some.1 h
          exact LoopsN.next (L101_1_b3 i0 i1 s0 s1 s2 s3 x1 k e0 (IdxR.mk' e1 rfl) (LdP.mk (get_d dS_ok e2 :) (by kernel_rfl)) (GrdP.mk ⟨rfl, e3⟩) e4 e5 (IdxR.mk' e6 rfl) (LdP.mk (get_d dS_ok e7 :) (by kernel_rfl)) (F77_ok e8) (GrdW.mk ⟨rfl, by decide, by decide, e9⟩)) (L101_1_b3h i0 i1 s0 s1 s3 x1) (ih h)
    ·
      cases h; exact LoopsN.done (L101_1_b4 i0 i1 s0 x1 k e0) (fun h => by cases h)
theorem P101_0 (i0 i1 : Int) (s0 : List UInt8) (x0 x1 : List V) (k : Nat)
    (c0 : LoopsN Tryz.prog Tryz.cfg (k + 17) 0 Tryz.f101 (Tryz.cfg.fc 101) 0 [0, 2, 3, 4, 5] (k + 17) { tm := [(0, V.str s0), (2, V.sl (some true) true 0 []), (3, vi (wI ((↑s0.length : Int).tdiv 4))), (4, V.ref 0), (5, vi 0)], hp := [(0, Ob.row false 1 [])], nx := 1 } (Exit.exit 0, { tm := [(0, V.str s0), (2, V.sl (some true) true 0 []), (3, vi (wI ((↑s0.length : Int).tdiv 4))), (4, V.ref 0), (5, vi i0), (14, V.bool false)], hp := [(0, Ob.row false 1 x0)], nx := 13 }))
    (c1 : LoopsN Tryz.prog Tryz.cfg (k + 17) 0 Tryz.f101 (Tryz.cfg.fc 101) 1 [0, 2, 3, 4, 5, 6, 14] (k + 17) { tm := [(0, V.str s0), (2, V.sl (some true) true 0 []), (3, vi (wI ((↑s0.length : Int).tdiv 4))), (4, V.ref 0), (5, vi i0), (6, vi (wI ((↑s0.length : Int).tdiv 4))), (14, V.bool false)], hp := [(0, Ob.row false 1 x0)], nx := 1 } (Exit.exit 2, { tm := [(0, V.str s0), (2, V.sl (some true) true 0 []), (3, vi (wI ((↑s0.length : Int).tdiv 4))), (4, V.ref 0), (5, vi i0), (6, vi i1), (14, V.bool false), (32, V.bool false)], hp := [(0, Ob.row false 1 x1)], nx := 21 })) :
    cP ((k + 18)) 101 [V.str s0] = some (V.sl none false 1 x1) :=
  byF (k := k) (d := 18) [Hn.loop (Exit.exit 0, { tm := [(0, V.str s0), (2, V.sl (some true) true 0 []), (3, vi (wI ((↑s0.length : Int).tdiv 4))), (4, V.ref 0), (5, vi i0), (14, V.bool false)], hp := [(0, Ob.row false 1 x0)], nx := 13 }), Hn.loop (Exit.exit 2, { tm := [(0, V.str s0), (2, V.sl (some true) true 0 []), (3, vi (wI ((↑s0.length : Int).tdiv 4))), (4, V.ref 0), (5, vi i0), (6, vi i1), (14, V.bool false), (32, V.bool false)], hp := [(0, Ob.row false 1 x1)], nx := 21 })] (aI c0 (aI c1 trivial)) (by kernel_rfl)
def F101 (k : Nat) (s0 : List UInt8) : Option (Option Bool × Bool × Nat × List V) :=
  ((L101_0 k s0 (k + 17) (0) ([])).bind fun
    | L101_0_R.e0 i0 x0 => ((L101_1 k i0 s0 (k + 17) (IntKind.i64.wrap ((↑s0.length : Int).tdiv 4)) (x0)).bind fun
    | L101_1_R.e0 i1 x1 => (some ((none), (false), (1), (x1)))))
theorem F101_ok {s0 : List UInt8} {k : Nat} {r : Option Bool × Bool × Nat × List V} (h : F101 k s0 = some r) :
    cP ((k + 18)) 101 [V.str s0] = some (V.sl r.1 r.2.1 r.2.2.1 r.2.2.2) := by
  unfold F101 at h
  obtain ⟨ee, e0, h⟩ := bE h
  cases ee with
  | e0 i0 x0 =>
    obtain ⟨ee, e1, h⟩ := bE h
    cases ee with
    | e0 i1 x1 =>
      have h := Option.some.inj h; subst h; exact P101_0 i0 i1 s0 x0 x1 k (L101_0_ok e0) (L101_1_ok e1)
theorem L76_0_b0 (i0 : Int) (b0 : Bool) (s0 s1 s2 s3 s4 : List UInt8) (x0 x1 : List V) (o0 : Option Bool) (n0 k : Nat)
    (c0 : decide (i0 < (↑x0.length : Int)) = true)
    (c1 : IdxP x0 i0 n0 1 (V.str s1))
    (c2 : IdxP x0 (wI (i0 + 1)) n0 1 (V.str s2))
    (c3 : GrdP (s1.length + s2.length ≤ maxText) (V.str (s1 ++ s2)))
    (c4 : IdxP x0 (wI (i0 + 2)) n0 1 (V.str s3))
    (c5 : GrdP ((s1 ++ s2).length + s3.length ≤ maxText) (V.str (s1 ++ s2 ++ s3)))
    (c6 : IdxP x0 (wI (i0 + 3)) n0 1 (V.str s4))
    (c7 : GrdP ((s1 ++ s2 ++ s3).length + s4.length ≤ maxText) (V.str (s1 ++ s2 ++ s3 ++ s4)))
    (c8 : GrdW ((1 : Nat) = (1 : Nat) ∧ (0 : Nat) < (1 : Nat) ∧ (16 : Nat) ≤ (64 : Nat) ∧ x1.length + (1 : Nat) ≤ maxLen') (V.ref (113 : Nat)) [((0 : Nat), Ob.dead), ((113 : Nat), Ob.row false (1 : Nat) (x1 ++ [V.str (s1 ++ s2 ++ s3 ++ s4)]))]) :
    eC k 20 0 76 (loopBody Tryz.f76 0) { tm := [(0, V.str s0), (2, V.sl (some true) true 0 []), (3, V.sl o0 b0 n0 x0), (4, V.ref 0), (5, vi i0)], hp := [(0, Ob.row false 1 x1)], nx := 1 } = some (Exit.normal, { tm := [(0, V.str s0), (2, V.sl (some true) true 0 []), (3, V.sl o0 b0 n0 x0), (4, V.ref 113), (5, vi (wI (i0 + 4))), (12, V.bool true)], hp := [(0, Ob.dead), (109, Ob.row false 1 [V.str (s1 ++ s2 ++ s3 ++ s4)]), (113, Ob.row false 1 (x1 ++ [V.str (s1 ++ s2 ++ s3 ++ s4)]))], nx := 133 }) :=
  byL (k := k) (d := 20) [Hn.br 12 true, Hn.op 18 ((V.str s1).cpt 0) [], Hn.op 23 ((V.str s2).cpt 0) [], Hn.op 25 (V.str (s1 ++ s2)) [], Hn.op 29 ((V.str s3).cpt 0) [], Hn.op 31 (V.str (s1 ++ s2 ++ s3)) [], Hn.op 35 ((V.str s4).cpt 0) [], Hn.op 37 (V.str (s1 ++ s2 ++ s3 ++ s4)) [], Hn.op 39 (V.ref 113) [(0, Ob.dead), (113, Ob.row false 1 (x1 ++ [V.str (s1 ++ s2 ++ s3 ++ s4)]))]] (aI c0 (aI c1 (aI c2 (aI c3 (aI c4 (aI c5 (aI c6 (aI c7 (aI c8 trivial))))))))) (by kernel_rfl)
theorem L76_0_b0h (i0 : Int) (b0 : Bool) (s0 s1 s2 s3 s4 : List UInt8) (x0 x1 : List V) (o0 : Option Bool) (n0 : Nat) : head 0 [0, 2, 3, 4, 5] (Tryz.cfg.fc 76).acc { tm := [(0, V.str s0), (2, V.sl (some true) true 0 []), (3, V.sl o0 b0 n0 x0), (4, V.ref 113), (5, vi (wI (i0 + 4))), (12, V.bool true)], hp := [(0, Ob.dead), (109, Ob.row false 1 [V.str (s1 ++ s2 ++ s3 ++ s4)]), (113, Ob.row false 1 (x1 ++ [V.str (s1 ++ s2 ++ s3 ++ s4)]))], nx := 133 } = { tm := [(0, V.str s0), (2, V.sl (some true) true 0 []), (3, V.sl o0 b0 n0 x0), (4, V.ref 0), (5, vi (wI (i0 + 4)))], hp := [(0, Ob.row false 1 (x1 ++ [V.str (s1 ++ s2 ++ s3 ++ s4)]))], nx := 1 } := by kernel_rfl
theorem L76_0_b1 (i0 : Int) (b0 : Bool) (s0 : List UInt8) (x0 x1 : List V) (o0 : Option Bool) (n0 k : Nat)
    (c0 : decide (i0 < (↑x0.length : Int)) = false) :
    eC k 20 0 76 (loopBody Tryz.f76 0) { tm := [(0, V.str s0), (2, V.sl (some true) true 0 []), (3, V.sl o0 b0 n0 x0), (4, V.ref 0), (5, vi i0)], hp := [(0, Ob.row false 1 x1)], nx := 1 } = some (Exit.exit 0, { tm := [(0, V.str s0), (2, V.sl (some true) true 0 []), (3, V.sl o0 b0 n0 x0), (4, V.ref 0), (5, vi i0), (12, V.bool false)], hp := [(0, Ob.row false 1 x1)], nx := 17 }) :=
  byL (k := k) (d := 20) [Hn.br 12 false] (aI c0 trivial) (by kernel_rfl)
inductive L76_0_R where
  | e0 (i0 : Int) (x1 : List V)
noncomputable def L76_0_end (b0 : Bool) (s0 : List UInt8) (x0 : List V) (o0 : Option Bool) (n0 : Nat) : L76_0_R → Exit × St
  | .e0 i0 x1 => (Exit.exit 0, { tm := [(0, V.str s0), (2, V.sl (some true) true 0 []), (3, V.sl o0 b0 n0 x0), (4, V.ref 0), (5, V.int .i64 i0), (12, V.bool false)], hp := [(0, Ob.row false 1 x1)], nx := 17 })
def L76_0 (k : Nat) (b0 : Bool) (s0 : List UInt8) (x0 : List V) (o0 : Option Bool) (n0 : Nat) : Nat → Int → List V → Option L76_0_R
  | 0, _, _ => none
  | f + 1, i0, x1 => (bif decide (i0 < (↑x0.length : Int)) then (guardP (n0 = (1 : Nat)) (((at? (x0) (i0)).bind dS).bind fun s1 => (((at? (x0) (IntKind.i64.wrap (i0 + 1))).bind dS).bind fun s2 => (guardP (s1.length + s2.length ≤ maxText) (((at? (x0) (IntKind.i64.wrap (i0 + 2))).bind dS).bind fun s3 => (guardP ((s1 ++ s2).length + s3.length ≤ maxText) (((at? (x0) (IntKind.i64.wrap (i0 + 3))).bind dS).bind fun s4 => (guardP ((s1 ++ s2 ++ s3).length + s4.length ≤ maxText) (guardP (x1.length + (1 : Nat) ≤ maxLen') (L76_0 k b0 s0 x0 o0 n0 f (IntKind.i64.wrap (i0 + 4)) (x1 ++ [V.str (s1 ++ s2 ++ s3 ++ s4)]))))))))))) else (some (L76_0_R.e0 i0 x1)))
theorem L76_0_ok {b0 : Bool} {s0 : List UInt8} {x0 : List V} {o0 : Option Bool} {n0 k : Nat} : ∀ {f : Nat} {i0 : Int} {x1 : List V} {r : L76_0_R}, L76_0 k b0 s0 x0 o0 n0 f i0 x1 = some r →
    LoopsN Tryz.prog Tryz.cfg (k + 20) 0 Tryz.f76 (Tryz.cfg.fc 76) 0 [0, 2, 3, 4, 5] f { tm := [(0, V.str s0), (2, V.sl (some true) true 0 []), (3, V.sl o0 b0 n0 x0), (4, V.ref 0), (5, vi i0)], hp := [(0, Ob.row false 1 x1)], nx := 1 } (L76_0_end b0 s0 x0 o0 n0 r) := by
  intro f
  induction f with
  | zero => intro i0 x1 r h; cases h
  | succ f ih =>
    intro i0 x1 r h
    rw [L76_0] at h
    rcases cond_elim h with ⟨e0, h⟩ | ⟨e0, h⟩
    ·
      obtain ⟨e1, h⟩ := guardP_some.1 h
      obtain ⟨s1, e2, h⟩ := bE h
      obtain ⟨s2, e3, h⟩ := bE h
      obtain ⟨e4, h⟩ := guardP_some.1 h
      obtain ⟨s3, e5, h⟩ := bE h
      obtain ⟨e6, h⟩ := guardP_some.1 h
      obtain ⟨s4, e7, h⟩ := bE h
      obtain ⟨e8, h⟩ := guardP_some.1 h
      obtain ⟨e9, h⟩ := guardP_some.1 h
      exact LoopsN.next (L76_0_b0 i0 b0 s0 s1 s2 s3 s4 x0 x1 o0 n0 k e0 (IdxP.of_at' (at_d dS_ok e2 :) e1) (IdxP.of_at' (at_d dS_ok e3 :) e1) (GrdP.mk e4) (IdxP.of_at' (at_d dS_ok e5 :) e1) (GrdP.mk e6) (IdxP.of_at' (at_d dS_ok e7 :) e1) (GrdP.mk e8) (GrdW.mk ⟨rfl, by decide, by decide, e9⟩)) (L76_0_b0h i0 b0 s0 s1 s2 s3 s4 x0 x1 o0 n0) (ih h)
    ·
      cases h; exact LoopsN.done (L76_0_b1 i0 b0 s0 x0 x1 o0 n0 k e0) (fun h => by cases h)
theorem P76_0 (i0 : Int) (b0 : Bool) (s0 : List UInt8) (x0 x1 : List V) (o0 : Option Bool) (n0 k : Nat)
    (c0 : cP ((k + 20)) 101 [V.str s0] = some (V.sl o0 b0 n0 x0))
    (c1 : LoopsN Tryz.prog Tryz.cfg (k + 20) 0 Tryz.f76 (Tryz.cfg.fc 76) 0 [0, 2, 3, 4, 5] (k + 20) { tm := [(0, V.str s0), (2, V.sl (some true) true 0 []), (3, V.sl o0 b0 n0 x0), (4, V.ref 0), (5, vi 0)], hp := [(0, Ob.row false 1 [])], nx := 1 } (Exit.exit 0, { tm := [(0, V.str s0), (2, V.sl (some true) true 0 []), (3, V.sl o0 b0 n0 x0), (4, V.ref 0), (5, vi i0), (12, V.bool false)], hp := [(0, Ob.row false 1 x1)], nx := 17 })) :
    cP ((k + 21)) 76 [V.str s0] = some (V.sl none false 1 x1) :=
  byF (k := k) (d := 21) [Hn.call 7 (V.sl o0 b0 n0 x0), Hn.loop (Exit.exit 0, { tm := [(0, V.str s0), (2, V.sl (some true) true 0 []), (3, V.sl o0 b0 n0 x0), (4, V.ref 0), (5, vi i0), (12, V.bool false)], hp := [(0, Ob.row false 1 x1)], nx := 17 })] (aI c0 (aI c1 trivial)) (by kernel_rfl)
def F76 (k : Nat) (s0 : List UInt8) : Option (Option Bool × Bool × Nat × List V) :=
  ((F101 (k + 2) (s0)).bind fun (o0, b0, n0, x0) => ((L76_0 k b0 s0 x0 o0 n0 (k + 20) (0) ([])).bind fun
    | L76_0_R.e0 i0 x1 => (some ((none), (false), (1), (x1)))))
theorem F76_ok {s0 : List UInt8} {k : Nat} {r : Option Bool × Bool × Nat × List V} (h : F76 k s0 = some r) :
    cP ((k + 21)) 76 [V.str s0] = some (V.sl r.1 r.2.1 r.2.2.1 r.2.2.2) := by
  unfold F76 at h
  obtain ⟨⟨o0, b0, n0, x0⟩, e0, h⟩ := bE h
  obtain ⟨ee, e1, h⟩ := bE h
  cases ee with
  | e0 i0 x1 =>
    have h := Option.some.inj h; subst h; exact P76_0 i0 b0 s0 x0 x1 o0 n0 k (F101_ok e0) (L76_0_ok e1)
theorem P9_0 (s0 : List UInt8) (k : Nat)
    (c0 : decide ((↑s0.length : Int) = 16) = true) :
    cP ((k + 3)) 9 [V.str s0] = some (V.bool true) :=
  byF (k := k) (d := 3) [Hn.br 6 true] (aI c0 trivial) (by kernel_rfl)
theorem P9_1 (s0 : List UInt8) (k : Nat)
    (c0 : decide ((↑s0.length : Int) = 16) = false) :
    cP ((k + 3)) 9 [V.str s0] = some (V.bool (decide ((↑s0.length : Int) = 32))) :=
  byF (k := k) (d := 3) [Hn.br 6 false] (aI c0 trivial) (by kernel_rfl)
def F9 (k : Nat) (s0 : List UInt8) : Option (Bool) :=
  (bif decide ((↑s0.length : Int) = 16) then (some (true)) else (some (decide ((↑s0.length : Int) = 32))))
theorem F9_ok {s0 : List UInt8} {k : Nat} {r : Bool} (h : F9 k s0 = some r) :
    cP ((k + 3)) 9 [V.str s0] = some (V.bool r) := by
  unfold F9 at h
  rcases cond_elim h with ⟨e0, h⟩ | ⟨e0, h⟩
  ·
    have h := Option.some.inj h; subst h; exact P9_0 s0 k e0
  ·
    have h := Option.some.inj h; subst h; exact P9_1 s0 k e0
theorem L51_0_b0 (i0 : Int) (b0 : Bool) (s0 s1 s4 s5 s6 s7 s8 s9 : List UInt8) (x0 : List V) (o0 : Option Bool) (n0 k : Nat)
    (c0 : decide (i0 < (↑x0.length : Int)) = true)
    (c1 : cP ((k + 23)) 79 [V.str s4] = some (V.str s5))
    (c2 : cP ((k + 23)) 78 [V.str s5] = some (V.str s6))
    (c3 : decide (wI (i0 + 1) < (↑x0.length : Int)) = true)
    (c4 : cP ((k + 23)) 80 [V.str s6] = some (V.str s7))
    (c5 : IdxP x0 i0 n0 1 (V.str s8))
    (c6 : cP ((k + 23)) 77 [V.str s7, V.str s8] = some (V.str s9)) :
    eC k 23 0 51 (loopBody Tryz.f51 0) { tm := [(0, V.str s0), (1, V.str s1), (4, V.str []), (5, V.sl o0 b0 n0 x0), (6, V.str s4), (7, vi i0)], hp := [], nx := 0 } = some (Exit.normal, { tm := [(0, V.str s0), (1, V.str s1), (4, V.str []), (5, V.sl o0 b0 n0 x0), (6, V.str s9), (7, vi (wI (i0 + 1))), (18, V.bool true), (28, V.bool true)], hp := [], nx := 104 }) :=
  byL (k := k) (d := 23) [Hn.br 18 true, Hn.call 22 (V.str s5), Hn.call 23 (V.str s6), Hn.br 28 true, Hn.call 30 (V.str s7), Hn.op 34 ((V.str s8).cpt 0) [], Hn.call 36 (V.str s9)] (aI c0 (aI c1 (aI c2 (aI c3 (aI c4 (aI c5 (aI c6 trivial))))))) (by kernel_rfl)
theorem L51_0_b0h (i0 : Int) (b0 : Bool) (s0 s1 s9 : List UInt8) (x0 : List V) (o0 : Option Bool) (n0 : Nat) : head 0 [0, 1, 4, 5, 6, 7] (Tryz.cfg.fc 51).acc { tm := [(0, V.str s0), (1, V.str s1), (4, V.str []), (5, V.sl o0 b0 n0 x0), (6, V.str s9), (7, vi (wI (i0 + 1))), (18, V.bool true), (28, V.bool true)], hp := [], nx := 104 } = { tm := [(0, V.str s0), (1, V.str s1), (4, V.str []), (5, V.sl o0 b0 n0 x0), (6, V.str s9), (7, vi (wI (i0 + 1)))], hp := [], nx := 0 } := by kernel_rfl
theorem L51_0_b1 (i0 : Int) (b0 : Bool) (s0 s1 s4 s5 s6 s7 s8 : List UInt8) (x0 : List V) (o0 : Option Bool) (n0 k : Nat)
    (c0 : decide (i0 < (↑x0.length : Int)) = true)
    (c1 : cP ((k + 23)) 79 [V.str s4] = some (V.str s5))
    (c2 : cP ((k + 23)) 78 [V.str s5] = some (V.str s6))
    (c3 : decide (wI (i0 + 1) < (↑x0.length : Int)) = false)
    (c4 : IdxP x0 i0 n0 1 (V.str s7))
    (c5 : cP ((k + 23)) 77 [V.str s6, V.str s7] = some (V.str s8)) :
    eC k 23 0 51 (loopBody Tryz.f51 0) { tm := [(0, V.str s0), (1, V.str s1), (4, V.str []), (5, V.sl o0 b0 n0 x0), (6, V.str s4), (7, vi i0)], hp := [], nx := 0 } = some (Exit.normal, { tm := [(0, V.str s0), (1, V.str s1), (4, V.str []), (5, V.sl o0 b0 n0 x0), (6, V.str s8), (7, vi (wI (i0 + 1))), (18, V.bool true), (28, V.bool false)], hp := [], nx := 92 }) :=
  byL (k := k) (d := 23) [Hn.br 18 true, Hn.call 22 (V.str s5), Hn.call 23 (V.str s6), Hn.br 28 false, Hn.op 34 ((V.str s7).cpt 0) [], Hn.call 36 (V.str s8)] (aI c0 (aI c1 (aI c2 (aI c3 (aI c4 (aI c5 trivial)))))) (by kernel_rfl)
theorem L51_0_b1h (i0 : Int) (b0 : Bool) (s0 s1 s8 : List UInt8) (x0 : List V) (o0 : Option Bool) (n0 : Nat) : head 0 [0, 1, 4, 5, 6, 7] (Tryz.cfg.fc 51).acc { tm := [(0, V.str s0), (1, V.str s1), (4, V.str []), (5, V.sl o0 b0 n0 x0), (6, V.str s8), (7, vi (wI (i0 + 1))), (18, V.bool true), (28, V.bool false)], hp := [], nx := 92 } = { tm := [(0, V.str s0), (1, V.str s1), (4, V.str []), (5, V.sl o0 b0 n0 x0), (6, V.str s8), (7, vi (wI (i0 + 1)))], hp := [], nx := 0 } := by kernel_rfl
theorem L51_0_b2 (i0 : Int) (b0 : Bool) (s0 s1 s4 : List UInt8) (x0 : List V) (o0 : Option Bool) (n0 k : Nat)
    (c0 : decide (i0 < (↑x0.length : Int)) = false) :
    eC k 23 0 51 (loopBody Tryz.f51 0) { tm := [(0, V.str s0), (1, V.str s1), (4, V.str []), (5, V.sl o0 b0 n0 x0), (6, V.str s4), (7, vi i0)], hp := [], nx := 0 } = some (Exit.exit 0, { tm := [(0, V.str s0), (1, V.str s1), (4, V.str []), (5, V.sl o0 b0 n0 x0), (6, V.str s4), (7, vi i0), (18, V.bool false)], hp := [], nx := 16 }) :=
  byL (k := k) (d := 23) [Hn.br 18 false] (aI c0 trivial) (by kernel_rfl)
inductive L51_0_R where
  | e0 (i0 : Int) (s4 : List UInt8)
noncomputable def L51_0_end (b0 : Bool) (s0 : List UInt8) (s1 : List UInt8) (x0 : List V) (o0 : Option Bool) (n0 : Nat) : L51_0_R → Exit × St
  | .e0 i0 s4 => (Exit.exit 0, { tm := [(0, V.str s0), (1, V.str s1), (4, V.str []), (5, V.sl o0 b0 n0 x0), (6, V.str s4), (7, V.int .i64 i0), (18, V.bool false)], hp := [], nx := 16 })
def L51_0 (k : Nat) (b0 : Bool) (s0 s1 : List UInt8) (x0 : List V) (o0 : Option Bool) (n0 : Nat) : Nat → List UInt8 → Int → Option L51_0_R
  | 0, _, _ => none
  | f + 1, s4, i0 => (bif decide (i0 < (↑x0.length : Int)) then ((F79 (k + 8) (s4)).bind fun s5 => ((F78 (k + 12) (s5)).bind fun s6 => (bif decide (IntKind.i64.wrap (i0 + 1) < (↑x0.length : Int)) then ((F80 (k + 14) (s6)).bind fun s7 => (guardP (n0 = (1 : Nat)) (((at? (x0) (i0)).bind dS).bind fun s8 => ((F77 (k + 17) (s7) (s8)).bind fun s9 => (L51_0 k b0 s0 s1 x0 o0 n0 f (s9) (IntKind.i64.wrap (i0 + 1))))))) else (guardP (n0 = (1 : Nat)) (((at? (x0) (i0)).bind dS).bind fun s7 => ((F77 (k + 17) (s6) (s7)).bind fun s8 => (L51_0 k b0 s0 s1 x0 o0 n0 f (s8) (IntKind.i64.wrap (i0 + 1))))))))) else (some (L51_0_R.e0 i0 s4)))
theorem L51_0_ok {b0 : Bool} {s0 s1 : List UInt8} {x0 : List V} {o0 : Option Bool} {n0 k : Nat} : ∀ {f : Nat} {s4 : List UInt8} {i0 : Int} {r : L51_0_R}, L51_0 k b0 s0 s1 x0 o0 n0 f s4 i0 = some r →
    LoopsN Tryz.prog Tryz.cfg (k + 23) 0 Tryz.f51 (Tryz.cfg.fc 51) 0 [0, 1, 4, 5, 6, 7] f { tm := [(0, V.str s0), (1, V.str s1), (4, V.str []), (5, V.sl o0 b0 n0 x0), (6, V.str s4), (7, vi i0)], hp := [], nx := 0 } (L51_0_end b0 s0 s1 x0 o0 n0 r) := by
  intro f
  induction f with
  | zero => intro s4 i0 r h; cases h
  | succ f ih =>
    intro s4 i0 r h
    rw [L51_0] at h
    rcases cond_elim h with ⟨e0, h⟩ | ⟨e0, h⟩
    ·
      obtain ⟨s5, e1, h⟩ := bE h
      obtain ⟨s6, e2, h⟩ := bE h
      rcases cond_elim h with ⟨e3, h⟩ | ⟨e3, h⟩
      ·
        obtain ⟨s7, e4, h⟩ := bE h
        obtain ⟨e5, h⟩ := guardP_some.1 h
        obtain ⟨s8, e6, h⟩ := bE h
        obtain ⟨s9, e7, h⟩ := bE h
        exact LoopsN.next (L51_0_b0 i0 b0 s0 s1 s4 s5 s6 s7 s8 s9 x0 o0 n0 k e0 (F79_ok e1) (F78_ok e2) e3 (F80_ok e4) (IdxP.of_at' (at_d dS_ok e6 :) e5) (F77_ok e7)) (L51_0_b0h i0 b0 s0 s1 s9 x0 o0 n0) (ih h)
      ·
        obtain ⟨e4, h⟩ := guardP_some.1 h
        obtain ⟨s7, e5, h⟩ := bE h
        obtain ⟨s8, e6, h⟩ := bE h
        exact LoopsN.next (L51_0_b1 i0 b0 s0 s1 s4 s5 s6 s7 s8 x0 o0 n0 k e0 (F79_ok e1) (F78_ok e2) e3 (IdxP.of_at' (at_d dS_ok e5 :) e4) (F77_ok e6)) (L51_0_b1h i0 b0 s0 s1 s8 x0 o0 n0) (ih h)
    ·
      cases h; exact LoopsN.done (L51_0_b2 i0 b0 s0 s1 s4 x0 o0 n0 k e0) (fun h => by cases h)
theorem P51_0 (i0 : Int) (b0 : Bool) (s0 s1 s2 s3 s4 : List UInt8) (x0 : List V) (o0 : Option Bool) (n0 k : Nat)
    (c0 : cP ((k + 23)) 76 [V.str s0] = some (V.sl o0 b0 n0 x0))
    (c1 : IdxP x0 0 n0 1 (V.str s2))
    (c2 : cP ((k + 23)) 77 [V.str s1, V.str s2] = some (V.str s3))
    (c3 : LoopsN Tryz.prog Tryz.cfg (k + 23) 0 Tryz.f51 (Tryz.cfg.fc 51) 0 [0, 1, 4, 5, 6, 7] (k + 23) { tm := [(0, V.str s0), (1, V.str s1), (4, V.str []), (5, V.sl o0 b0 n0 x0), (6, V.str s3), (7, vi 1)], hp := [], nx := 0 } (Exit.exit 0, { tm := [(0, V.str s0), (1, V.str s1), (4, V.str []), (5, V.sl o0 b0 n0 x0), (6, V.str s4), (7, vi i0), (18, V.bool false)], hp := [], nx := 16 })) :
    cP ((k + 24)) 51 [V.str s0, V.str s1] = some (V.str s4) :=
  byF (k := k) (d := 24) [Hn.call 9 (V.sl o0 b0 n0 x0), Hn.op 12 ((V.str s2).cpt 0) [], Hn.call 14 (V.str s3), Hn.loop (Exit.exit 0, { tm := [(0, V.str s0), (1, V.str s1), (4, V.str []), (5, V.sl o0 b0 n0 x0), (6, V.str s4), (7, vi i0), (18, V.bool false)], hp := [], nx := 16 })] (aI c0 (aI c1 (aI c2 (aI c3 trivial)))) (by kernel_rfl)
def F51 (k : Nat) (s0 s1 : List UInt8) : Option (List UInt8) :=
  ((F76 (k + 2) (s0)).bind fun (o0, b0, n0, x0) => (guardP (n0 = (1 : Nat)) (((at? (x0) (0)).bind dS).bind fun s2 => ((F77 (k + 17) (s1) (s2)).bind fun s3 => ((L51_0 k b0 s0 s1 x0 o0 n0 (k + 23) (s3) (1)).bind fun
    | L51_0_R.e0 i0 s4 => (some (s4)))))))
theorem F51_ok {s0 s1 : List UInt8} {k : Nat} {r : List UInt8} (h : F51 k s0 s1 = some r) :
    cP ((k + 24)) 51 [V.str s0, V.str s1] = some (V.str r) := by
  unfold F51 at h
  obtain ⟨⟨o0, b0, n0, x0⟩, e0, h⟩ := bE h
  obtain ⟨e1, h⟩ := guardP_some.1 h
  obtain ⟨s2, e2, h⟩ := bE h
  obtain ⟨s3, e3, h⟩ := bE h
  obtain ⟨ee, e4, h⟩ := bE h
  cases ee with
  | e0 i0 s4 =>
    have h := Option.some.inj h; subst h; exact P51_0 i0 b0 s0 s1 s2 s3 s4 x0 o0 n0 k (F76_ok e0) (IdxP.of_at' (at_d dS_ok e2 :) e1) (F77_ok e3) (L51_0_ok e4)
end Go.Proofs
