/-
  Lemmas on the machine of plain values and on what functions of this program answer, part 2.
-/
import Derived.Test.YtegmincienhapaaDoorM1
import Derived.Shelf.Strings.Builder1
import Derived.Shelf.Strings.Repeat
import Derived.Shelf.Strings.SlTrimAscii
import Derived.Shelf.Strings.Builder2
import Derived.Shelf.Strings.Trim
import Derived.Shelf.Small.Utf8
import Derived.Shelf.Small.Strs
import Derived.Shelf.Strings.BuilderF
import Derived.Shelf.Strings.Search1
import Derived.Shelf.Strings.Prefix
import Derived.Shelf.Strings.Runes
import Derived.Shelf.Strings.AsciiSet
import Derived.Shelf.Bits.Mul64
import Derived.Shelf.Unicode.DecodeSlow
import Derived.Test.YtegmincienhapaaDoorProg
import Derived.Test.YtegmincienhapaaDoorRows
set_option linter.unusedVariables false
set_option linter.unusedSimpArgs false
namespace Go.Lib
open Go Go.RowKit
theorem append_string_far {P : Program} {w : World} (t u ty e : TypeId) (i : TypeInfo) (ht : P.underlying t = some (.slice e)) (hu : P.underlying u = some .string) (hi : P.info? e = some i) (hz : i.zero = some (.int .u8 0))
    (hsize : i.size = 1) (hby : i.bytes = 1) (v : Value) (n : Nat) (xs : List Value) (hown : w.ownsRow 0 e 1 v n xs) (s : ByteArray) (h63 : n + s.size ≤ maxLen) (hbytes : n + s.size ≤ 140737488355328) :
    ∃ v' w', (Builtin.append_ #[t, u] ty #[v, .string s]).run P w = .ok v' w' ∧ w'.ownsRow 0 e 1 v' (n + s.size) (xs ++ strCells s) ∧ w.grownBy w' v.ownBlock ∧
      (v'.ownBlock = v.ownBlock ∨ ∀ g, v'.ownBlock = some g → w.heap.size ≤ g) := by
  obtain ⟨v', w', hr, h2, h3, h4⟩ := run_append_own_string (P := P) w 0 t u ty e i ht hu hi hz hsize hby v n xs hown s h63 hbytes (Nat.zero_le _)
  refine ⟨v', w', hr, h2, h3, ?_⟩
  have hxl : xs.length = n := by simpa using hown.1
  rcases hown.2 with ⟨rfl, rfl⟩ | ⟨g, cap, cur, rfl, hbg, hg, hnc, hcm, hcs, htake⟩
  · right
    have hown2 : w.ownsRow w.heap.size e 1 (.slice none 0 0) 0 xs := ⟨hown.1, .inl ⟨rfl, rfl⟩⟩
    obtain ⟨v2, w2, hr2, k2, _, _⟩ := run_append_own_string (P := P) w w.heap.size t u ty e i ht hu hi hz hsize hby _ 0 xs hown2 s h63 hbytes (Nat.le_refl _)
    rw [hr] at hr2
    cases hr2
    intro g hgb
    rcases k2.2 with ⟨hv, _⟩ | ⟨g', cap', cur', hv, hge, _⟩
    · subst hv; cases hgb
    · subst hv; cases hgb; exact hge
  · by_cases hroom : n + s.size ≤ cap
    · left
      have hr1 := run_append_room_string (P := P) w t u ty e i ht hu hi hsize g n cap cur hg s hroom (by omega)
      rw [hr] at hr1
      cases hr1; rfl
    · right
      have hsmall : n + s.size ≤ 9223372036854775807 := by simp only [maxLen] at h63; omega
      have holds : ∀ j u, xs[j]? = some u → w.cell? ((⟨g, 0, none⟩ : Addr).add j) = some u := hown.cells (g := g) rfl
      have hr1 := run_append_grow_string (P := P) w t u ty e i (.int .u8 0) ht hu hi hz ⟨g, 0, none⟩ n cap xs (by rw [hsize]; simpa using hxl) holds s (by omega) (by omega) (by rw [hby]; exact growslice_fits (by omega) (by omega))
      rw [hr] at hr1
      cases hr1
      intro g' hgb
      cases hgb; exact Nat.le_refl _
theorem wpList_append_string_far {P : Program} {w : World} {ops : Array Oper} {rest : List Oper} {o : Oper} {a : Act} {Q : Exit → Act → World → Prop} (hgd : o.guard = none) (sl x : Operand) (t u : TypeId)
    (ho : o.op = .call { callee := .builtin .append, args := #[sl, x], argTypes := #[t, u] })
    (e : TypeId) (i : TypeInfo) (ht : P.underlying t = some (.slice e)) (hu : P.underlying u = some .string) (hi : P.info? e = some i) (hz : i.zero = some (.int .u8 0))
    (hsize : i.size = 1) (hby : i.bytes = 1)
    (v : Value) (n : Nat) (xs : List Value) (hs : a.eval sl = v) (hown : w.ownsRow 0 e 1 v n xs) (s : ByteArray) (hx : a.eval x = .string s)
    (h63 : n + s.size ≤ maxLen) (hbytes : n + s.size ≤ 140737488355328)
    (h : ∀ v' w', w'.ownsRow 0 e 1 v' (n + s.size) (xs ++ strCells s) → w.grownBy w' v.ownBlock → (v'.ownBlock = v.ownBlock ∨ ∀ g, v'.ownBlock = some g → w.heap.size ≤ g) → wpList P ops Q rest (a.put o.dst v') w') : wpList P ops Q (o :: rest) a w := by
  refine wpList_plain hgd fun K hK => ?_
  obtain ⟨v', w', hr, h2, h3, h4⟩ := append_string_far (P := P) (w := w) t u o.type e i ht hu hi hz hsize hby v n xs hown s h63 hbytes
  unfold Oper.wp execOp
  simp only [ho, resolve, invoke, builtin, Sem.run_bind, Sem.run_pure, Result.andThen_ok, List.map_toArray, List.map_cons, List.map_nil, hs, hx, hr]
  exact hK _ _ (h v' w' h2 h3 h4)
end Go.Lib
namespace Go.Proofs
open Go Go.Shelf Go.RowKit
variable {P : Program} {ρ : Ren}
set_option maxHeartbeats 4000000 in
set_option maxRecDepth 100000 in
theorem Bld.WriteString_far (L : Lays.n166 P ρ) (X : Builder.Extra P ρ) (b : Nat) (bs : List Value) (s : ByteArray) (w : World) (p v : Value) (hp : p = .pointer none ∨ p = .pointer (some ⟨b, 0, none⟩))
    (hbk0 : w.heap[b]? = some (.cells #[p, v] (ρ.t 72) (0, 0))) (hown0 : w.ownsRow 0 (ρ.t 5) 1 v bs.length bs) (hne0 : v.ownBlock ≠ some b) (hlen : bs.length + s.size ≤ 140737488355328) :
    Calls P (ρ.f 166) #[.pointer (some ⟨b, 0, none⟩), .string s] w fun e w' => e = .returned (.tuple #[.int .i64 s.size, .nilIface]) ∧
      ∃ v', w'.heap[b]? = some (.cells #[.pointer (some ⟨b, 0, none⟩), v'] (ρ.t 72) (0, 0)) ∧ w'.ownsRow 0 (ρ.t 5) 1 v' (bs.length + s.size) (bs ++ Lib.strCells s) ∧ v'.ownBlock ≠ some b ∧
        w.heap.size ≤ w'.heap.size ∧ w'.os = w.os ∧ w'.tape = w.tape ∧ w'.output = w.output ∧ (∀ k, k < w.heap.size → k ≠ b → some k ≠ v.ownBlock → w'.heap[k]? = w.heap[k]?) ∧
        (v'.ownBlock = v.ownBlock ∨ ∀ g, v'.ownBlock = some g → w.heap.size ≤ g) := by
  obtain ⟨i0, hi, hz0, hz1, hz2⟩ := info_parts X.infoByte
  have mixed := L.mixed
  have t72 := L.t72; have a72 := L.a72; have z72 := L.z72; have v72 := L.v72; have u72 := run_underlying L.t72
  have t70 := L.t70; have a70 := L.a70; have z70 := L.z70; have v70 := L.v70; have u70 := run_underlying L.t70
  have t37 := L.t37; have a37 := L.a37; have z37 := L.z37; have v37 := L.v37; have u37 := run_underlying L.t37
  have t3 := L.t3; have a3 := L.a3; have z3 := L.z3; have v3 := L.v3; have u3 := run_underlying L.t3
  have t9 := L.t9; have a9 := L.a9; have z9 := L.z9; have v9 := L.v9; have u9 := run_underlying L.t9
  have t4 := L.t4; have a4 := L.a4; have z4 := L.z4; have v4 := L.v4; have u4 := run_underlying L.t4
  have t164 := L.t164; have a164 := L.a164; have z164 := L.z164; have v164 := L.v164; have u164 := run_underlying L.t164
  have t5 := X.t5; have a5 := X.a5; have z5 := X.z5; have v5 := X.v5; have u5 := run_underlying X.t5
  have e240 : ∀ args w, (callFunc (ρ.f 240) args).run P w = .ok (.enter (ρ.f 240) args) w := enters_of L.f240 (by kernel_rfl) rfl
  have cc : Calls P (ρ.f 240) #[.pointer (some ⟨b, 0, none⟩)] w fun e w' => e = .returned (.tuple #[]) ∧ w'.heap[b]? = some (.cells #[.pointer (some ⟨b, 0, none⟩), v] (ρ.t 72) (0, 0)) ∧ (∀ k, k ≠ b → w'.heap[k]? = w.heap[k]?) ∧ w'.heap.size = w.heap.size ∧ w'.os = w.os ∧ w'.tape = w.tape ∧ w'.output = w.output := by
    rcases hp with rfl | rfl
    · refine (Any.Builder_copyCheck_fresh { L with } X.toX72 b w (by simp [World.cell?, hbk0]) (by simp [World.shape?, hbk0]) (Lib.frozen_of_heap hbk0 0)).mono ?_
      rintro e w' ⟨rfl, rfl⟩
      refine ⟨rfl, ?_, fun k hk => ?_, by simp [World.setCell], rfl, rfl, rfl⟩
      · simp [World.setCell, Array.getElem?_modify, hbk0]
      · simp [World.setCell, Array.getElem?_modify, Ne.symm hk]
    · refine (Any.Builder_copyCheck_used { L with } X.toX72 b w (by simp [World.cell?, hbk0])).mono ?_
      rintro e w' ⟨rfl, rfl⟩
      exact ⟨rfl, hbk0, fun _ _ => rfl, rfl, rfl, rfl, rfl⟩
  go_enter L.f166, Body.n166_ntmps ρ
  go_wp2_with (go_at_fn (ρ.f 240); refine cc.mono ?_)
  rintro e w1 ⟨rfl, hbk, hfar, hsz1, hos1, htp1, hout1⟩
  have hown : w1.ownsRow 0 (ρ.t 5) 1 v bs.length bs := by
    refine ⟨hown0.1, ?_⟩
    rcases hown0.2 with h | ⟨g, cap, cur, hv, hB, hg, h3⟩
    · exact .inl h
    · refine .inr ⟨g, cap, cur, hv, hB, ?_, h3⟩
      rw [hfar g (fun e => hne0 (by rw [hv, e]; rfl))]; exact hg
  have c0 : w1.cell? ⟨b, 0, none⟩ = some (.pointer (some ⟨b, 0, none⟩)) := by rw [Lib.cell_of_heap hbk]; rfl
  have c1 : w1.cell? ⟨b, 1, none⟩ = some v := by rw [Lib.cell_of_heap hbk]; rfl
  go_wp2_with (at_builtin; refine Lib.wpList_append_string_far rfl _ _ (ρ.t 37) (ρ.t 9) rfl (ρ.t 5) i0 L.t37 L.t9 hi hz0 hz1 hz2 _ _ _ rfl hown s rfl ?c3 ?c4 ?_)
  case c3 => unfold maxLen; omega
  case c4 => omega
  intro v' w2 hown' hgrow hnew
  have hlt : b < w1.heap.size := (Array.getElem?_eq_some_iff.1 hbk).1
  have hb2 : w2.heap[b]? = some (.cells #[.pointer (some ⟨b, 0, none⟩), v] (ρ.t 72) (0, 0)) := by
    rw [hgrow.block b hlt (fun e => hne0 e.symm)]
    exact hbk
  have d0 : w2.cell? ⟨b, 0, none⟩ = some (.pointer (some ⟨b, 0, none⟩)) := by rw [Lib.cell_of_heap hb2]; rfl
  have d1 : w2.cell? ⟨b, 1, none⟩ = some v := by rw [Lib.cell_of_heap hb2]; rfl
  have f1 : w2.frozen? ⟨b, 1, none⟩ = false := Lib.frozen_of_heap hb2 1
  have hne' : v'.ownBlock ≠ some b := by
    rcases hnew with h | h
    · rw [h]; exact hne0
    · intro h'; have := h b h'; omega
  obtain ⟨ao, n', cap, rfl⟩ : ∃ ao n' cap, v' = .slice ao n' cap := by
    rcases hown'.2 with ⟨hv, _⟩ | ⟨g, cap, cur, hv, _⟩
    · exact ⟨_, _, _, hv⟩
    · exact ⟨_, _, _, hv⟩
  go_wp2
  go_ret2
  refine ⟨rfl, .slice ao n' cap, ?_, ?_, hne', ?_, ?_, ?_, ?_, ?_, ?_⟩
  · simp [World.setCell, Array.getElem?_modify, hb2]
  · refine ⟨hown'.1, ?_⟩
    rcases hown'.2 with h | ⟨g, cap', cur, hv, hB, hg, h3⟩
    · exact .inl h
    · refine .inr ⟨g, cap', cur, hv, hB, ?_, h3⟩
      have : g ≠ b := fun e => hne' (by rw [hv, e]; rfl)
      simp [World.setCell, Array.getElem?_modify, Ne.symm this, hg]
  · have := hgrow.size; simp [World.setCell]; omega
  · exact hgrow.os.trans hos1
  · exact hgrow.tape.trans htp1
  · exact hgrow.output.trans hout1
  · intro k hk hkb hkv
    have e1 : (w2.setCell ⟨b, 1, none⟩ (.slice ao n' cap)).heap[k]? = w2.heap[k]? := by simp [World.setCell, Array.getElem?_modify, Ne.symm hkb]
    rw [e1, hgrow.block k (by omega) hkv, hfar k hkb]
  · rcases hnew with h | h
    · exact .inl h
    · exact .inr fun g hg => by have := h g hg; omega
set_option maxHeartbeats 2000000 in
set_option maxRecDepth 100000 in
theorem Bld.String_far (L : Lays.n169 P ρ) (X : Builder.Extra P ρ) (b : Nat) (l : List UInt8) (w : World) (p v : Value)
    (hbk : w.heap[b]? = some (.cells #[p, v] (ρ.t 72) (0, 0))) (hown : w.ownsRow 0 (ρ.t 5) 1 v l.length (Lib.byteCells l)) :
    Calls P (ρ.f 169) #[.pointer (some ⟨b, 0, none⟩)] w fun e w' => e = .returned (.string ⟨l.toArray⟩) ∧ w.heap.size ≤ w'.heap.size ∧ w'.os = w.os ∧ w'.tape = w.tape ∧ w'.output = w.output ∧ (∀ k, k < w.heap.size → some k ≠ v.ownBlock → w'.heap[k]? = w.heap[k]?) := by
  have mixed := L.mixed
  have t72 := L.t72; have a72 := L.a72; have z72 := L.z72; have v72 := L.v72; have u72 := run_underlying L.t72
  have t70 := L.t70; have a70 := L.a70; have z70 := L.z70; have v70 := L.v70; have u70 := run_underlying L.t70
  have t37 := L.t37; have a37 := L.a37; have z37 := L.z37; have v37 := L.v37; have u37 := run_underlying L.t37
  have t127 := L.t127; have a127 := L.a127; have z127 := L.z127; have v127 := L.v127; have u127 := run_underlying L.t127
  have t3 := L.t3; have a3 := L.a3; have z3 := L.z3; have v3 := L.v3; have u3 := run_underlying L.t3
  have t9 := L.t9; have a9 := L.a9; have z9 := L.z9; have v9 := L.v9; have u9 := run_underlying L.t9
  have t5 := X.t5; have a5 := X.a5; have z5 := X.z5; have v5 := X.v5; have u5 := run_underlying X.t5
  by_cases h0 : l = []
  · subst h0
    have fin : ∀ (e : Ending) (w' : World), (e = .returned (.string ⟨#[]⟩) ∧ Below w.heap.size w w') → e = .returned (.string ⟨([] : List UInt8).toArray⟩) ∧ w.heap.size ≤ w'.heap.size ∧ w'.os = w.os ∧ w'.tape = w.tape ∧ w'.output = w.output ∧ (∀ k, k < w.heap.size → some k ≠ v.ownBlock → w'.heap[k]? = w.heap[k]?) :=
      fun e w' ⟨he, hb⟩ => ⟨he, hb.size, hb.os, hb.tape, hb.output, fun k hk _ => hb.block k hk⟩
    rcases hown.2 with ⟨rfl, _⟩ | ⟨g, cap, cur, rfl, hbg, hg, _, _, _, _⟩
    · exact (Any.Builder_String_nil L X w.heap.size b p w hbk).mono fin
    · by_cases hc0 : cap = 0
      · subst hc0
        exact (Any.Builder_String_noroom L X w.heap.size b g p cur w (Nat.le_refl _) hbk hg).mono fin
      · exact (Any.Builder_String_room L X w.heap.size b g cap p w hc0 hbk).mono fin
  · have hl0 : l.length ≠ 0 := by simpa using h0
    obtain ⟨g, cap, cur, rfl, hbg, hg, hnc, hcm, hcs, htake⟩ : ∃ g cap cur, v = .slice (some ⟨g, 0, none⟩) l.length cap ∧ 0 ≤ g ∧ w.heap[g]? = some (.cells cur (ρ.t 5) (0, 0)) ∧ l.length ≤ cap ∧ cap ≤ maxLen ∧ cur.size = cap * 1 ∧ cur.toList.take (l.length * 1) = Lib.byteCells l := by
      rcases hown.2 with ⟨_, hz⟩ | ⟨g, cap, cur, hv, r⟩
      · exact absurd hz hl0
      · exact ⟨g, cap, cur, hv, r⟩
    have c1 : w.drew.cell? ⟨b, 1, none⟩ = some (.slice (some ⟨g, 0, none⟩) l.length cap) := by
      have : w.drew.heap[b]? = some (.cells #[p, .slice (some ⟨g, 0, none⟩) l.length cap] (ρ.t 72) (0, 0)) := hbk
      rw [Lib.cell_of_heap this]; rfl
    have hSD : (Builtin.unsafeSliceData_ #[(ρ.t 37)] (ρ.t 127) #[.slice (some ⟨g, 0, none⟩) l.length cap]).run P w.drew = .ok (.pointer (some ⟨g, 0, none⟩)) w.drew :=
      Lib.run_unsafeSliceData_row _ _ _ _ _ _ (by omega)
    have hUS : (Builtin.unsafeString_ #[(ρ.t 127), (ρ.t 3)] (ρ.t 9) #[.pointer (some ⟨g, 0, none⟩), .int .i64 l.length]).run P w.drew = .ok (.string ⟨l.toArray⟩) (w.drew.freeze ⟨g, 0, none⟩ l.length) := by
      refine Lib.run_unsafeString_row w.drew (ρ.t 127) (ρ.t 3) (ρ.t 9) (ρ.t 5) L.t127 X.cellsByte g cur.size (by have hg' : w.drew.heap[g]? = some (.cells cur (ρ.t 5) (0, 0)) := hg; simp [World.shape?, hg']) l h0 (by omega) (by unfold maxLen at hcm; omega) ?_
      intro j x hx
      exact hown.cells (g := g) rfl j (.int .u8 x.toNat) (by simp [Lib.byteCells, hx])
    have fin : w.heap.size ≤ (w.drew.freeze ⟨g, 0, none⟩ l.length).heap.size ∧ (w.drew.freeze ⟨g, 0, none⟩ l.length).os = w.os ∧ (w.drew.freeze ⟨g, 0, none⟩ l.length).tape = w.tape ∧ (w.drew.freeze ⟨g, 0, none⟩ l.length).output = w.output ∧ ∀ k, k < w.heap.size → some k ≠ (Value.slice (some ⟨g, 0, none⟩) l.length cap).ownBlock → (w.drew.freeze ⟨g, 0, none⟩ l.length).heap[k]? = w.heap[k]? := by
      unfold World.freeze
      rw [if_neg hl0]
      refine ⟨?_, rfl, rfl, rfl, fun k _ hk => ?_⟩
      · show w.heap.size ≤ (Array.modify w.heap g _).size
        rw [Array.size_modify]
        exact Nat.le_refl _
      · have hkg : g ≠ k := fun e => hk (by rw [← e]; rfl)
        show (Array.modify w.heap g _)[k]? = _
        rw [Array.getElem?_modify, if_neg hkg]
    go_enter L.f169, Body.n169_ntmps ρ
    go_wp2
    go_region_o
    all_goals (go_wp2; go_ret; exact ⟨rfl, fin⟩)
end Go.Proofs
namespace Go.Sym
open Go Go.Shelf Go.RowKit Go.Proofs
variable {P : Program} {ρ : Go.Shelf.Ren}
theorem bcells_append (a : List UInt8) (b : ByteArray) : bcells (a ++ b.data.toList) = bcells a ++ Lib.strCells b := by simp [bcells, Lib.strCells]
theorem bcells_length (a : List UInt8) : (bcells a).length = a.length := by simp [bcells]
theorem fnOk_WriteString (L : Lays.n166 P ρ) (X : Builder.Extra P ρ) {K : Lk} (hk : K.k = 1) (ht : K.t = ρ.t 72) (he : K.e = ρ.t 5) {args : List V} {hp : List (Nat × Ob)} {nx : Nat} {v : V} {hp' : List (Nat × Ob)} {nx' : Nat}
    (h : libSem K args hp nx = some (v, hp', nx')) : FnOk Fence.wide P (ρ.f 166) args hp nx v hp' nx' := by
  unfold libSem at h
  rw [hk] at h
  simp only at h
  split at h
  · rename_i id x
    split at h
    · rename_i t e r s hid
      split at h
      · rename_i o hr
        split at h
        · rename_i hc
          simp only [Bool.and_eq_true, Nat.beq_eq] at hc
          obtain ⟨⟨rfl, h1⟩, h2⟩ := hc
          rw [guardP_some] at h
          obtain ⟨hlen, h⟩ := h
          cases h
          have h1 : t = ρ.t 72 := h1.trans ht
          have h2 : e = ρ.t 5 := h2.trans he
          subst h1 h2
          refine ⟨⟨_, L.f166, by kernel_rfl, rfl⟩, fun n Γ us H hh hn hargs => ?_⟩
          have hΓ : Γ.h o = some (.bld (ρ.t 72) (ρ.t 5) r s) := by rw [hh]; exact hid
          have hΓr : Γ.h r = some (.raw o) := by rw [hh]; exact hr
          obtain ⟨hl, hv⟩ := hargs
          obtain ⟨u0, u1, rfl⟩ : ∃ u0 u1, us = #[u0, u1] := by
            match us, hl with
            | ⟨[a, b]⟩, _ => exact ⟨a, b, rfl⟩
          obtain ⟨b, rfl, hidn, hρ⟩ := (hv 0 _ u0 rfl rfl).ptr_inv
          have hρ := hρ _ hΓ rfl
          obtain ⟨sx, rfl, rfl⟩ := (hv 1 _ u1 rfl rfl).str_inv
          obtain ⟨b', p, vv, hρ', hbk, hp0, hrow⟩ := H.bld o _ _ r s hΓ hΓr
          rw [hρ] at hρ'; cases hρ'
          have hne : o ≠ r := fun e => by subst e; rw [hΓ] at hΓr; cases hΓr
          have hnr := H.lt r (live_raw hΓr)
          have onx : o ≠ nx := fun e => hn nx (Nat.le_refl _) (e ▸ hidn)
          have rnx : r ≠ nx := fun e => hn nx (Nat.le_refl _) (e ▸ hnr)
          have hown : Γ.w.ownsRow 0 (ρ.t 5) 1 vv (bcells s).length (bcells s) := by
            refine ⟨by simp, ?_⟩
            rw [bcells_length]
            rcases hrow with ⟨hv, hs, _⟩ | ⟨g, cap, cur, hg, hv, hbg, h3, h4, h5, h6⟩
            · exact .inl ⟨hv, by rw [hs]; rfl⟩
            · exact .inr ⟨g, cap, cur, hv, Nat.zero_le _, hbg, h3, h4, h5, h6⟩
          have hob : vv.ownBlock ≠ some b := by
            rcases hrow with ⟨hv, hs, _⟩ | ⟨g, cap, cur, hg, hv, _⟩
            · rw [hv]; simp [Value.ownBlock]
            · rw [hv]
              intro hh
              have : g = b := by simpa [Value.ownBlock] using hh
              subst this
              exact hne (H.inj o r g 0 0 (live_bld hΓ) (live_raw hΓr) hρ hg)
          refine callsIn_wide.2 (Calls.mono (Bld.WriteString_far L X b (bcells s) sx Γ.w p vv hp0 hbk hown hob (by
            rw [bcells_length]; have := Lib.size_eq sx; simp only [maxBld] at hlen; omega)) ?_)
          rintro e w' ⟨rfl, v', hbk', hown', hob', hsz, hos, htp, hout, hfar, hnew⟩
          simp only
          obtain ⟨ρ', ρo, ρn, ρr⟩ : ∃ ρ' : Nat → Option (Nat × Nat), ρ' o = some (b, 0) ∧ ρ' nx = v'.ownBlock.map (·, 0) ∧ ∀ i, i ≠ nx → ρ' i = Γ.ρ i :=
            ⟨fun i => if i = nx then v'.ownBlock.map (·, 0) else Γ.ρ i, by simp [onx, hρ], by simp, fun i hi => by simp [hi]⟩
          have hh' : ∀ i, look (put (put (put hp r .dead) nx (.raw o)) o (.bld (ρ.t 72) (ρ.t 5) nx (s ++ sx.data.toList))) i = if i = o then some (.bld (ρ.t 72) (ρ.t 5) nx (s ++ sx.data.toList)) else if i = nx then some (.raw o) else if i = r then some .dead else Γ.h i := by
            intro i
            rw [look_put, look_put, look_put, hh]
            by_cases h1 : o = i
            · simp [h1]
            · rw [if_neg h1, if_neg (Ne.symm h1)]
              by_cases h2 : nx = i
              · simp [h2]
              · rw [if_neg h2, if_neg (Ne.symm h2)]
                by_cases h3 : r = i
                · simp [h3]
                · rw [if_neg h3, if_neg (Ne.symm h3)]
          generalize hgh : look (put (put (put hp r .dead) nx (.raw o)) o (.bld (ρ.t 72) (ρ.t 5) nx (s ++ sx.data.toList))) = h' at hh'
          have ho : h' o = some (.bld (ρ.t 72) (ρ.t 5) nx (s ++ sx.data.toList)) := by rw [hh', if_pos rfl]
          have hx : h' nx = some (.raw o) := by rw [hh', if_neg (Ne.symm onx), if_pos rfl]
          have hd : h' r = some .dead := by rw [hh', if_neg (Ne.symm hne), if_neg rnx, if_pos rfl]
          have hother : ∀ i, i ≠ o → i ≠ nx → i ≠ r → h' i = Γ.h i := fun i h1 h2 h3 => by rw [hh', if_neg h1, if_neg h2, if_neg h3]
          have hdead : ¬ live h' r := by rintro ⟨ob, e, h⟩; rw [hd] at e; cases e; exact h rfl
          have S : BStep Γ { Γ with ρ := ρ', h := h', n := fun i => Γ.n i ∨ i = nx, w := w' } (fun i => i = o ∨ i = r ∨ i = nx) := by
            refine ⟨rfl, fun _ h => .inl h, ?_, ?_, ?_, ?_, ?_, ?_, hsz, hos, htp, hout, ?_⟩
            · intro i hT
              simp only [not_or] at hT
              exact ⟨hother i hT.1 hT.2.2 hT.2.1, ρr i hT.2.2⟩
            · rintro i (rfl | rfl | rfl) hl
              · exact ⟨.inl ⟨_, _, _, _, hΓ⟩, fun b0 base hr0 => by rw [hρ] at hr0; cases hr0; exact ⟨_, _, _, hbk⟩⟩
              · refine ⟨.inr ⟨_, hΓr⟩, fun b0 base hr0 => ?_⟩
                rcases hrow with ⟨_, _, h0⟩ | ⟨g, cap, cur, hg, hv, hbg, _⟩
                · rw [h0] at hr0; cases hr0
                · rw [hg] at hr0; cases hr0; exact ⟨_, _, _, hbg⟩
              · exact absurd (H.lt _ hl) (hn _ (Nat.le_refl _))
            · rintro i (rfl | rfl | rfl) hl
              · refine ⟨.inl ⟨_, _, _, _, ho⟩, .inl hidn, fun b0 base (hr0 : ρ' i = _) => ?_⟩
                rw [ρo] at hr0; cases hr0
                exact ⟨(Array.getElem?_eq_some_iff.1 hbk').1, .inr ⟨i, 0, .inl rfl, live_bld hΓ, hρ⟩⟩
              · exact absurd hl hdead
              · refine ⟨.inr ⟨_, hx⟩, .inr rfl, fun b0 base (hr0 : ρ' i = _) => ?_⟩
                rw [ρn, Option.map_eq_some_iff] at hr0
                obtain ⟨g, hg, he⟩ := hr0
                cases he
                refine ⟨?_, ?_⟩
                · rcases hown'.2 with ⟨hv, _⟩ | ⟨g', cap, cur, hv, _, hbg, _⟩
                  · rw [hv] at hg; cases hg
                  · rw [hv] at hg; cases hg; exact (Array.getElem?_eq_some_iff.1 hbg).1
                · rcases hnew with h | h
                  · rw [h] at hg
                    rcases hrow with ⟨hv, _, _⟩ | ⟨g', cap, cur, hg', hv, hbg, _⟩
                    · rw [hv] at hg; cases hg
                    · rw [hv] at hg; cases hg
                      exact .inr ⟨r, 0, .inr (.inl rfl), live_raw hΓr, hg'⟩
                  · exact .inl (h _ hg)
            · rintro i (rfl | rfl | rfl) hni hl
              · refine ⟨live_bld hΓ, by rw [hρ]; exact ρo, fun t e r0 s0 (h0 : h' i = _) => ?_, fun o0 (h0 : h' i = _) => ?_, fun b0 base c E z hr0 hb0 => ?_⟩
                · rw [ho] at h0; cases h0; exact ⟨r, s, hΓ⟩
                · rw [ho] at h0; cases h0
                · rw [hρ] at hr0; cases hr0
                  rw [hbk] at hb0; cases hb0
                  exact ⟨_, _, _, hbk', rfl⟩
              · exact absurd hl hdead
              · exact absurd hni (hn _ (Nat.le_refl _))
            · rintro i j b0 bi bj (rfl | rfl | rfl) (rfl | rfl | rfl) hi hj (ei : ρ' _ = _) (ej : ρ' _ = _)
              all_goals first | rfl | exact absurd hi hdead | exact absurd hj hdead | skip
              · rw [ρo] at ei; cases ei
                rw [ρn, Option.map_eq_some_iff] at ej
                obtain ⟨g, hg, he⟩ := ej
                cases he; exact absurd hg hob'
              · rw [ρo] at ej; cases ej
                rw [ρn, Option.map_eq_some_iff] at ei
                obtain ⟨g, hg, he⟩ := ei
                cases he; exact absurd hg hob'
            · intro k hk hno
              refine hfar k hk (fun e => ?_) (fun e => ?_)
              · subst e; exact hno o 0 (.inl rfl) (live_bld hΓ) hρ
              · rcases hrow with ⟨hv, _, _⟩ | ⟨g, cap, cur, hg, hv, hbg, _⟩
                · rw [hv] at e; cases e
                · rw [hv] at e; cases e
                  exact hno r 0 (.inr (.inl rfl)) (live_raw hΓr) hg
            · intro i t e r0 s0 (h1 : h' i = _) (h2 : h' r0 = _)
              by_cases hi : i = o
              · subst hi
                rw [ho] at h1; cases h1
                refine .inl ⟨.inl rfl, .inr (.inr rfl), b, .pointer (some ⟨b, 0, none⟩), v', ρo, hbk', .inr rfl, ?_⟩
                have e1 : (s ++ sx.data.toList).length = (bcells s).length + sx.size := by rw [List.length_append, bcells_length, Lib.size_eq]
                rcases hown'.2 with ⟨hv, hz⟩ | ⟨g, cap, cur, hv, _, hbg, h3, h4, h5, h6⟩
                · refine .inl ⟨hv, List.eq_nil_of_length_eq_zero (by omega), ?_⟩
                  show ρ' nx = none
                  rw [ρn, hv]; rfl
                · refine .inr ⟨g, cap, cur, by show ρ' nx = _; rw [ρn, hv]; rfl, by rw [e1]; exact hv, hbg, by rw [e1]; exact h3, h4, h5, ?_⟩
                  rw [e1, bcells_append]; exact h6
              · have hi2 : i ≠ nx := fun e => by subst e; rw [hx] at h1; cases h1
                have hi3 : i ≠ r := fun e => by subst e; rw [hd] at h1; cases h1
                refine .inr ⟨by simp only [not_or]; exact ⟨hi, hi3, hi2⟩, ?_⟩
                rintro (rfl | rfl | rfl)
                · rw [ho] at h2; cases h2
                · rw [hd] at h2; cases h2
                · rw [hx] at h2; cases h2; exact hi rfl
          obtain ⟨H1, E1⟩ := S.ok H
          refine ⟨_, rfl, H1, rfl, ?_, E1, ?_⟩
          · rintro k hk (h | h)
            · exact hn k (by omega) h
            · omega
          · refine .tup _ _ rfl fun i c u hc hu => ?_
            match i, hc, hu with
            | 0, hc, hu =>
              simp at hc hu; subst hc hu
              exact .pure (.int _ _)
            | 1, hc, hu => simp at hc hu; subst hc hu; exact .pure .nili
            | i + 2, hc, hu => simp at hc
        · cases h
      · cases h
    · cases h
  · cases h
theorem fnOk_String (L : Lays.n169 P ρ) (X : Builder.Extra P ρ) {K : Lk} (hk : K.k = 2) (ht : K.t = ρ.t 72) (he : K.e = ρ.t 5) {args : List V} {hp : List (Nat × Ob)} {nx : Nat} {v : V} {hp' : List (Nat × Ob)} {nx' : Nat}
    (h : libSem K args hp nx = some (v, hp', nx')) : FnOk Fence.wide P (ρ.f 169) args hp nx v hp' nx' := by
  unfold libSem at h
  rw [hk] at h
  simp only at h
  split at h
  · rename_i id
    split at h
    · rename_i t e r s hid
      split at h
      · rename_i o hr
        split at h
        · rename_i hc
          simp only [Bool.and_eq_true, Nat.beq_eq] at hc
          obtain ⟨⟨rfl, h1⟩, h2⟩ := hc
          cases h
          have h1 : t = ρ.t 72 := h1.trans ht
          have h2 : e = ρ.t 5 := h2.trans he
          subst h1 h2
          refine ⟨⟨_, L.f169, by kernel_rfl, rfl⟩, fun n Γ us H hh hn hargs => ?_⟩
          have hΓ : Γ.h o = some (.bld (ρ.t 72) (ρ.t 5) r s) := by rw [hh]; exact hid
          have hΓr : Γ.h r = some (.raw o) := by rw [hh]; exact hr
          obtain ⟨hl, hv⟩ := hargs
          obtain ⟨u0, rfl⟩ : ∃ u0, us = #[u0] := by
            match us, hl with
            | ⟨[a]⟩, _ => exact ⟨a, rfl⟩
          obtain ⟨b, rfl, hidn, hρ⟩ := (hv 0 _ u0 rfl rfl).ptr_inv
          have hρ := hρ _ hΓ rfl
          obtain ⟨b', p, vv, hρ', hbk, hp0, hrow⟩ := H.bld o _ _ r s hΓ hΓr
          rw [hρ] at hρ'; cases hρ'
          have hne : o ≠ r := fun e => by subst e; rw [hΓ] at hΓr; cases hΓr
          have hown : Γ.w.ownsRow 0 (ρ.t 5) 1 vv s.length (Lib.byteCells s) := by
            refine ⟨by rw [Lib.byteCells_length]; omega, ?_⟩
            rcases hrow with ⟨hv, hs, _⟩ | ⟨g, cap, cur, hg, hv, hbg, h3, h4, h5, h6⟩
            · exact .inl ⟨hv, by rw [hs]; rfl⟩
            · exact .inr ⟨g, cap, cur, hv, Nat.zero_le _, hbg, h3, h4, h5, h6⟩
          refine callsIn_wide.2 (Calls.mono (Bld.String_far L X b s Γ.w p vv hbk hown) ?_)
          rintro e w' ⟨rfl, hsz, hos, htp, hout, hfar⟩
          simp only
          have hh' : ∀ i, look (put (put hp r .dead) o .dead) i = if i = o then some .dead else if i = r then some .dead else Γ.h i := by
            intro i
            rw [look_put, look_put, hh]
            by_cases h1 : o = i
            · simp [h1]
            · rw [if_neg h1, if_neg (Ne.symm h1)]
              by_cases h3 : r = i
              · simp [h3]
              · rw [if_neg h3, if_neg (Ne.symm h3)]
          generalize hgh : look (put (put hp r .dead) o .dead) = h' at hh'
          have ho : h' o = some .dead := by rw [hh', if_pos rfl]
          have hd : h' r = some .dead := by rw [hh', if_neg (Ne.symm hne), if_pos rfl]
          have hother : ∀ i, i ≠ o → i ≠ r → h' i = Γ.h i := fun i h1 h2 => by rw [hh', if_neg h1, if_neg h2]
          have hdead : ∀ i, (i = o ∨ i = r) → ¬ live h' i := by
            rintro i (rfl | rfl) ⟨ob, e, h⟩
            · rw [ho] at e; cases e; exact h rfl
            · rw [hd] at e; cases e; exact h rfl
          have S : BStep Γ { Γ with h := h', w := w' } (fun i => i = o ∨ i = r) := by
            refine ⟨rfl, fun _ h => h, ?_, ?_, fun i hT hl => absurd hl (hdead i hT), fun i hT _ hl => absurd hl (hdead i hT), fun i j _ _ _ hT _ hl => absurd hl (hdead i hT), ?_, hsz, hos, htp, hout, ?_⟩
            · intro i hT
              simp only [not_or] at hT
              exact ⟨hother i hT.1 hT.2, rfl⟩
            · rintro i (rfl | rfl) hl
              · exact ⟨.inl ⟨_, _, _, _, hΓ⟩, fun b0 base hr0 => by rw [hρ] at hr0; cases hr0; exact ⟨_, _, _, hbk⟩⟩
              · refine ⟨.inr ⟨_, hΓr⟩, fun b0 base hr0 => ?_⟩
                rcases hrow with ⟨_, _, h0⟩ | ⟨g, cap, cur, hg, hv, hbg, _⟩
                · rw [h0] at hr0; cases hr0
                · rw [hg] at hr0; cases hr0; exact ⟨_, _, _, hbg⟩
            · intro k hk hno
              refine hfar k hk (fun e => ?_)
              rcases hrow with ⟨hv, _, _⟩ | ⟨g, cap, cur, hg, hv, hbg, _⟩
              · rw [hv] at e; cases e
              · rw [hv] at e; cases e
                exact hno r 0 (.inr rfl) (live_raw hΓr) hg
            · intro i t e r0 s0 (h1 : h' i = _) (h2 : h' r0 = _)
              refine .inr ⟨fun hT => hdead i hT (live_bld h1), fun hT => hdead r0 hT (live_raw h2)⟩
          obtain ⟨H1, E1⟩ := S.ok H
          refine ⟨_, rfl, H1, rfl, hn, E1, ?_⟩
          have e : (⟨s.toArray⟩ : ByteArray).data.toList = s := by simp
          have q : VR { Γ with h := h', w := w' } (.str (⟨s.toArray⟩ : ByteArray).data.toList) (.string ⟨s.toArray⟩) := .pure (.str _)
          rw [e] at q; exact q
        · cases h
      · cases h
    · cases h
  · cases h
theorem repeatN_eq (s : List UInt8) (n : Nat) : repeatN s n = Lib.repeatL s n := by
  induction n with
  | zero => rfl
  | succ n ih => simp [repeatN, Lib.repeatL, ih]
theorem fnOk_Repeat (L : Lays.n105 P ρ) (X : Builder.Extra P ρ) {K : Lk} (hk : K.k = 3) {args : List V} {hp : List (Nat × Ob)} {nx : Nat} {v : V} {hp' : List (Nat × Ob)} {nx' : Nat}
    (h : libSem K args hp nx = some (v, hp', nx')) : FnOk Fence.wide P (ρ.f 105) args hp nx v hp' nx' := by
  unfold libSem at h
  rw [hk] at h
  simp only at h
  split at h
  · rename_i s n
    rw [guardP_some] at h
    obtain ⟨⟨h0, h1, h2⟩, h⟩ := h
    cases h
    obtain ⟨m, rfl⟩ : ∃ m : Nat, n = m := ⟨n.toNat, by omega⟩
    rw [Int.toNat_natCast] at h1 ⊢
    refine ⟨⟨_, L.f105, by kernel_rfl, rfl⟩, fun n Γ us H hh hn hargs => ?_⟩
    obtain ⟨hl, hv⟩ := hargs
    obtain ⟨u0, u1, rfl⟩ : ∃ u0 u1, us = #[u0, u1] := by
      match us, hl with
      | ⟨[a, b]⟩, _ => exact ⟨a, b, rfl⟩
    obtain ⟨sx, rfl, rfl⟩ := (hv 0 _ u0 rfl rfl).str_inv
    have hu1 := hv 1 _ u1 rfl rfl
    have hu1 : u1 = .int .i64 (m : Int) := by cases hu1 with | pure h => cases h; rfl
    subst hu1
    refine callsIn_wide.2 (Calls.mono (Any.strings_Repeat L X sx m Γ.w (by simp only [maxBld] at h2; omega) (by have := Lib.size_eq sx; simp only [maxBld] at h1; rw [this]; omega)) ?_)
    rintro e w' ⟨rfl, hb⟩
    simp only
    obtain ⟨H1, E1⟩ := step_ext H w' Γ.n (fun _ _ => False) (fun k hk => hb.block k hk) hb.size hb.os hb.tape hb.output (fun _ h => h) (fun _ _ h => h.elim)
    have e : (fun b o => Γ.Z b o ∨ False) = Γ.Z := by funext b o; simp
    rw [e] at H1 E1
    refine ⟨_, rfl, H1, hh, hn, E1, ?_⟩
    rw [repeatN_eq]
    have e2 : (⟨(Lib.repeatL sx.data.toList m).toArray⟩ : ByteArray).data.toList = Lib.repeatL sx.data.toList m := by simp
    have q : VR { Γ with w := w' } (.str (⟨(Lib.repeatL sx.data.toList m).toArray⟩ : ByteArray).data.toList) (.string ⟨(Lib.repeatL sx.data.toList m).toArray⟩) := .pure (.str _)
    rw [e2] at q; exact q
  · cases h
theorem fnOk_Len (L : Lays.n170 P ρ) {K : Lk} (hk : K.k = 4) (ht : K.t = ρ.t 72) (he : K.e = ρ.t 5) {args : List V} {hp : List (Nat × Ob)} {nx : Nat} {v : V} {hp' : List (Nat × Ob)} {nx' : Nat}
    (h : libSem K args hp nx = some (v, hp', nx')) : FnOk Fence.wide P (ρ.f 170) args hp nx v hp' nx' := by
  unfold libSem at h
  rw [hk] at h
  simp only at h
  split at h
  · rename_i id
    split at h
    · rename_i t e r s hid
      split at h
      · rename_i o hr
        split at h
        · rename_i hc
          simp only [Bool.and_eq_true, Nat.beq_eq] at hc
          obtain ⟨⟨rfl, h1⟩, h2⟩ := hc
          cases h
          have h1 : t = ρ.t 72 := h1.trans ht
          have h2 : e = ρ.t 5 := h2.trans he
          subst h1 h2
          refine ⟨⟨_, L.f170, by kernel_rfl, rfl⟩, fun n Γ us H hh hn hargs => ?_⟩
          have hΓ : Γ.h o = some (.bld (ρ.t 72) (ρ.t 5) r s) := by rw [hh]; exact hid
          have hΓr : Γ.h r = some (.raw o) := by rw [hh]; exact hr
          obtain ⟨hl, hv⟩ := hargs
          obtain ⟨u0, rfl⟩ : ∃ u0, us = #[u0] := by
            match us, hl with
            | ⟨[a]⟩, _ => exact ⟨a, rfl⟩
          obtain ⟨b, rfl, hidn, hρ⟩ := (hv 0 _ u0 rfl rfl).ptr_inv
          have hρ := hρ _ hΓ rfl
          obtain ⟨b', p, vv, hρ', hbk, hp0, hrow⟩ := H.bld o _ _ r s hΓ hΓr
          rw [hρ] at hρ'; cases hρ'
          have hne : o ≠ r := fun e => by subst e; rw [hΓ] at hΓr; cases hΓr
          have hob : vv.ownBlock ≠ some b := by
            rcases hrow with ⟨hv, hs, _⟩ | ⟨g, cap, cur, hg, hv, _⟩
            · rw [hv]; simp [Value.ownBlock]
            · rw [hv]
              intro hh
              have : g = b := by simpa [Value.ownBlock] using hh
              subst this
              exact hne (H.inj o r g 0 0 (live_bld hΓ) (live_raw hΓr) hρ hg)
          have hown : Γ.w.ownsRow 0 (ρ.t 5) 1 vv (bcells s).length (bcells s) := by
            refine ⟨by simp, ?_⟩
            rw [bcells_length]
            rcases hrow with ⟨hv, hs, _⟩ | ⟨g, cap, cur, hg, hv, hbg, h3, h4, h5, h6⟩
            · exact .inl ⟨hv, by rw [hs]; rfl⟩
            · exact .inr ⟨g, cap, cur, hv, Nat.zero_le _, hbg, h3, h4, h5, h6⟩
          have hB : Lib.IsBuilder (ρ.t 72) (ρ.t 5) 0 b (bcells s) Γ.w := by
            rcases hp0 with rfl | rfl
            · exact .inl ⟨Nat.zero_le _, vv, hbk, hown, hob⟩
            · exact .inr ⟨Nat.zero_le _, vv, hbk, hown, hob⟩
          refine callsIn_wide.2 (Calls.mono (Any.Builder_Len L 0 b (bcells s) Γ.w hB) ?_)
          rintro e w' ⟨rfl, rfl⟩
          simp only
          refine ⟨Γ, rfl, H, hh, hn, Evo.refl Γ, ?_⟩
          rw [bcells_length]
          exact .pure (.int _ _)
        · cases h
      · cases h
    · cases h
  · cases h
end Go.Sym
set_option linter.unusedVariables false
set_option linter.unusedSimpArgs false
namespace Go.Sym
open Go Go.Shelf Go.RowKit Go.Proofs
variable {P : Program} {ρ : Go.Shelf.Ren}
theorem fnOk_Trim (L : Lays.n160 P ρ) (h116 : (P.info? (ρ.t 116)).map (fun i => (i.zero, i.size)) = some (some (.agg (Array.replicate 256 (.bool false))), 256)) {K : Lk} (hk : K.k = 5) {args : List V} {hp : List (Nat × Ob)} {nx : Nat} {v : V} {hp' : List (Nat × Ob)} {nx' : Nat}
    (h : libSem K args hp nx = some (v, hp', nx')) : FnOk Fence.wide P (ρ.f 160) args hp nx v hp' nx' := by
  unfold libSem at h
  rw [hk] at h
  simp only at h
  split at h
  · rename_i s c
    rw [guardP_some] at h
    obtain ⟨⟨h0, h1, h2⟩, h⟩ := h
    cases h
    refine ⟨⟨_, L.f160, by kernel_rfl, rfl⟩, fun n Γ us H hh hn hargs => ?_⟩
    obtain ⟨hl, hv⟩ := hargs
    obtain ⟨u0, u1, rfl⟩ : ∃ u0 u1, us = #[u0, u1] := by
      match us, hl with
      | ⟨[a, b]⟩, _ => exact ⟨a, b, rfl⟩
    obtain ⟨sx, rfl, rfl⟩ := (hv 0 _ u0 rfl rfl).str_inv
    obtain ⟨cx, rfl, rfl⟩ := (hv 1 _ u1 rfl rfl).str_inv
    refine callsIn_wide.2 (Calls.mono (Any.strings_Trim_laid L h116 sx cx Γ.w (by have := Lib.size_eq sx; simp only [maxBld] at h0; omega) (by have := Lib.size_eq cx; omega) (ascii_of_all h2)) ?_)
    rintro e w' ⟨rfl, hb⟩
    simp only
    obtain ⟨H1, E1⟩ := step_ext H w' Γ.n (fun _ _ => False) (fun k hk => hb.block k hk) hb.size hb.os hb.tape hb.output (fun _ h => h) (fun _ _ h => h.elim)
    have e : (fun b o => Γ.Z b o ∨ False) = Γ.Z := by funext b o; simp
    rw [e] at H1 E1
    refine ⟨_, rfl, H1, hh, hn, E1, ?_⟩
    have e1 : trimB sx.data.toList cx.data.toList = Lib.trimS sx.data.toList cx.data.toList := rfl
    rw [e1]
    have e2 : (⟨(Lib.trimS sx.data.toList cx.data.toList).toArray⟩ : ByteArray).data.toList = Lib.trimS sx.data.toList cx.data.toList := by simp
    have q : VR { Γ with w := w' } (.str (⟨(Lib.trimS sx.data.toList cx.data.toList).toArray⟩ : ByteArray).data.toList) (.string ⟨(Lib.trimS sx.data.toList cx.data.toList).toArray⟩) := .pure (.str _)
    rw [e2] at q; exact q
  · cases h
def LibL (P : Program) (l : List (Nat × Lk)) : Prop := ∀ f kind args hp nx v hp' nx', look l f = some kind → libSem kind args hp nx = some (v, hp', nx') → FnOk Fence.wide P f args hp nx v hp' nx'
theorem LibL.nil : LibL P [] := fun _ _ _ _ _ _ _ _ h => by cases h
theorem LibL.cons {f : Nat} {K : Lk} {l : List (Nat × Lk)} (h : ∀ args hp nx v hp' nx', libSem K args hp nx = some (v, hp', nx') → FnOk Fence.wide P f args hp nx v hp' nx') (t : LibL P l) : LibL P ((f, K) :: l) := by
  intro g kind args hp nx v hp' nx' hl hs
  simp only [look] at hl
  split at hl
  · rename_i e; cases hl; subst e; exact h _ _ _ _ _ _ hs
  · exact t _ _ _ _ _ _ _ _ hl hs
theorem LibL.ok {C : Cfg} {l : List (Nat × Lk)} (h : LibL P l) (hC : C.lib = l) : LibOk Fence.wide P C := by
  intro f kind args hp nx v hp' nx' hl hs
  rw [hC] at hl
  exact h _ _ _ _ _ _ _ _ hl hs
end Go.Sym
namespace Go.Proofs
open Go.Shelf
def Tryd.lays160_ren : Go.Shelf.Ren := ⟨fun | 160 => 17 | 232 => 32 | 231 => 31 | 227 => 33 | 234 => 35 | 233 => 34 | 236 => 37 | 235 => 36 | 228 => 45 | 271 => 48 | 151 => 47 | 197 => 46 | 120 => 58 | 152 => 57 | 260 => 56 | 137 => 75 | 119 => 76 | 224 => 77 | 225 => 78 | 217 => 92 | 266 => 99 | n => n, fun | 9 => 9 | 4 => 4 | 3 => 3 | 5 => 5 | 117 => 71 | 116 => 70 | 0 => 0 | 124 => 74 | 21 => 21 | 105 => 85 | 46 => 92 | 119 => 120 | 139 => 123 | 138 => 122 | n => n, fun | 3 => 0 | 4 => 1 | n => n⟩
theorem Tryd.lays160 : Go.Proofs.Lays.n160 Tryd.prog Tryd.lays160_ren := {
  mixed := by kernel_rfl
  f119 := Tryd.func76.trans (congrArg some (by kernel_rfl))
  f120 := Tryd.func58.trans (congrArg some (by kernel_rfl))
  f137 := Tryd.func75.trans (congrArg some (by kernel_rfl))
  f151 := Tryd.func47.trans (congrArg some (by kernel_rfl))
  f152 := Tryd.func57.trans (congrArg some (by kernel_rfl))
  f160 := Tryd.func17.trans (congrArg some (by kernel_rfl))
  f197 := Tryd.func46.trans (congrArg some (by kernel_rfl))
  f217 := Tryd.func92.trans (congrArg some (by kernel_rfl))
  f224 := Tryd.func77.trans (congrArg some (by kernel_rfl))
  f225 := Tryd.func78.trans (congrArg some (by kernel_rfl))
  f227 := Tryd.func33.trans (congrArg some (by kernel_rfl))
  f228 := Tryd.func45.trans (congrArg some (by kernel_rfl))
  f231 := Tryd.func31.trans (congrArg some (by kernel_rfl))
  f232 := Tryd.func32.trans (congrArg some (by kernel_rfl))
  f233 := Tryd.func34.trans (congrArg some (by kernel_rfl))
  f234 := Tryd.func35.trans (congrArg some (by kernel_rfl))
  f235 := Tryd.func36.trans (congrArg some (by kernel_rfl))
  f236 := Tryd.func37.trans (congrArg some (by kernel_rfl))
  f260 := Tryd.func56.trans (congrArg some (by kernel_rfl))
  f266 := Tryd.func99.trans (congrArg some (by kernel_rfl))
  f271 := Tryd.func48.trans (congrArg some (by kernel_rfl))
  t0 := Tryd.underlying0
  a0 := Tryd.isAgg0
  z0 := Tryd.sizeOf0
  v0 := Tryd.zeroValue0
  t3 := Tryd.underlying3
  a3 := Tryd.isAgg3
  z3 := Tryd.sizeOf3
  v3 := Tryd.zeroValue3
  t4 := Tryd.underlying4
  a4 := Tryd.isAgg4
  z4 := Tryd.sizeOf4
  v4 := Tryd.zeroValue4
  t5 := Tryd.underlying5
  a5 := Tryd.isAgg5
  z5 := Tryd.sizeOf5
  v5 := Tryd.zeroValue5
  t9 := Tryd.underlying9
  a9 := Tryd.isAgg9
  z9 := Tryd.sizeOf9
  v9 := Tryd.zeroValue9
  t21 := Tryd.underlying21
  a21 := Tryd.isAgg21
  z21 := Tryd.sizeOf21
  v21 := Tryd.zeroValue21
  t46 := Tryd.underlying92
  a46 := Tryd.isAgg92
  z46 := Tryd.sizeOf92
  v46 := Tryd.zeroValue92
  t105 := Tryd.underlying85
  a105 := Tryd.isAgg85
  z105 := Tryd.sizeOf85
  v105 := Tryd.zeroValue85
  t116 := Tryd.underlying70
  a116 := Tryd.isAgg70
  z116 := Tryd.sizeOf70
  t117 := Tryd.underlying71
  a117 := Tryd.isAgg71
  z117 := Tryd.sizeOf71
  v117 := Tryd.zeroValue71
  t119 := Tryd.underlying120
  a119 := Tryd.isAgg120
  z119 := Tryd.sizeOf120
  t124 := Tryd.underlying74
  a124 := Tryd.isAgg74
  z124 := Tryd.sizeOf74
  v124 := Tryd.zeroValue74
  t138 := Tryd.underlying122
  a138 := Tryd.isAgg122
  z138 := Tryd.sizeOf122
  v138 := Tryd.zeroValue122
  t139 := Tryd.underlying123
  a139 := Tryd.isAgg123
  z139 := Tryd.sizeOf123
  v139 := Tryd.zeroValue123
  g3 := by kernel_rfl
  g4 := by kernel_rfl }
def Tryd.lays105_ren : Go.Shelf.Ren := ⟨fun | 105 => 54 | 212 => 68 | 99 => 69 | 165 => 70 | 166 => 23 | 170 => 60 | 169 => 25 | 263 => 82 | 264 => 83 | 206 => 84 | 240 => 41 | 241 => 85 | 276 => 50 | 277 => 96 | n => n, fun | 9 => 9 | 3 => 3 | 4 => 4 | 20 => 20 | 0 => 0 | 46 => 92 | 109 => 112 | 5 => 5 | 72 => 57 | 76 => 60 | 51 => 83 | 146 => 131 | 53 => 36 | 148 => 133 | 70 => 55 | 37 => 49 | 75 => 59 | 127 => 78 | 164 => 93 | 80 => 63 | n => n, fun | n => n⟩
theorem Tryd.lays105 : Go.Proofs.Lays.n105 Tryd.prog Tryd.lays105_ren := {
  mixed := by kernel_rfl
  f99 := Tryd.func69.trans (congrArg some (by kernel_rfl))
  f105 := Tryd.func54.trans (congrArg some (by kernel_rfl))
  f165 := Tryd.func70.trans (congrArg some (by kernel_rfl))
  f166 := Tryd.func23.trans (congrArg some (by kernel_rfl))
  f169 := Tryd.func25.trans (congrArg some (by kernel_rfl))
  f170 := Tryd.func60.trans (congrArg some (by kernel_rfl))
  f206 := Tryd.func84.trans (congrArg some (by kernel_rfl))
  f212 := Tryd.func68.trans (congrArg some (by kernel_rfl))
  f240 := Tryd.func41.trans (congrArg some (by kernel_rfl))
  f241 := Tryd.func85.trans (congrArg some (by kernel_rfl))
  f263 := Tryd.func82.trans (congrArg some (by kernel_rfl))
  f264 := Tryd.func83.trans (congrArg some (by kernel_rfl))
  f276 := Tryd.func50.trans (congrArg some (by kernel_rfl))
  f277 := Tryd.func96.trans (congrArg some (by kernel_rfl))
  t0 := Tryd.underlying0
  a0 := Tryd.isAgg0
  z0 := Tryd.sizeOf0
  v0 := Tryd.zeroValue0
  t3 := Tryd.underlying3
  a3 := Tryd.isAgg3
  z3 := Tryd.sizeOf3
  v3 := Tryd.zeroValue3
  t4 := Tryd.underlying4
  a4 := Tryd.isAgg4
  z4 := Tryd.sizeOf4
  v4 := Tryd.zeroValue4
  t5 := Tryd.underlying5
  a5 := Tryd.isAgg5
  z5 := Tryd.sizeOf5
  v5 := Tryd.zeroValue5
  t9 := Tryd.underlying9
  a9 := Tryd.isAgg9
  z9 := Tryd.sizeOf9
  v9 := Tryd.zeroValue9
  t20 := Tryd.underlying20
  a20 := Tryd.isAgg20
  z20 := Tryd.sizeOf20
  v20 := Tryd.zeroValue20
  t37 := Tryd.underlying49
  a37 := Tryd.isAgg49
  z37 := Tryd.sizeOf49
  v37 := Tryd.zeroValue49
  t46 := Tryd.underlying92
  a46 := Tryd.isAgg92
  z46 := Tryd.sizeOf92
  v46 := Tryd.zeroValue92
  t51 := Tryd.underlying83
  a51 := Tryd.isAgg83
  z51 := Tryd.sizeOf83
  v51 := Tryd.zeroValue83
  t53 := Tryd.underlying36
  a53 := Tryd.isAgg36
  z53 := Tryd.sizeOf36
  v53 := Tryd.zeroValue36
  t70 := Tryd.underlying55
  a70 := Tryd.isAgg55
  z70 := Tryd.sizeOf55
  v70 := Tryd.zeroValue55
  t72 := Tryd.underlying57
  a72 := Tryd.isAgg57
  z72 := Tryd.sizeOf57
  v72 := Tryd.zeroValue57
  t75 := Tryd.underlying59
  a75 := Tryd.isAgg59
  z75 := Tryd.sizeOf59
  v75 := Tryd.zeroValue59
  t76 := Tryd.underlying60
  a76 := Tryd.isAgg60
  z76 := Tryd.sizeOf60
  v76 := Tryd.zeroValue60
  t109 := Tryd.underlying112
  a109 := Tryd.isAgg112
  z109 := Tryd.sizeOf112
  v109 := Tryd.zeroValue112
  t127 := Tryd.underlying78
  a127 := Tryd.isAgg78
  z127 := Tryd.sizeOf78
  v127 := Tryd.zeroValue78
  t146 := Tryd.underlying131
  a146 := Tryd.isAgg131
  z146 := Tryd.sizeOf131
  v146 := Tryd.zeroValue131
  t148 := Tryd.underlying133
  a148 := Tryd.isAgg133
  z148 := Tryd.sizeOf133
  v148 := Tryd.zeroValue133
  t164 := Tryd.underlying93
  a164 := Tryd.isAgg93
  z164 := Tryd.sizeOf93
  v164 := Tryd.zeroValue93 }
theorem Tryd.Builder_Extra_105 : Builder.Extra Tryd.prog Tryd.lays105_ren := {
  sizeBuilder := by kernel_rfl
  liesBuilder := by kernel_rfl
  t5 := Tryd.underlying5
  a5 := Tryd.isAgg5
  z5 := Tryd.sizeOf5
  v5 := Tryd.zeroValue5
  infoByte := by kernel_rfl
  cellsByte := by kernel_rfl
  sizeByte := by kernel_rfl
  neB5 := by decide }
end Go.Proofs
set_option linter.unusedVariables false
set_option linter.unusedSimpArgs false
namespace Go.Proofs
open Go.Sym
def Tryd.cfg : Cfg := { fcs := [
  (3, ⟨[0, 1, 4, 5, 6, 7, 8], [], []⟩),
  (6, ⟨[0, 1, 4, 5, 6, 7, 9, 10, 11, 14, 20, 21, 22, 23, 34, 39, 49], [(14, [])], [(7, 2003)]⟩),
  (18, ⟨[0, 2, 3, 4], [(2, [(4, 6), (4, 8)])], []⟩),
  (38, ⟨[0, 1, 4, 5, 17], [(1, []), (4, [])], []⟩),
  (39, ⟨[0, 2, 3, 5, 8, 9, 10], [], []⟩),
  (49, ⟨[0, 1, 2], [], []⟩),
  (59, ⟨[0, 1, 3, 8, 18], [], []⟩),
  (19, ⟨[0, 2, 3, 4, 5, 20], [], []⟩),
  (7, ⟨[0, 1, 4, 5, 6, 7, 8, 9, 13, 25, 31, 42, 48, 76], [(11, [])], []⟩),
  (20, ⟨[0, 1, 4, 5, 7, 10, 13, 26], [], []⟩),
  (21, ⟨[0, 2, 3, 4, 9], [], []⟩),
  (8, ⟨[0], [], []⟩),
  (22, ⟨[0, 2], [], []⟩),
  (40, ⟨[0, 1, 4, 5, 6, 10, 11, 12], [], []⟩),
  (9, ⟨[0, 1, 4, 5, 10, 12, 13, 14, 67], [(6, [])], []⟩),
  (4, ⟨[0, 1, 2, 6, 7, 8, 9, 10, 11, 12, 13, 14, 15, 16, 33, 53, 62], [(1, [])], []⟩),
  (10, ⟨[0, 2, 3, 4, 6, 7, 8, 9, 10, 11, 12, 17, 29], [], []⟩),
  (24, ⟨[0, 2, 3, 6], [], []⟩),
  (11, ⟨[0, 2, 3, 5, 6, 7, 8, 9, 13], [], []⟩),
  (5, ⟨[0, 1, 2, 3, 4, 5, 6, 7, 8, 18, 19, 20, 21, 22, 23, 24, 25, 26, 27, 28, 29, 67, 79, 118, 130], [], []⟩),
  (12, ⟨[0, 2], [], []⟩),
  (13, ⟨[0, 1, 4, 5, 9], [], []⟩),
  (26, ⟨[0, 2, 3, 8, 27], [(4, [])], []⟩),
  (27, ⟨[0, 1, 4], [(1, [(3, 5)])], []⟩),
  (14, ⟨[0, 1, 2, 3, 4, 5, 12, 13, 14, 15, 16, 22, 41], [], []⟩),
  (29, ⟨[0, 1, 2, 6], [], []⟩),
  (28, ⟨[0, 1, 2, 3, 8, 9, 10, 11, 27], [], []⟩),
  (42, ⟨[0, 1, 2], [], []⟩),
  (43, ⟨[0, 1, 2, 3, 6], [], []⟩),
  (51, ⟨[0, 1, 2, 3, 6, 7, 8, 12], [], []⟩),
  (53, ⟨[0, 1, 4, 5, 6, 7, 14], [], []⟩),
  (61, ⟨[0, 2, 3, 4, 5, 6, 7, 8, 9, 10, 11, 22, 30, 42, 66, 75, 76, 85, 86, 108], [(10, [(2, 9), (7, 9), (2, 10), (7, 10), (2, 12), (7, 12), (11, 12), (2, 13), (7, 13), (11, 13), (2, 15), (7, 15), (11, 15), (14, 15), (2, 16), (7, 16), (11, 16), (14, 16)]), (20, [])], [(10, 1)]⟩),
  (79, ⟨[0, 2, 3], [], []⟩),
  (93, ⟨[0, 2], [], []⟩),
  (80, ⟨[0, 1, 4, 5, 7, 12], [], []⟩),
  (81, ⟨[0, 1, 4, 5, 6, 7, 8, 14], [], []⟩),
  (95, ⟨[0, 2, 3, 7], [], []⟩),
  (94, ⟨[0, 1, 4, 5], [], []⟩),
  (63, ⟨[0, 1, 2, 3, 4, 5, 12, 13, 14, 15, 26], [(1, [])], []⟩),
  (64, ⟨[0, 1, 2, 4, 5, 6, 7], [(4, [])], []⟩),
  (65, ⟨[0, 1, 2, 3, 4, 5], [], []⟩),
  (66, ⟨[0, 1, 2, 3, 4, 5, 6], [], []⟩),
  (67, ⟨[0, 1, 2, 3, 4, 5, 6, 8, 28, 29], [(9, [(3, 15), (4, 15)])], []⟩),
  (62, ⟨[0, 1, 4, 5, 6, 9], [], []⟩),
  (52, ⟨[0, 1, 4, 5, 6, 10, 11, 12], [(5, [])], []⟩),
  (44, ⟨[0, 1, 2, 3, 6, 7, 9], [(1, [(1, 2)])], []⟩),
  (55, ⟨[0, 1, 2, 6, 7, 8, 9, 11, 12, 15, 20, 21, 22, 23], [], []⟩),
  (71, ⟨[0, 2], [(1, [(1, 3)])], []⟩),
  (86, ⟨[0, 2, 3, 5, 8, 9, 10, 11], [], []⟩),
  (72, ⟨[0, 1, 4, 5, 6, 11, 12], [(5, [(0, 3), (0, 5), (3, 7), (5, 7), (0, 8), (2, 8), (3, 8), (5, 8), (0, 10), (0, 12)])], []⟩),
  (88, ⟨[0, 1, 2], [], []⟩),
  (98, ⟨[0, 1, 3, 5, 24], [], []⟩),
  (87, ⟨[0, 2], [], []⟩),
  (97, ⟨[0, 1, 2, 4, 5, 6, 7], [], [(2, 1)]⟩),
  (89, ⟨[0, 2, 3, 4, 5, 6], [], []⟩),
  (73, ⟨[0, 1, 2, 3, 4, 5, 6, 8, 15], [], []⟩),
  (90, ⟨[0, 1, 2, 3, 18], [], []⟩),
  (91, ⟨[0, 1, 2, 4], [], []⟩),
  (74, ⟨[0, 1, 2], [(1, [(2, 3), (2, 4)])], []⟩),
  (15, ⟨[0, 1, 2, 3, 4, 5], [], []⟩),
  (16, ⟨[0, 1, 2, 3, 4, 10, 11, 12, 13, 14, 17, 18, 22, 28, 37, 67], [(9, [(6, 12), (10, 12)])], []⟩),
  (30, ⟨[0, 1, 2, 3, 8, 9, 10, 11, 33, 43], [(5, [(5, 8)]), (7, [(2, 5)])], []⟩)], inl := [18,19,38,23,25,60,87,97,88,98,43,62,63,49,59], lib := [(23, ⟨1, 57, 5⟩), (25, ⟨2, 57, 5⟩), (54, ⟨3, 0, 0⟩), (60, ⟨4, 57, 5⟩), (17, ⟨5, 0, 0⟩)] }
theorem Tryd.progOk : progOk Tryd.prog Tryd.cfg = true := by kernel_rfl
theorem Tryd.libOk : LibOk Fence.wide Tryd.prog Tryd.cfg := (LibL.cons (fun _ _ _ _ _ _ h => fnOk_WriteString { Tryd.lays105 with } Tryd.Builder_Extra_105 rfl rfl rfl h) (LibL.cons (fun _ _ _ _ _ _ h => fnOk_String { Tryd.lays105 with } Tryd.Builder_Extra_105 rfl rfl rfl h) (LibL.cons (fun _ _ _ _ _ _ h => fnOk_Repeat Tryd.lays105 Tryd.Builder_Extra_105 rfl h) (LibL.cons (fun _ _ _ _ _ _ h => fnOk_Len { Tryd.lays105 with } rfl rfl rfl h) (LibL.cons (fun _ _ _ _ _ _ h => fnOk_Trim Tryd.lays160 (by kernel_rfl) rfl h) LibL.nil))))).ok rfl
theorem Tryd.own : ownKnob Tryd.prog.godebug = none := by kernel_rfl
theorem Tryd.laidOut : laidOutB Tryd.prog = true := by kernel_rfl
theorem Tryd.mixed : Tryd.prog.follows .mixedOrders = true := by kernel_rfl
theorem wf_u64 {n : Int} (h : (Lit.int .u64 n).wf = true) : 0 ≤ n ∧ n < 18446744073709551616 := by
  simp [Lit.wf, IntKind.min, IntKind.max, IntKind.signed, IntKind.bits] at h
  omega
end Go.Proofs
namespace Go.Proofs
open Go Go.Sym
abbrev vb (n : Int) : V := V.int .u8 n
abbrev vi (n : Int) : V := V.int .i64 n
abbrev vu (n : Int) : V := V.int .u64 n
noncomputable abbrev cP (k f : Nat) (xs : List V) : Option V := callP (evalFn Tryd.prog Tryd.cfg k) f xs
theorem bE {α β : Type} {x : Option α} {f : α → Option β} {r : β} (h : x.bind f = some r) : ∃ a, x = some a ∧ f a = some r := Option.bind_eq_some_iff.1 h
theorem aI {a b : Prop} (h : a) (g : b) : a ∧ b := And.intro h g
abbrev bN (u : UInt8) : Int := (u.toNat : Int)
abbrev wI (n : Int) : Int := IntKind.i64.wrap n
abbrev wU (n : Int) : Int := IntKind.u64.wrap n
abbrev wB (n : Int) : Int := IntKind.u8.wrap n
abbrev x8 (a b : Int) : Int := IntKind.u8.wrap (↑(BitVec.ofInt IntKind.u8.bits a ^^^ BitVec.ofInt IntKind.u8.bits b).toNat : Int)
noncomputable abbrev eC (k d n f : Nat) (c : Code) (s : St) : Option (Exit × St) := evalCode Tryd.prog Tryd.cfg (evalFn Tryd.prog Tryd.cfg (k + d)) n (Tryd.cfg.fc f) (k + d) c s
end Go.Proofs
set_option linter.unusedVariables false
set_option maxHeartbeats 0
set_option maxRecDepth 100000
namespace Go.Proofs
open Go Go.Sym
theorem P95_0 (i0 : Int) (k : Nat)
    (c0 : decide (128 ≤ i0) = true) :
    cP ((k + 3)) 95 [vb i0] = some (vb (wB (↑(BitVec.ofInt IntKind.u8.bits (wB (i0 * 2 ^ min (Int.toNat 1) IntKind.u8.bits)) ^^^ BitVec.ofInt IntKind.u8.bits 27).toNat : Int))) :=
  byF (k := k) (d := 3) [Hn.br 7 true] (aI c0 trivial) (by kernel_rfl)
theorem P95_1 (i0 : Int) (k : Nat)
    (c0 : decide (128 ≤ i0) = false) :
    cP ((k + 3)) 95 [vb i0] = some (vb (wB (i0 * 2 ^ min (Int.toNat 1) IntKind.u8.bits))) :=
  byF (k := k) (d := 3) [Hn.br 7 false] (aI c0 trivial) (by kernel_rfl)
def F95 (k : Nat) (i0 : Int) : Option (Int) :=
  (bif decide (128 ≤ i0) then (some (IntKind.u8.wrap (↑(BitVec.ofInt IntKind.u8.bits (IntKind.u8.wrap (i0 * 2 ^ min (Int.toNat 1) IntKind.u8.bits)) ^^^ BitVec.ofInt IntKind.u8.bits 27).toNat : Int))) else (some (IntKind.u8.wrap (i0 * 2 ^ min (Int.toNat 1) IntKind.u8.bits))))
theorem F95_ok {i0 : Int} {k : Nat} {r : Int} (h : F95 k i0 = some r) :
    cP ((k + 3)) 95 [vb i0] = some (vb r) := by
  unfold F95 at h
  rcases cond_elim h with ⟨e0, h⟩ | ⟨e0, h⟩
  ·
    have h := Option.some.inj h; subst h; exact P95_0 i0 k e0
  ·
    have h := Option.some.inj h; subst h; exact P95_1 i0 k e0
theorem L81_0_b0 (i1 i2 i3 i4 i5 : Int) (k : Nat)
    (c0 : decide (i4 < 8) = true)
    (c1 : GrdP ((0 : Int) ≤ i4) (vb (i1.fdiv ((2 : Int) ^ min i4.toNat IntKind.u8.bits))))
    (c2 : decide (wB (↑(BitVec.ofInt IntKind.u8.bits (i1.fdiv (2 ^ min i4.toNat IntKind.u8.bits)) &&& BitVec.ofInt IntKind.u8.bits 1).toNat : Int) = 1) = true)
    (c3 : cP ((k + 5)) 95 [vb i2] = some (vb i5)) :
    eC k 5 0 81 (loopBody Tryd.f81 0) { tm := [(0, vb i2), (1, vb i1), (4, vb 0), (5, vb i3), (7, vi i4)], hp := [], nx := 0 } = some (Exit.normal, { tm := [(0, vb i5), (1, vb i1), (4, vb 0), (5, vb (x8 i3 i2)), (6, vi i4), (7, vi (wI (i4 + 1))), (8, V.bool true), (14, V.bool true)], hp := [], nx := 68 }) :=
  byL (k := k) (d := 5) [Hn.br 8 true, Hn.op 12 (vb (i1.fdiv (2 ^ min i4.toNat IntKind.u8.bits))) [], Hn.br 14 true, Hn.call 19 (vb i5)] (aI c0 (aI c1 (aI c2 (aI c3 trivial)))) (by kernel_rfl)
theorem L81_0_b0h (i1 i2 i3 i4 i5 : Int) : head 0 [0, 1, 4, 5, 7] (Tryd.cfg.fc 81).acc { tm := [(0, vb i5), (1, vb i1), (4, vb 0), (5, vb (x8 i3 i2)), (6, vi i4), (7, vi (wI (i4 + 1))), (8, V.bool true), (14, V.bool true)], hp := [], nx := 68 } = { tm := [(0, vb i5), (1, vb i1), (4, vb 0), (5, vb (x8 i3 i2)), (7, vi (wI (i4 + 1)))], hp := [], nx := 0 } := by kernel_rfl
theorem L81_0_b1 (i1 i2 i3 i4 i5 : Int) (k : Nat)
    (c0 : decide (i4 < 8) = true)
    (c1 : GrdP ((0 : Int) ≤ i4) (vb (i1.fdiv ((2 : Int) ^ min i4.toNat IntKind.u8.bits))))
    (c2 : decide (wB (↑(BitVec.ofInt IntKind.u8.bits (i1.fdiv (2 ^ min i4.toNat IntKind.u8.bits)) &&& BitVec.ofInt IntKind.u8.bits 1).toNat : Int) = 1) = false)
    (c3 : cP ((k + 5)) 95 [vb i2] = some (vb i5)) :
    eC k 5 0 81 (loopBody Tryd.f81 0) { tm := [(0, vb i2), (1, vb i1), (4, vb 0), (5, vb i3), (7, vi i4)], hp := [], nx := 0 } = some (Exit.normal, { tm := [(0, vb i5), (1, vb i1), (4, vb 0), (5, vb i3), (6, vi i4), (7, vi (wI (i4 + 1))), (8, V.bool true), (14, V.bool false)], hp := [], nx := 52 }) :=
  byL (k := k) (d := 5) [Hn.br 8 true, Hn.op 12 (vb (i1.fdiv (2 ^ min i4.toNat IntKind.u8.bits))) [], Hn.br 14 false, Hn.call 19 (vb i5)] (aI c0 (aI c1 (aI c2 (aI c3 trivial)))) (by kernel_rfl)
theorem L81_0_b1h (i1 i3 i4 i5 : Int) : head 0 [0, 1, 4, 5, 7] (Tryd.cfg.fc 81).acc { tm := [(0, vb i5), (1, vb i1), (4, vb 0), (5, vb i3), (6, vi i4), (7, vi (wI (i4 + 1))), (8, V.bool true), (14, V.bool false)], hp := [], nx := 52 } = { tm := [(0, vb i5), (1, vb i1), (4, vb 0), (5, vb i3), (7, vi (wI (i4 + 1)))], hp := [], nx := 0 } := by kernel_rfl
theorem L81_0_b2 (i1 i2 i3 i4 : Int) (k : Nat)
    (c0 : decide (i4 < 8) = false) :
    eC k 5 0 81 (loopBody Tryd.f81 0) { tm := [(0, vb i2), (1, vb i1), (4, vb 0), (5, vb i3), (7, vi i4)], hp := [], nx := 0 } = some (Exit.exit 0, { tm := [(0, vb i2), (1, vb i1), (4, vb 0), (5, vb i3), (7, vi i4), (8, V.bool false)], hp := [], nx := 4 }) :=
  byL (k := k) (d := 5) [Hn.br 8 false] (aI c0 trivial) (by kernel_rfl)
inductive L81_0_R where
  | e0 (i2 : Int) (i3 : Int) (i4 : Int)
noncomputable def L81_0_end (i1 : Int) : L81_0_R → Exit × St
  | .e0 i2 i3 i4 => (Exit.exit 0, { tm := [(0, V.int .u8 i2), (1, V.int .u8 i1), (4, V.int .u8 0), (5, V.int .u8 i3), (7, V.int .i64 i4), (8, V.bool false)], hp := [], nx := 4 })
def L81_0 (k : Nat) (i1 : Int) : Nat → Int → Int → Int → Option L81_0_R
  | 0, _, _, _ => none
  | f + 1, i2, i3, i4 => (bif decide (i4 < 8) then (guardP ((0 : Int) ≤ i4) (bif decide (IntKind.u8.wrap (↑(BitVec.ofInt IntKind.u8.bits (i1.fdiv (2 ^ min i4.toNat IntKind.u8.bits)) &&& BitVec.ofInt IntKind.u8.bits 1).toNat : Int) = 1) then ((F95 (k + 2) (i2)).bind fun i5 => (L81_0 k i1 f (i5) (IntKind.u8.wrap (↑(BitVec.ofInt IntKind.u8.bits i3 ^^^ BitVec.ofInt IntKind.u8.bits i2).toNat : Int)) (IntKind.i64.wrap (i4 + 1)))) else ((F95 (k + 2) (i2)).bind fun i5 => (L81_0 k i1 f (i5) (i3) (IntKind.i64.wrap (i4 + 1)))))) else (some (L81_0_R.e0 i2 i3 i4)))
theorem L81_0_ok {i1 : Int} {k : Nat} : ∀ {f : Nat} {i2 : Int} {i3 : Int} {i4 : Int} {r : L81_0_R}, L81_0 k i1 f i2 i3 i4 = some r →
    LoopsN Tryd.prog Tryd.cfg (k + 5) 0 Tryd.f81 (Tryd.cfg.fc 81) 0 [0, 1, 4, 5, 7] f { tm := [(0, vb i2), (1, vb i1), (4, vb 0), (5, vb i3), (7, vi i4)], hp := [], nx := 0 } (L81_0_end i1 r) := by
  intro f
  induction f with
  | zero => intro i2 i3 i4 r h; cases h
  | succ f ih =>
    intro i2 i3 i4 r h
    rw [L81_0] at h
    rcases cond_elim h with ⟨e0, h⟩ | ⟨e0, h⟩
    ·
      obtain ⟨e1, h⟩ := guardP_some.1 h
      rcases cond_elim h with ⟨e2, h⟩ | ⟨e2, h⟩
      ·
        obtain ⟨i5, e3, h⟩ := bE h
        exact LoopsN.next (L81_0_b0 i1 i2 i3 i4 i5 k e0 (GrdP.mk e1) e2 (F95_ok e3)) (L81_0_b0h i1 i2 i3 i4 i5) (ih h)
      ·
        obtain ⟨i5, e3, h⟩ := bE h
        exact LoopsN.next (L81_0_b1 i1 i2 i3 i4 i5 k e0 (GrdP.mk e1) e2 (F95_ok e3)) (L81_0_b1h i1 i3 i4 i5) (ih h)
    ·
      cases h; exact LoopsN.done (L81_0_b2 i1 i2 i3 i4 k e0) (fun h => by cases h)
theorem P81_0 (i0 i1 i2 i3 i4 : Int) (k : Nat)
    (c0 : LoopsN Tryd.prog Tryd.cfg (k + 5) 0 Tryd.f81 (Tryd.cfg.fc 81) 0 [0, 1, 4, 5, 7] (k + 5) { tm := [(0, vb i0), (1, vb i1), (4, vb 0), (5, vb 0), (7, vi 0)], hp := [], nx := 0 } (Exit.exit 0, { tm := [(0, vb i2), (1, vb i1), (4, vb 0), (5, vb i3), (7, vi i4), (8, V.bool false)], hp := [], nx := 4 })) :
    cP ((k + 6)) 81 [vb i0, vb i1] = some (vb i3) :=
  byF (k := k) (d := 6) [Hn.loop (Exit.exit 0, { tm := [(0, vb i2), (1, vb i1), (4, vb 0), (5, vb i3), (7, vi i4), (8, V.bool false)], hp := [], nx := 4 })] (aI c0 trivial) (by kernel_rfl)
def F81 (k : Nat) (i0 i1 : Int) : Option (Int) :=
  ((L81_0 k i1 (k + 5) (i0) (0) (0)).bind fun
    | L81_0_R.e0 i2 i3 i4 => (some (i3)))
theorem F81_ok {i0 i1 : Int} {k : Nat} {r : Int} (h : F81 k i0 i1 = some r) :
    cP ((k + 6)) 81 [vb i0, vb i1] = some (vb r) := by
  unfold F81 at h
  obtain ⟨ee, e0, h⟩ := bE h
  cases ee with
  | e0 i2 i3 i4 =>
    have h := Option.some.inj h; subst h; exact P81_0 i0 i1 i2 i3 i4 k (L81_0_ok e0)
theorem L80_0_b0 (i2 i3 i4 i5 i6 : Int) (k : Nat)
    (c0 : decide (0 < i3) = true)
    (c1 : decide (wI (↑(BitVec.ofInt IntKind.i64.bits i3 &&& BitVec.ofInt IntKind.i64.bits 1).toNat : Int) = 1) = true)
    (c2 : cP ((k + 8)) 81 [vb i4, vb i2] = some (vb i5))
    (c3 : cP ((k + 8)) 81 [vb i2, vb i2] = some (vb i6)) :
    eC k 8 0 80 (loopBody Tryd.f80 0) { tm := [(0, vb i2), (1, vi i3), (4, vb 0), (5, vb i4)], hp := [], nx := 0 } = some (Exit.normal, { tm := [(0, vb i6), (1, vi (i3.fdiv (2 ^ min (Int.toNat 1) IntKind.i64.bits))), (4, vb 0), (5, vb i5), (7, V.bool true), (12, V.bool true)], hp := [], nx := 64 }) :=
  byL (k := k) (d := 8) [Hn.br 7 true, Hn.br 12 true, Hn.call 15 (vb i5), Hn.call 18 (vb i6)] (aI c0 (aI c1 (aI c2 (aI c3 trivial)))) (by kernel_rfl)
theorem L80_0_b0h (i3 i5 i6 : Int) : head 0 [0, 1, 4, 5] (Tryd.cfg.fc 80).acc { tm := [(0, vb i6), (1, vi (i3.fdiv (2 ^ min (Int.toNat 1) IntKind.i64.bits))), (4, vb 0), (5, vb i5), (7, V.bool true), (12, V.bool true)], hp := [], nx := 64 } = { tm := [(0, vb i6), (1, vi (i3.fdiv (2 ^ min (Int.toNat 1) IntKind.i64.bits))), (4, vb 0), (5, vb i5)], hp := [], nx := 0 } := by kernel_rfl
theorem L80_0_b1 (i2 i3 i4 i5 : Int) (k : Nat)
    (c0 : decide (0 < i3) = true)
    (c1 : decide (wI (↑(BitVec.ofInt IntKind.i64.bits i3 &&& BitVec.ofInt IntKind.i64.bits 1).toNat : Int) = 1) = false)
    (c2 : cP ((k + 8)) 81 [vb i2, vb i2] = some (vb i5)) :
    eC k 8 0 80 (loopBody Tryd.f80 0) { tm := [(0, vb i2), (1, vi i3), (4, vb 0), (5, vb i4)], hp := [], nx := 0 } = some (Exit.normal, { tm := [(0, vb i5), (1, vi (i3.fdiv (2 ^ min (Int.toNat 1) IntKind.i64.bits))), (4, vb 0), (5, vb i4), (7, V.bool true), (12, V.bool false)], hp := [], nx := 48 }) :=
  byL (k := k) (d := 8) [Hn.br 7 true, Hn.br 12 false, Hn.call 18 (vb i5)] (aI c0 (aI c1 (aI c2 trivial))) (by kernel_rfl)
theorem L80_0_b1h (i3 i4 i5 : Int) : head 0 [0, 1, 4, 5] (Tryd.cfg.fc 80).acc { tm := [(0, vb i5), (1, vi (i3.fdiv (2 ^ min (Int.toNat 1) IntKind.i64.bits))), (4, vb 0), (5, vb i4), (7, V.bool true), (12, V.bool false)], hp := [], nx := 48 } = { tm := [(0, vb i5), (1, vi (i3.fdiv (2 ^ min (Int.toNat 1) IntKind.i64.bits))), (4, vb 0), (5, vb i4)], hp := [], nx := 0 } := by kernel_rfl
theorem L80_0_b2 (i2 i3 i4 : Int) (k : Nat)
    (c0 : decide (0 < i3) = false) :
    eC k 8 0 80 (loopBody Tryd.f80 0) { tm := [(0, vb i2), (1, vi i3), (4, vb 0), (5, vb i4)], hp := [], nx := 0 } = some (Exit.exit 0, { tm := [(0, vb i2), (1, vi i3), (4, vb 0), (5, vb i4), (7, V.bool false)], hp := [], nx := 8 }) :=
  byL (k := k) (d := 8) [Hn.br 7 false] (aI c0 trivial) (by kernel_rfl)
inductive L80_0_R where
  | e0 (i2 : Int) (i3 : Int) (i4 : Int)
noncomputable def L80_0_end : L80_0_R → Exit × St
  | .e0 i2 i3 i4 => (Exit.exit 0, { tm := [(0, V.int .u8 i2), (1, V.int .i64 i3), (4, V.int .u8 0), (5, V.int .u8 i4), (7, V.bool false)], hp := [], nx := 8 })
def L80_0 (k : Nat) : Nat → Int → Int → Int → Option L80_0_R
  | 0, _, _, _ => none
  | f + 1, i2, i3, i4 => (bif decide (0 < i3) then (bif decide (IntKind.i64.wrap (↑(BitVec.ofInt IntKind.i64.bits i3 &&& BitVec.ofInt IntKind.i64.bits 1).toNat : Int) = 1) then ((F81 (k + 2) (i4) (i2)).bind fun i5 => ((F81 (k + 2) (i2) (i2)).bind fun i6 => (L80_0 k f (i6) (i3.fdiv (2 ^ min (Int.toNat 1) IntKind.i64.bits)) (i5)))) else ((F81 (k + 2) (i2) (i2)).bind fun i5 => (L80_0 k f (i5) (i3.fdiv (2 ^ min (Int.toNat 1) IntKind.i64.bits)) (i4)))) else (some (L80_0_R.e0 i2 i3 i4)))
theorem L80_0_ok {k : Nat} : ∀ {f : Nat} {i2 i3 i4 : Int} {r : L80_0_R}, L80_0 k f i2 i3 i4 = some r →
    LoopsN Tryd.prog Tryd.cfg (k + 8) 0 Tryd.f80 (Tryd.cfg.fc 80) 0 [0, 1, 4, 5] f { tm := [(0, vb i2), (1, vi i3), (4, vb 0), (5, vb i4)], hp := [], nx := 0 } (L80_0_end r) := by
  intro f
  induction f with
  | zero => intro i2 i3 i4 r h; cases h
  | succ f ih =>
    intro i2 i3 i4 r h
    rw [L80_0] at h
    rcases cond_elim h with ⟨e0, h⟩ | ⟨e0, h⟩
    ·
      rcases cond_elim h with ⟨e1, h⟩ | ⟨e1, h⟩
      ·
        obtain ⟨i5, e2, h⟩ := bE h
        obtain ⟨i6, e3, h⟩ := bE h
        exact LoopsN.next (L80_0_b0 i2 i3 i4 i5 i6 k e0 e1 (F81_ok e2) (F81_ok e3)) (L80_0_b0h i3 i5 i6) (ih h)
      ·
        obtain ⟨i5, e2, h⟩ := bE h
        exact LoopsN.next (L80_0_b1 i2 i3 i4 i5 k e0 e1 (F81_ok e2)) (L80_0_b1h i3 i4 i5) (ih h)
    ·
      cases h; exact LoopsN.done (L80_0_b2 i2 i3 i4 k e0) (fun h => by cases h)
theorem P80_0 (i0 i1 i2 i3 i4 : Int) (k : Nat)
    (c0 : LoopsN Tryd.prog Tryd.cfg (k + 8) 0 Tryd.f80 (Tryd.cfg.fc 80) 0 [0, 1, 4, 5] (k + 8) { tm := [(0, vb i0), (1, vi i1), (4, vb 0), (5, vb 1)], hp := [], nx := 0 } (Exit.exit 0, { tm := [(0, vb i2), (1, vi i3), (4, vb 0), (5, vb i4), (7, V.bool false)], hp := [], nx := 8 })) :
    cP ((k + 9)) 80 [vb i0, vi i1] = some (vb i4) :=
  byF (k := k) (d := 9) [Hn.loop (Exit.exit 0, { tm := [(0, vb i2), (1, vi i3), (4, vb 0), (5, vb i4), (7, V.bool false)], hp := [], nx := 8 })] (aI c0 trivial) (by kernel_rfl)
def F80 (k : Nat) (i0 i1 : Int) : Option (Int) :=
  ((L80_0 k (k + 8) (i0) (i1) (1)).bind fun
    | L80_0_R.e0 i2 i3 i4 => (some (i4)))
theorem F80_ok {i0 i1 : Int} {k : Nat} {r : Int} (h : F80 k i0 i1 = some r) :
    cP ((k + 9)) 80 [vb i0, vi i1] = some (vb r) := by
  unfold F80 at h
  obtain ⟨ee, e0, h⟩ := bE h
  cases ee with
  | e0 i2 i3 i4 =>
    have h := Option.some.inj h; subst h; exact P80_0 i0 i1 i2 i3 i4 k (L80_0_ok e0)
theorem P93_0 (i0 i1 : Int) (k : Nat)
    (c0 : cP ((k + 11)) 80 [vb i0, vi 254] = some (vb i1)) :
    cP ((k + 12)) 93 [vb i0] = some (vb i1) :=
  byF (k := k) (d := 12) [Hn.call 4 (vb i1)] (aI c0 trivial) (by kernel_rfl)
def F93 (k : Nat) (i0 : Int) : Option (Int) :=
  ((F80 (k + 2) (i0) (254)).bind fun i1 => (some (i1)))
theorem F93_ok {i0 : Int} {k : Nat} {r : Int} (h : F93 k i0 = some r) :
    cP ((k + 12)) 93 [vb i0] = some (vb r) := by
  unfold F93 at h
  obtain ⟨i1, e0, h⟩ := bE h
  have h := Option.some.inj h; subst h; exact P93_0 i0 i1 k (F80_ok e0)
theorem P94_0 (i0 i1 : Int) (k : Nat)
    (c0 : GrdP ((0 : Int) ≤ wU ((8 : Int) - wU (↑(BitVec.ofInt IntKind.u64.bits (wU i1) &&& BitVec.ofInt IntKind.u64.bits (7 : Int)).toNat : Int))) (vb (i0.fdiv ((2 : Int) ^ min (wU ((8 : Int) - wU (↑(BitVec.ofInt IntKind.u64.bits (wU i1) &&& BitVec.ofInt IntKind.u64.bits (7 : Int)).toNat : Int))).toNat IntKind.u8.bits)))) :
    cP ((k + 3)) 94 [vb i0, vi i1] = some (vb (wB (↑(BitVec.ofInt IntKind.u8.bits (wB (i0 * 2 ^ min (wU (↑(BitVec.ofInt IntKind.u64.bits (wU i1) &&& BitVec.ofInt IntKind.u64.bits 7).toNat : Int)).toNat IntKind.u8.bits)) ||| BitVec.ofInt IntKind.u8.bits (i0.fdiv (2 ^ min (wU (8 - wU (↑(BitVec.ofInt IntKind.u64.bits (wU i1) &&& BitVec.ofInt IntKind.u64.bits 7).toNat : Int))).toNat IntKind.u8.bits))).toNat : Int))) :=
  byF (k := k) (d := 3) [Hn.op 15 (vb (i0.fdiv (2 ^ min (wU (8 - wU (↑(BitVec.ofInt IntKind.u64.bits (wU i1) &&& BitVec.ofInt IntKind.u64.bits 7).toNat : Int))).toNat IntKind.u8.bits))) []] (aI c0 trivial) (by kernel_rfl)
def F94 (k : Nat) (i0 i1 : Int) : Option (Int) :=
  (guardP ((0 : Int) ≤ IntKind.u64.wrap ((8 : Int) - IntKind.u64.wrap (↑(BitVec.ofInt IntKind.u64.bits (IntKind.u64.wrap i1) &&& BitVec.ofInt IntKind.u64.bits (7 : Int)).toNat : Int))) (some (IntKind.u8.wrap (↑(BitVec.ofInt IntKind.u8.bits (IntKind.u8.wrap (i0 * 2 ^ min (IntKind.u64.wrap (↑(BitVec.ofInt IntKind.u64.bits (IntKind.u64.wrap i1) &&& BitVec.ofInt IntKind.u64.bits 7).toNat : Int)).toNat IntKind.u8.bits)) ||| BitVec.ofInt IntKind.u8.bits (i0.fdiv (2 ^ min (IntKind.u64.wrap (8 - IntKind.u64.wrap (↑(BitVec.ofInt IntKind.u64.bits (IntKind.u64.wrap i1) &&& BitVec.ofInt IntKind.u64.bits 7).toNat : Int))).toNat IntKind.u8.bits))).toNat : Int))))
theorem F94_ok {i0 i1 : Int} {k : Nat} {r : Int} (h : F94 k i0 i1 = some r) :
    cP ((k + 3)) 94 [vb i0, vi i1] = some (vb r) := by
  unfold F94 at h
  obtain ⟨e0, h⟩ := guardP_some.1 h
  have h := Option.some.inj h; subst h; exact P94_0 i0 i1 k (GrdP.mk e0)
theorem P79_0 (i0 i1 i2 i3 i4 i5 : Int) (k : Nat)
    (c0 : cP ((k + 14)) 93 [vb i0] = some (vb i1))
    (c1 : cP ((k + 14)) 94 [vb i1, vi 1] = some (vb i2))
    (c2 : cP ((k + 14)) 94 [vb i1, vi 2] = some (vb i3))
    (c3 : cP ((k + 14)) 94 [vb i1, vi 3] = some (vb i4))
    (c4 : cP ((k + 14)) 94 [vb i1, vi 4] = some (vb i5)) :
    cP ((k + 15)) 79 [vb i0] = some (vb (wB (↑(BitVec.ofInt IntKind.u8.bits (wB (↑(BitVec.ofInt IntKind.u8.bits (x8 (x8 (x8 i1 i2) i3) i4) ^^^ BitVec.ofInt IntKind.u8.bits i5).toNat : Int)) ^^^ BitVec.ofInt IntKind.u8.bits 99).toNat : Int))) :=
  byF (k := k) (d := 15) [Hn.call 5 (vb i1), Hn.call 8 (vb i2), Hn.call 11 (vb i3), Hn.call 14 (vb i4), Hn.call 17 (vb i5)] (aI c0 (aI c1 (aI c2 (aI c3 (aI c4 trivial))))) (by kernel_rfl)
def F79 (k : Nat) (i0 : Int) : Option (Int) :=
  ((F93 (k + 2) (i0)).bind fun i1 => ((F94 (k + 11) (i1) (1)).bind fun i2 => ((F94 (k + 11) (i1) (2)).bind fun i3 => ((F94 (k + 11) (i1) (3)).bind fun i4 => ((F94 (k + 11) (i1) (4)).bind fun i5 => (some (IntKind.u8.wrap (↑(BitVec.ofInt IntKind.u8.bits (IntKind.u8.wrap (↑(BitVec.ofInt IntKind.u8.bits (IntKind.u8.wrap (↑(BitVec.ofInt IntKind.u8.bits (IntKind.u8.wrap (↑(BitVec.ofInt IntKind.u8.bits (IntKind.u8.wrap (↑(BitVec.ofInt IntKind.u8.bits i1 ^^^ BitVec.ofInt IntKind.u8.bits i2).toNat : Int)) ^^^ BitVec.ofInt IntKind.u8.bits i3).toNat : Int)) ^^^ BitVec.ofInt IntKind.u8.bits i4).toNat : Int)) ^^^ BitVec.ofInt IntKind.u8.bits i5).toNat : Int)) ^^^ BitVec.ofInt IntKind.u8.bits 99).toNat : Int))))))))
theorem F79_ok {i0 : Int} {k : Nat} {r : Int} (h : F79 k i0 = some r) :
    cP ((k + 15)) 79 [vb i0] = some (vb r) := by
  unfold F79 at h
  obtain ⟨i1, e0, h⟩ := bE h
  obtain ⟨i2, e1, h⟩ := bE h
  obtain ⟨i3, e2, h⟩ := bE h
  obtain ⟨i4, e3, h⟩ := bE h
  obtain ⟨i5, e4, h⟩ := bE h
  have h := Option.some.inj h; subst h; exact P79_0 i0 i1 i2 i3 i4 i5 k (F93_ok e0) (F94_ok e1) (F94_ok e2) (F94_ok e3) (F94_ok e4)
end Go.Proofs
set_option linter.unusedVariables false
set_option maxHeartbeats 0
set_option maxRecDepth 100000
namespace Go.Proofs
open Go Go.Sym
theorem P64_0 (i0 i1 i2 i3 i4 i5 i6 i7 i8 i9 i10 i11 i12 i13 i14 i15 : Int) (s0 : List UInt8) (u0 u1 u2 u3 u4 u5 u6 u7 u8 u9 u10 u11 u12 u13 u14 u15 : UInt8) (k : Nat)
    (c0 : StrP s0 0 u0)
    (c1 : StrP s0 1 u1)
    (c2 : StrP s0 2 u2)
    (c3 : StrP s0 3 u3)
    (c4 : StrP s0 4 u4)
    (c5 : StrP s0 5 u5)
    (c6 : StrP s0 6 u6)
    (c7 : StrP s0 7 u7)
    (c8 : StrP s0 8 u8)
    (c9 : StrP s0 9 u9)
    (c10 : StrP s0 10 u10)
    (c11 : StrP s0 11 u11)
    (c12 : StrP s0 12 u12)
    (c13 : StrP s0 13 u13)
    (c14 : StrP s0 14 u14)
    (c15 : StrP s0 15 u15) :
    cP ((k + 20)) 64 [V.agg [vb i0, vb i1, vb i2, vb i3, vb i4, vb i5, vb i6, vb i7, vb i8, vb i9, vb i10, vb i11, vb i12, vb i13, vb i14, vb i15], V.str s0] = some (V.agg [vb (x8 i0 (bN u0)), vb (x8 i1 (bN u1)), vb (x8 i2 (bN u2)), vb (x8 i3 (bN u3)), vb (x8 i4 (bN u4)), vb (x8 i5 (bN u5)), vb (x8 i6 (bN u6)), vb (x8 i7 (bN u7)), vb (x8 i8 (bN u8)), vb (x8 i9 (bN u9)), vb (x8 i10 (bN u10)), vb (x8 i11 (bN u11)), vb (x8 i12 (bN u12)), vb (x8 i13 (bN u13)), vb (x8 i14 (bN u14)), vb (x8 i15 (bN u15))]) :=
  byF (k := k) (d := 20) [Hn.rounds, Hn.op 14 (vb (bN u0)) [], Hn.op 14 (vb (bN u1)) [], Hn.op 14 (vb (bN u2)) [], Hn.op 14 (vb (bN u3)) [], Hn.op 14 (vb (bN u4)) [], Hn.op 14 (vb (bN u5)) [], Hn.op 14 (vb (bN u6)) [], Hn.op 14 (vb (bN u7)) [], Hn.op 14 (vb (bN u8)) [], Hn.op 14 (vb (bN u9)) [], Hn.op 14 (vb (bN u10)) [], Hn.op 14 (vb (bN u11)) [], Hn.op 14 (vb (bN u12)) [], Hn.op 14 (vb (bN u13)) [], Hn.op 14 (vb (bN u14)) [], Hn.op 14 (vb (bN u15)) []] (aI c0 (aI c1 (aI c2 (aI c3 (aI c4 (aI c5 (aI c6 (aI c7 (aI c8 (aI c9 (aI c10 (aI c11 (aI c12 (aI c13 (aI c14 (aI c15 trivial)))))))))))))))) (by kernel_rfl)
def F64 (k : Nat) (i0 i1 i2 i3 i4 i5 i6 i7 i8 i9 i10 i11 i12 i13 i14 i15 : Int) (s0 : List UInt8) : Option (Int × Int × Int × Int × Int × Int × Int × Int × Int × Int × Int × Int × Int × Int × Int × Int) :=
  ((satB (s0) (0)).bind fun u0 => ((satB (s0) (1)).bind fun u1 => ((satB (s0) (2)).bind fun u2 => ((satB (s0) (3)).bind fun u3 => ((satB (s0) (4)).bind fun u4 => ((satB (s0) (5)).bind fun u5 => ((satB (s0) (6)).bind fun u6 => ((satB (s0) (7)).bind fun u7 => ((satB (s0) (8)).bind fun u8 => ((satB (s0) (9)).bind fun u9 => ((satB (s0) (10)).bind fun u10 => ((satB (s0) (11)).bind fun u11 => ((satB (s0) (12)).bind fun u12 => ((satB (s0) (13)).bind fun u13 => ((satB (s0) (14)).bind fun u14 => ((satB (s0) (15)).bind fun u15 => (some ((IntKind.u8.wrap (↑(BitVec.ofInt IntKind.u8.bits i0 ^^^ BitVec.ofInt IntKind.u8.bits (↑u0.toNat : Int)).toNat : Int)), (IntKind.u8.wrap (↑(BitVec.ofInt IntKind.u8.bits i1 ^^^ BitVec.ofInt IntKind.u8.bits (↑u1.toNat : Int)).toNat : Int)), (IntKind.u8.wrap (↑(BitVec.ofInt IntKind.u8.bits i2 ^^^ BitVec.ofInt IntKind.u8.bits (↑u2.toNat : Int)).toNat : Int)), (IntKind.u8.wrap (↑(BitVec.ofInt IntKind.u8.bits i3 ^^^ BitVec.ofInt IntKind.u8.bits (↑u3.toNat : Int)).toNat : Int)), (IntKind.u8.wrap (↑(BitVec.ofInt IntKind.u8.bits i4 ^^^ BitVec.ofInt IntKind.u8.bits (↑u4.toNat : Int)).toNat : Int)), (IntKind.u8.wrap (↑(BitVec.ofInt IntKind.u8.bits i5 ^^^ BitVec.ofInt IntKind.u8.bits (↑u5.toNat : Int)).toNat : Int)), (IntKind.u8.wrap (↑(BitVec.ofInt IntKind.u8.bits i6 ^^^ BitVec.ofInt IntKind.u8.bits (↑u6.toNat : Int)).toNat : Int)), (IntKind.u8.wrap (↑(BitVec.ofInt IntKind.u8.bits i7 ^^^ BitVec.ofInt IntKind.u8.bits (↑u7.toNat : Int)).toNat : Int)), (IntKind.u8.wrap (↑(BitVec.ofInt IntKind.u8.bits i8 ^^^ BitVec.ofInt IntKind.u8.bits (↑u8.toNat : Int)).toNat : Int)), (IntKind.u8.wrap (↑(BitVec.ofInt IntKind.u8.bits i9 ^^^ BitVec.ofInt IntKind.u8.bits (↑u9.toNat : Int)).toNat : Int)), (IntKind.u8.wrap (↑(BitVec.ofInt IntKind.u8.bits i10 ^^^ BitVec.ofInt IntKind.u8.bits (↑u10.toNat : Int)).toNat : Int)), (IntKind.u8.wrap (↑(BitVec.ofInt IntKind.u8.bits i11 ^^^ BitVec.ofInt IntKind.u8.bits (↑u11.toNat : Int)).toNat : Int)), (IntKind.u8.wrap (↑(BitVec.ofInt IntKind.u8.bits i12 ^^^ BitVec.ofInt IntKind.u8.bits (↑u12.toNat : Int)).toNat : Int)), (IntKind.u8.wrap (↑(BitVec.ofInt IntKind.u8.bits i13 ^^^ BitVec.ofInt IntKind.u8.bits (↑u13.toNat : Int)).toNat : Int)), (IntKind.u8.wrap (↑(BitVec.ofInt IntKind.u8.bits i14 ^^^ BitVec.ofInt IntKind.u8.bits (↑u14.toNat : Int)).toNat : Int)), (IntKind.u8.wrap (↑(BitVec.ofInt IntKind.u8.bits i15 ^^^ BitVec.ofInt IntKind.u8.bits (↑u15.toNat : Int)).toNat : Int))))))))))))))))))))
theorem F64_ok {i0 i1 i2 i3 i4 i5 i6 i7 i8 i9 i10 i11 i12 i13 i14 i15 : Int} {s0 : List UInt8} {k : Nat} {r : Int × Int × Int × Int × Int × Int × Int × Int × Int × Int × Int × Int × Int × Int × Int × Int} (h : F64 k i0 i1 i2 i3 i4 i5 i6 i7 i8 i9 i10 i11 i12 i13 i14 i15 s0 = some r) :
    cP ((k + 20)) 64 [V.agg [vb i0, vb i1, vb i2, vb i3, vb i4, vb i5, vb i6, vb i7, vb i8, vb i9, vb i10, vb i11, vb i12, vb i13, vb i14, vb i15], V.str s0] = some (V.agg [vb r.1, vb r.2.1, vb r.2.2.1, vb r.2.2.2.1, vb r.2.2.2.2.1, vb r.2.2.2.2.2.1, vb r.2.2.2.2.2.2.1, vb r.2.2.2.2.2.2.2.1, vb r.2.2.2.2.2.2.2.2.1, vb r.2.2.2.2.2.2.2.2.2.1, vb r.2.2.2.2.2.2.2.2.2.2.1, vb r.2.2.2.2.2.2.2.2.2.2.2.1, vb r.2.2.2.2.2.2.2.2.2.2.2.2.1, vb r.2.2.2.2.2.2.2.2.2.2.2.2.2.1, vb r.2.2.2.2.2.2.2.2.2.2.2.2.2.2.1, vb r.2.2.2.2.2.2.2.2.2.2.2.2.2.2.2]) := by
  unfold F64 at h
  obtain ⟨u0, e0, h⟩ := bE h
  obtain ⟨u1, e1, h⟩ := bE h
  obtain ⟨u2, e2, h⟩ := bE h
  obtain ⟨u3, e3, h⟩ := bE h
  obtain ⟨u4, e4, h⟩ := bE h
  obtain ⟨u5, e5, h⟩ := bE h
  obtain ⟨u6, e6, h⟩ := bE h
  obtain ⟨u7, e7, h⟩ := bE h
  obtain ⟨u8, e8, h⟩ := bE h
  obtain ⟨u9, e9, h⟩ := bE h
  obtain ⟨u10, e10, h⟩ := bE h
  obtain ⟨u11, e11, h⟩ := bE h
  obtain ⟨u12, e12, h⟩ := bE h
  obtain ⟨u13, e13, h⟩ := bE h
  obtain ⟨u14, e14, h⟩ := bE h
  obtain ⟨u15, e15, h⟩ := bE h
  have h := Option.some.inj h; subst h; exact P64_0 i0 i1 i2 i3 i4 i5 i6 i7 i8 i9 i10 i11 i12 i13 i14 i15 s0 u0 u1 u2 u3 u4 u5 u6 u7 u8 u9 u10 u11 u12 u13 u14 u15 k (StrP.of_at e0) (StrP.of_at e1) (StrP.of_at e2) (StrP.of_at e3) (StrP.of_at e4) (StrP.of_at e5) (StrP.of_at e6) (StrP.of_at e7) (StrP.of_at e8) (StrP.of_at e9) (StrP.of_at e10) (StrP.of_at e11) (StrP.of_at e12) (StrP.of_at e13) (StrP.of_at e14) (StrP.of_at e15)
theorem P65_0 (i0 i1 i2 i3 i4 i5 i6 i7 i8 i9 i10 i11 i12 i13 i14 i15 i16 i17 i18 i19 i20 i21 i22 i23 i24 i25 i26 i27 i28 i29 i30 i31 : Int) (k : Nat)
    (c0 : cP ((k + 34)) 79 [vb i0] = some (vb i16))
    (c1 : cP ((k + 34)) 79 [vb i1] = some (vb i17))
    (c2 : cP ((k + 34)) 79 [vb i2] = some (vb i18))
    (c3 : cP ((k + 34)) 79 [vb i3] = some (vb i19))
    (c4 : cP ((k + 34)) 79 [vb i4] = some (vb i20))
    (c5 : cP ((k + 34)) 79 [vb i5] = some (vb i21))
    (c6 : cP ((k + 34)) 79 [vb i6] = some (vb i22))
    (c7 : cP ((k + 34)) 79 [vb i7] = some (vb i23))
    (c8 : cP ((k + 34)) 79 [vb i8] = some (vb i24))
    (c9 : cP ((k + 34)) 79 [vb i9] = some (vb i25))
    (c10 : cP ((k + 34)) 79 [vb i10] = some (vb i26))
    (c11 : cP ((k + 34)) 79 [vb i11] = some (vb i27))
    (c12 : cP ((k + 34)) 79 [vb i12] = some (vb i28))
    (c13 : cP ((k + 34)) 79 [vb i13] = some (vb i29))
    (c14 : cP ((k + 34)) 79 [vb i14] = some (vb i30))
    (c15 : cP ((k + 34)) 79 [vb i15] = some (vb i31)) :
    cP ((k + 35)) 65 [V.agg [vb i0, vb i1, vb i2, vb i3, vb i4, vb i5, vb i6, vb i7, vb i8, vb i9, vb i10, vb i11, vb i12, vb i13, vb i14, vb i15]] = some (V.agg [vb i16, vb i17, vb i18, vb i19, vb i20, vb i21, vb i22, vb i23, vb i24, vb i25, vb i26, vb i27, vb i28, vb i29, vb i30, vb i31]) :=
  byF (k := k) (d := 35) [Hn.rounds, Hn.call 11 (vb i16), Hn.call 11 (vb i17), Hn.call 11 (vb i18), Hn.call 11 (vb i19), Hn.call 11 (vb i20), Hn.call 11 (vb i21), Hn.call 11 (vb i22), Hn.call 11 (vb i23), Hn.call 11 (vb i24), Hn.call 11 (vb i25), Hn.call 11 (vb i26), Hn.call 11 (vb i27), Hn.call 11 (vb i28), Hn.call 11 (vb i29), Hn.call 11 (vb i30), Hn.call 11 (vb i31)] (aI c0 (aI c1 (aI c2 (aI c3 (aI c4 (aI c5 (aI c6 (aI c7 (aI c8 (aI c9 (aI c10 (aI c11 (aI c12 (aI c13 (aI c14 (aI c15 trivial)))))))))))))))) (by kernel_rfl)
def F65 (k : Nat) (i0 i1 i2 i3 i4 i5 i6 i7 i8 i9 i10 i11 i12 i13 i14 i15 : Int) : Option (Int × Int × Int × Int × Int × Int × Int × Int × Int × Int × Int × Int × Int × Int × Int × Int) :=
  ((F79 (k + 19) (i0)).bind fun i16 => ((F79 (k + 19) (i1)).bind fun i17 => ((F79 (k + 19) (i2)).bind fun i18 => ((F79 (k + 19) (i3)).bind fun i19 => ((F79 (k + 19) (i4)).bind fun i20 => ((F79 (k + 19) (i5)).bind fun i21 => ((F79 (k + 19) (i6)).bind fun i22 => ((F79 (k + 19) (i7)).bind fun i23 => ((F79 (k + 19) (i8)).bind fun i24 => ((F79 (k + 19) (i9)).bind fun i25 => ((F79 (k + 19) (i10)).bind fun i26 => ((F79 (k + 19) (i11)).bind fun i27 => ((F79 (k + 19) (i12)).bind fun i28 => ((F79 (k + 19) (i13)).bind fun i29 => ((F79 (k + 19) (i14)).bind fun i30 => ((F79 (k + 19) (i15)).bind fun i31 => (some ((i16), (i17), (i18), (i19), (i20), (i21), (i22), (i23), (i24), (i25), (i26), (i27), (i28), (i29), (i30), (i31)))))))))))))))))))
theorem F65_ok {i0 i1 i2 i3 i4 i5 i6 i7 i8 i9 i10 i11 i12 i13 i14 i15 : Int} {k : Nat} {r : Int × Int × Int × Int × Int × Int × Int × Int × Int × Int × Int × Int × Int × Int × Int × Int} (h : F65 k i0 i1 i2 i3 i4 i5 i6 i7 i8 i9 i10 i11 i12 i13 i14 i15 = some r) :
    cP ((k + 35)) 65 [V.agg [vb i0, vb i1, vb i2, vb i3, vb i4, vb i5, vb i6, vb i7, vb i8, vb i9, vb i10, vb i11, vb i12, vb i13, vb i14, vb i15]] = some (V.agg [vb r.1, vb r.2.1, vb r.2.2.1, vb r.2.2.2.1, vb r.2.2.2.2.1, vb r.2.2.2.2.2.1, vb r.2.2.2.2.2.2.1, vb r.2.2.2.2.2.2.2.1, vb r.2.2.2.2.2.2.2.2.1, vb r.2.2.2.2.2.2.2.2.2.1, vb r.2.2.2.2.2.2.2.2.2.2.1, vb r.2.2.2.2.2.2.2.2.2.2.2.1, vb r.2.2.2.2.2.2.2.2.2.2.2.2.1, vb r.2.2.2.2.2.2.2.2.2.2.2.2.2.1, vb r.2.2.2.2.2.2.2.2.2.2.2.2.2.2.1, vb r.2.2.2.2.2.2.2.2.2.2.2.2.2.2.2]) := by
  unfold F65 at h
  obtain ⟨i16, e0, h⟩ := bE h
  obtain ⟨i17, e1, h⟩ := bE h
  obtain ⟨i18, e2, h⟩ := bE h
  obtain ⟨i19, e3, h⟩ := bE h
  obtain ⟨i20, e4, h⟩ := bE h
  obtain ⟨i21, e5, h⟩ := bE h
  obtain ⟨i22, e6, h⟩ := bE h
  obtain ⟨i23, e7, h⟩ := bE h
  obtain ⟨i24, e8, h⟩ := bE h
  obtain ⟨i25, e9, h⟩ := bE h
  obtain ⟨i26, e10, h⟩ := bE h
  obtain ⟨i27, e11, h⟩ := bE h
  obtain ⟨i28, e12, h⟩ := bE h
  obtain ⟨i29, e13, h⟩ := bE h
  obtain ⟨i30, e14, h⟩ := bE h
  obtain ⟨i31, e15, h⟩ := bE h
  have h := Option.some.inj h; subst h; exact P65_0 i0 i1 i2 i3 i4 i5 i6 i7 i8 i9 i10 i11 i12 i13 i14 i15 i16 i17 i18 i19 i20 i21 i22 i23 i24 i25 i26 i27 i28 i29 i30 i31 k (F79_ok e0) (F79_ok e1) (F79_ok e2) (F79_ok e3) (F79_ok e4) (F79_ok e5) (F79_ok e6) (F79_ok e7) (F79_ok e8) (F79_ok e9) (F79_ok e10) (F79_ok e11) (F79_ok e12) (F79_ok e13) (F79_ok e14) (F79_ok e15)
theorem P66_0 (i0 i1 i2 i3 i4 i5 i6 i7 i8 i9 i10 i11 i12 i13 i14 i15 : Int) (k : Nat) :
    cP ((k + 20)) 66 [V.agg [vb i0, vb i1, vb i2, vb i3, vb i4, vb i5, vb i6, vb i7, vb i8, vb i9, vb i10, vb i11, vb i12, vb i13, vb i14, vb i15]] = some (V.agg [vb i0, vb i5, vb i10, vb i15, vb i4, vb i9, vb i14, vb i3, vb i8, vb i13, vb i2, vb i7, vb i12, vb i1, vb i6, vb i11]) :=
  byF (k := k) (d := 20) [Hn.rounds] trivial (by kernel_rfl)
def F66 (k : Nat) (i0 i1 i2 i3 i4 i5 i6 i7 i8 i9 i10 i11 i12 i13 i14 i15 : Int) : Option (Int × Int × Int × Int × Int × Int × Int × Int × Int × Int × Int × Int × Int × Int × Int × Int) :=
  (some ((i0), (i5), (i10), (i15), (i4), (i9), (i14), (i3), (i8), (i13), (i2), (i7), (i12), (i1), (i6), (i11)))
theorem F66_ok {i0 i1 i2 i3 i4 i5 i6 i7 i8 i9 i10 i11 i12 i13 i14 i15 : Int} {k : Nat} {r : Int × Int × Int × Int × Int × Int × Int × Int × Int × Int × Int × Int × Int × Int × Int × Int} (h : F66 k i0 i1 i2 i3 i4 i5 i6 i7 i8 i9 i10 i11 i12 i13 i14 i15 = some r) :
    cP ((k + 20)) 66 [V.agg [vb i0, vb i1, vb i2, vb i3, vb i4, vb i5, vb i6, vb i7, vb i8, vb i9, vb i10, vb i11, vb i12, vb i13, vb i14, vb i15]] = some (V.agg [vb r.1, vb r.2.1, vb r.2.2.1, vb r.2.2.2.1, vb r.2.2.2.2.1, vb r.2.2.2.2.2.1, vb r.2.2.2.2.2.2.1, vb r.2.2.2.2.2.2.2.1, vb r.2.2.2.2.2.2.2.2.1, vb r.2.2.2.2.2.2.2.2.2.1, vb r.2.2.2.2.2.2.2.2.2.2.1, vb r.2.2.2.2.2.2.2.2.2.2.2.1, vb r.2.2.2.2.2.2.2.2.2.2.2.2.1, vb r.2.2.2.2.2.2.2.2.2.2.2.2.2.1, vb r.2.2.2.2.2.2.2.2.2.2.2.2.2.2.1, vb r.2.2.2.2.2.2.2.2.2.2.2.2.2.2.2]) := by
  unfold F66 at h
  have h := Option.some.inj h; subst h; exact P66_0 i0 i1 i2 i3 i4 i5 i6 i7 i8 i9 i10 i11 i12 i13 i14 i15 k
theorem P67_0 (i0 i1 i2 i3 i4 i5 i6 i7 i8 i9 i10 i11 i12 i13 i14 i15 i16 i17 i18 i19 i20 i21 i22 i23 i24 i25 i26 i27 i28 i29 i30 i31 : Int) (k : Nat)
    (c0 : cP ((k + 25)) 81 [vb (x8 i0 i1), vb 2] = some (vb i16))
    (c1 : cP ((k + 25)) 81 [vb (x8 i1 i2), vb 2] = some (vb i17))
    (c2 : cP ((k + 25)) 81 [vb (x8 i2 i3), vb 2] = some (vb i18))
    (c3 : cP ((k + 25)) 81 [vb (x8 i3 i0), vb 2] = some (vb i19))
    (c4 : cP ((k + 25)) 81 [vb (x8 i4 i5), vb 2] = some (vb i20))
    (c5 : cP ((k + 25)) 81 [vb (x8 i5 i6), vb 2] = some (vb i21))
    (c6 : cP ((k + 25)) 81 [vb (x8 i6 i7), vb 2] = some (vb i22))
    (c7 : cP ((k + 25)) 81 [vb (x8 i7 i4), vb 2] = some (vb i23))
    (c8 : cP ((k + 25)) 81 [vb (x8 i8 i9), vb 2] = some (vb i24))
    (c9 : cP ((k + 25)) 81 [vb (x8 i9 i10), vb 2] = some (vb i25))
    (c10 : cP ((k + 25)) 81 [vb (x8 i10 i11), vb 2] = some (vb i26))
    (c11 : cP ((k + 25)) 81 [vb (x8 i11 i8), vb 2] = some (vb i27))
    (c12 : cP ((k + 25)) 81 [vb (x8 i12 i13), vb 2] = some (vb i28))
    (c13 : cP ((k + 25)) 81 [vb (x8 i13 i14), vb 2] = some (vb i29))
    (c14 : cP ((k + 25)) 81 [vb (x8 i14 i15), vb 2] = some (vb i30))
    (c15 : cP ((k + 25)) 81 [vb (x8 i15 i12), vb 2] = some (vb i31)) :
    cP ((k + 26)) 67 [V.agg [vb i0, vb i1, vb i2, vb i3, vb i4, vb i5, vb i6, vb i7, vb i8, vb i9, vb i10, vb i11, vb i12, vb i13, vb i14, vb i15]] = some (V.agg [vb (wB (↑(BitVec.ofInt IntKind.u8.bits i0 ^^^ BitVec.ofInt IntKind.u8.bits (wB (↑(BitVec.ofInt IntKind.u8.bits (x8 (x8 (x8 i0 i1) i2) i3) ^^^ BitVec.ofInt IntKind.u8.bits i16).toNat : Int))).toNat : Int)), vb (wB (↑(BitVec.ofInt IntKind.u8.bits i1 ^^^ BitVec.ofInt IntKind.u8.bits (wB (↑(BitVec.ofInt IntKind.u8.bits (x8 (x8 (x8 i0 i1) i2) i3) ^^^ BitVec.ofInt IntKind.u8.bits i17).toNat : Int))).toNat : Int)), vb (wB (↑(BitVec.ofInt IntKind.u8.bits i2 ^^^ BitVec.ofInt IntKind.u8.bits (wB (↑(BitVec.ofInt IntKind.u8.bits (x8 (x8 (x8 i0 i1) i2) i3) ^^^ BitVec.ofInt IntKind.u8.bits i18).toNat : Int))).toNat : Int)), vb (wB (↑(BitVec.ofInt IntKind.u8.bits i3 ^^^ BitVec.ofInt IntKind.u8.bits (wB (↑(BitVec.ofInt IntKind.u8.bits (x8 (x8 (x8 i0 i1) i2) i3) ^^^ BitVec.ofInt IntKind.u8.bits i19).toNat : Int))).toNat : Int)), vb (wB (↑(BitVec.ofInt IntKind.u8.bits i4 ^^^ BitVec.ofInt IntKind.u8.bits (wB (↑(BitVec.ofInt IntKind.u8.bits (x8 (x8 (x8 i4 i5) i6) i7) ^^^ BitVec.ofInt IntKind.u8.bits i20).toNat : Int))).toNat : Int)), vb (wB (↑(BitVec.ofInt IntKind.u8.bits i5 ^^^ BitVec.ofInt IntKind.u8.bits (wB (↑(BitVec.ofInt IntKind.u8.bits (x8 (x8 (x8 i4 i5) i6) i7) ^^^ BitVec.ofInt IntKind.u8.bits i21).toNat : Int))).toNat : Int)), vb (wB (↑(BitVec.ofInt IntKind.u8.bits i6 ^^^ BitVec.ofInt IntKind.u8.bits (wB (↑(BitVec.ofInt IntKind.u8.bits (x8 (x8 (x8 i4 i5) i6) i7) ^^^ BitVec.ofInt IntKind.u8.bits i22).toNat : Int))).toNat : Int)), vb (wB (↑(BitVec.ofInt IntKind.u8.bits i7 ^^^ BitVec.ofInt IntKind.u8.bits (wB (↑(BitVec.ofInt IntKind.u8.bits (x8 (x8 (x8 i4 i5) i6) i7) ^^^ BitVec.ofInt IntKind.u8.bits i23).toNat : Int))).toNat : Int)), vb (wB (↑(BitVec.ofInt IntKind.u8.bits i8 ^^^ BitVec.ofInt IntKind.u8.bits (wB (↑(BitVec.ofInt IntKind.u8.bits (x8 (x8 (x8 i8 i9) i10) i11) ^^^ BitVec.ofInt IntKind.u8.bits i24).toNat : Int))).toNat : Int)), vb (wB (↑(BitVec.ofInt IntKind.u8.bits i9 ^^^ BitVec.ofInt IntKind.u8.bits (wB (↑(BitVec.ofInt IntKind.u8.bits (x8 (x8 (x8 i8 i9) i10) i11) ^^^ BitVec.ofInt IntKind.u8.bits i25).toNat : Int))).toNat : Int)), vb (wB (↑(BitVec.ofInt IntKind.u8.bits i10 ^^^ BitVec.ofInt IntKind.u8.bits (wB (↑(BitVec.ofInt IntKind.u8.bits (x8 (x8 (x8 i8 i9) i10) i11) ^^^ BitVec.ofInt IntKind.u8.bits i26).toNat : Int))).toNat : Int)), vb (wB (↑(BitVec.ofInt IntKind.u8.bits i11 ^^^ BitVec.ofInt IntKind.u8.bits (wB (↑(BitVec.ofInt IntKind.u8.bits (x8 (x8 (x8 i8 i9) i10) i11) ^^^ BitVec.ofInt IntKind.u8.bits i27).toNat : Int))).toNat : Int)), vb (wB (↑(BitVec.ofInt IntKind.u8.bits i12 ^^^ BitVec.ofInt IntKind.u8.bits (wB (↑(BitVec.ofInt IntKind.u8.bits (x8 (x8 (x8 i12 i13) i14) i15) ^^^ BitVec.ofInt IntKind.u8.bits i28).toNat : Int))).toNat : Int)), vb (wB (↑(BitVec.ofInt IntKind.u8.bits i13 ^^^ BitVec.ofInt IntKind.u8.bits (wB (↑(BitVec.ofInt IntKind.u8.bits (x8 (x8 (x8 i12 i13) i14) i15) ^^^ BitVec.ofInt IntKind.u8.bits i29).toNat : Int))).toNat : Int)), vb (wB (↑(BitVec.ofInt IntKind.u8.bits i14 ^^^ BitVec.ofInt IntKind.u8.bits (wB (↑(BitVec.ofInt IntKind.u8.bits (x8 (x8 (x8 i12 i13) i14) i15) ^^^ BitVec.ofInt IntKind.u8.bits i30).toNat : Int))).toNat : Int)), vb (wB (↑(BitVec.ofInt IntKind.u8.bits i15 ^^^ BitVec.ofInt IntKind.u8.bits (wB (↑(BitVec.ofInt IntKind.u8.bits (x8 (x8 (x8 i12 i13) i14) i15) ^^^ BitVec.ofInt IntKind.u8.bits i31).toNat : Int))).toNat : Int))]) :=
  byF (k := k) (d := 26) [Hn.rounds, Hn.rounds, Hn.call 46 (vb i16), Hn.call 46 (vb i17), Hn.call 46 (vb i18), Hn.call 46 (vb i19), Hn.rounds, Hn.call 46 (vb i20), Hn.call 46 (vb i21), Hn.call 46 (vb i22), Hn.call 46 (vb i23), Hn.rounds, Hn.call 46 (vb i24), Hn.call 46 (vb i25), Hn.call 46 (vb i26), Hn.call 46 (vb i27), Hn.rounds, Hn.call 46 (vb i28), Hn.call 46 (vb i29), Hn.call 46 (vb i30), Hn.call 46 (vb i31)] (aI c0 (aI c1 (aI c2 (aI c3 (aI c4 (aI c5 (aI c6 (aI c7 (aI c8 (aI c9 (aI c10 (aI c11 (aI c12 (aI c13 (aI c14 (aI c15 trivial)))))))))))))))) (by kernel_rfl)
def F67 (k : Nat) (i0 i1 i2 i3 i4 i5 i6 i7 i8 i9 i10 i11 i12 i13 i14 i15 : Int) : Option (Int × Int × Int × Int × Int × Int × Int × Int × Int × Int × Int × Int × Int × Int × Int × Int) :=
  ((F81 (k + 19) (IntKind.u8.wrap (↑(BitVec.ofInt IntKind.u8.bits i0 ^^^ BitVec.ofInt IntKind.u8.bits i1).toNat : Int)) (2)).bind fun i16 => ((F81 (k + 19) (IntKind.u8.wrap (↑(BitVec.ofInt IntKind.u8.bits i1 ^^^ BitVec.ofInt IntKind.u8.bits i2).toNat : Int)) (2)).bind fun i17 => ((F81 (k + 19) (IntKind.u8.wrap (↑(BitVec.ofInt IntKind.u8.bits i2 ^^^ BitVec.ofInt IntKind.u8.bits i3).toNat : Int)) (2)).bind fun i18 => ((F81 (k + 19) (IntKind.u8.wrap (↑(BitVec.ofInt IntKind.u8.bits i3 ^^^ BitVec.ofInt IntKind.u8.bits i0).toNat : Int)) (2)).bind fun i19 => ((F81 (k + 19) (IntKind.u8.wrap (↑(BitVec.ofInt IntKind.u8.bits i4 ^^^ BitVec.ofInt IntKind.u8.bits i5).toNat : Int)) (2)).bind fun i20 => ((F81 (k + 19) (IntKind.u8.wrap (↑(BitVec.ofInt IntKind.u8.bits i5 ^^^ BitVec.ofInt IntKind.u8.bits i6).toNat : Int)) (2)).bind fun i21 => ((F81 (k + 19) (IntKind.u8.wrap (↑(BitVec.ofInt IntKind.u8.bits i6 ^^^ BitVec.ofInt IntKind.u8.bits i7).toNat : Int)) (2)).bind fun i22 => ((F81 (k + 19) (IntKind.u8.wrap (↑(BitVec.ofInt IntKind.u8.bits i7 ^^^ BitVec.ofInt IntKind.u8.bits i4).toNat : Int)) (2)).bind fun i23 => ((F81 (k + 19) (IntKind.u8.wrap (↑(BitVec.ofInt IntKind.u8.bits i8 ^^^ BitVec.ofInt IntKind.u8.bits i9).toNat : Int)) (2)).bind fun i24 => ((F81 (k + 19) (IntKind.u8.wrap (↑(BitVec.ofInt IntKind.u8.bits i9 ^^^ BitVec.ofInt IntKind.u8.bits i10).toNat : Int)) (2)).bind fun i25 => ((F81 (k + 19) (IntKind.u8.wrap (↑(BitVec.ofInt IntKind.u8.bits i10 ^^^ BitVec.ofInt IntKind.u8.bits i11).toNat : Int)) (2)).bind fun i26 => ((F81 (k + 19) (IntKind.u8.wrap (↑(BitVec.ofInt IntKind.u8.bits i11 ^^^ BitVec.ofInt IntKind.u8.bits i8).toNat : Int)) (2)).bind fun i27 => ((F81 (k + 19) (IntKind.u8.wrap (↑(BitVec.ofInt IntKind.u8.bits i12 ^^^ BitVec.ofInt IntKind.u8.bits i13).toNat : Int)) (2)).bind fun i28 => ((F81 (k + 19) (IntKind.u8.wrap (↑(BitVec.ofInt IntKind.u8.bits i13 ^^^ BitVec.ofInt IntKind.u8.bits i14).toNat : Int)) (2)).bind fun i29 => ((F81 (k + 19) (IntKind.u8.wrap (↑(BitVec.ofInt IntKind.u8.bits i14 ^^^ BitVec.ofInt IntKind.u8.bits i15).toNat : Int)) (2)).bind fun i30 => ((F81 (k + 19) (IntKind.u8.wrap (↑(BitVec.ofInt IntKind.u8.bits i15 ^^^ BitVec.ofInt IntKind.u8.bits i12).toNat : Int)) (2)).bind fun i31 => (some ((IntKind.u8.wrap (↑(BitVec.ofInt IntKind.u8.bits i0 ^^^ BitVec.ofInt IntKind.u8.bits (IntKind.u8.wrap (↑(BitVec.ofInt IntKind.u8.bits (IntKind.u8.wrap (↑(BitVec.ofInt IntKind.u8.bits (IntKind.u8.wrap (↑(BitVec.ofInt IntKind.u8.bits (IntKind.u8.wrap (↑(BitVec.ofInt IntKind.u8.bits i0 ^^^ BitVec.ofInt IntKind.u8.bits i1).toNat : Int)) ^^^ BitVec.ofInt IntKind.u8.bits i2).toNat : Int)) ^^^ BitVec.ofInt IntKind.u8.bits i3).toNat : Int)) ^^^ BitVec.ofInt IntKind.u8.bits i16).toNat : Int))).toNat : Int)), (IntKind.u8.wrap (↑(BitVec.ofInt IntKind.u8.bits i1 ^^^ BitVec.ofInt IntKind.u8.bits (IntKind.u8.wrap (↑(BitVec.ofInt IntKind.u8.bits (IntKind.u8.wrap (↑(BitVec.ofInt IntKind.u8.bits (IntKind.u8.wrap (↑(BitVec.ofInt IntKind.u8.bits (IntKind.u8.wrap (↑(BitVec.ofInt IntKind.u8.bits i0 ^^^ BitVec.ofInt IntKind.u8.bits i1).toNat : Int)) ^^^ BitVec.ofInt IntKind.u8.bits i2).toNat : Int)) ^^^ BitVec.ofInt IntKind.u8.bits i3).toNat : Int)) ^^^ BitVec.ofInt IntKind.u8.bits i17).toNat : Int))).toNat : Int)), (IntKind.u8.wrap (↑(BitVec.ofInt IntKind.u8.bits i2 ^^^ BitVec.ofInt IntKind.u8.bits (IntKind.u8.wrap (↑(BitVec.ofInt IntKind.u8.bits (IntKind.u8.wrap (↑(BitVec.ofInt IntKind.u8.bits (IntKind.u8.wrap (↑(BitVec.ofInt IntKind.u8.bits (IntKind.u8.wrap (↑(BitVec.ofInt IntKind.u8.bits i0 ^^^ BitVec.ofInt IntKind.u8.bits i1).toNat : Int)) ^^^ BitVec.ofInt IntKind.u8.bits i2).toNat : Int)) ^^^ BitVec.ofInt IntKind.u8.bits i3).toNat : Int)) ^^^ BitVec.ofInt IntKind.u8.bits i18).toNat : Int))).toNat : Int)), (IntKind.u8.wrap (↑(BitVec.ofInt IntKind.u8.bits i3 ^^^ BitVec.ofInt IntKind.u8.bits (IntKind.u8.wrap (↑(BitVec.ofInt IntKind.u8.bits (IntKind.u8.wrap (↑(BitVec.ofInt IntKind.u8.bits (IntKind.u8.wrap (↑(BitVec.ofInt IntKind.u8.bits (IntKind.u8.wrap (↑(BitVec.ofInt IntKind.u8.bits i0 ^^^ BitVec.ofInt IntKind.u8.bits i1).toNat : Int)) ^^^ BitVec.ofInt IntKind.u8.bits i2).toNat : Int)) ^^^ BitVec.ofInt IntKind.u8.bits i3).toNat : Int)) ^^^ BitVec.ofInt IntKind.u8.bits i19).toNat : Int))).toNat : Int)), (IntKind.u8.wrap (↑(BitVec.ofInt IntKind.u8.bits i4 ^^^ BitVec.ofInt IntKind.u8.bits (IntKind.u8.wrap (↑(BitVec.ofInt IntKind.u8.bits (IntKind.u8.wrap (↑(BitVec.ofInt IntKind.u8.bits (IntKind.u8.wrap (↑(BitVec.ofInt IntKind.u8.bits (IntKind.u8.wrap (↑(BitVec.ofInt IntKind.u8.bits i4 ^^^ BitVec.ofInt IntKind.u8.bits i5).toNat : Int)) ^^^ BitVec.ofInt IntKind.u8.bits i6).toNat : Int)) ^^^ BitVec.ofInt IntKind.u8.bits i7).toNat : Int)) ^^^ BitVec.ofInt IntKind.u8.bits i20).toNat : Int))).toNat : Int)), (IntKind.u8.wrap (↑(BitVec.ofInt IntKind.u8.bits i5 ^^^ BitVec.ofInt IntKind.u8.bits (IntKind.u8.wrap (↑(BitVec.ofInt IntKind.u8.bits (IntKind.u8.wrap (↑(BitVec.ofInt IntKind.u8.bits (IntKind.u8.wrap (↑(BitVec.ofInt IntKind.u8.bits (IntKind.u8.wrap (↑(BitVec.ofInt IntKind.u8.bits i4 ^^^ BitVec.ofInt IntKind.u8.bits i5).toNat : Int)) ^^^ BitVec.ofInt IntKind.u8.bits i6).toNat : Int)) ^^^ BitVec.ofInt IntKind.u8.bits i7).toNat : Int)) ^^^ BitVec.ofInt IntKind.u8.bits i21).toNat : Int))).toNat : Int)), (IntKind.u8.wrap (↑(BitVec.ofInt IntKind.u8.bits i6 ^^^ BitVec.ofInt IntKind.u8.bits (IntKind.u8.wrap (↑(BitVec.ofInt IntKind.u8.bits (IntKind.u8.wrap (↑(BitVec.ofInt IntKind.u8.bits (IntKind.u8.wrap (↑(BitVec.ofInt IntKind.u8.bits (IntKind.u8.wrap (↑(BitVec.ofInt IntKind.u8.bits i4 ^^^ BitVec.ofInt IntKind.u8.bits i5).toNat : Int)) ^^^ BitVec.ofInt IntKind.u8.bits i6).toNat : Int)) ^^^ BitVec.ofInt IntKind.u8.bits i7).toNat : Int)) ^^^ BitVec.ofInt IntKind.u8.bits i22).toNat : Int))).toNat : Int)), (IntKind.u8.wrap (↑(BitVec.ofInt IntKind.u8.bits i7 ^^^ BitVec.ofInt IntKind.u8.bits (IntKind.u8.wrap (↑(BitVec.ofInt IntKind.u8.bits (IntKind.u8.wrap (↑(BitVec.ofInt IntKind.u8.bits (IntKind.u8.wrap (↑(BitVec.ofInt IntKind.u8.bits (IntKind.u8.wrap (↑(BitVec.ofInt IntKind.u8.bits i4 ^^^ BitVec.ofInt IntKind.u8.bits i5).toNat : Int)) ^^^ BitVec.ofInt IntKind.u8.bits i6).toNat : Int)) ^^^ BitVec.ofInt IntKind.u8.bits i7).toNat : Int)) ^^^ BitVec.ofInt IntKind.u8.bits i23).toNat : Int))).toNat : Int)), (IntKind.u8.wrap (↑(BitVec.ofInt IntKind.u8.bits i8 ^^^ BitVec.ofInt IntKind.u8.bits (IntKind.u8.wrap (↑(BitVec.ofInt IntKind.u8.bits (IntKind.u8.wrap (↑(BitVec.ofInt IntKind.u8.bits (IntKind.u8.wrap (↑(BitVec.ofInt IntKind.u8.bits (IntKind.u8.wrap (↑(BitVec.ofInt IntKind.u8.bits i8 ^^^ BitVec.ofInt IntKind.u8.bits i9).toNat : Int)) ^^^ BitVec.ofInt IntKind.u8.bits i10).toNat : Int)) ^^^ BitVec.ofInt IntKind.u8.bits i11).toNat : Int)) ^^^ BitVec.ofInt IntKind.u8.bits i24).toNat : Int))).toNat : Int)), (IntKind.u8.wrap (↑(BitVec.ofInt IntKind.u8.bits i9 ^^^ BitVec.ofInt IntKind.u8.bits (IntKind.u8.wrap (↑(BitVec.ofInt IntKind.u8.bits (IntKind.u8.wrap (↑(BitVec.ofInt IntKind.u8.bits (IntKind.u8.wrap (↑(BitVec.ofInt IntKind.u8.bits (IntKind.u8.wrap (↑(BitVec.ofInt IntKind.u8.bits i8 ^^^ BitVec.ofInt IntKind.u8.bits i9).toNat : Int)) ^^^ BitVec.ofInt IntKind.u8.bits i10).toNat : Int)) ^^^ BitVec.ofInt IntKind.u8.bits i11).toNat : Int)) ^^^ BitVec.ofInt IntKind.u8.bits i25).toNat : Int))).toNat : Int)), (IntKind.u8.wrap (↑(BitVec.ofInt IntKind.u8.bits i10 ^^^ BitVec.ofInt IntKind.u8.bits (IntKind.u8.wrap (↑(BitVec.ofInt IntKind.u8.bits (IntKind.u8.wrap (↑(BitVec.ofInt IntKind.u8.bits (IntKind.u8.wrap (↑(BitVec.ofInt IntKind.u8.bits (IntKind.u8.wrap (↑(BitVec.ofInt IntKind.u8.bits i8 ^^^ BitVec.ofInt IntKind.u8.bits i9).toNat : Int)) ^^^ BitVec.ofInt IntKind.u8.bits i10).toNat : Int)) ^^^ BitVec.ofInt IntKind.u8.bits i11).toNat : Int)) ^^^ BitVec.ofInt IntKind.u8.bits i26).toNat : Int))).toNat : Int)), (IntKind.u8.wrap (↑(BitVec.ofInt IntKind.u8.bits i11 ^^^ BitVec.ofInt IntKind.u8.bits (IntKind.u8.wrap (↑(BitVec.ofInt IntKind.u8.bits (IntKind.u8.wrap (↑(BitVec.ofInt IntKind.u8.bits (IntKind.u8.wrap (↑(BitVec.ofInt IntKind.u8.bits (IntKind.u8.wrap (↑(BitVec.ofInt IntKind.u8.bits i8 ^^^ BitVec.ofInt IntKind.u8.bits i9).toNat : Int)) ^^^ BitVec.ofInt IntKind.u8.bits i10).toNat : Int)) ^^^ BitVec.ofInt IntKind.u8.bits i11).toNat : Int)) ^^^ BitVec.ofInt IntKind.u8.bits i27).toNat : Int))).toNat : Int)), (IntKind.u8.wrap (↑(BitVec.ofInt IntKind.u8.bits i12 ^^^ BitVec.ofInt IntKind.u8.bits (IntKind.u8.wrap (↑(BitVec.ofInt IntKind.u8.bits (IntKind.u8.wrap (↑(BitVec.ofInt IntKind.u8.bits (IntKind.u8.wrap (↑(BitVec.ofInt IntKind.u8.bits (IntKind.u8.wrap (↑(BitVec.ofInt IntKind.u8.bits i12 ^^^ BitVec.ofInt IntKind.u8.bits i13).toNat : Int)) ^^^ BitVec.ofInt IntKind.u8.bits i14).toNat : Int)) ^^^ BitVec.ofInt IntKind.u8.bits i15).toNat : Int)) ^^^ BitVec.ofInt IntKind.u8.bits i28).toNat : Int))).toNat : Int)), (IntKind.u8.wrap (↑(BitVec.ofInt IntKind.u8.bits i13 ^^^ BitVec.ofInt IntKind.u8.bits (IntKind.u8.wrap (↑(BitVec.ofInt IntKind.u8.bits (IntKind.u8.wrap (↑(BitVec.ofInt IntKind.u8.bits (IntKind.u8.wrap (↑(BitVec.ofInt IntKind.u8.bits (IntKind.u8.wrap (↑(BitVec.ofInt IntKind.u8.bits i12 ^^^ BitVec.ofInt IntKind.u8.bits i13).toNat : Int)) ^^^ BitVec.ofInt IntKind.u8.bits i14).toNat : Int)) ^^^ BitVec.ofInt IntKind.u8.bits i15).toNat : Int)) ^^^ BitVec.ofInt IntKind.u8.bits i29).toNat : Int))).toNat : Int)), (IntKind.u8.wrap (↑(BitVec.ofInt IntKind.u8.bits i14 ^^^ BitVec.ofInt IntKind.u8.bits (IntKind.u8.wrap (↑(BitVec.ofInt IntKind.u8.bits (IntKind.u8.wrap (↑(BitVec.ofInt IntKind.u8.bits (IntKind.u8.wrap (↑(BitVec.ofInt IntKind.u8.bits (IntKind.u8.wrap (↑(BitVec.ofInt IntKind.u8.bits i12 ^^^ BitVec.ofInt IntKind.u8.bits i13).toNat : Int)) ^^^ BitVec.ofInt IntKind.u8.bits i14).toNat : Int)) ^^^ BitVec.ofInt IntKind.u8.bits i15).toNat : Int)) ^^^ BitVec.ofInt IntKind.u8.bits i30).toNat : Int))).toNat : Int)), (IntKind.u8.wrap (↑(BitVec.ofInt IntKind.u8.bits i15 ^^^ BitVec.ofInt IntKind.u8.bits (IntKind.u8.wrap (↑(BitVec.ofInt IntKind.u8.bits (IntKind.u8.wrap (↑(BitVec.ofInt IntKind.u8.bits (IntKind.u8.wrap (↑(BitVec.ofInt IntKind.u8.bits (IntKind.u8.wrap (↑(BitVec.ofInt IntKind.u8.bits i12 ^^^ BitVec.ofInt IntKind.u8.bits i13).toNat : Int)) ^^^ BitVec.ofInt IntKind.u8.bits i14).toNat : Int)) ^^^ BitVec.ofInt IntKind.u8.bits i15).toNat : Int)) ^^^ BitVec.ofInt IntKind.u8.bits i31).toNat : Int))).toNat : Int))))))))))))))))))))
theorem F67_ok {i0 i1 i2 i3 i4 i5 i6 i7 i8 i9 i10 i11 i12 i13 i14 i15 : Int} {k : Nat} {r : Int × Int × Int × Int × Int × Int × Int × Int × Int × Int × Int × Int × Int × Int × Int × Int} (h : F67 k i0 i1 i2 i3 i4 i5 i6 i7 i8 i9 i10 i11 i12 i13 i14 i15 = some r) :
    cP ((k + 26)) 67 [V.agg [vb i0, vb i1, vb i2, vb i3, vb i4, vb i5, vb i6, vb i7, vb i8, vb i9, vb i10, vb i11, vb i12, vb i13, vb i14, vb i15]] = some (V.agg [vb r.1, vb r.2.1, vb r.2.2.1, vb r.2.2.2.1, vb r.2.2.2.2.1, vb r.2.2.2.2.2.1, vb r.2.2.2.2.2.2.1, vb r.2.2.2.2.2.2.2.1, vb r.2.2.2.2.2.2.2.2.1, vb r.2.2.2.2.2.2.2.2.2.1, vb r.2.2.2.2.2.2.2.2.2.2.1, vb r.2.2.2.2.2.2.2.2.2.2.2.1, vb r.2.2.2.2.2.2.2.2.2.2.2.2.1, vb r.2.2.2.2.2.2.2.2.2.2.2.2.2.1, vb r.2.2.2.2.2.2.2.2.2.2.2.2.2.2.1, vb r.2.2.2.2.2.2.2.2.2.2.2.2.2.2.2]) := by
  unfold F67 at h
  obtain ⟨i16, e0, h⟩ := bE h
  obtain ⟨i17, e1, h⟩ := bE h
  obtain ⟨i18, e2, h⟩ := bE h
  obtain ⟨i19, e3, h⟩ := bE h
  obtain ⟨i20, e4, h⟩ := bE h
  obtain ⟨i21, e5, h⟩ := bE h
  obtain ⟨i22, e6, h⟩ := bE h
  obtain ⟨i23, e7, h⟩ := bE h
  obtain ⟨i24, e8, h⟩ := bE h
  obtain ⟨i25, e9, h⟩ := bE h
  obtain ⟨i26, e10, h⟩ := bE h
  obtain ⟨i27, e11, h⟩ := bE h
  obtain ⟨i28, e12, h⟩ := bE h
  obtain ⟨i29, e13, h⟩ := bE h
  obtain ⟨i30, e14, h⟩ := bE h
  obtain ⟨i31, e15, h⟩ := bE h
  have h := Option.some.inj h; subst h; exact P67_0 i0 i1 i2 i3 i4 i5 i6 i7 i8 i9 i10 i11 i12 i13 i14 i15 i16 i17 i18 i19 i20 i21 i22 i23 i24 i25 i26 i27 i28 i29 i30 i31 k (F81_ok e0) (F81_ok e1) (F81_ok e2) (F81_ok e3) (F81_ok e4) (F81_ok e5) (F81_ok e6) (F81_ok e7) (F81_ok e8) (F81_ok e9) (F81_ok e10) (F81_ok e11) (F81_ok e12) (F81_ok e13) (F81_ok e14) (F81_ok e15)
def dAu8u8u8u8Z : V → Option (Int × Int × Int × Int)
  | V.agg [V.int .u8 a0, V.int .u8 a1, V.int .u8 a2, V.int .u8 a3] => some (a0, a1, a2, a3)
  | _ => none
theorem dAu8u8u8u8Z_ok {v : V} {a : Int × Int × Int × Int} (h : dAu8u8u8u8Z v = some a) : v = (fun (a : Int × Int × Int × Int) => V.agg [vb a.1, vb a.2.1, vb a.2.2.1, vb a.2.2.2] ) a := by
  unfold dAu8u8u8u8Z at h; split at h
  · cases h; rfl
  · cases h
theorem L61_1_b0 (i0 i5 i6 i7 i8 i9 i10 i11 : Int) (s0 : List UInt8) (x1 : List V) (k : Nat)
    (c0 : decide (i10 < 4) = true)
    (c1 : IdxR x1.length (wI (wI (4 * wI (i0 - wI ((↑s0.length : Int).tdiv 4))) + i10)) 1 1 (V.ept 0 (wI (wI (4 * wI (i0 - wI ((↑s0.length : Int).tdiv 4))) + i10)).toNat 0))
    (c2 : LdP Tryd.prog 5 x1 (wI (wI (4 * wI (i0 - wI ((↑s0.length : Int).tdiv 4))) + i10)).toNat 0 (vb i11))
    (c3 : IdxA 4 i10 1 (fun d => V.ptr 1 (0 + d)) (V.ptr 1 0))
    (c4 : GrdW ((1 : Nat) = (1 : Nat) ∧ (0 : Nat) < (1 : Nat) ∧ (1 : Nat) ≤ (64 : Nat) ∧ x1.length + (1 : Nat) ≤ maxLen') (V.ref (74 : Nat)) [((0 : Nat), Ob.dead), ((74 : Nat), Ob.row false (1 : Nat) (x1 ++ [vb (wB (↑(BitVec.ofInt IntKind.u8.bits i11 ^^^ BitVec.ofInt IntKind.u8.bits (x8 i5 i6)).toNat : Int))]))]) :
    eC k 17 0 61 (loopBody Tryd.f61 2) { tm := [(0, V.str s0), (2, V.sl (some true) true 0 []), (3, vi 0), (4, vi (wI ((↑s0.length : Int).tdiv 4))), (5, V.ref 0), (6, vi i0), (7, V.ptr 1 0), (22, V.bool false), (30, V.bool true), (42, V.bool true), (85, vi i10)], hp := [(0, Ob.row false 1 x1), (1, Ob.var [vb (x8 i5 i6), vb i7, vb i8, vb i9])], nx := 2 } = some (Exit.normal, { tm := [(0, V.str s0), (2, V.sl (some true) true 0 []), (3, vi 0), (4, vi (wI ((↑s0.length : Int).tdiv 4))), (5, V.ref 74), (6, vi i0), (7, V.ptr 1 0), (9, vi i10), (22, V.bool false), (30, V.bool true), (42, V.bool true), (85, vi (wI (i10 + 1))), (86, V.bool true)], hp := [(0, Ob.dead), (1, Ob.var [vb (x8 i5 i6), vb i7, vb i8, vb i9]), (70, Ob.row false 1 [vb (wB (↑(BitVec.ofInt IntKind.u8.bits i11 ^^^ BitVec.ofInt IntKind.u8.bits (x8 i5 i6)).toNat : Int))]), (74, Ob.row false 1 (x1 ++ [vb (wB (↑(BitVec.ofInt IntKind.u8.bits i11 ^^^ BitVec.ofInt IntKind.u8.bits (x8 i5 i6)).toNat : Int))]))], nx := 90 }) :=
  byL (k := k) (d := 17) [Hn.br 86 true, Hn.op 96 (V.ept 0 (wI (wI (4 * wI (i0 - wI ((↑s0.length : Int).tdiv 4))) + i10)).toNat 0) [], Hn.op 97 (vb i11) [], Hn.op 99 (V.ptr 1 0) [], Hn.op 103 (V.ref 74) [(0, Ob.dead), (74, Ob.row false 1 (x1 ++ [vb (wB (↑(BitVec.ofInt IntKind.u8.bits i11 ^^^ BitVec.ofInt IntKind.u8.bits (x8 i5 i6)).toNat : Int))]))]] (aI c0 (aI c1 (aI c2 (aI c3 (aI c4 trivial))))) (by kernel_rfl)
theorem L61_1_b0h (i0 i5 i6 i7 i8 i9 i10 i11 : Int) (s0 : List UInt8) (x1 : List V) : head 0 [0, 2, 3, 4, 5, 6, 7, 22, 30, 42, 85] (Tryd.cfg.fc 61).acc { tm := [(0, V.str s0), (2, V.sl (some true) true 0 []), (3, vi 0), (4, vi (wI ((↑s0.length : Int).tdiv 4))), (5, V.ref 74), (6, vi i0), (7, V.ptr 1 0), (9, vi i10), (22, V.bool false), (30, V.bool true), (42, V.bool true), (85, vi (wI (i10 + 1))), (86, V.bool true)], hp := [(0, Ob.dead), (1, Ob.var [vb (x8 i5 i6), vb i7, vb i8, vb i9]), (70, Ob.row false 1 [vb (wB (↑(BitVec.ofInt IntKind.u8.bits i11 ^^^ BitVec.ofInt IntKind.u8.bits (x8 i5 i6)).toNat : Int))]), (74, Ob.row false 1 (x1 ++ [vb (wB (↑(BitVec.ofInt IntKind.u8.bits i11 ^^^ BitVec.ofInt IntKind.u8.bits (x8 i5 i6)).toNat : Int))]))], nx := 90 } = { tm := [(0, V.str s0), (2, V.sl (some true) true 0 []), (3, vi 0), (4, vi (wI ((↑s0.length : Int).tdiv 4))), (5, V.ref 0), (6, vi i0), (7, V.ptr 1 0), (22, V.bool false), (30, V.bool true), (42, V.bool true), (85, vi (wI (i10 + 1)))], hp := [(0, Ob.row false 1 (x1 ++ [vb (wB (↑(BitVec.ofInt IntKind.u8.bits i11 ^^^ BitVec.ofInt IntKind.u8.bits (x8 i5 i6)).toNat : Int))])), (1, Ob.var [vb (x8 i5 i6), vb i7, vb i8, vb i9])], nx := 2 } := by kernel_rfl
theorem L61_1_b1 (i0 i5 i6 i7 i8 i9 i10 i11 : Int) (s0 : List UInt8) (x1 : List V) (k : Nat)
    (c0 : decide (i10 < 4) = true)
    (c1 : IdxR x1.length (wI (wI (4 * wI (i0 - wI ((↑s0.length : Int).tdiv 4))) + i10)) 1 1 (V.ept 0 (wI (wI (4 * wI (i0 - wI ((↑s0.length : Int).tdiv 4))) + i10)).toNat 0))
    (c2 : LdP Tryd.prog 5 x1 (wI (wI (4 * wI (i0 - wI ((↑s0.length : Int).tdiv 4))) + i10)).toNat 0 (vb i11))
    (c3 : IdxA 4 i10 1 (fun d => V.ptr 1 (0 + d)) (V.ptr 1 1))
    (c4 : GrdW ((1 : Nat) = (1 : Nat) ∧ (0 : Nat) < (1 : Nat) ∧ (1 : Nat) ≤ (64 : Nat) ∧ x1.length + (1 : Nat) ≤ maxLen') (V.ref (74 : Nat)) [((0 : Nat), Ob.dead), ((74 : Nat), Ob.row false (1 : Nat) (x1 ++ [vb (x8 i11 i7)]))]) :
    eC k 17 0 61 (loopBody Tryd.f61 2) { tm := [(0, V.str s0), (2, V.sl (some true) true 0 []), (3, vi 0), (4, vi (wI ((↑s0.length : Int).tdiv 4))), (5, V.ref 0), (6, vi i0), (7, V.ptr 1 0), (22, V.bool false), (30, V.bool true), (42, V.bool true), (85, vi i10)], hp := [(0, Ob.row false 1 x1), (1, Ob.var [vb (x8 i5 i6), vb i7, vb i8, vb i9])], nx := 2 } = some (Exit.normal, { tm := [(0, V.str s0), (2, V.sl (some true) true 0 []), (3, vi 0), (4, vi (wI ((↑s0.length : Int).tdiv 4))), (5, V.ref 74), (6, vi i0), (7, V.ptr 1 0), (9, vi i10), (22, V.bool false), (30, V.bool true), (42, V.bool true), (85, vi (wI (i10 + 1))), (86, V.bool true)], hp := [(0, Ob.dead), (1, Ob.var [vb (x8 i5 i6), vb i7, vb i8, vb i9]), (70, Ob.row false 1 [vb (x8 i11 i7)]), (74, Ob.row false 1 (x1 ++ [vb (x8 i11 i7)]))], nx := 90 }) :=
  byL (k := k) (d := 17) [Hn.br 86 true, Hn.op 96 (V.ept 0 (wI (wI (4 * wI (i0 - wI ((↑s0.length : Int).tdiv 4))) + i10)).toNat 0) [], Hn.op 97 (vb i11) [], Hn.op 99 (V.ptr 1 1) [], Hn.op 103 (V.ref 74) [(0, Ob.dead), (74, Ob.row false 1 (x1 ++ [vb (x8 i11 i7)]))]] (aI c0 (aI c1 (aI c2 (aI c3 (aI c4 trivial))))) (by kernel_rfl)
theorem L61_1_b1h (i0 i5 i6 i7 i8 i9 i10 i11 : Int) (s0 : List UInt8) (x1 : List V) : head 0 [0, 2, 3, 4, 5, 6, 7, 22, 30, 42, 85] (Tryd.cfg.fc 61).acc { tm := [(0, V.str s0), (2, V.sl (some true) true 0 []), (3, vi 0), (4, vi (wI ((↑s0.length : Int).tdiv 4))), (5, V.ref 74), (6, vi i0), (7, V.ptr 1 0), (9, vi i10), (22, V.bool false), (30, V.bool true), (42, V.bool true), (85, vi (wI (i10 + 1))), (86, V.bool true)], hp := [(0, Ob.dead), (1, Ob.var [vb (x8 i5 i6), vb i7, vb i8, vb i9]), (70, Ob.row false 1 [vb (x8 i11 i7)]), (74, Ob.row false 1 (x1 ++ [vb (x8 i11 i7)]))], nx := 90 } = { tm := [(0, V.str s0), (2, V.sl (some true) true 0 []), (3, vi 0), (4, vi (wI ((↑s0.length : Int).tdiv 4))), (5, V.ref 0), (6, vi i0), (7, V.ptr 1 0), (22, V.bool false), (30, V.bool true), (42, V.bool true), (85, vi (wI (i10 + 1)))], hp := [(0, Ob.row false 1 (x1 ++ [vb (x8 i11 i7)])), (1, Ob.var [vb (x8 i5 i6), vb i7, vb i8, vb i9])], nx := 2 } := by kernel_rfl
theorem L61_1_b2 (i0 i5 i6 i7 i8 i9 i10 i11 : Int) (s0 : List UInt8) (x1 : List V) (k : Nat)
    (c0 : decide (i10 < 4) = true)
    (c1 : IdxR x1.length (wI (wI (4 * wI (i0 - wI ((↑s0.length : Int).tdiv 4))) + i10)) 1 1 (V.ept 0 (wI (wI (4 * wI (i0 - wI ((↑s0.length : Int).tdiv 4))) + i10)).toNat 0))
    (c2 : LdP Tryd.prog 5 x1 (wI (wI (4 * wI (i0 - wI ((↑s0.length : Int).tdiv 4))) + i10)).toNat 0 (vb i11))
    (c3 : IdxA 4 i10 1 (fun d => V.ptr 1 (0 + d)) (V.ptr 1 2))
    (c4 : GrdW ((1 : Nat) = (1 : Nat) ∧ (0 : Nat) < (1 : Nat) ∧ (1 : Nat) ≤ (64 : Nat) ∧ x1.length + (1 : Nat) ≤ maxLen') (V.ref (74 : Nat)) [((0 : Nat), Ob.dead), ((74 : Nat), Ob.row false (1 : Nat) (x1 ++ [vb (x8 i11 i8)]))]) :
    eC k 17 0 61 (loopBody Tryd.f61 2) { tm := [(0, V.str s0), (2, V.sl (some true) true 0 []), (3, vi 0), (4, vi (wI ((↑s0.length : Int).tdiv 4))), (5, V.ref 0), (6, vi i0), (7, V.ptr 1 0), (22, V.bool false), (30, V.bool true), (42, V.bool true), (85, vi i10)], hp := [(0, Ob.row false 1 x1), (1, Ob.var [vb (x8 i5 i6), vb i7, vb i8, vb i9])], nx := 2 } = some (Exit.normal, { tm := [(0, V.str s0), (2, V.sl (some true) true 0 []), (3, vi 0), (4, vi (wI ((↑s0.length : Int).tdiv 4))), (5, V.ref 74), (6, vi i0), (7, V.ptr 1 0), (9, vi i10), (22, V.bool false), (30, V.bool true), (42, V.bool true), (85, vi (wI (i10 + 1))), (86, V.bool true)], hp := [(0, Ob.dead), (1, Ob.var [vb (x8 i5 i6), vb i7, vb i8, vb i9]), (70, Ob.row false 1 [vb (x8 i11 i8)]), (74, Ob.row false 1 (x1 ++ [vb (x8 i11 i8)]))], nx := 90 }) :=
  byL (k := k) (d := 17) [Hn.br 86 true, Hn.op 96 (V.ept 0 (wI (wI (4 * wI (i0 - wI ((↑s0.length : Int).tdiv 4))) + i10)).toNat 0) [], Hn.op 97 (vb i11) [], Hn.op 99 (V.ptr 1 2) [], Hn.op 103 (V.ref 74) [(0, Ob.dead), (74, Ob.row false 1 (x1 ++ [vb (x8 i11 i8)]))]] (aI c0 (aI c1 (aI c2 (aI c3 (aI c4 trivial))))) (by kernel_rfl)
theorem L61_1_b2h (i0 i5 i6 i7 i8 i9 i10 i11 : Int) (s0 : List UInt8) (x1 : List V) : head 0 [0, 2, 3, 4, 5, 6, 7, 22, 30, 42, 85] (Tryd.cfg.fc 61).acc { tm := [(0, V.str s0), (2, V.sl (some true) true 0 []), (3, vi 0), (4, vi (wI ((↑s0.length : Int).tdiv 4))), (5, V.ref 74), (6, vi i0), (7, V.ptr 1 0), (9, vi i10), (22, V.bool false), (30, V.bool true), (42, V.bool true), (85, vi (wI (i10 + 1))), (86, V.bool true)], hp := [(0, Ob.dead), (1, Ob.var [vb (x8 i5 i6), vb i7, vb i8, vb i9]), (70, Ob.row false 1 [vb (x8 i11 i8)]), (74, Ob.row false 1 (x1 ++ [vb (x8 i11 i8)]))], nx := 90 } = { tm := [(0, V.str s0), (2, V.sl (some true) true 0 []), (3, vi 0), (4, vi (wI ((↑s0.length : Int).tdiv 4))), (5, V.ref 0), (6, vi i0), (7, V.ptr 1 0), (22, V.bool false), (30, V.bool true), (42, V.bool true), (85, vi (wI (i10 + 1)))], hp := [(0, Ob.row false 1 (x1 ++ [vb (x8 i11 i8)])), (1, Ob.var [vb (x8 i5 i6), vb i7, vb i8, vb i9])], nx := 2 } := by kernel_rfl
theorem L61_1_b3 (i0 i5 i6 i7 i8 i9 i10 i11 : Int) (s0 : List UInt8) (x1 : List V) (k : Nat)
    (c0 : decide (i10 < 4) = true)
    (c1 : IdxR x1.length (wI (wI (4 * wI (i0 - wI ((↑s0.length : Int).tdiv 4))) + i10)) 1 1 (V.ept 0 (wI (wI (4 * wI (i0 - wI ((↑s0.length : Int).tdiv 4))) + i10)).toNat 0))
    (c2 : LdP Tryd.prog 5 x1 (wI (wI (4 * wI (i0 - wI ((↑s0.length : Int).tdiv 4))) + i10)).toNat 0 (vb i11))
    (c3 : IdxA 4 i10 1 (fun d => V.ptr 1 (0 + d)) (V.ptr 1 3))
    (c4 : GrdW ((1 : Nat) = (1 : Nat) ∧ (0 : Nat) < (1 : Nat) ∧ (1 : Nat) ≤ (64 : Nat) ∧ x1.length + (1 : Nat) ≤ maxLen') (V.ref (74 : Nat)) [((0 : Nat), Ob.dead), ((74 : Nat), Ob.row false (1 : Nat) (x1 ++ [vb (x8 i11 i9)]))]) :
    eC k 17 0 61 (loopBody Tryd.f61 2) { tm := [(0, V.str s0), (2, V.sl (some true) true 0 []), (3, vi 0), (4, vi (wI ((↑s0.length : Int).tdiv 4))), (5, V.ref 0), (6, vi i0), (7, V.ptr 1 0), (22, V.bool false), (30, V.bool true), (42, V.bool true), (85, vi i10)], hp := [(0, Ob.row false 1 x1), (1, Ob.var [vb (x8 i5 i6), vb i7, vb i8, vb i9])], nx := 2 } = some (Exit.normal, { tm := [(0, V.str s0), (2, V.sl (some true) true 0 []), (3, vi 0), (4, vi (wI ((↑s0.length : Int).tdiv 4))), (5, V.ref 74), (6, vi i0), (7, V.ptr 1 0), (9, vi i10), (22, V.bool false), (30, V.bool true), (42, V.bool true), (85, vi (wI (i10 + 1))), (86, V.bool true)], hp := [(0, Ob.dead), (1, Ob.var [vb (x8 i5 i6), vb i7, vb i8, vb i9]), (70, Ob.row false 1 [vb (x8 i11 i9)]), (74, Ob.row false 1 (x1 ++ [vb (x8 i11 i9)]))], nx := 90 }) :=
  byL (k := k) (d := 17) [Hn.br 86 true, Hn.op 96 (V.ept 0 (wI (wI (4 * wI (i0 - wI ((↑s0.length : Int).tdiv 4))) + i10)).toNat 0) [], Hn.op 97 (vb i11) [], Hn.op 99 (V.ptr 1 3) [], Hn.op 103 (V.ref 74) [(0, Ob.dead), (74, Ob.row false 1 (x1 ++ [vb (x8 i11 i9)]))]] (aI c0 (aI c1 (aI c2 (aI c3 (aI c4 trivial))))) (by kernel_rfl)
theorem L61_1_b3h (i0 i5 i6 i7 i8 i9 i10 i11 : Int) (s0 : List UInt8) (x1 : List V) : head 0 [0, 2, 3, 4, 5, 6, 7, 22, 30, 42, 85] (Tryd.cfg.fc 61).acc { tm := [(0, V.str s0), (2, V.sl (some true) true 0 []), (3, vi 0), (4, vi (wI ((↑s0.length : Int).tdiv 4))), (5, V.ref 74), (6, vi i0), (7, V.ptr 1 0), (9, vi i10), (22, V.bool false), (30, V.bool true), (42, V.bool true), (85, vi (wI (i10 + 1))), (86, V.bool true)], hp := [(0, Ob.dead), (1, Ob.var [vb (x8 i5 i6), vb i7, vb i8, vb i9]), (70, Ob.row false 1 [vb (x8 i11 i9)]), (74, Ob.row false 1 (x1 ++ [vb (x8 i11 i9)]))], nx := 90 } = { tm := [(0, V.str s0), (2, V.sl (some true) true 0 []), (3, vi 0), (4, vi (wI ((↑s0.length : Int).tdiv 4))), (5, V.ref 0), (6, vi i0), (7, V.ptr 1 0), (22, V.bool false), (30, V.bool true), (42, V.bool true), (85, vi (wI (i10 + 1)))], hp := [(0, Ob.row false 1 (x1 ++ [vb (x8 i11 i9)])), (1, Ob.var [vb (x8 i5 i6), vb i7, vb i8, vb i9])], nx := 2 } := by kernel_rfl
theorem L61_1_b4 (i0 i5 i6 i7 i8 i9 i10 : Int) (s0 : List UInt8) (x1 : List V) (k : Nat)
    (c0 : decide (i10 < 4) = false) :
    eC k 17 0 61 (loopBody Tryd.f61 2) { tm := [(0, V.str s0), (2, V.sl (some true) true 0 []), (3, vi 0), (4, vi (wI ((↑s0.length : Int).tdiv 4))), (5, V.ref 0), (6, vi i0), (7, V.ptr 1 0), (22, V.bool false), (30, V.bool true), (42, V.bool true), (85, vi i10)], hp := [(0, Ob.row false 1 x1), (1, Ob.var [vb (x8 i5 i6), vb i7, vb i8, vb i9])], nx := 2 } = some (Exit.exit 5, { tm := [(0, V.str s0), (2, V.sl (some true) true 0 []), (3, vi 0), (4, vi (wI ((↑s0.length : Int).tdiv 4))), (5, V.ref 0), (6, vi i0), (7, V.ptr 1 0), (22, V.bool false), (30, V.bool true), (42, V.bool true), (85, vi i10), (86, V.bool false)], hp := [(0, Ob.row false 1 x1), (1, Ob.var [vb (x8 i5 i6), vb i7, vb i8, vb i9])], nx := 6 }) :=
  byL (k := k) (d := 17) [Hn.br 86 false] (aI c0 trivial) (by kernel_rfl)
inductive L61_1_R where
  | e0 (i10 : Int) (x1 : List V)
noncomputable def L61_1_end (i0 : Int) (i5 : Int) (i6 : Int) (i7 : Int) (i8 : Int) (i9 : Int) (s0 : List UInt8) : L61_1_R → Exit × St
  | .e0 i10 x1 => (Exit.exit 5, { tm := [(0, V.str s0), (2, V.sl (some true) true 0 []), (3, V.int .i64 0), (4, V.int .i64 (IntKind.i64.wrap ((↑s0.length : Int).tdiv 4))), (5, V.ref 0), (6, V.int .i64 i0), (7, V.ptr 1 0), (22, V.bool false), (30, V.bool true), (42, V.bool true), (85, V.int .i64 i10), (86, V.bool false)], hp := [(0, Ob.row false 1 x1), (1, Ob.var [V.int .u8 (IntKind.u8.wrap (↑(BitVec.ofInt IntKind.u8.bits i5 ^^^ BitVec.ofInt IntKind.u8.bits i6).toNat : Int)), V.int .u8 i7, V.int .u8 i8, V.int .u8 i9])], nx := 6 })
def L61_1 (k : Nat) (i0 i5 i6 i7 i8 i9 : Int) (s0 : List UInt8) : Nat → Int → List V → Option L61_1_R
  | 0, _, _ => none
  | f + 1, i10, x1 => (bif decide (i10 < 4) then (guardP ((0 : Int) ≤ IntKind.i64.wrap (IntKind.i64.wrap ((4 : Int) * IntKind.i64.wrap (i0 - IntKind.i64.wrap ((↑s0.length : Int).tdiv (4 : Int)))) + i10) ∧ IntKind.i64.wrap (IntKind.i64.wrap ((4 : Int) * IntKind.i64.wrap (i0 - IntKind.i64.wrap ((↑s0.length : Int).tdiv (4 : Int)))) + i10) < (↑x1.length : Int)) ((((x1)[(IntKind.i64.wrap (IntKind.i64.wrap (4 * IntKind.i64.wrap (i0 - IntKind.i64.wrap ((↑s0.length : Int).tdiv 4))) + i10)).toNat]?).bind (dI IntKind.u8)).bind fun i11 => (bif decide (i10 = 0) then (guardP (x1.length + (1 : Nat) ≤ maxLen') (L61_1 k i0 i5 i6 i7 i8 i9 s0 f (IntKind.i64.wrap (i10 + 1)) (x1 ++ [V.int .u8 (IntKind.u8.wrap (↑(BitVec.ofInt IntKind.u8.bits i11 ^^^ BitVec.ofInt IntKind.u8.bits (IntKind.u8.wrap (↑(BitVec.ofInt IntKind.u8.bits i5 ^^^ BitVec.ofInt IntKind.u8.bits i6).toNat : Int))).toNat : Int))]))) else (bif decide (i10 = 1) then (guardP (x1.length + (1 : Nat) ≤ maxLen') (L61_1 k i0 i5 i6 i7 i8 i9 s0 f (IntKind.i64.wrap (i10 + 1)) (x1 ++ [V.int .u8 (IntKind.u8.wrap (↑(BitVec.ofInt IntKind.u8.bits i11 ^^^ BitVec.ofInt IntKind.u8.bits i7).toNat : Int))]))) else (bif decide (i10 = 2) then (guardP (x1.length + (1 : Nat) ≤ maxLen') (L61_1 k i0 i5 i6 i7 i8 i9 s0 f (IntKind.i64.wrap (i10 + 1)) (x1 ++ [V.int .u8 (IntKind.u8.wrap (↑(BitVec.ofInt IntKind.u8.bits i11 ^^^ BitVec.ofInt IntKind.u8.bits i8).toNat : Int))]))) else (bif decide (i10 = 3) then (guardP (x1.length + (1 : Nat) ≤ maxLen') (L61_1 k i0 i5 i6 i7 i8 i9 s0 f (IntKind.i64.wrap (i10 + 1)) (x1 ++ [V.int .u8 (IntKind.u8.wrap (↑(BitVec.ofInt IntKind.u8.bits i11 ^^^ BitVec.ofInt IntKind.u8.bits i9).toNat : Int))]))) else none)))))) else (some (L61_1_R.e0 i10 x1)))
theorem L61_1_ok {i0 i5 i6 i7 i8 i9 : Int} {s0 : List UInt8} {k : Nat} : ∀ {f : Nat} {i10 : Int} {x1 : List V} {r : L61_1_R}, L61_1 k i0 i5 i6 i7 i8 i9 s0 f i10 x1 = some r →
    LoopsN Tryd.prog Tryd.cfg (k + 17) 0 Tryd.f61 (Tryd.cfg.fc 61) 2 [0, 2, 3, 4, 5, 6, 7, 22, 30, 42, 85] f { tm := [(0, V.str s0), (2, V.sl (some true) true 0 []), (3, vi 0), (4, vi (wI ((↑s0.length : Int).tdiv 4))), (5, V.ref 0), (6, vi i0), (7, V.ptr 1 0), (22, V.bool false), (30, V.bool true), (42, V.bool true), (85, vi i10)], hp := [(0, Ob.row false 1 x1), (1, Ob.var [vb (x8 i5 i6), vb i7, vb i8, vb i9])], nx := 2 } (L61_1_end i0 i5 i6 i7 i8 i9 s0 r) := by
  intro f
  induction f with
  | zero => intro i10 x1 r h; cases h
  | succ f ih =>
    intro i10 x1 r h
    rw [L61_1] at h
    rcases cond_elim h with ⟨e0, h⟩ | ⟨e0, h⟩
    ·
      obtain ⟨e1, h⟩ := guardP_some.1 h
      obtain ⟨i11, e2, h⟩ := bE h
      rcases cond_elim h with ⟨e3, h⟩ | ⟨e3, h⟩
      ·
        obtain ⟨e4, h⟩ := guardP_some.1 h
        exact LoopsN.next (L61_1_b0 i0 i5 i6 i7 i8 i9 i10 i11 s0 x1 k e0 (IdxR.mk' e1 rfl) (LdP.mk (get_d dI_ok e2 :) (by kernel_rfl)) (IdxA.mk 0 e3 (by decide) (by decide) rfl) (GrdW.mk ⟨rfl, by decide, by decide, e4⟩)) (L61_1_b0h i0 i5 i6 i7 i8 i9 i10 i11 s0 x1) (ih h)
      ·
        rcases cond_elim h with ⟨e4, h⟩ | ⟨e4, h⟩
        ·
          obtain ⟨e5, h⟩ := guardP_some.1 h
          exact LoopsN.next (L61_1_b1 i0 i5 i6 i7 i8 i9 i10 i11 s0 x1 k e0 (IdxR.mk' e1 rfl) (LdP.mk (get_d dI_ok e2 :) (by kernel_rfl)) (IdxA.mk 1 e4 (by decide) (by decide) rfl) (GrdW.mk ⟨rfl, by decide, by decide, e5⟩)) (L61_1_b1h i0 i5 i6 i7 i8 i9 i10 i11 s0 x1) (ih h)
        ·
          rcases cond_elim h with ⟨e5, h⟩ | ⟨e5, h⟩
          ·
            obtain ⟨e6, h⟩ := guardP_some.1 h
            exact LoopsN.next (L61_1_b2 i0 i5 i6 i7 i8 i9 i10 i11 s0 x1 k e0 (IdxR.mk' e1 rfl) (LdP.mk (get_d dI_ok e2 :) (by kernel_rfl)) (IdxA.mk 2 e5 (by decide) (by decide) rfl) (GrdW.mk ⟨rfl, by decide, by decide, e6⟩)) (L61_1_b2h i0 i5 i6 i7 i8 i9 i10 i11 s0 x1) (ih h)
          ·
            rcases cond_elim h with ⟨e6, h⟩ | ⟨e6, h⟩
            ·
              obtain ⟨e7, h⟩ := guardP_some.1 h
              exact LoopsN.next (L61_1_b3 i0 i5 i6 i7 i8 i9 i10 i11 s0 x1 k e0 (IdxR.mk' e1 rfl) (LdP.mk (get_d dI_ok e2 :) (by kernel_rfl)) (IdxA.mk 3 e6 (by decide) (by decide) rfl) (GrdW.mk ⟨rfl, by decide, by decide, e7⟩)) (L61_1_b3h i0 i5 i6 i7 i8 i9 i10 i11 s0 x1) (ih h)
            ·
              cases h
    ·
      cases h; exact LoopsN.done (L61_1_b4 i0 i5 i6 i7 i8 i9 i10 s0 x1 k e0) (fun h => by cases h)
theorem L61_2_b0 (i0 i5 i6 i7 i8 i9 i10 : Int) (s0 : List UInt8) (x0 : List V) (k : Nat)
    (c0 : decide (i5 < 4) = true)
    (c1 : IdxA 4 i5 1 (fun d => V.ptr 1 (0 + d)) (V.ptr 1 0))
    (c2 : cP ((k + 17)) 79 [vb i6] = some (vb i10))
    (c3 : IdxA 4 i5 1 (fun d => V.ptr 1 (0 + d)) (V.ptr 1 0)) :
    eC k 17 0 61 (loopBody Tryd.f61 1) { tm := [(0, V.str s0), (2, V.sl (some true) true 0 []), (3, vi 0), (4, vi (wI ((↑s0.length : Int).tdiv 4))), (5, V.ref 0), (6, vi i0), (7, V.ptr 1 0), (22, V.bool false), (30, V.bool true), (42, V.bool false), (66, V.bool true), (75, vi i5)], hp := [(0, Ob.row false 1 x0), (1, Ob.var [vb i6, vb i7, vb i8, vb i9])], nx := 2 } = some (Exit.normal, { tm := [(0, V.str s0), (2, V.sl (some true) true 0 []), (3, vi 0), (4, vi (wI ((↑s0.length : Int).tdiv 4))), (5, V.ref 0), (6, vi i0), (7, V.ptr 1 0), (8, vi i5), (22, V.bool false), (30, V.bool true), (42, V.bool false), (66, V.bool true), (75, vi (wI (i5 + 1))), (76, V.bool true)], hp := [(0, Ob.row false 1 x0), (1, Ob.var [vb i10, vb i7, vb i8, vb i9])], nx := 50 }) :=
  byL (k := k) (d := 17) [Hn.br 76 true, Hn.op 80 (V.ptr 1 0) [], Hn.call 82 (vb i10), Hn.op 83 (V.ptr 1 0) []] (aI c0 (aI c1 (aI c2 (aI c3 trivial)))) (by kernel_rfl)
theorem L61_2_b0h (i0 i5 i7 i8 i9 i10 : Int) (s0 : List UInt8) (x0 : List V) : head 0 [0, 2, 3, 4, 5, 6, 7, 22, 30, 42, 66, 75] (Tryd.cfg.fc 61).acc { tm := [(0, V.str s0), (2, V.sl (some true) true 0 []), (3, vi 0), (4, vi (wI ((↑s0.length : Int).tdiv 4))), (5, V.ref 0), (6, vi i0), (7, V.ptr 1 0), (8, vi i5), (22, V.bool false), (30, V.bool true), (42, V.bool false), (66, V.bool true), (75, vi (wI (i5 + 1))), (76, V.bool true)], hp := [(0, Ob.row false 1 x0), (1, Ob.var [vb i10, vb i7, vb i8, vb i9])], nx := 50 } = { tm := [(0, V.str s0), (2, V.sl (some true) true 0 []), (3, vi 0), (4, vi (wI ((↑s0.length : Int).tdiv 4))), (5, V.ref 0), (6, vi i0), (7, V.ptr 1 0), (22, V.bool false), (30, V.bool true), (42, V.bool false), (66, V.bool true), (75, vi (wI (i5 + 1)))], hp := [(0, Ob.row false 1 x0), (1, Ob.var [vb i10, vb i7, vb i8, vb i9])], nx := 2 } := by kernel_rfl
theorem L61_2_b1 (i0 i5 i6 i7 i8 i9 i10 : Int) (s0 : List UInt8) (x0 : List V) (k : Nat)
    (c0 : decide (i5 < 4) = true)
    (c1 : IdxA 4 i5 1 (fun d => V.ptr 1 (0 + d)) (V.ptr 1 1))
    (c2 : cP ((k + 17)) 79 [vb i7] = some (vb i10))
    (c3 : IdxA 4 i5 1 (fun d => V.ptr 1 (0 + d)) (V.ptr 1 1)) :
    eC k 17 0 61 (loopBody Tryd.f61 1) { tm := [(0, V.str s0), (2, V.sl (some true) true 0 []), (3, vi 0), (4, vi (wI ((↑s0.length : Int).tdiv 4))), (5, V.ref 0), (6, vi i0), (7, V.ptr 1 0), (22, V.bool false), (30, V.bool true), (42, V.bool false), (66, V.bool true), (75, vi i5)], hp := [(0, Ob.row false 1 x0), (1, Ob.var [vb i6, vb i7, vb i8, vb i9])], nx := 2 } = some (Exit.normal, { tm := [(0, V.str s0), (2, V.sl (some true) true 0 []), (3, vi 0), (4, vi (wI ((↑s0.length : Int).tdiv 4))), (5, V.ref 0), (6, vi i0), (7, V.ptr 1 0), (8, vi i5), (22, V.bool false), (30, V.bool true), (42, V.bool false), (66, V.bool true), (75, vi (wI (i5 + 1))), (76, V.bool true)], hp := [(0, Ob.row false 1 x0), (1, Ob.var [vb i6, vb i10, vb i8, vb i9])], nx := 50 }) :=
  byL (k := k) (d := 17) [Hn.br 76 true, Hn.op 80 (V.ptr 1 1) [], Hn.call 82 (vb i10), Hn.op 83 (V.ptr 1 1) []] (aI c0 (aI c1 (aI c2 (aI c3 trivial)))) (by kernel_rfl)
theorem L61_2_b1h (i0 i5 i6 i8 i9 i10 : Int) (s0 : List UInt8) (x0 : List V) : head 0 [0, 2, 3, 4, 5, 6, 7, 22, 30, 42, 66, 75] (Tryd.cfg.fc 61).acc { tm := [(0, V.str s0), (2, V.sl (some true) true 0 []), (3, vi 0), (4, vi (wI ((↑s0.length : Int).tdiv 4))), (5, V.ref 0), (6, vi i0), (7, V.ptr 1 0), (8, vi i5), (22, V.bool false), (30, V.bool true), (42, V.bool false), (66, V.bool true), (75, vi (wI (i5 + 1))), (76, V.bool true)], hp := [(0, Ob.row false 1 x0), (1, Ob.var [vb i6, vb i10, vb i8, vb i9])], nx := 50 } = { tm := [(0, V.str s0), (2, V.sl (some true) true 0 []), (3, vi 0), (4, vi (wI ((↑s0.length : Int).tdiv 4))), (5, V.ref 0), (6, vi i0), (7, V.ptr 1 0), (22, V.bool false), (30, V.bool true), (42, V.bool false), (66, V.bool true), (75, vi (wI (i5 + 1)))], hp := [(0, Ob.row false 1 x0), (1, Ob.var [vb i6, vb i10, vb i8, vb i9])], nx := 2 } := by kernel_rfl
theorem L61_2_b2 (i0 i5 i6 i7 i8 i9 i10 : Int) (s0 : List UInt8) (x0 : List V) (k : Nat)
    (c0 : decide (i5 < 4) = true)
    (c1 : IdxA 4 i5 1 (fun d => V.ptr 1 (0 + d)) (V.ptr 1 2))
    (c2 : cP ((k + 17)) 79 [vb i8] = some (vb i10))
    (c3 : IdxA 4 i5 1 (fun d => V.ptr 1 (0 + d)) (V.ptr 1 2)) :
    eC k 17 0 61 (loopBody Tryd.f61 1) { tm := [(0, V.str s0), (2, V.sl (some true) true 0 []), (3, vi 0), (4, vi (wI ((↑s0.length : Int).tdiv 4))), (5, V.ref 0), (6, vi i0), (7, V.ptr 1 0), (22, V.bool false), (30, V.bool true), (42, V.bool false), (66, V.bool true), (75, vi i5)], hp := [(0, Ob.row false 1 x0), (1, Ob.var [vb i6, vb i7, vb i8, vb i9])], nx := 2 } = some (Exit.normal, { tm := [(0, V.str s0), (2, V.sl (some true) true 0 []), (3, vi 0), (4, vi (wI ((↑s0.length : Int).tdiv 4))), (5, V.ref 0), (6, vi i0), (7, V.ptr 1 0), (8, vi i5), (22, V.bool false), (30, V.bool true), (42, V.bool false), (66, V.bool true), (75, vi (wI (i5 + 1))), (76, V.bool true)], hp := [(0, Ob.row false 1 x0), (1, Ob.var [vb i6, vb i7, vb i10, vb i9])], nx := 50 }) :=
  byL (k := k) (d := 17) [Hn.br 76 true, Hn.op 80 (V.ptr 1 2) [], Hn.call 82 (vb i10), Hn.op 83 (V.ptr 1 2) []] (aI c0 (aI c1 (aI c2 (aI c3 trivial)))) (by kernel_rfl)
theorem L61_2_b2h (i0 i5 i6 i7 i9 i10 : Int) (s0 : List UInt8) (x0 : List V) : head 0 [0, 2, 3, 4, 5, 6, 7, 22, 30, 42, 66, 75] (Tryd.cfg.fc 61).acc { tm := [(0, V.str s0), (2, V.sl (some true) true 0 []), (3, vi 0), (4, vi (wI ((↑s0.length : Int).tdiv 4))), (5, V.ref 0), (6, vi i0), (7, V.ptr 1 0), (8, vi i5), (22, V.bool false), (30, V.bool true), (42, V.bool false), (66, V.bool true), (75, vi (wI (i5 + 1))), (76, V.bool true)], hp := [(0, Ob.row false 1 x0), (1, Ob.var [vb i6, vb i7, vb i10, vb i9])], nx := 50 } = { tm := [(0, V.str s0), (2, V.sl (some true) true 0 []), (3, vi 0), (4, vi (wI ((↑s0.length : Int).tdiv 4))), (5, V.ref 0), (6, vi i0), (7, V.ptr 1 0), (22, V.bool false), (30, V.bool true), (42, V.bool false), (66, V.bool true), (75, vi (wI (i5 + 1)))], hp := [(0, Ob.row false 1 x0), (1, Ob.var [vb i6, vb i7, vb i10, vb i9])], nx := 2 } := by kernel_rfl
theorem L61_2_b3 (i0 i5 i6 i7 i8 i9 i10 : Int) (s0 : List UInt8) (x0 : List V) (k : Nat)
    (c0 : decide (i5 < 4) = true)
    (c1 : IdxA 4 i5 1 (fun d => V.ptr 1 (0 + d)) (V.ptr 1 3))
    (c2 : cP ((k + 17)) 79 [vb i9] = some (vb i10))
    (c3 : IdxA 4 i5 1 (fun d => V.ptr 1 (0 + d)) (V.ptr 1 3)) :
    eC k 17 0 61 (loopBody Tryd.f61 1) { tm := [(0, V.str s0), (2, V.sl (some true) true 0 []), (3, vi 0), (4, vi (wI ((↑s0.length : Int).tdiv 4))), (5, V.ref 0), (6, vi i0), (7, V.ptr 1 0), (22, V.bool false), (30, V.bool true), (42, V.bool false), (66, V.bool true), (75, vi i5)], hp := [(0, Ob.row false 1 x0), (1, Ob.var [vb i6, vb i7, vb i8, vb i9])], nx := 2 } = some (Exit.normal, { tm := [(0, V.str s0), (2, V.sl (some true) true 0 []), (3, vi 0), (4, vi (wI ((↑s0.length : Int).tdiv 4))), (5, V.ref 0), (6, vi i0), (7, V.ptr 1 0), (8, vi i5), (22, V.bool false), (30, V.bool true), (42, V.bool false), (66, V.bool true), (75, vi (wI (i5 + 1))), (76, V.bool true)], hp := [(0, Ob.row false 1 x0), (1, Ob.var [vb i6, vb i7, vb i8, vb i10])], nx := 50 }) :=
  byL (k := k) (d := 17) [Hn.br 76 true, Hn.op 80 (V.ptr 1 3) [], Hn.call 82 (vb i10), Hn.op 83 (V.ptr 1 3) []] (aI c0 (aI c1 (aI c2 (aI c3 trivial)))) (by kernel_rfl)
theorem L61_2_b3h (i0 i5 i6 i7 i8 i10 : Int) (s0 : List UInt8) (x0 : List V) : head 0 [0, 2, 3, 4, 5, 6, 7, 22, 30, 42, 66, 75] (Tryd.cfg.fc 61).acc { tm := [(0, V.str s0), (2, V.sl (some true) true 0 []), (3, vi 0), (4, vi (wI ((↑s0.length : Int).tdiv 4))), (5, V.ref 0), (6, vi i0), (7, V.ptr 1 0), (8, vi i5), (22, V.bool false), (30, V.bool true), (42, V.bool false), (66, V.bool true), (75, vi (wI (i5 + 1))), (76, V.bool true)], hp := [(0, Ob.row false 1 x0), (1, Ob.var [vb i6, vb i7, vb i8, vb i10])], nx := 50 } = { tm := [(0, V.str s0), (2, V.sl (some true) true 0 []), (3, vi 0), (4, vi (wI ((↑s0.length : Int).tdiv 4))), (5, V.ref 0), (6, vi i0), (7, V.ptr 1 0), (22, V.bool false), (30, V.bool true), (42, V.bool false), (66, V.bool true), (75, vi (wI (i5 + 1)))], hp := [(0, Ob.row false 1 x0), (1, Ob.var [vb i6, vb i7, vb i8, vb i10])], nx := 2 } := by kernel_rfl
theorem L61_2_b4 (i0 i5 i6 i7 i8 i9 : Int) (s0 : List UInt8) (x0 : List V) (k : Nat)
    (c0 : decide (i5 < 4) = false) :
    eC k 17 0 61 (loopBody Tryd.f61 1) { tm := [(0, V.str s0), (2, V.sl (some true) true 0 []), (3, vi 0), (4, vi (wI ((↑s0.length : Int).tdiv 4))), (5, V.ref 0), (6, vi i0), (7, V.ptr 1 0), (22, V.bool false), (30, V.bool true), (42, V.bool false), (66, V.bool true), (75, vi i5)], hp := [(0, Ob.row false 1 x0), (1, Ob.var [vb i6, vb i7, vb i8, vb i9])], nx := 2 } = some (Exit.exit 3, { tm := [(0, V.str s0), (2, V.sl (some true) true 0 []), (3, vi 0), (4, vi (wI ((↑s0.length : Int).tdiv 4))), (5, V.ref 0), (6, vi i0), (7, V.ptr 1 0), (22, V.bool false), (30, V.bool true), (42, V.bool false), (66, V.bool true), (75, vi i5), (76, V.bool false)], hp := [(0, Ob.row false 1 x0), (1, Ob.var [vb i6, vb i7, vb i8, vb i9])], nx := 6 }) :=
  byL (k := k) (d := 17) [Hn.br 76 false] (aI c0 trivial) (by kernel_rfl)
inductive L61_2_R where
  | e0 (i5 : Int) (i6 : Int) (i7 : Int) (i8 : Int) (i9 : Int)
noncomputable def L61_2_end (i0 : Int) (s0 : List UInt8) (x0 : List V) : L61_2_R → Exit × St
  | .e0 i5 i6 i7 i8 i9 => (Exit.exit 3, { tm := [(0, V.str s0), (2, V.sl (some true) true 0 []), (3, V.int .i64 0), (4, V.int .i64 (IntKind.i64.wrap ((↑s0.length : Int).tdiv 4))), (5, V.ref 0), (6, V.int .i64 i0), (7, V.ptr 1 0), (22, V.bool false), (30, V.bool true), (42, V.bool false), (66, V.bool true), (75, V.int .i64 i5), (76, V.bool false)], hp := [(0, Ob.row false 1 x0), (1, Ob.var [V.int .u8 i6, V.int .u8 i7, V.int .u8 i8, V.int .u8 i9])], nx := 6 })
def L61_2 (k : Nat) (i0 : Int) (s0 : List UInt8) (x0 : List V) : Nat → Int → Int → Int → Int → Int → Option L61_2_R
  | 0, _, _, _, _, _ => none
  | f + 1, i5, i6, i7, i8, i9 => (bif decide (i5 < 4) then (bif decide (i5 = 0) then ((F79 (k + 2) (i6)).bind fun i10 => (L61_2 k i0 s0 x0 f (IntKind.i64.wrap (i5 + 1)) (i10) (i7) (i8) (i9))) else (bif decide (i5 = 1) then ((F79 (k + 2) (i7)).bind fun i10 => (L61_2 k i0 s0 x0 f (IntKind.i64.wrap (i5 + 1)) (i6) (i10) (i8) (i9))) else (bif decide (i5 = 2) then ((F79 (k + 2) (i8)).bind fun i10 => (L61_2 k i0 s0 x0 f (IntKind.i64.wrap (i5 + 1)) (i6) (i7) (i10) (i9))) else (bif decide (i5 = 3) then ((F79 (k + 2) (i9)).bind fun i10 => (L61_2 k i0 s0 x0 f (IntKind.i64.wrap (i5 + 1)) (i6) (i7) (i8) (i10))) else none)))) else (some (L61_2_R.e0 i5 i6 i7 i8 i9)))
theorem L61_2_ok {i0 : Int} {s0 : List UInt8} {x0 : List V} {k : Nat} : ∀ {f : Nat} {i5 : Int} {i6 : Int} {i7 : Int} {i8 : Int} {i9 : Int} {r : L61_2_R}, L61_2 k i0 s0 x0 f i5 i6 i7 i8 i9 = some r →
    LoopsN Tryd.prog Tryd.cfg (k + 17) 0 Tryd.f61 (Tryd.cfg.fc 61) 1 [0, 2, 3, 4, 5, 6, 7, 22, 30, 42, 66, 75] f { tm := [(0, V.str s0), (2, V.sl (some true) true 0 []), (3, vi 0), (4, vi (wI ((↑s0.length : Int).tdiv 4))), (5, V.ref 0), (6, vi i0), (7, V.ptr 1 0), (22, V.bool false), (30, V.bool true), (42, V.bool false), (66, V.bool true), (75, vi i5)], hp := [(0, Ob.row false 1 x0), (1, Ob.var [vb i6, vb i7, vb i8, vb i9])], nx := 2 } (L61_2_end i0 s0 x0 r) := by
  intro f
  induction f with
  | zero => intro i5 i6 i7 i8 i9 r h; cases h
  | succ f ih =>
    intro i5 i6 i7 i8 i9 r h
    rw [L61_2] at h
    rcases cond_elim h with ⟨e0, h⟩ | ⟨e0, h⟩
    ·
      rcases cond_elim h with ⟨e1, h⟩ | ⟨e1, h⟩
      ·
        obtain ⟨i10, e2, h⟩ := bE h
        exact LoopsN.next (L61_2_b0 i0 i5 i6 i7 i8 i9 i10 s0 x0 k e0 (IdxA.mk 0 e1 (by decide) (by decide) rfl) (F79_ok e2) (IdxA.mk 0 e1 (by decide) (by decide) rfl)) (L61_2_b0h i0 i5 i7 i8 i9 i10 s0 x0) (ih h)
      ·
        rcases cond_elim h with ⟨e2, h⟩ | ⟨e2, h⟩
        ·
          obtain ⟨i10, e3, h⟩ := bE h
          exact LoopsN.next (L61_2_b1 i0 i5 i6 i7 i8 i9 i10 s0 x0 k e0 (IdxA.mk 1 e2 (by decide) (by decide) rfl) (F79_ok e3) (IdxA.mk 1 e2 (by decide) (by decide) rfl)) (L61_2_b1h i0 i5 i6 i8 i9 i10 s0 x0) (ih h)
        ·
          rcases cond_elim h with ⟨e3, h⟩ | ⟨e3, h⟩
          ·
            obtain ⟨i10, e4, h⟩ := bE h
            exact LoopsN.next (L61_2_b2 i0 i5 i6 i7 i8 i9 i10 s0 x0 k e0 (IdxA.mk 2 e3 (by decide) (by decide) rfl) (F79_ok e4) (IdxA.mk 2 e3 (by decide) (by decide) rfl)) (L61_2_b2h i0 i5 i6 i7 i9 i10 s0 x0) (ih h)
          ·
            rcases cond_elim h with ⟨e4, h⟩ | ⟨e4, h⟩
            ·
              obtain ⟨i10, e5, h⟩ := bE h
              exact LoopsN.next (L61_2_b3 i0 i5 i6 i7 i8 i9 i10 s0 x0 k e0 (IdxA.mk 3 e4 (by decide) (by decide) rfl) (F79_ok e5) (IdxA.mk 3 e4 (by decide) (by decide) rfl)) (L61_2_b3h i0 i5 i6 i7 i8 i10 s0 x0) (ih h)
            ·
              cases h
    ·
      cases h; exact LoopsN.done (L61_2_b4 i0 i5 i6 i7 i8 i9 s0 x0 k e0) (fun h => by cases h)
theorem L61_3_b0 (i0 i5 i6 i7 i8 i9 i10 i11 : Int) (s0 : List UInt8) (x1 : List V) (k : Nat)
    (c0 : decide (i10 < 4) = true)
    (c1 : IdxR x1.length (wI (wI (4 * wI (i0 - wI ((↑s0.length : Int).tdiv 4))) + i10)) 1 1 (V.ept 0 (wI (wI (4 * wI (i0 - wI ((↑s0.length : Int).tdiv 4))) + i10)).toNat 0))
    (c2 : LdP Tryd.prog 5 x1 (wI (wI (4 * wI (i0 - wI ((↑s0.length : Int).tdiv 4))) + i10)).toNat 0 (vb i11))
    (c3 : IdxA 4 i10 1 (fun d => V.ptr 1 (0 + d)) (V.ptr 1 0))
    (c4 : GrdW ((1 : Nat) = (1 : Nat) ∧ (0 : Nat) < (1 : Nat) ∧ (1 : Nat) ≤ (64 : Nat) ∧ x1.length + (1 : Nat) ≤ maxLen') (V.ref (74 : Nat)) [((0 : Nat), Ob.dead), ((74 : Nat), Ob.row false (1 : Nat) (x1 ++ [vb (x8 i11 i6)]))]) :
    eC k 17 0 61 (loopBody Tryd.f61 2) { tm := [(0, V.str s0), (2, V.sl (some true) true 0 []), (3, vi 0), (4, vi (wI ((↑s0.length : Int).tdiv 4))), (5, V.ref 0), (6, vi i0), (7, V.ptr 1 0), (22, V.bool false), (30, V.bool true), (42, V.bool false), (66, V.bool true), (75, vi i5), (76, V.bool false), (85, vi i10)], hp := [(0, Ob.row false 1 x1), (1, Ob.var [vb i6, vb i7, vb i8, vb i9])], nx := 2 } = some (Exit.normal, { tm := [(0, V.str s0), (2, V.sl (some true) true 0 []), (3, vi 0), (4, vi (wI ((↑s0.length : Int).tdiv 4))), (5, V.ref 74), (6, vi i0), (7, V.ptr 1 0), (9, vi i10), (22, V.bool false), (30, V.bool true), (42, V.bool false), (66, V.bool true), (75, vi i5), (76, V.bool false), (85, vi (wI (i10 + 1))), (86, V.bool true)], hp := [(0, Ob.dead), (1, Ob.var [vb i6, vb i7, vb i8, vb i9]), (70, Ob.row false 1 [vb (x8 i11 i6)]), (74, Ob.row false 1 (x1 ++ [vb (x8 i11 i6)]))], nx := 90 }) :=
  byL (k := k) (d := 17) [Hn.br 86 true, Hn.op 96 (V.ept 0 (wI (wI (4 * wI (i0 - wI ((↑s0.length : Int).tdiv 4))) + i10)).toNat 0) [], Hn.op 97 (vb i11) [], Hn.op 99 (V.ptr 1 0) [], Hn.op 103 (V.ref 74) [(0, Ob.dead), (74, Ob.row false 1 (x1 ++ [vb (x8 i11 i6)]))]] (aI c0 (aI c1 (aI c2 (aI c3 (aI c4 trivial))))) (by kernel_rfl)
theorem L61_3_b0h (i0 i5 i6 i7 i8 i9 i10 i11 : Int) (s0 : List UInt8) (x1 : List V) : head 0 [0, 2, 3, 4, 5, 6, 7, 22, 30, 42, 66, 75, 76, 85] (Tryd.cfg.fc 61).acc { tm := [(0, V.str s0), (2, V.sl (some true) true 0 []), (3, vi 0), (4, vi (wI ((↑s0.length : Int).tdiv 4))), (5, V.ref 74), (6, vi i0), (7, V.ptr 1 0), (9, vi i10), (22, V.bool false), (30, V.bool true), (42, V.bool false), (66, V.bool true), (75, vi i5), (76, V.bool false), (85, vi (wI (i10 + 1))), (86, V.bool true)], hp := [(0, Ob.dead), (1, Ob.var [vb i6, vb i7, vb i8, vb i9]), (70, Ob.row false 1 [vb (x8 i11 i6)]), (74, Ob.row false 1 (x1 ++ [vb (x8 i11 i6)]))], nx := 90 } = { tm := [(0, V.str s0), (2, V.sl (some true) true 0 []), (3, vi 0), (4, vi (wI ((↑s0.length : Int).tdiv 4))), (5, V.ref 0), (6, vi i0), (7, V.ptr 1 0), (22, V.bool false), (30, V.bool true), (42, V.bool false), (66, V.bool true), (75, vi i5), (76, V.bool false), (85, vi (wI (i10 + 1)))], hp := [(0, Ob.row false 1 (x1 ++ [vb (x8 i11 i6)])), (1, Ob.var [vb i6, vb i7, vb i8, vb i9])], nx := 2 } := by kernel_rfl
theorem L61_3_b1 (i0 i5 i6 i7 i8 i9 i10 i11 : Int) (s0 : List UInt8) (x1 : List V) (k : Nat)
    (c0 : decide (i10 < 4) = true)
    (c1 : IdxR x1.length (wI (wI (4 * wI (i0 - wI ((↑s0.length : Int).tdiv 4))) + i10)) 1 1 (V.ept 0 (wI (wI (4 * wI (i0 - wI ((↑s0.length : Int).tdiv 4))) + i10)).toNat 0))
    (c2 : LdP Tryd.prog 5 x1 (wI (wI (4 * wI (i0 - wI ((↑s0.length : Int).tdiv 4))) + i10)).toNat 0 (vb i11))
    (c3 : IdxA 4 i10 1 (fun d => V.ptr 1 (0 + d)) (V.ptr 1 1))
    (c4 : GrdW ((1 : Nat) = (1 : Nat) ∧ (0 : Nat) < (1 : Nat) ∧ (1 : Nat) ≤ (64 : Nat) ∧ x1.length + (1 : Nat) ≤ maxLen') (V.ref (74 : Nat)) [((0 : Nat), Ob.dead), ((74 : Nat), Ob.row false (1 : Nat) (x1 ++ [vb (x8 i11 i7)]))]) :
    eC k 17 0 61 (loopBody Tryd.f61 2) { tm := [(0, V.str s0), (2, V.sl (some true) true 0 []), (3, vi 0), (4, vi (wI ((↑s0.length : Int).tdiv 4))), (5, V.ref 0), (6, vi i0), (7, V.ptr 1 0), (22, V.bool false), (30, V.bool true), (42, V.bool false), (66, V.bool true), (75, vi i5), (76, V.bool false), (85, vi i10)], hp := [(0, Ob.row false 1 x1), (1, Ob.var [vb i6, vb i7, vb i8, vb i9])], nx := 2 } = some (Exit.normal, { tm := [(0, V.str s0), (2, V.sl (some true) true 0 []), (3, vi 0), (4, vi (wI ((↑s0.length : Int).tdiv 4))), (5, V.ref 74), (6, vi i0), (7, V.ptr 1 0), (9, vi i10), (22, V.bool false), (30, V.bool true), (42, V.bool false), (66, V.bool true), (75, vi i5), (76, V.bool false), (85, vi (wI (i10 + 1))), (86, V.bool true)], hp := [(0, Ob.dead), (1, Ob.var [vb i6, vb i7, vb i8, vb i9]), (70, Ob.row false 1 [vb (x8 i11 i7)]), (74, Ob.row false 1 (x1 ++ [vb (x8 i11 i7)]))], nx := 90 }) :=
  byL (k := k) (d := 17) [Hn.br 86 true, Hn.op 96 (V.ept 0 (wI (wI (4 * wI (i0 - wI ((↑s0.length : Int).tdiv 4))) + i10)).toNat 0) [], Hn.op 97 (vb i11) [], Hn.op 99 (V.ptr 1 1) [], Hn.op 103 (V.ref 74) [(0, Ob.dead), (74, Ob.row false 1 (x1 ++ [vb (x8 i11 i7)]))]] (aI c0 (aI c1 (aI c2 (aI c3 (aI c4 trivial))))) (by kernel_rfl)
theorem L61_3_b1h (i0 i5 i6 i7 i8 i9 i10 i11 : Int) (s0 : List UInt8) (x1 : List V) : head 0 [0, 2, 3, 4, 5, 6, 7, 22, 30, 42, 66, 75, 76, 85] (Tryd.cfg.fc 61).acc { tm := [(0, V.str s0), (2, V.sl (some true) true 0 []), (3, vi 0), (4, vi (wI ((↑s0.length : Int).tdiv 4))), (5, V.ref 74), (6, vi i0), (7, V.ptr 1 0), (9, vi i10), (22, V.bool false), (30, V.bool true), (42, V.bool false), (66, V.bool true), (75, vi i5), (76, V.bool false), (85, vi (wI (i10 + 1))), (86, V.bool true)], hp := [(0, Ob.dead), (1, Ob.var [vb i6, vb i7, vb i8, vb i9]), (70, Ob.row false 1 [vb (x8 i11 i7)]), (74, Ob.row false 1 (x1 ++ [vb (x8 i11 i7)]))], nx := 90 } = { tm := [(0, V.str s0), (2, V.sl (some true) true 0 []), (3, vi 0), (4, vi (wI ((↑s0.length : Int).tdiv 4))), (5, V.ref 0), (6, vi i0), (7, V.ptr 1 0), (22, V.bool false), (30, V.bool true), (42, V.bool false), (66, V.bool true), (75, vi i5), (76, V.bool false), (85, vi (wI (i10 + 1)))], hp := [(0, Ob.row false 1 (x1 ++ [vb (x8 i11 i7)])), (1, Ob.var [vb i6, vb i7, vb i8, vb i9])], nx := 2 } := by kernel_rfl
theorem L61_3_b2 (i0 i5 i6 i7 i8 i9 i10 i11 : Int) (s0 : List UInt8) (x1 : List V) (k : Nat)
    (c0 : decide (i10 < 4) = true)
    (c1 : IdxR x1.length (wI (wI (4 * wI (i0 - wI ((↑s0.length : Int).tdiv 4))) + i10)) 1 1 (V.ept 0 (wI (wI (4 * wI (i0 - wI ((↑s0.length : Int).tdiv 4))) + i10)).toNat 0))
    (c2 : LdP Tryd.prog 5 x1 (wI (wI (4 * wI (i0 - wI ((↑s0.length : Int).tdiv 4))) + i10)).toNat 0 (vb i11))
    (c3 : IdxA 4 i10 1 (fun d => V.ptr 1 (0 + d)) (V.ptr 1 2))
    (c4 : GrdW ((1 : Nat) = (1 : Nat) ∧ (0 : Nat) < (1 : Nat) ∧ (1 : Nat) ≤ (64 : Nat) ∧ x1.length + (1 : Nat) ≤ maxLen') (V.ref (74 : Nat)) [((0 : Nat), Ob.dead), ((74 : Nat), Ob.row false (1 : Nat) (x1 ++ [vb (x8 i11 i8)]))]) :
    eC k 17 0 61 (loopBody Tryd.f61 2) { tm := [(0, V.str s0), (2, V.sl (some true) true 0 []), (3, vi 0), (4, vi (wI ((↑s0.length : Int).tdiv 4))), (5, V.ref 0), (6, vi i0), (7, V.ptr 1 0), (22, V.bool false), (30, V.bool true), (42, V.bool false), (66, V.bool true), (75, vi i5), (76, V.bool false), (85, vi i10)], hp := [(0, Ob.row false 1 x1), (1, Ob.var [vb i6, vb i7, vb i8, vb i9])], nx := 2 } = some (Exit.normal, { tm := [(0, V.str s0), (2, V.sl (some true) true 0 []), (3, vi 0), (4, vi (wI ((↑s0.length : Int).tdiv 4))), (5, V.ref 74), (6, vi i0), (7, V.ptr 1 0), (9, vi i10), (22, V.bool false), (30, V.bool true), (42, V.bool false), (66, V.bool true), (75, vi i5), (76, V.bool false), (85, vi (wI (i10 + 1))), (86, V.bool true)], hp := [(0, Ob.dead), (1, Ob.var [vb i6, vb i7, vb i8, vb i9]), (70, Ob.row false 1 [vb (x8 i11 i8)]), (74, Ob.row false 1 (x1 ++ [vb (x8 i11 i8)]))], nx := 90 }) :=
  byL (k := k) (d := 17) [Hn.br 86 true, Hn.op 96 (V.ept 0 (wI (wI (4 * wI (i0 - wI ((↑s0.length : Int).tdiv 4))) + i10)).toNat 0) [], Hn.op 97 (vb i11) [], Hn.op 99 (V.ptr 1 2) [], Hn.op 103 (V.ref 74) [(0, Ob.dead), (74, Ob.row false 1 (x1 ++ [vb (x8 i11 i8)]))]] (aI c0 (aI c1 (aI c2 (aI c3 (aI c4 trivial))))) (by kernel_rfl)
theorem L61_3_b2h (i0 i5 i6 i7 i8 i9 i10 i11 : Int) (s0 : List UInt8) (x1 : List V) : head 0 [0, 2, 3, 4, 5, 6, 7, 22, 30, 42, 66, 75, 76, 85] (Tryd.cfg.fc 61).acc { tm := [(0, V.str s0), (2, V.sl (some true) true 0 []), (3, vi 0), (4, vi (wI ((↑s0.length : Int).tdiv 4))), (5, V.ref 74), (6, vi i0), (7, V.ptr 1 0), (9, vi i10), (22, V.bool false), (30, V.bool true), (42, V.bool false), (66, V.bool true), (75, vi i5), (76, V.bool false), (85, vi (wI (i10 + 1))), (86, V.bool true)], hp := [(0, Ob.dead), (1, Ob.var [vb i6, vb i7, vb i8, vb i9]), (70, Ob.row false 1 [vb (x8 i11 i8)]), (74, Ob.row false 1 (x1 ++ [vb (x8 i11 i8)]))], nx := 90 } = { tm := [(0, V.str s0), (2, V.sl (some true) true 0 []), (3, vi 0), (4, vi (wI ((↑s0.length : Int).tdiv 4))), (5, V.ref 0), (6, vi i0), (7, V.ptr 1 0), (22, V.bool false), (30, V.bool true), (42, V.bool false), (66, V.bool true), (75, vi i5), (76, V.bool false), (85, vi (wI (i10 + 1)))], hp := [(0, Ob.row false 1 (x1 ++ [vb (x8 i11 i8)])), (1, Ob.var [vb i6, vb i7, vb i8, vb i9])], nx := 2 } := by kernel_rfl
theorem L61_3_b3 (i0 i5 i6 i7 i8 i9 i10 i11 : Int) (s0 : List UInt8) (x1 : List V) (k : Nat)
    (c0 : decide (i10 < 4) = true)
    (c1 : IdxR x1.length (wI (wI (4 * wI (i0 - wI ((↑s0.length : Int).tdiv 4))) + i10)) 1 1 (V.ept 0 (wI (wI (4 * wI (i0 - wI ((↑s0.length : Int).tdiv 4))) + i10)).toNat 0))
    (c2 : LdP Tryd.prog 5 x1 (wI (wI (4 * wI (i0 - wI ((↑s0.length : Int).tdiv 4))) + i10)).toNat 0 (vb i11))
    (c3 : IdxA 4 i10 1 (fun d => V.ptr 1 (0 + d)) (V.ptr 1 3))
    (c4 : GrdW ((1 : Nat) = (1 : Nat) ∧ (0 : Nat) < (1 : Nat) ∧ (1 : Nat) ≤ (64 : Nat) ∧ x1.length + (1 : Nat) ≤ maxLen') (V.ref (74 : Nat)) [((0 : Nat), Ob.dead), ((74 : Nat), Ob.row false (1 : Nat) (x1 ++ [vb (x8 i11 i9)]))]) :
    eC k 17 0 61 (loopBody Tryd.f61 2) { tm := [(0, V.str s0), (2, V.sl (some true) true 0 []), (3, vi 0), (4, vi (wI ((↑s0.length : Int).tdiv 4))), (5, V.ref 0), (6, vi i0), (7, V.ptr 1 0), (22, V.bool false), (30, V.bool true), (42, V.bool false), (66, V.bool true), (75, vi i5), (76, V.bool false), (85, vi i10)], hp := [(0, Ob.row false 1 x1), (1, Ob.var [vb i6, vb i7, vb i8, vb i9])], nx := 2 } = some (Exit.normal, { tm := [(0, V.str s0), (2, V.sl (some true) true 0 []), (3, vi 0), (4, vi (wI ((↑s0.length : Int).tdiv 4))), (5, V.ref 74), (6, vi i0), (7, V.ptr 1 0), (9, vi i10), (22, V.bool false), (30, V.bool true), (42, V.bool false), (66, V.bool true), (75, vi i5), (76, V.bool false), (85, vi (wI (i10 + 1))), (86, V.bool true)], hp := [(0, Ob.dead), (1, Ob.var [vb i6, vb i7, vb i8, vb i9]), (70, Ob.row false 1 [vb (x8 i11 i9)]), (74, Ob.row false 1 (x1 ++ [vb (x8 i11 i9)]))], nx := 90 }) :=
  byL (k := k) (d := 17) [Hn.br 86 true, Hn.op 96 (V.ept 0 (wI (wI (4 * wI (i0 - wI ((↑s0.length : Int).tdiv 4))) + i10)).toNat 0) [], Hn.op 97 (vb i11) [], Hn.op 99 (V.ptr 1 3) [], Hn.op 103 (V.ref 74) [(0, Ob.dead), (74, Ob.row false 1 (x1 ++ [vb (x8 i11 i9)]))]] (aI c0 (aI c1 (aI c2 (aI c3 (aI c4 trivial))))) (by kernel_rfl)
theorem L61_3_b3h (i0 i5 i6 i7 i8 i9 i10 i11 : Int) (s0 : List UInt8) (x1 : List V) : head 0 [0, 2, 3, 4, 5, 6, 7, 22, 30, 42, 66, 75, 76, 85] (Tryd.cfg.fc 61).acc { tm := [(0, V.str s0), (2, V.sl (some true) true 0 []), (3, vi 0), (4, vi (wI ((↑s0.length : Int).tdiv 4))), (5, V.ref 74), (6, vi i0), (7, V.ptr 1 0), (9, vi i10), (22, V.bool false), (30, V.bool true), (42, V.bool false), (66, V.bool true), (75, vi i5), (76, V.bool false), (85, vi (wI (i10 + 1))), (86, V.bool true)], hp := [(0, Ob.dead), (1, Ob.var [vb i6, vb i7, vb i8, vb i9]), (70, Ob.row false 1 [vb (x8 i11 i9)]), (74, Ob.row false 1 (x1 ++ [vb (x8 i11 i9)]))], nx := 90 } = { tm := [(0, V.str s0), (2, V.sl (some true) true 0 []), (3, vi 0), (4, vi (wI ((↑s0.length : Int).tdiv 4))), (5, V.ref 0), (6, vi i0), (7, V.ptr 1 0), (22, V.bool false), (30, V.bool true), (42, V.bool false), (66, V.bool true), (75, vi i5), (76, V.bool false), (85, vi (wI (i10 + 1)))], hp := [(0, Ob.row false 1 (x1 ++ [vb (x8 i11 i9)])), (1, Ob.var [vb i6, vb i7, vb i8, vb i9])], nx := 2 } := by kernel_rfl
theorem L61_3_b4 (i0 i5 i6 i7 i8 i9 i10 : Int) (s0 : List UInt8) (x1 : List V) (k : Nat)
    (c0 : decide (i10 < 4) = false) :
    eC k 17 0 61 (loopBody Tryd.f61 2) { tm := [(0, V.str s0), (2, V.sl (some true) true 0 []), (3, vi 0), (4, vi (wI ((↑s0.length : Int).tdiv 4))), (5, V.ref 0), (6, vi i0), (7, V.ptr 1 0), (22, V.bool false), (30, V.bool true), (42, V.bool false), (66, V.bool true), (75, vi i5), (76, V.bool false), (85, vi i10)], hp := [(0, Ob.row false 1 x1), (1, Ob.var [vb i6, vb i7, vb i8, vb i9])], nx := 2 } = some (Exit.exit 5, { tm := [(0, V.str s0), (2, V.sl (some true) true 0 []), (3, vi 0), (4, vi (wI ((↑s0.length : Int).tdiv 4))), (5, V.ref 0), (6, vi i0), (7, V.ptr 1 0), (22, V.bool false), (30, V.bool true), (42, V.bool false), (66, V.bool true), (75, vi i5), (76, V.bool false), (85, vi i10), (86, V.bool false)], hp := [(0, Ob.row false 1 x1), (1, Ob.var [vb i6, vb i7, vb i8, vb i9])], nx := 6 }) :=
  byL (k := k) (d := 17) [Hn.br 86 false] (aI c0 trivial) (by kernel_rfl)
inductive L61_3_R where
  | e0 (i10 : Int) (x1 : List V)
noncomputable def L61_3_end (i0 : Int) (i5 : Int) (i6 : Int) (i7 : Int) (i8 : Int) (i9 : Int) (s0 : List UInt8) : L61_3_R → Exit × St
  | .e0 i10 x1 => (Exit.exit 5, { tm := [(0, V.str s0), (2, V.sl (some true) true 0 []), (3, V.int .i64 0), (4, V.int .i64 (IntKind.i64.wrap ((↑s0.length : Int).tdiv 4))), (5, V.ref 0), (6, V.int .i64 i0), (7, V.ptr 1 0), (22, V.bool false), (30, V.bool true), (42, V.bool false), (66, V.bool true), (75, V.int .i64 i5), (76, V.bool false), (85, V.int .i64 i10), (86, V.bool false)], hp := [(0, Ob.row false 1 x1), (1, Ob.var [V.int .u8 i6, V.int .u8 i7, V.int .u8 i8, V.int .u8 i9])], nx := 6 })
def L61_3 (k : Nat) (i0 i5 i6 i7 i8 i9 : Int) (s0 : List UInt8) : Nat → Int → List V → Option L61_3_R
  | 0, _, _ => none
  | f + 1, i10, x1 => (bif decide (i10 < 4) then (guardP ((0 : Int) ≤ IntKind.i64.wrap (IntKind.i64.wrap ((4 : Int) * IntKind.i64.wrap (i0 - IntKind.i64.wrap ((↑s0.length : Int).tdiv (4 : Int)))) + i10) ∧ IntKind.i64.wrap (IntKind.i64.wrap ((4 : Int) * IntKind.i64.wrap (i0 - IntKind.i64.wrap ((↑s0.length : Int).tdiv (4 : Int)))) + i10) < (↑x1.length : Int)) ((((x1)[(IntKind.i64.wrap (IntKind.i64.wrap (4 * IntKind.i64.wrap (i0 - IntKind.i64.wrap ((↑s0.length : Int).tdiv 4))) + i10)).toNat]?).bind (dI IntKind.u8)).bind fun i11 => (bif decide (i10 = 0) then (guardP (x1.length + (1 : Nat) ≤ maxLen') (L61_3 k i0 i5 i6 i7 i8 i9 s0 f (IntKind.i64.wrap (i10 + 1)) (x1 ++ [V.int .u8 (IntKind.u8.wrap (↑(BitVec.ofInt IntKind.u8.bits i11 ^^^ BitVec.ofInt IntKind.u8.bits i6).toNat : Int))]))) else (bif decide (i10 = 1) then (guardP (x1.length + (1 : Nat) ≤ maxLen') (L61_3 k i0 i5 i6 i7 i8 i9 s0 f (IntKind.i64.wrap (i10 + 1)) (x1 ++ [V.int .u8 (IntKind.u8.wrap (↑(BitVec.ofInt IntKind.u8.bits i11 ^^^ BitVec.ofInt IntKind.u8.bits i7).toNat : Int))]))) else (bif decide (i10 = 2) then (guardP (x1.length + (1 : Nat) ≤ maxLen') (L61_3 k i0 i5 i6 i7 i8 i9 s0 f (IntKind.i64.wrap (i10 + 1)) (x1 ++ [V.int .u8 (IntKind.u8.wrap (↑(BitVec.ofInt IntKind.u8.bits i11 ^^^ BitVec.ofInt IntKind.u8.bits i8).toNat : Int))]))) else (bif decide (i10 = 3) then (guardP (x1.length + (1 : Nat) ≤ maxLen') (L61_3 k i0 i5 i6 i7 i8 i9 s0 f (IntKind.i64.wrap (i10 + 1)) (x1 ++ [V.int .u8 (IntKind.u8.wrap (↑(BitVec.ofInt IntKind.u8.bits i11 ^^^ BitVec.ofInt IntKind.u8.bits i9).toNat : Int))]))) else none)))))) else (some (L61_3_R.e0 i10 x1)))
theorem L61_3_ok {i0 i5 i6 i7 i8 i9 : Int} {s0 : List UInt8} {k : Nat} : ∀ {f : Nat} {i10 : Int} {x1 : List V} {r : L61_3_R}, L61_3 k i0 i5 i6 i7 i8 i9 s0 f i10 x1 = some r →
    LoopsN Tryd.prog Tryd.cfg (k + 17) 0 Tryd.f61 (Tryd.cfg.fc 61) 2 [0, 2, 3, 4, 5, 6, 7, 22, 30, 42, 66, 75, 76, 85] f { tm := [(0, V.str s0), (2, V.sl (some true) true 0 []), (3, vi 0), (4, vi (wI ((↑s0.length : Int).tdiv 4))), (5, V.ref 0), (6, vi i0), (7, V.ptr 1 0), (22, V.bool false), (30, V.bool true), (42, V.bool false), (66, V.bool true), (75, vi i5), (76, V.bool false), (85, vi i10)], hp := [(0, Ob.row false 1 x1), (1, Ob.var [vb i6, vb i7, vb i8, vb i9])], nx := 2 } (L61_3_end i0 i5 i6 i7 i8 i9 s0 r) := by
  intro f
  induction f with
  | zero => intro i10 x1 r h; cases h
  | succ f ih =>
    intro i10 x1 r h
    rw [L61_3] at h
    rcases cond_elim h with ⟨e0, h⟩ | ⟨e0, h⟩
    ·
      obtain ⟨e1, h⟩ := guardP_some.1 h
      obtain ⟨i11, e2, h⟩ := bE h
      rcases cond_elim h with ⟨e3, h⟩ | ⟨e3, h⟩
      ·
        obtain ⟨e4, h⟩ := guardP_some.1 h
        exact LoopsN.next (L61_3_b0 i0 i5 i6 i7 i8 i9 i10 i11 s0 x1 k e0 (IdxR.mk' e1 rfl) (LdP.mk (get_d dI_ok e2 :) (by kernel_rfl)) (IdxA.mk 0 e3 (by decide) (by decide) rfl) (GrdW.mk ⟨rfl, by decide, by decide, e4⟩)) (L61_3_b0h i0 i5 i6 i7 i8 i9 i10 i11 s0 x1) (ih h)
      ·
        rcases cond_elim h with ⟨e4, h⟩ | ⟨e4, h⟩
        ·
          obtain ⟨e5, h⟩ := guardP_some.1 h
          exact LoopsN.next (L61_3_b1 i0 i5 i6 i7 i8 i9 i10 i11 s0 x1 k e0 (IdxR.mk' e1 rfl) (LdP.mk (get_d dI_ok e2 :) (by kernel_rfl)) (IdxA.mk 1 e4 (by decide) (by decide) rfl) (GrdW.mk ⟨rfl, by decide, by decide, e5⟩)) (L61_3_b1h i0 i5 i6 i7 i8 i9 i10 i11 s0 x1) (ih h)
        ·
          rcases cond_elim h with ⟨e5, h⟩ | ⟨e5, h⟩
          ·
            obtain ⟨e6, h⟩ := guardP_some.1 h
            exact LoopsN.next (L61_3_b2 i0 i5 i6 i7 i8 i9 i10 i11 s0 x1 k e0 (IdxR.mk' e1 rfl) (LdP.mk (get_d dI_ok e2 :) (by kernel_rfl)) (IdxA.mk 2 e5 (by decide) (by decide) rfl) (GrdW.mk ⟨rfl, by decide, by decide, e6⟩)) (L61_3_b2h i0 i5 i6 i7 i8 i9 i10 i11 s0 x1) (ih h)
          ·
            rcases cond_elim h with ⟨e6, h⟩ | ⟨e6, h⟩
            ·
              obtain ⟨e7, h⟩ := guardP_some.1 h
              exact LoopsN.next (L61_3_b3 i0 i5 i6 i7 i8 i9 i10 i11 s0 x1 k e0 (IdxR.mk' e1 rfl) (LdP.mk (get_d dI_ok e2 :) (by kernel_rfl)) (IdxA.mk 3 e6 (by decide) (by decide) rfl) (GrdW.mk ⟨rfl, by decide, by decide, e7⟩)) (L61_3_b3h i0 i5 i6 i7 i8 i9 i10 i11 s0 x1) (ih h)
            ·
              cases h
    ·
      cases h; exact LoopsN.done (L61_3_b4 i0 i5 i6 i7 i8 i9 i10 s0 x1 k e0) (fun h => by cases h)
theorem L61_4_b0 (i0 i1 i2 i3 i4 i5 i6 : Int) (s0 : List UInt8) (x1 : List V) (k : Nat)
    (c0 : decide (i5 < 4) = true)
    (c1 : IdxR x1.length (wI (wI (4 * wI (i0 - wI ((↑s0.length : Int).tdiv 4))) + i5)) 1 1 (V.ept 0 (wI (wI (4 * wI (i0 - wI ((↑s0.length : Int).tdiv 4))) + i5)).toNat 0))
    (c2 : LdP Tryd.prog 5 x1 (wI (wI (4 * wI (i0 - wI ((↑s0.length : Int).tdiv 4))) + i5)).toNat 0 (vb i6))
    (c3 : IdxA 4 i5 1 (fun d => V.ptr 1 (0 + d)) (V.ptr 1 0))
    (c4 : GrdW ((1 : Nat) = (1 : Nat) ∧ (0 : Nat) < (1 : Nat) ∧ (1 : Nat) ≤ (64 : Nat) ∧ x1.length + (1 : Nat) ≤ maxLen') (V.ref (74 : Nat)) [((0 : Nat), Ob.dead), ((74 : Nat), Ob.row false (1 : Nat) (x1 ++ [vb (x8 i6 i1)]))]) :
    eC k 17 0 61 (loopBody Tryd.f61 2) { tm := [(0, V.str s0), (2, V.sl (some true) true 0 []), (3, vi 0), (4, vi (wI ((↑s0.length : Int).tdiv 4))), (5, V.ref 0), (6, vi i0), (7, V.ptr 1 0), (22, V.bool false), (30, V.bool true), (42, V.bool false), (66, V.bool false), (85, vi i5)], hp := [(0, Ob.row false 1 x1), (1, Ob.var [vb i1, vb i2, vb i3, vb i4])], nx := 2 } = some (Exit.normal, { tm := [(0, V.str s0), (2, V.sl (some true) true 0 []), (3, vi 0), (4, vi (wI ((↑s0.length : Int).tdiv 4))), (5, V.ref 74), (6, vi i0), (7, V.ptr 1 0), (9, vi i5), (22, V.bool false), (30, V.bool true), (42, V.bool false), (66, V.bool false), (85, vi (wI (i5 + 1))), (86, V.bool true)], hp := [(0, Ob.dead), (1, Ob.var [vb i1, vb i2, vb i3, vb i4]), (70, Ob.row false 1 [vb (x8 i6 i1)]), (74, Ob.row false 1 (x1 ++ [vb (x8 i6 i1)]))], nx := 90 }) :=
  byL (k := k) (d := 17) [Hn.br 86 true, Hn.op 96 (V.ept 0 (wI (wI (4 * wI (i0 - wI ((↑s0.length : Int).tdiv 4))) + i5)).toNat 0) [], Hn.op 97 (vb i6) [], Hn.op 99 (V.ptr 1 0) [], Hn.op 103 (V.ref 74) [(0, Ob.dead), (74, Ob.row false 1 (x1 ++ [vb (x8 i6 i1)]))]] (aI c0 (aI c1 (aI c2 (aI c3 (aI c4 trivial))))) (by kernel_rfl)
theorem L61_4_b0h (i0 i1 i2 i3 i4 i5 i6 : Int) (s0 : List UInt8) (x1 : List V) : head 0 [0, 2, 3, 4, 5, 6, 7, 22, 30, 42, 66, 85] (Tryd.cfg.fc 61).acc { tm := [(0, V.str s0), (2, V.sl (some true) true 0 []), (3, vi 0), (4, vi (wI ((↑s0.length : Int).tdiv 4))), (5, V.ref 74), (6, vi i0), (7, V.ptr 1 0), (9, vi i5), (22, V.bool false), (30, V.bool true), (42, V.bool false), (66, V.bool false), (85, vi (wI (i5 + 1))), (86, V.bool true)], hp := [(0, Ob.dead), (1, Ob.var [vb i1, vb i2, vb i3, vb i4]), (70, Ob.row false 1 [vb (x8 i6 i1)]), (74, Ob.row false 1 (x1 ++ [vb (x8 i6 i1)]))], nx := 90 } = { tm := [(0, V.str s0), (2, V.sl (some true) true 0 []), (3, vi 0), (4, vi (wI ((↑s0.length : Int).tdiv 4))), (5, V.ref 0), (6, vi i0), (7, V.ptr 1 0), (22, V.bool false), (30, V.bool true), (42, V.bool false), (66, V.bool false), (85, vi (wI (i5 + 1)))], hp := [(0, Ob.row false 1 (x1 ++ [vb (x8 i6 i1)])), (1, Ob.var [vb i1, vb i2, vb i3, vb i4])], nx := 2 } := by kernel_rfl
theorem L61_4_b1 (i0 i1 i2 i3 i4 i5 i6 : Int) (s0 : List UInt8) (x1 : List V) (k : Nat)
    (c0 : decide (i5 < 4) = true)
    (c1 : IdxR x1.length (wI (wI (4 * wI (i0 - wI ((↑s0.length : Int).tdiv 4))) + i5)) 1 1 (V.ept 0 (wI (wI (4 * wI (i0 - wI ((↑s0.length : Int).tdiv 4))) + i5)).toNat 0))
    (c2 : LdP Tryd.prog 5 x1 (wI (wI (4 * wI (i0 - wI ((↑s0.length : Int).tdiv 4))) + i5)).toNat 0 (vb i6))
    (c3 : IdxA 4 i5 1 (fun d => V.ptr 1 (0 + d)) (V.ptr 1 1))
    (c4 : GrdW ((1 : Nat) = (1 : Nat) ∧ (0 : Nat) < (1 : Nat) ∧ (1 : Nat) ≤ (64 : Nat) ∧ x1.length + (1 : Nat) ≤ maxLen') (V.ref (74 : Nat)) [((0 : Nat), Ob.dead), ((74 : Nat), Ob.row false (1 : Nat) (x1 ++ [vb (x8 i6 i2)]))]) :
    eC k 17 0 61 (loopBody Tryd.f61 2) { tm := [(0, V.str s0), (2, V.sl (some true) true 0 []), (3, vi 0), (4, vi (wI ((↑s0.length : Int).tdiv 4))), (5, V.ref 0), (6, vi i0), (7, V.ptr 1 0), (22, V.bool false), (30, V.bool true), (42, V.bool false), (66, V.bool false), (85, vi i5)], hp := [(0, Ob.row false 1 x1), (1, Ob.var [vb i1, vb i2, vb i3, vb i4])], nx := 2 } = some (Exit.normal, { tm := [(0, V.str s0), (2, V.sl (some true) true 0 []), (3, vi 0), (4, vi (wI ((↑s0.length : Int).tdiv 4))), (5, V.ref 74), (6, vi i0), (7, V.ptr 1 0), (9, vi i5), (22, V.bool false), (30, V.bool true), (42, V.bool false), (66, V.bool false), (85, vi (wI (i5 + 1))), (86, V.bool true)], hp := [(0, Ob.dead), (1, Ob.var [vb i1, vb i2, vb i3, vb i4]), (70, Ob.row false 1 [vb (x8 i6 i2)]), (74, Ob.row false 1 (x1 ++ [vb (x8 i6 i2)]))], nx := 90 }) :=
  byL (k := k) (d := 17) [Hn.br 86 true, Hn.op 96 (V.ept 0 (wI (wI (4 * wI (i0 - wI ((↑s0.length : Int).tdiv 4))) + i5)).toNat 0) [], Hn.op 97 (vb i6) [], Hn.op 99 (V.ptr 1 1) [], Hn.op 103 (V.ref 74) [(0, Ob.dead), (74, Ob.row false 1 (x1 ++ [vb (x8 i6 i2)]))]] (aI c0 (aI c1 (aI c2 (aI c3 (aI c4 trivial))))) (by kernel_rfl)
theorem L61_4_b1h (i0 i1 i2 i3 i4 i5 i6 : Int) (s0 : List UInt8) (x1 : List V) : head 0 [0, 2, 3, 4, 5, 6, 7, 22, 30, 42, 66, 85] (Tryd.cfg.fc 61).acc { tm := [(0, V.str s0), (2, V.sl (some true) true 0 []), (3, vi 0), (4, vi (wI ((↑s0.length : Int).tdiv 4))), (5, V.ref 74), (6, vi i0), (7, V.ptr 1 0), (9, vi i5), (22, V.bool false), (30, V.bool true), (42, V.bool false), (66, V.bool false), (85, vi (wI (i5 + 1))), (86, V.bool true)], hp := [(0, Ob.dead), (1, Ob.var [vb i1, vb i2, vb i3, vb i4]), (70, Ob.row false 1 [vb (x8 i6 i2)]), (74, Ob.row false 1 (x1 ++ [vb (x8 i6 i2)]))], nx := 90 } = { tm := [(0, V.str s0), (2, V.sl (some true) true 0 []), (3, vi 0), (4, vi (wI ((↑s0.length : Int).tdiv 4))), (5, V.ref 0), (6, vi i0), (7, V.ptr 1 0), (22, V.bool false), (30, V.bool true), (42, V.bool false), (66, V.bool false), (85, vi (wI (i5 + 1)))], hp := [(0, Ob.row false 1 (x1 ++ [vb (x8 i6 i2)])), (1, Ob.var [vb i1, vb i2, vb i3, vb i4])], nx := 2 } := by kernel_rfl
theorem L61_4_b2 (i0 i1 i2 i3 i4 i5 i6 : Int) (s0 : List UInt8) (x1 : List V) (k : Nat)
    (c0 : decide (i5 < 4) = true)
    (c1 : IdxR x1.length (wI (wI (4 * wI (i0 - wI ((↑s0.length : Int).tdiv 4))) + i5)) 1 1 (V.ept 0 (wI (wI (4 * wI (i0 - wI ((↑s0.length : Int).tdiv 4))) + i5)).toNat 0))
    (c2 : LdP Tryd.prog 5 x1 (wI (wI (4 * wI (i0 - wI ((↑s0.length : Int).tdiv 4))) + i5)).toNat 0 (vb i6))
    (c3 : IdxA 4 i5 1 (fun d => V.ptr 1 (0 + d)) (V.ptr 1 2))
    (c4 : GrdW ((1 : Nat) = (1 : Nat) ∧ (0 : Nat) < (1 : Nat) ∧ (1 : Nat) ≤ (64 : Nat) ∧ x1.length + (1 : Nat) ≤ maxLen') (V.ref (74 : Nat)) [((0 : Nat), Ob.dead), ((74 : Nat), Ob.row false (1 : Nat) (x1 ++ [vb (x8 i6 i3)]))]) :
    eC k 17 0 61 (loopBody Tryd.f61 2) { tm := [(0, V.str s0), (2, V.sl (some true) true 0 []), (3, vi 0), (4, vi (wI ((↑s0.length : Int).tdiv 4))), (5, V.ref 0), (6, vi i0), (7, V.ptr 1 0), (22, V.bool false), (30, V.bool true), (42, V.bool false), (66, V.bool false), (85, vi i5)], hp := [(0, Ob.row false 1 x1), (1, Ob.var [vb i1, vb i2, vb i3, vb i4])], nx := 2 } = some (Exit.normal, { tm := [(0, V.str s0), (2, V.sl (some true) true 0 []), (3, vi 0), (4, vi (wI ((↑s0.length : Int).tdiv 4))), (5, V.ref 74), (6, vi i0), (7, V.ptr 1 0), (9, vi i5), (22, V.bool false), (30, V.bool true), (42, V.bool false), (66, V.bool false), (85, vi (wI (i5 + 1))), (86, V.bool true)], hp := [(0, Ob.dead), (1, Ob.var [vb i1, vb i2, vb i3, vb i4]), (70, Ob.row false 1 [vb (x8 i6 i3)]), (74, Ob.row false 1 (x1 ++ [vb (x8 i6 i3)]))], nx := 90 }) :=
  byL (k := k) (d := 17) [Hn.br 86 true, Hn.op 96 (V.ept 0 (wI (wI (4 * wI (i0 - wI ((↑s0.length : Int).tdiv 4))) + i5)).toNat 0) [], Hn.op 97 (vb i6) [], Hn.op 99 (V.ptr 1 2) [], Hn.op 103 (V.ref 74) [(0, Ob.dead), (74, Ob.row false 1 (x1 ++ [vb (x8 i6 i3)]))]] (aI c0 (aI c1 (aI c2 (aI c3 (aI c4 trivial))))) (by kernel_rfl)
theorem L61_4_b2h (i0 i1 i2 i3 i4 i5 i6 : Int) (s0 : List UInt8) (x1 : List V) : head 0 [0, 2, 3, 4, 5, 6, 7, 22, 30, 42, 66, 85] (Tryd.cfg.fc 61).acc { tm := [(0, V.str s0), (2, V.sl (some true) true 0 []), (3, vi 0), (4, vi (wI ((↑s0.length : Int).tdiv 4))), (5, V.ref 74), (6, vi i0), (7, V.ptr 1 0), (9, vi i5), (22, V.bool false), (30, V.bool true), (42, V.bool false), (66, V.bool false), (85, vi (wI (i5 + 1))), (86, V.bool true)], hp := [(0, Ob.dead), (1, Ob.var [vb i1, vb i2, vb i3, vb i4]), (70, Ob.row false 1 [vb (x8 i6 i3)]), (74, Ob.row false 1 (x1 ++ [vb (x8 i6 i3)]))], nx := 90 } = { tm := [(0, V.str s0), (2, V.sl (some true) true 0 []), (3, vi 0), (4, vi (wI ((↑s0.length : Int).tdiv 4))), (5, V.ref 0), (6, vi i0), (7, V.ptr 1 0), (22, V.bool false), (30, V.bool true), (42, V.bool false), (66, V.bool false), (85, vi (wI (i5 + 1)))], hp := [(0, Ob.row false 1 (x1 ++ [vb (x8 i6 i3)])), (1, Ob.var [vb i1, vb i2, vb i3, vb i4])], nx := 2 } := by kernel_rfl
theorem L61_4_b3 (i0 i1 i2 i3 i4 i5 i6 : Int) (s0 : List UInt8) (x1 : List V) (k : Nat)
    (c0 : decide (i5 < 4) = true)
    (c1 : IdxR x1.length (wI (wI (4 * wI (i0 - wI ((↑s0.length : Int).tdiv 4))) + i5)) 1 1 (V.ept 0 (wI (wI (4 * wI (i0 - wI ((↑s0.length : Int).tdiv 4))) + i5)).toNat 0))
    (c2 : LdP Tryd.prog 5 x1 (wI (wI (4 * wI (i0 - wI ((↑s0.length : Int).tdiv 4))) + i5)).toNat 0 (vb i6))
    (c3 : IdxA 4 i5 1 (fun d => V.ptr 1 (0 + d)) (V.ptr 1 3))
    (c4 : GrdW ((1 : Nat) = (1 : Nat) ∧ (0 : Nat) < (1 : Nat) ∧ (1 : Nat) ≤ (64 : Nat) ∧ x1.length + (1 : Nat) ≤ maxLen') (V.ref (74 : Nat)) [((0 : Nat), Ob.dead), ((74 : Nat), Ob.row false (1 : Nat) (x1 ++ [vb (x8 i6 i4)]))]) :
    eC k 17 0 61 (loopBody Tryd.f61 2) { tm := [(0, V.str s0), (2, V.sl (some true) true 0 []), (3, vi 0), (4, vi (wI ((↑s0.length : Int).tdiv 4))), (5, V.ref 0), (6, vi i0), (7, V.ptr 1 0), (22, V.bool false), (30, V.bool true), (42, V.bool false), (66, V.bool false), (85, vi i5)], hp := [(0, Ob.row false 1 x1), (1, Ob.var [vb i1, vb i2, vb i3, vb i4])], nx := 2 } = some (Exit.normal, { tm := [(0, V.str s0), (2, V.sl (some true) true 0 []), (3, vi 0), (4, vi (wI ((↑s0.length : Int).tdiv 4))), (5, V.ref 74), (6, vi i0), (7, V.ptr 1 0), (9, vi i5), (22, V.bool false), (30, V.bool true), (42, V.bool false), (66, V.bool false), (85, vi (wI (i5 + 1))), (86, V.bool true)], hp := [(0, Ob.dead), (1, Ob.var [vb i1, vb i2, vb i3, vb i4]), (70, Ob.row false 1 [vb (x8 i6 i4)]), (74, Ob.row false 1 (x1 ++ [vb (x8 i6 i4)]))], nx := 90 }) :=
  byL (k := k) (d := 17) [Hn.br 86 true, Hn.op 96 (V.ept 0 (wI (wI (4 * wI (i0 - wI ((↑s0.length : Int).tdiv 4))) + i5)).toNat 0) [], Hn.op 97 (vb i6) [], Hn.op 99 (V.ptr 1 3) [], Hn.op 103 (V.ref 74) [(0, Ob.dead), (74, Ob.row false 1 (x1 ++ [vb (x8 i6 i4)]))]] (aI c0 (aI c1 (aI c2 (aI c3 (aI c4 trivial))))) (by kernel_rfl)
theorem L61_4_b3h (i0 i1 i2 i3 i4 i5 i6 : Int) (s0 : List UInt8) (x1 : List V) : head 0 [0, 2, 3, 4, 5, 6, 7, 22, 30, 42, 66, 85] (Tryd.cfg.fc 61).acc { tm := [(0, V.str s0), (2, V.sl (some true) true 0 []), (3, vi 0), (4, vi (wI ((↑s0.length : Int).tdiv 4))), (5, V.ref 74), (6, vi i0), (7, V.ptr 1 0), (9, vi i5), (22, V.bool false), (30, V.bool true), (42, V.bool false), (66, V.bool false), (85, vi (wI (i5 + 1))), (86, V.bool true)], hp := [(0, Ob.dead), (1, Ob.var [vb i1, vb i2, vb i3, vb i4]), (70, Ob.row false 1 [vb (x8 i6 i4)]), (74, Ob.row false 1 (x1 ++ [vb (x8 i6 i4)]))], nx := 90 } = { tm := [(0, V.str s0), (2, V.sl (some true) true 0 []), (3, vi 0), (4, vi (wI ((↑s0.length : Int).tdiv 4))), (5, V.ref 0), (6, vi i0), (7, V.ptr 1 0), (22, V.bool false), (30, V.bool true), (42, V.bool false), (66, V.bool false), (85, vi (wI (i5 + 1)))], hp := [(0, Ob.row false 1 (x1 ++ [vb (x8 i6 i4)])), (1, Ob.var [vb i1, vb i2, vb i3, vb i4])], nx := 2 } := by kernel_rfl
theorem L61_4_b4 (i0 i1 i2 i3 i4 i5 : Int) (s0 : List UInt8) (x1 : List V) (k : Nat)
    (c0 : decide (i5 < 4) = false) :
    eC k 17 0 61 (loopBody Tryd.f61 2) { tm := [(0, V.str s0), (2, V.sl (some true) true 0 []), (3, vi 0), (4, vi (wI ((↑s0.length : Int).tdiv 4))), (5, V.ref 0), (6, vi i0), (7, V.ptr 1 0), (22, V.bool false), (30, V.bool true), (42, V.bool false), (66, V.bool false), (85, vi i5)], hp := [(0, Ob.row false 1 x1), (1, Ob.var [vb i1, vb i2, vb i3, vb i4])], nx := 2 } = some (Exit.exit 5, { tm := [(0, V.str s0), (2, V.sl (some true) true 0 []), (3, vi 0), (4, vi (wI ((↑s0.length : Int).tdiv 4))), (5, V.ref 0), (6, vi i0), (7, V.ptr 1 0), (22, V.bool false), (30, V.bool true), (42, V.bool false), (66, V.bool false), (85, vi i5), (86, V.bool false)], hp := [(0, Ob.row false 1 x1), (1, Ob.var [vb i1, vb i2, vb i3, vb i4])], nx := 6 }) :=
  byL (k := k) (d := 17) [Hn.br 86 false] (aI c0 trivial) (by kernel_rfl)
inductive L61_4_R where
  | e0 (i5 : Int) (x1 : List V)
noncomputable def L61_4_end (i0 : Int) (i1 : Int) (i2 : Int) (i3 : Int) (i4 : Int) (s0 : List UInt8) : L61_4_R → Exit × St
  | .e0 i5 x1 => (Exit.exit 5, { tm := [(0, V.str s0), (2, V.sl (some true) true 0 []), (3, V.int .i64 0), (4, V.int .i64 (IntKind.i64.wrap ((↑s0.length : Int).tdiv 4))), (5, V.ref 0), (6, V.int .i64 i0), (7, V.ptr 1 0), (22, V.bool false), (30, V.bool true), (42, V.bool false), (66, V.bool false), (85, V.int .i64 i5), (86, V.bool false)], hp := [(0, Ob.row false 1 x1), (1, Ob.var [V.int .u8 i1, V.int .u8 i2, V.int .u8 i3, V.int .u8 i4])], nx := 6 })
def L61_4 (k : Nat) (i0 i1 i2 i3 i4 : Int) (s0 : List UInt8) : Nat → Int → List V → Option L61_4_R
  | 0, _, _ => none
  | f + 1, i5, x1 => (bif decide (i5 < 4) then (guardP ((0 : Int) ≤ IntKind.i64.wrap (IntKind.i64.wrap ((4 : Int) * IntKind.i64.wrap (i0 - IntKind.i64.wrap ((↑s0.length : Int).tdiv (4 : Int)))) + i5) ∧ IntKind.i64.wrap (IntKind.i64.wrap ((4 : Int) * IntKind.i64.wrap (i0 - IntKind.i64.wrap ((↑s0.length : Int).tdiv (4 : Int)))) + i5) < (↑x1.length : Int)) ((((x1)[(IntKind.i64.wrap (IntKind.i64.wrap (4 * IntKind.i64.wrap (i0 - IntKind.i64.wrap ((↑s0.length : Int).tdiv 4))) + i5)).toNat]?).bind (dI IntKind.u8)).bind fun i6 => (bif decide (i5 = 0) then (guardP (x1.length + (1 : Nat) ≤ maxLen') (L61_4 k i0 i1 i2 i3 i4 s0 f (IntKind.i64.wrap (i5 + 1)) (x1 ++ [V.int .u8 (IntKind.u8.wrap (↑(BitVec.ofInt IntKind.u8.bits i6 ^^^ BitVec.ofInt IntKind.u8.bits i1).toNat : Int))]))) else (bif decide (i5 = 1) then (guardP (x1.length + (1 : Nat) ≤ maxLen') (L61_4 k i0 i1 i2 i3 i4 s0 f (IntKind.i64.wrap (i5 + 1)) (x1 ++ [V.int .u8 (IntKind.u8.wrap (↑(BitVec.ofInt IntKind.u8.bits i6 ^^^ BitVec.ofInt IntKind.u8.bits i2).toNat : Int))]))) else (bif decide (i5 = 2) then (guardP (x1.length + (1 : Nat) ≤ maxLen') (L61_4 k i0 i1 i2 i3 i4 s0 f (IntKind.i64.wrap (i5 + 1)) (x1 ++ [V.int .u8 (IntKind.u8.wrap (↑(BitVec.ofInt IntKind.u8.bits i6 ^^^ BitVec.ofInt IntKind.u8.bits i3).toNat : Int))]))) else (bif decide (i5 = 3) then (guardP (x1.length + (1 : Nat) ≤ maxLen') (L61_4 k i0 i1 i2 i3 i4 s0 f (IntKind.i64.wrap (i5 + 1)) (x1 ++ [V.int .u8 (IntKind.u8.wrap (↑(BitVec.ofInt IntKind.u8.bits i6 ^^^ BitVec.ofInt IntKind.u8.bits i4).toNat : Int))]))) else none)))))) else (some (L61_4_R.e0 i5 x1)))
theorem L61_4_ok {i0 i1 i2 i3 i4 : Int} {s0 : List UInt8} {k : Nat} : ∀ {f : Nat} {i5 : Int} {x1 : List V} {r : L61_4_R}, L61_4 k i0 i1 i2 i3 i4 s0 f i5 x1 = some r →
    LoopsN Tryd.prog Tryd.cfg (k + 17) 0 Tryd.f61 (Tryd.cfg.fc 61) 2 [0, 2, 3, 4, 5, 6, 7, 22, 30, 42, 66, 85] f { tm := [(0, V.str s0), (2, V.sl (some true) true 0 []), (3, vi 0), (4, vi (wI ((↑s0.length : Int).tdiv 4))), (5, V.ref 0), (6, vi i0), (7, V.ptr 1 0), (22, V.bool false), (30, V.bool true), (42, V.bool false), (66, V.bool false), (85, vi i5)], hp := [(0, Ob.row false 1 x1), (1, Ob.var [vb i1, vb i2, vb i3, vb i4])], nx := 2 } (L61_4_end i0 i1 i2 i3 i4 s0 r) := by
  intro f
  induction f with
  | zero => intro i5 x1 r h; cases h
  | succ f ih =>
    intro i5 x1 r h
    rw [L61_4] at h
    rcases cond_elim h with ⟨e0, h⟩ | ⟨e0, h⟩
    ·
      obtain ⟨e1, h⟩ := guardP_some.1 h
      obtain ⟨i6, e2, h⟩ := bE h
      rcases cond_elim h with ⟨e3, h⟩ | ⟨e3, h⟩
      ·
        obtain ⟨e4, h⟩ := guardP_some.1 h
        exact LoopsN.next (L61_4_b0 i0 i1 i2 i3 i4 i5 i6 s0 x1 k e0 (IdxR.mk' e1 rfl) (LdP.mk (get_d dI_ok e2 :) (by kernel_rfl)) (IdxA.mk 0 e3 (by decide) (by decide) rfl) (GrdW.mk ⟨rfl, by decide, by decide, e4⟩)) (L61_4_b0h i0 i1 i2 i3 i4 i5 i6 s0 x1) (ih h)
      ·
        rcases cond_elim h with ⟨e4, h⟩ | ⟨e4, h⟩
        ·
          obtain ⟨e5, h⟩ := guardP_some.1 h
          exact LoopsN.next (L61_4_b1 i0 i1 i2 i3 i4 i5 i6 s0 x1 k e0 (IdxR.mk' e1 rfl) (LdP.mk (get_d dI_ok e2 :) (by kernel_rfl)) (IdxA.mk 1 e4 (by decide) (by decide) rfl) (GrdW.mk ⟨rfl, by decide, by decide, e5⟩)) (L61_4_b1h i0 i1 i2 i3 i4 i5 i6 s0 x1) (ih h)
        ·
          rcases cond_elim h with ⟨e5, h⟩ | ⟨e5, h⟩
          ·
            obtain ⟨e6, h⟩ := guardP_some.1 h
            exact LoopsN.next (L61_4_b2 i0 i1 i2 i3 i4 i5 i6 s0 x1 k e0 (IdxR.mk' e1 rfl) (LdP.mk (get_d dI_ok e2 :) (by kernel_rfl)) (IdxA.mk 2 e5 (by decide) (by decide) rfl) (GrdW.mk ⟨rfl, by decide, by decide, e6⟩)) (L61_4_b2h i0 i1 i2 i3 i4 i5 i6 s0 x1) (ih h)
          ·
            rcases cond_elim h with ⟨e6, h⟩ | ⟨e6, h⟩
            ·
              obtain ⟨e7, h⟩ := guardP_some.1 h
              exact LoopsN.next (L61_4_b3 i0 i1 i2 i3 i4 i5 i6 s0 x1 k e0 (IdxR.mk' e1 rfl) (LdP.mk (get_d dI_ok e2 :) (by kernel_rfl)) (IdxA.mk 3 e6 (by decide) (by decide) rfl) (GrdW.mk ⟨rfl, by decide, by decide, e7⟩)) (L61_4_b3h i0 i1 i2 i3 i4 i5 i6 s0 x1) (ih h)
            ·
              cases h
    ·
      cases h; exact LoopsN.done (L61_4_b4 i0 i1 i2 i3 i4 i5 s0 x1 k e0) (fun h => by cases h)
theorem L61_0_b0 (i0 i1 i2 i3 i4 i5 i6 i7 i8 i9 i10 : Int) (s0 : List UInt8) (x0 x1 : List V) (k : Nat)
    (c0 : decide (i0 < wI (4 * wI (wI ((↑s0.length : Int).tdiv 4) + 7))) = true)
    (c1 : SlcR x0.length 1 1 0 (some (vi (wI (wI (4 * i0) - 4)))) (some (vi (wI (4 * i0)))) (V.sub 0 (wI (wI (4 * i0) - 4)).toNat ((wI (4 * i0)).toNat - (wI (wI (4 * i0) - 4)).toNat)))
    (c2 : ArrP 4 ((wI (4 * i0)).toNat - (wI (wI (4 * i0) - 4)).toNat) (V.ept 0 (wI (wI (4 * i0) - 4)).toNat 0))
    (c3 : LdA Tryd.prog 127 1 x0 (wI (wI (4 * i0) - 4)).toNat (V.agg [vb i1, vb i2, vb i3, vb i4]))
    (c4 : GrdP (IntKind.i64 = IntKind.i64 ∧ wI ((↑s0.length : Int).tdiv (4 : Int)) ≠ (0 : Int)) (vi (i0.tmod (wI ((↑s0.length : Int).tdiv (4 : Int))))))
    (c5 : decide (i0.tmod (wI ((↑s0.length : Int).tdiv 4)) = 0) = true)
    (c6 : cP ((k + 17)) 79 [vb i2] = some (vb i5))
    (c7 : GrdP (IntKind.i64 = IntKind.i64 ∧ wI ((↑s0.length : Int).tdiv (4 : Int)) ≠ (0 : Int)) (vi (wI (i0.tdiv (wI ((↑s0.length : Int).tdiv (4 : Int)))))))
    (c8 : cP ((k + 17)) 80 [vb 2, vi (wI (wI (i0.tdiv (wI ((↑s0.length : Int).tdiv 4))) - 1))] = some (vb i6))
    (c9 : cP ((k + 17)) 79 [vb i3] = some (vb i7))
    (c10 : cP ((k + 17)) 79 [vb i4] = some (vb i8))
    (c11 : cP ((k + 17)) 79 [vb i1] = some (vb i9))
    (c12 : LoopsN Tryd.prog Tryd.cfg (k + 17) 0 Tryd.f61 (Tryd.cfg.fc 61) 2 [0, 2, 3, 4, 5, 6, 7, 22, 30, 42, 85] (k + 17) { tm := [(0, V.str s0), (2, V.sl (some true) true 0 []), (3, vi 0), (4, vi (wI ((↑s0.length : Int).tdiv 4))), (5, V.ref 0), (6, vi i0), (7, V.ptr 1 0), (22, V.bool false), (30, V.bool true), (42, V.bool true), (85, vi 0)], hp := [(0, Ob.row false 1 x0), (1, Ob.var [vb (x8 i5 i6), vb i7, vb i8, vb i9])], nx := 2 } (Exit.exit 5, { tm := [(0, V.str s0), (2, V.sl (some true) true 0 []), (3, vi 0), (4, vi (wI ((↑s0.length : Int).tdiv 4))), (5, V.ref 0), (6, vi i0), (7, V.ptr 1 0), (22, V.bool false), (30, V.bool true), (42, V.bool true), (85, vi i10), (86, V.bool false)], hp := [(0, Ob.row false 1 x1), (1, Ob.var [vb (x8 i5 i6), vb i7, vb i8, vb i9])], nx := 6 })) :
    eC k 17 0 61 (loopBody Tryd.f61 0) { tm := [(0, V.str s0), (2, V.sl (some true) true 0 []), (3, vi 0), (4, vi (wI ((↑s0.length : Int).tdiv 4))), (5, V.ref 0), (6, vi i0), (22, V.bool false)], hp := [(0, Ob.row false 1 x0)], nx := 1 } = some (Exit.normal, { tm := [(0, V.str s0), (2, V.sl (some true) true 0 []), (3, vi 0), (4, vi (wI ((↑s0.length : Int).tdiv 4))), (5, V.ref 0), (6, vi (wI (i0 + 1))), (7, V.ptr 1 0), (22, V.bool false), (30, V.bool true), (42, V.bool true), (85, vi i10), (86, V.bool false)], hp := [(0, Ob.row false 1 x1), (1, Ob.var [vb (x8 i5 i6), vb i7, vb i8, vb i9])], nx := 18 }) :=
  byL (k := k) (d := 17) [Hn.br 30 true, Hn.op 39 (V.sub 0 (wI (wI (4 * i0) - 4)).toNat ((wI (4 * i0)).toNat - (wI (wI (4 * i0) - 4)).toNat)) [], Hn.op 40 (V.ept 0 (wI (wI (4 * i0) - 4)).toNat 0) [], Hn.op 41 (V.agg [vb i1, vb i2, vb i3, vb i4]) [], Hn.op 45 (vi (i0.tmod (wI ((↑s0.length : Int).tdiv 4)))) [], Hn.br 42 true, Hn.call 49 (vb i5), Hn.op 52 (vi (wI (i0.tdiv (wI ((↑s0.length : Int).tdiv 4))))) [], Hn.call 54 (vb i6), Hn.call 58 (vb i7), Hn.call 61 (vb i8), Hn.call 64 (vb i9), Hn.loop (Exit.exit 5, { tm := [(0, V.str s0), (2, V.sl (some true) true 0 []), (3, vi 0), (4, vi (wI ((↑s0.length : Int).tdiv 4))), (5, V.ref 0), (6, vi i0), (7, V.ptr 1 0), (22, V.bool false), (30, V.bool true), (42, V.bool true), (85, vi i10), (86, V.bool false)], hp := [(0, Ob.row false 1 x1), (1, Ob.var [vb (x8 i5 i6), vb i7, vb i8, vb i9])], nx := 6 })] (aI c0 (aI c1 (aI c2 (aI c3 (aI c4 (aI c5 (aI c6 (aI c7 (aI c8 (aI c9 (aI c10 (aI c11 (aI c12 trivial))))))))))))) (by kernel_rfl)
theorem L61_0_b0h (i0 i5 i6 i7 i8 i9 i10 : Int) (s0 : List UInt8) (x1 : List V) : head 0 [0, 2, 3, 4, 5, 6, 22] (Tryd.cfg.fc 61).acc { tm := [(0, V.str s0), (2, V.sl (some true) true 0 []), (3, vi 0), (4, vi (wI ((↑s0.length : Int).tdiv 4))), (5, V.ref 0), (6, vi (wI (i0 + 1))), (7, V.ptr 1 0), (22, V.bool false), (30, V.bool true), (42, V.bool true), (85, vi i10), (86, V.bool false)], hp := [(0, Ob.row false 1 x1), (1, Ob.var [vb (x8 i5 i6), vb i7, vb i8, vb i9])], nx := 18 } = { tm := [(0, V.str s0), (2, V.sl (some true) true 0 []), (3, vi 0), (4, vi (wI ((↑s0.length : Int).tdiv 4))), (5, V.ref 0), (6, vi (wI (i0 + 1))), (22, V.bool false)], hp := [(0, Ob.row false 1 x1)], nx := 1 } := by kernel_rfl
theorem L61_0_b1 (i0 i1 i2 i3 i4 i5 i6 i7 i8 i9 i10 : Int) (s0 : List UInt8) (x0 x1 : List V) (k : Nat)
    (c0 : decide (i0 < wI (4 * wI (wI ((↑s0.length : Int).tdiv 4) + 7))) = true)
    (c1 : SlcR x0.length 1 1 0 (some (vi (wI (wI (4 * i0) - 4)))) (some (vi (wI (4 * i0)))) (V.sub 0 (wI (wI (4 * i0) - 4)).toNat ((wI (4 * i0)).toNat - (wI (wI (4 * i0) - 4)).toNat)))
    (c2 : ArrP 4 ((wI (4 * i0)).toNat - (wI (wI (4 * i0) - 4)).toNat) (V.ept 0 (wI (wI (4 * i0) - 4)).toNat 0))
    (c3 : LdA Tryd.prog 127 1 x0 (wI (wI (4 * i0) - 4)).toNat (V.agg [vb i1, vb i2, vb i3, vb i4]))
    (c4 : GrdP (IntKind.i64 = IntKind.i64 ∧ wI ((↑s0.length : Int).tdiv (4 : Int)) ≠ (0 : Int)) (vi (i0.tmod (wI ((↑s0.length : Int).tdiv (4 : Int))))))
    (c5 : decide (i0.tmod (wI ((↑s0.length : Int).tdiv 4)) = 0) = false)
    (c6 : decide (wI ((↑s0.length : Int).tdiv 4) = 8) = true)
    (c7 : GrdP (IntKind.i64 = IntKind.i64 ∧ wI ((↑s0.length : Int).tdiv (4 : Int)) ≠ (0 : Int)) (vi (i0.tmod (wI ((↑s0.length : Int).tdiv (4 : Int))))))
    (c8 : decide (i0.tmod (wI ((↑s0.length : Int).tdiv 4)) = 4) = true)
    (c9 : LoopsN Tryd.prog Tryd.cfg (k + 17) 0 Tryd.f61 (Tryd.cfg.fc 61) 1 [0, 2, 3, 4, 5, 6, 7, 22, 30, 42, 66, 75] (k + 17) { tm := [(0, V.str s0), (2, V.sl (some true) true 0 []), (3, vi 0), (4, vi (wI ((↑s0.length : Int).tdiv 4))), (5, V.ref 0), (6, vi i0), (7, V.ptr 1 0), (22, V.bool false), (30, V.bool true), (42, V.bool false), (66, V.bool true), (75, vi 0)], hp := [(0, Ob.row false 1 x0), (1, Ob.var [vb i1, vb i2, vb i3, vb i4])], nx := 2 } (Exit.exit 3, { tm := [(0, V.str s0), (2, V.sl (some true) true 0 []), (3, vi 0), (4, vi (wI ((↑s0.length : Int).tdiv 4))), (5, V.ref 0), (6, vi i0), (7, V.ptr 1 0), (22, V.bool false), (30, V.bool true), (42, V.bool false), (66, V.bool true), (75, vi i5), (76, V.bool false)], hp := [(0, Ob.row false 1 x0), (1, Ob.var [vb i6, vb i7, vb i8, vb i9])], nx := 6 }))
    (c10 : LoopsN Tryd.prog Tryd.cfg (k + 17) 0 Tryd.f61 (Tryd.cfg.fc 61) 2 [0, 2, 3, 4, 5, 6, 7, 22, 30, 42, 66, 75, 76, 85] (k + 17) { tm := [(0, V.str s0), (2, V.sl (some true) true 0 []), (3, vi 0), (4, vi (wI ((↑s0.length : Int).tdiv 4))), (5, V.ref 0), (6, vi i0), (7, V.ptr 1 0), (22, V.bool false), (30, V.bool true), (42, V.bool false), (66, V.bool true), (75, vi i5), (76, V.bool false), (85, vi 0)], hp := [(0, Ob.row false 1 x0), (1, Ob.var [vb i6, vb i7, vb i8, vb i9])], nx := 2 } (Exit.exit 5, { tm := [(0, V.str s0), (2, V.sl (some true) true 0 []), (3, vi 0), (4, vi (wI ((↑s0.length : Int).tdiv 4))), (5, V.ref 0), (6, vi i0), (7, V.ptr 1 0), (22, V.bool false), (30, V.bool true), (42, V.bool false), (66, V.bool true), (75, vi i5), (76, V.bool false), (85, vi i10), (86, V.bool false)], hp := [(0, Ob.row false 1 x1), (1, Ob.var [vb i6, vb i7, vb i8, vb i9])], nx := 6 })) :
    eC k 17 0 61 (loopBody Tryd.f61 0) { tm := [(0, V.str s0), (2, V.sl (some true) true 0 []), (3, vi 0), (4, vi (wI ((↑s0.length : Int).tdiv 4))), (5, V.ref 0), (6, vi i0), (22, V.bool false)], hp := [(0, Ob.row false 1 x0)], nx := 1 } = some (Exit.normal, { tm := [(0, V.str s0), (2, V.sl (some true) true 0 []), (3, vi 0), (4, vi (wI ((↑s0.length : Int).tdiv 4))), (5, V.ref 0), (6, vi (wI (i0 + 1))), (7, V.ptr 1 0), (22, V.bool false), (30, V.bool true), (42, V.bool false), (66, V.bool true), (75, vi i5), (76, V.bool false), (85, vi i10), (86, V.bool false)], hp := [(0, Ob.row false 1 x1), (1, Ob.var [vb i6, vb i7, vb i8, vb i9])], nx := 18 }) :=
  byL (k := k) (d := 17) [Hn.br 30 true, Hn.op 39 (V.sub 0 (wI (wI (4 * i0) - 4)).toNat ((wI (4 * i0)).toNat - (wI (wI (4 * i0) - 4)).toNat)) [], Hn.op 40 (V.ept 0 (wI (wI (4 * i0) - 4)).toNat 0) [], Hn.op 41 (V.agg [vb i1, vb i2, vb i3, vb i4]) [], Hn.op 45 (vi (i0.tmod (wI ((↑s0.length : Int).tdiv 4)))) [], Hn.br 42 false, Hn.br 69 true, Hn.op 72 (vi (i0.tmod (wI ((↑s0.length : Int).tdiv 4)))) [], Hn.br 66 true, Hn.loop (Exit.exit 3, { tm := [(0, V.str s0), (2, V.sl (some true) true 0 []), (3, vi 0), (4, vi (wI ((↑s0.length : Int).tdiv 4))), (5, V.ref 0), (6, vi i0), (7, V.ptr 1 0), (22, V.bool false), (30, V.bool true), (42, V.bool false), (66, V.bool true), (75, vi i5), (76, V.bool false)], hp := [(0, Ob.row false 1 x0), (1, Ob.var [vb i6, vb i7, vb i8, vb i9])], nx := 6 }), Hn.loop (Exit.exit 5, { tm := [(0, V.str s0), (2, V.sl (some true) true 0 []), (3, vi 0), (4, vi (wI ((↑s0.length : Int).tdiv 4))), (5, V.ref 0), (6, vi i0), (7, V.ptr 1 0), (22, V.bool false), (30, V.bool true), (42, V.bool false), (66, V.bool true), (75, vi i5), (76, V.bool false), (85, vi i10), (86, V.bool false)], hp := [(0, Ob.row false 1 x1), (1, Ob.var [vb i6, vb i7, vb i8, vb i9])], nx := 6 })] (aI c0 (aI c1 (aI c2 (aI c3 (aI c4 (aI c5 (aI c6 (aI c7 (aI c8 (aI c9 (aI c10 trivial))))))))))) (by kernel_rfl)
theorem L61_0_b1h (i0 i5 i6 i7 i8 i9 i10 : Int) (s0 : List UInt8) (x1 : List V) : head 0 [0, 2, 3, 4, 5, 6, 22] (Tryd.cfg.fc 61).acc { tm := [(0, V.str s0), (2, V.sl (some true) true 0 []), (3, vi 0), (4, vi (wI ((↑s0.length : Int).tdiv 4))), (5, V.ref 0), (6, vi (wI (i0 + 1))), (7, V.ptr 1 0), (22, V.bool false), (30, V.bool true), (42, V.bool false), (66, V.bool true), (75, vi i5), (76, V.bool false), (85, vi i10), (86, V.bool false)], hp := [(0, Ob.row false 1 x1), (1, Ob.var [vb i6, vb i7, vb i8, vb i9])], nx := 18 } = { tm := [(0, V.str s0), (2, V.sl (some true) true 0 []), (3, vi 0), (4, vi (wI ((↑s0.length : Int).tdiv 4))), (5, V.ref 0), (6, vi (wI (i0 + 1))), (22, V.bool false)], hp := [(0, Ob.row false 1 x1)], nx := 1 } := by kernel_rfl
theorem L61_0_b2 (i0 i1 i2 i3 i4 i5 : Int) (s0 : List UInt8) (x0 x1 : List V) (k : Nat)
    (c0 : decide (i0 < wI (4 * wI (wI ((↑s0.length : Int).tdiv 4) + 7))) = true)
    (c1 : SlcR x0.length 1 1 0 (some (vi (wI (wI (4 * i0) - 4)))) (some (vi (wI (4 * i0)))) (V.sub 0 (wI (wI (4 * i0) - 4)).toNat ((wI (4 * i0)).toNat - (wI (wI (4 * i0) - 4)).toNat)))
    (c2 : ArrP 4 ((wI (4 * i0)).toNat - (wI (wI (4 * i0) - 4)).toNat) (V.ept 0 (wI (wI (4 * i0) - 4)).toNat 0))
    (c3 : LdA Tryd.prog 127 1 x0 (wI (wI (4 * i0) - 4)).toNat (V.agg [vb i1, vb i2, vb i3, vb i4]))
    (c4 : GrdP (IntKind.i64 = IntKind.i64 ∧ wI ((↑s0.length : Int).tdiv (4 : Int)) ≠ (0 : Int)) (vi (i0.tmod (wI ((↑s0.length : Int).tdiv (4 : Int))))))
    (c5 : decide (i0.tmod (wI ((↑s0.length : Int).tdiv 4)) = 0) = false)
    (c6 : decide (wI ((↑s0.length : Int).tdiv 4) = 8) = true)
    (c7 : GrdP (IntKind.i64 = IntKind.i64 ∧ wI ((↑s0.length : Int).tdiv (4 : Int)) ≠ (0 : Int)) (vi (i0.tmod (wI ((↑s0.length : Int).tdiv (4 : Int))))))
    (c8 : decide (i0.tmod (wI ((↑s0.length : Int).tdiv 4)) = 4) = false)
    (c9 : LoopsN Tryd.prog Tryd.cfg (k + 17) 0 Tryd.f61 (Tryd.cfg.fc 61) 2 [0, 2, 3, 4, 5, 6, 7, 22, 30, 42, 66, 85] (k + 17) { tm := [(0, V.str s0), (2, V.sl (some true) true 0 []), (3, vi 0), (4, vi (wI ((↑s0.length : Int).tdiv 4))), (5, V.ref 0), (6, vi i0), (7, V.ptr 1 0), (22, V.bool false), (30, V.bool true), (42, V.bool false), (66, V.bool false), (85, vi 0)], hp := [(0, Ob.row false 1 x0), (1, Ob.var [vb i1, vb i2, vb i3, vb i4])], nx := 2 } (Exit.exit 5, { tm := [(0, V.str s0), (2, V.sl (some true) true 0 []), (3, vi 0), (4, vi (wI ((↑s0.length : Int).tdiv 4))), (5, V.ref 0), (6, vi i0), (7, V.ptr 1 0), (22, V.bool false), (30, V.bool true), (42, V.bool false), (66, V.bool false), (85, vi i5), (86, V.bool false)], hp := [(0, Ob.row false 1 x1), (1, Ob.var [vb i1, vb i2, vb i3, vb i4])], nx := 6 })) :
    eC k 17 0 61 (loopBody Tryd.f61 0) { tm := [(0, V.str s0), (2, V.sl (some true) true 0 []), (3, vi 0), (4, vi (wI ((↑s0.length : Int).tdiv 4))), (5, V.ref 0), (6, vi i0), (22, V.bool false)], hp := [(0, Ob.row false 1 x0)], nx := 1 } = some (Exit.normal, { tm := [(0, V.str s0), (2, V.sl (some true) true 0 []), (3, vi 0), (4, vi (wI ((↑s0.length : Int).tdiv 4))), (5, V.ref 0), (6, vi (wI (i0 + 1))), (7, V.ptr 1 0), (22, V.bool false), (30, V.bool true), (42, V.bool false), (66, V.bool false), (85, vi i5), (86, V.bool false)], hp := [(0, Ob.row false 1 x1), (1, Ob.var [vb i1, vb i2, vb i3, vb i4])], nx := 18 }) :=
  byL (k := k) (d := 17) [Hn.br 30 true, Hn.op 39 (V.sub 0 (wI (wI (4 * i0) - 4)).toNat ((wI (4 * i0)).toNat - (wI (wI (4 * i0) - 4)).toNat)) [], Hn.op 40 (V.ept 0 (wI (wI (4 * i0) - 4)).toNat 0) [], Hn.op 41 (V.agg [vb i1, vb i2, vb i3, vb i4]) [], Hn.op 45 (vi (i0.tmod (wI ((↑s0.length : Int).tdiv 4)))) [], Hn.br 42 false, Hn.br 69 true, Hn.op 72 (vi (i0.tmod (wI ((↑s0.length : Int).tdiv 4)))) [], Hn.br 66 false, Hn.loop (Exit.exit 5, { tm := [(0, V.str s0), (2, V.sl (some true) true 0 []), (3, vi 0), (4, vi (wI ((↑s0.length : Int).tdiv 4))), (5, V.ref 0), (6, vi i0), (7, V.ptr 1 0), (22, V.bool false), (30, V.bool true), (42, V.bool false), (66, V.bool false), (85, vi i5), (86, V.bool false)], hp := [(0, Ob.row false 1 x1), (1, Ob.var [vb i1, vb i2, vb i3, vb i4])], nx := 6 })] (aI c0 (aI c1 (aI c2 (aI c3 (aI c4 (aI c5 (aI c6 (aI c7 (aI c8 (aI c9 trivial)))))))))) (by kernel_rfl)
theorem L61_0_b2h (i0 i1 i2 i3 i4 i5 : Int) (s0 : List UInt8) (x1 : List V) : head 0 [0, 2, 3, 4, 5, 6, 22] (Tryd.cfg.fc 61).acc { tm := [(0, V.str s0), (2, V.sl (some true) true 0 []), (3, vi 0), (4, vi (wI ((↑s0.length : Int).tdiv 4))), (5, V.ref 0), (6, vi (wI (i0 + 1))), (7, V.ptr 1 0), (22, V.bool false), (30, V.bool true), (42, V.bool false), (66, V.bool false), (85, vi i5), (86, V.bool false)], hp := [(0, Ob.row false 1 x1), (1, Ob.var [vb i1, vb i2, vb i3, vb i4])], nx := 18 } = { tm := [(0, V.str s0), (2, V.sl (some true) true 0 []), (3, vi 0), (4, vi (wI ((↑s0.length : Int).tdiv 4))), (5, V.ref 0), (6, vi (wI (i0 + 1))), (22, V.bool false)], hp := [(0, Ob.row false 1 x1)], nx := 1 } := by kernel_rfl
theorem L61_0_b3 (i0 i1 i2 i3 i4 i5 : Int) (s0 : List UInt8) (x0 x1 : List V) (k : Nat)
    (c0 : decide (i0 < wI (4 * wI (wI ((↑s0.length : Int).tdiv 4) + 7))) = true)
    (c1 : SlcR x0.length 1 1 0 (some (vi (wI (wI (4 * i0) - 4)))) (some (vi (wI (4 * i0)))) (V.sub 0 (wI (wI (4 * i0) - 4)).toNat ((wI (4 * i0)).toNat - (wI (wI (4 * i0) - 4)).toNat)))
    (c2 : ArrP 4 ((wI (4 * i0)).toNat - (wI (wI (4 * i0) - 4)).toNat) (V.ept 0 (wI (wI (4 * i0) - 4)).toNat 0))
    (c3 : LdA Tryd.prog 127 1 x0 (wI (wI (4 * i0) - 4)).toNat (V.agg [vb i1, vb i2, vb i3, vb i4]))
    (c4 : GrdP (IntKind.i64 = IntKind.i64 ∧ wI ((↑s0.length : Int).tdiv (4 : Int)) ≠ (0 : Int)) (vi (i0.tmod (wI ((↑s0.length : Int).tdiv (4 : Int))))))
    (c5 : decide (i0.tmod (wI ((↑s0.length : Int).tdiv 4)) = 0) = false)
    (c6 : decide (wI ((↑s0.length : Int).tdiv 4) = 8) = false)
    (c7 : LoopsN Tryd.prog Tryd.cfg (k + 17) 0 Tryd.f61 (Tryd.cfg.fc 61) 2 [0, 2, 3, 4, 5, 6, 7, 22, 30, 42, 66, 85] (k + 17) { tm := [(0, V.str s0), (2, V.sl (some true) true 0 []), (3, vi 0), (4, vi (wI ((↑s0.length : Int).tdiv 4))), (5, V.ref 0), (6, vi i0), (7, V.ptr 1 0), (22, V.bool false), (30, V.bool true), (42, V.bool false), (66, V.bool false), (85, vi 0)], hp := [(0, Ob.row false 1 x0), (1, Ob.var [vb i1, vb i2, vb i3, vb i4])], nx := 2 } (Exit.exit 5, { tm := [(0, V.str s0), (2, V.sl (some true) true 0 []), (3, vi 0), (4, vi (wI ((↑s0.length : Int).tdiv 4))), (5, V.ref 0), (6, vi i0), (7, V.ptr 1 0), (22, V.bool false), (30, V.bool true), (42, V.bool false), (66, V.bool false), (85, vi i5), (86, V.bool false)], hp := [(0, Ob.row false 1 x1), (1, Ob.var [vb i1, vb i2, vb i3, vb i4])], nx := 6 })) :
    eC k 17 0 61 (loopBody Tryd.f61 0) { tm := [(0, V.str s0), (2, V.sl (some true) true 0 []), (3, vi 0), (4, vi (wI ((↑s0.length : Int).tdiv 4))), (5, V.ref 0), (6, vi i0), (22, V.bool false)], hp := [(0, Ob.row false 1 x0)], nx := 1 } = some (Exit.normal, { tm := [(0, V.str s0), (2, V.sl (some true) true 0 []), (3, vi 0), (4, vi (wI ((↑s0.length : Int).tdiv 4))), (5, V.ref 0), (6, vi (wI (i0 + 1))), (7, V.ptr 1 0), (22, V.bool false), (30, V.bool true), (42, V.bool false), (66, V.bool false), (85, vi i5), (86, V.bool false)], hp := [(0, Ob.row false 1 x1), (1, Ob.var [vb i1, vb i2, vb i3, vb i4])], nx := 18 }) :=
  byL (k := k) (d := 17) [Hn.br 30 true, Hn.op 39 (V.sub 0 (wI (wI (4 * i0) - 4)).toNat ((wI (4 * i0)).toNat - (wI (wI (4 * i0) - 4)).toNat)) [], Hn.op 40 (V.ept 0 (wI (wI (4 * i0) - 4)).toNat 0) [], Hn.op 41 (V.agg [vb i1, vb i2, vb i3, vb i4]) [], Hn.op 45 (vi (i0.tmod (wI ((↑s0.length : Int).tdiv 4)))) [], Hn.br 42 false, Hn.br 69 false, Hn.loop (Exit.exit 5, { tm := [(0, V.str s0), (2, V.sl (some true) true 0 []), (3, vi 0), (4, vi (wI ((↑s0.length : Int).tdiv 4))), (5, V.ref 0), (6, vi i0), (7, V.ptr 1 0), (22, V.bool false), (30, V.bool true), (42, V.bool false), (66, V.bool false), (85, vi i5), (86, V.bool false)], hp := [(0, Ob.row false 1 x1), (1, Ob.var [vb i1, vb i2, vb i3, vb i4])], nx := 6 })] (aI c0 (aI c1 (aI c2 (aI c3 (aI c4 (aI c5 (aI c6 (aI c7 trivial)))))))) (by kernel_rfl)
theorem L61_0_b3h (i0 i1 i2 i3 i4 i5 : Int) (s0 : List UInt8) (x1 : List V) : head 0 [0, 2, 3, 4, 5, 6, 22] (Tryd.cfg.fc 61).acc { tm := [(0, V.str s0), (2, V.sl (some true) true 0 []), (3, vi 0), (4, vi (wI ((↑s0.length : Int).tdiv 4))), (5, V.ref 0), (6, vi (wI (i0 + 1))), (7, V.ptr 1 0), (22, V.bool false), (30, V.bool true), (42, V.bool false), (66, V.bool false), (85, vi i5), (86, V.bool false)], hp := [(0, Ob.row false 1 x1), (1, Ob.var [vb i1, vb i2, vb i3, vb i4])], nx := 18 } = { tm := [(0, V.str s0), (2, V.sl (some true) true 0 []), (3, vi 0), (4, vi (wI ((↑s0.length : Int).tdiv 4))), (5, V.ref 0), (6, vi (wI (i0 + 1))), (22, V.bool false)], hp := [(0, Ob.row false 1 x1)], nx := 1 } := by kernel_rfl
theorem L61_0_b4 (i0 : Int) (s0 : List UInt8) (x0 : List V) (k : Nat)
    (c0 : decide (i0 < wI (4 * wI (wI ((↑s0.length : Int).tdiv 4) + 7))) = false) :
    eC k 17 0 61 (loopBody Tryd.f61 0) { tm := [(0, V.str s0), (2, V.sl (some true) true 0 []), (3, vi 0), (4, vi (wI ((↑s0.length : Int).tdiv 4))), (5, V.ref 0), (6, vi i0), (22, V.bool false)], hp := [(0, Ob.row false 1 x0)], nx := 1 } = some (Exit.exit 0, { tm := [(0, V.str s0), (2, V.sl (some true) true 0 []), (3, vi 0), (4, vi (wI ((↑s0.length : Int).tdiv 4))), (5, V.ref 0), (6, vi i0), (22, V.bool false), (30, V.bool false)], hp := [(0, Ob.row false 1 x0)], nx := 21 }) :=
  byL (k := k) (d := 17) [Hn.br 30 false] (aI c0 trivial) (by kernel_rfl)
inductive L61_0_R where
  | e0 (i0 : Int) (x0 : List V)
noncomputable def L61_0_end (s0 : List UInt8) : L61_0_R → Exit × St
  | .e0 i0 x0 => (Exit.exit 0, { tm := [(0, V.str s0), (2, V.sl (some true) true 0 []), (3, V.int .i64 0), (4, V.int .i64 (IntKind.i64.wrap ((↑s0.length : Int).tdiv 4))), (5, V.ref 0), (6, V.int .i64 i0), (22, V.bool false), (30, V.bool false)], hp := [(0, Ob.row false 1 x0)], nx := 21 })
def L61_0 (k : Nat) (s0 : List UInt8) : Nat → Int → List V → Option L61_0_R
  | 0, _, _ => none
  | f + 1, i0, x0 => (bif decide (i0 < IntKind.i64.wrap (4 * IntKind.i64.wrap (IntKind.i64.wrap ((↑s0.length : Int).tdiv 4) + 7))) then (guardP ((0 : Int) ≤ IntKind.i64.wrap (IntKind.i64.wrap ((4 : Int) * i0) - (4 : Int)) ∧ IntKind.i64.wrap (IntKind.i64.wrap ((4 : Int) * i0) - (4 : Int)) ≤ IntKind.i64.wrap ((4 : Int) * i0) ∧ IntKind.i64.wrap ((4 : Int) * i0) ≤ (↑x0.length : Int)) (guardP ((4 : Nat) ≤ (IntKind.i64.wrap ((4 : Int) * i0)).toNat - (IntKind.i64.wrap (IntKind.i64.wrap ((4 : Int) * i0) - (4 : Int))).toNat) (((arr? (x0) ((IntKind.i64.wrap (IntKind.i64.wrap (4 * i0) - 4)).toNat) 4).bind dAu8u8u8u8Z).bind fun (i1, i2, i3, i4) => (guardP (IntKind.i64.wrap ((↑s0.length : Int).tdiv (4 : Int)) ≠ (0 : Int)) (bif decide (i0.tmod (IntKind.i64.wrap ((↑s0.length : Int).tdiv 4)) = 0) then ((F79 (k + 2) (i2)).bind fun i5 => ((F80 (k + 8) (2) (IntKind.i64.wrap (IntKind.i64.wrap (i0.tdiv (IntKind.i64.wrap ((↑s0.length : Int).tdiv 4))) - 1))).bind fun i6 => ((F79 (k + 2) (i3)).bind fun i7 => ((F79 (k + 2) (i4)).bind fun i8 => ((F79 (k + 2) (i1)).bind fun i9 => ((L61_1 k i0 i5 i6 i7 i8 i9 s0 (k + 17) (0) (x0)).bind fun
    | L61_1_R.e0 i10 x1 => (L61_0 k s0 f (IntKind.i64.wrap (i0 + 1)) (x1)))))))) else (bif decide (IntKind.i64.wrap ((↑s0.length : Int).tdiv 4) = 8) then (bif decide (i0.tmod (IntKind.i64.wrap ((↑s0.length : Int).tdiv 4)) = 4) then ((L61_2 k i0 s0 x0 (k + 17) (0) (i1) (i2) (i3) (i4)).bind fun
    | L61_2_R.e0 i5 i6 i7 i8 i9 => ((L61_3 k i0 i5 i6 i7 i8 i9 s0 (k + 17) (0) (x0)).bind fun
    | L61_3_R.e0 i10 x1 => (L61_0 k s0 f (IntKind.i64.wrap (i0 + 1)) (x1)))) else ((L61_4 k i0 i1 i2 i3 i4 s0 (k + 17) (0) (x0)).bind fun
    | L61_4_R.e0 i5 x1 => (L61_0 k s0 f (IntKind.i64.wrap (i0 + 1)) (x1)))) else ((L61_4 k i0 i1 i2 i3 i4 s0 (k + 17) (0) (x0)).bind fun
    | L61_4_R.e0 i5 x1 => (L61_0 k s0 f (IntKind.i64.wrap (i0 + 1)) (x1))))))))) else (some (L61_0_R.e0 i0 x0)))
theorem L61_0_ok {s0 : List UInt8} {k : Nat} : ∀ {f : Nat} {i0 : Int} {x0 : List V} {r : L61_0_R}, L61_0 k s0 f i0 x0 = some r →
    LoopsN Tryd.prog Tryd.cfg (k + 17) 0 Tryd.f61 (Tryd.cfg.fc 61) 0 [0, 2, 3, 4, 5, 6, 22] f { tm := [(0, V.str s0), (2, V.sl (some true) true 0 []), (3, vi 0), (4, vi (wI ((↑s0.length : Int).tdiv 4))), (5, V.ref 0), (6, vi i0), (22, V.bool false)], hp := [(0, Ob.row false 1 x0)], nx := 1 } (L61_0_end s0 r) := by
  intro f
  induction f with
  | zero => intro i0 x0 r h; cases h
  | succ f ih =>
    intro i0 x0 r h
    rw [L61_0] at h
    rcases cond_elim h with ⟨e0, h⟩ | ⟨e0, h⟩
    ·
      obtain ⟨e1, h⟩ := guardP_some.1 h
      obtain ⟨e2, h⟩ := guardP_some.1 h
      obtain ⟨⟨i1, i2, i3, i4⟩, e3, h⟩ := bE h
      obtain ⟨e4, h⟩ := guardP_some.1 h
      rcases cond_elim h with ⟨e5, h⟩ | ⟨e5, h⟩
      ·
        obtain ⟨i5, e6, h⟩ := bE h
        obtain ⟨i6, e7, h⟩ := bE h
        obtain ⟨i7, e8, h⟩ := bE h
        obtain ⟨i8, e9, h⟩ := bE h
        obtain ⟨i9, e10, h⟩ := bE h
        obtain ⟨ee, e11, h⟩ := bE h
        cases ee with
        | e0 i10 x1 =>
          exact LoopsN.next (L61_0_b0 i0 i1 i2 i3 i4 i5 i6 i7 i8 i9 i10 s0 x0 x1 k e0 (SlcR.mid e1 rfl) (ArrP.mk e2) (LdA.mk (arr_d dAu8u8u8u8Z_ok e3 :) (by decide +kernel) rfl (by decide) (by kernel_rfl)) (GrdP.mk ⟨rfl, e4⟩) e5 (F79_ok e6) (GrdP.mk ⟨rfl, e4⟩) (F80_ok e7) (F79_ok e8) (F79_ok e9) (F79_ok e10) (L61_1_ok e11)) (L61_0_b0h i0 i5 i6 i7 i8 i9 i10 s0 x1) (ih h)
      ·
        rcases cond_elim h with ⟨e6, h⟩ | ⟨e6, h⟩
        ·
          rcases cond_elim h with ⟨e7, h⟩ | ⟨e7, h⟩
          ·
            obtain ⟨ee, e8, h⟩ := bE h
            cases ee with
            | e0 i5 i6 i7 i8 i9 =>
              obtain ⟨ee, e9, h⟩ := bE h
              cases ee with
              | e0 i10 x1 =>
                exact LoopsN.next (L61_0_b1 i0 i1 i2 i3 i4 i5 i6 i7 i8 i9 i10 s0 x0 x1 k e0 (SlcR.mid e1 rfl) (ArrP.mk e2) (LdA.mk (arr_d dAu8u8u8u8Z_ok e3 :) (by decide +kernel) rfl (by decide) (by kernel_rfl)) (GrdP.mk ⟨rfl, e4⟩) e5 e6 (GrdP.mk ⟨rfl, e4⟩) e7 (L61_2_ok e8) (L61_3_ok e9)) (L61_0_b1h i0 i5 i6 i7 i8 i9 i10 s0 x1) (ih h)
          ·
            obtain ⟨ee, e8, h⟩ := bE h
            cases ee with
            | e0 i5 x1 =>
              exact LoopsN.next (L61_0_b2 i0 i1 i2 i3 i4 i5 s0 x0 x1 k e0 (SlcR.mid e1 rfl) (ArrP.mk e2) (LdA.mk (arr_d dAu8u8u8u8Z_ok e3 :) (by decide +kernel) rfl (by decide) (by kernel_rfl)) (GrdP.mk ⟨rfl, e4⟩) e5 e6 (GrdP.mk ⟨rfl, e4⟩) e7 (L61_4_ok e8)) (L61_0_b2h i0 i1 i2 i3 i4 i5 s0 x1) (ih h)
        ·
          obtain ⟨ee, e7, h⟩ := bE h
          cases ee with
          | e0 i5 x1 =>
            exact LoopsN.next (L61_0_b3 i0 i1 i2 i3 i4 i5 s0 x0 x1 k e0 (SlcR.mid e1 rfl) (ArrP.mk e2) (LdA.mk (arr_d dAu8u8u8u8Z_ok e3 :) (by decide +kernel) rfl (by decide) (by kernel_rfl)) (GrdP.mk ⟨rfl, e4⟩) e5 e6 (L61_4_ok e7)) (L61_0_b3h i0 i1 i2 i3 i4 i5 s0 x1) (ih h)
    ·
      cases h; exact LoopsN.done (L61_0_b4 i0 s0 x0 k e0) (fun h => by cases h)
theorem L61_5_b0 (i0 i1 : Int) (s0 : List UInt8) (x0 x1 : List V) (k : Nat)
    (c0 : decide (i1 < (↑x0.length : Int)) = true)
    (c1 : SlcR x0.length 1 1 0 (some (vi i1)) (some (vi (wI (i1 + 16)))) (V.sub 0 i1.toNat ((wI (i1 + 16)).toNat - i1.toNat)))
    (c2 : GrdW (((1 : Nat) = (1 : Nat) ∨ (List.take ((wI (i1 + (16 : Int))).toNat - i1.toNat) (List.drop i1.toNat x0)).isEmpty = true) ∧ (List.take ((wI (i1 + (16 : Int))).toNat - i1.toNat) (List.drop i1.toNat x0)).all isByte = true) (V.str (List.map Sym.byteOf (List.take ((wI (i1 + (16 : Int))).toNat - i1.toNat) (List.drop i1.toNat x0)))) [])
    (c3 : GrdW ((1 : Nat) = (1 : Nat) ∧ (0 : Nat) < (1 : Nat) ∧ (16 : Nat) ≤ (64 : Nat) ∧ x1.length + (1 : Nat) ≤ maxLen') (V.ref (50 : Nat)) [((1 : Nat), Ob.dead), ((50 : Nat), Ob.row false (1 : Nat) (x1 ++ [V.str (List.map Sym.byteOf (List.take ((wI (i1 + (16 : Int))).toNat - i1.toNat) (List.drop i1.toNat x0)))]))]) :
    eC k 17 0 61 (loopBody Tryd.f61 3) { tm := [(0, V.str s0), (2, V.sl (some true) true 0 []), (3, vi 0), (4, vi (wI ((↑s0.length : Int).tdiv 4))), (5, V.ref 0), (6, vi i0), (10, V.ref 1), (11, vi i1), (22, V.bool false), (30, V.bool false)], hp := [(0, Ob.row false 1 x0), (1, Ob.row false 1 x1)], nx := 2 } = some (Exit.normal, { tm := [(0, V.str s0), (2, V.sl (some true) true 0 []), (3, vi 0), (4, vi (wI ((↑s0.length : Int).tdiv 4))), (5, V.ref 0), (6, vi i0), (10, V.ref 50), (11, vi (wI (i1 + 16))), (22, V.bool false), (30, V.bool false), (108, V.bool true)], hp := [(0, Ob.row false 1 x0), (1, Ob.dead), (46, Ob.row false 1 [V.str (List.map Sym.byteOf (List.take ((wI (i1 + 16)).toNat - i1.toNat) (List.drop i1.toNat x0)))]), (50, Ob.row false 1 (x1 ++ [V.str (List.map Sym.byteOf (List.take ((wI (i1 + 16)).toNat - i1.toNat) (List.drop i1.toNat x0)))]))], nx := 70 }) :=
  byL (k := k) (d := 17) [Hn.br 108 true, Hn.op 116 (V.sub 0 i1.toNat ((wI (i1 + 16)).toNat - i1.toNat)) [], Hn.op 117 (V.str (List.map Sym.byteOf (List.take ((wI (i1 + 16)).toNat - i1.toNat) (List.drop i1.toNat x0)))) [], Hn.op 119 (V.ref 50) [(1, Ob.dead), (50, Ob.row false 1 (x1 ++ [V.str (List.map Sym.byteOf (List.take ((wI (i1 + 16)).toNat - i1.toNat) (List.drop i1.toNat x0)))]))]] (aI c0 (aI c1 (aI c2 (aI c3 trivial)))) (by kernel_rfl)
theorem L61_5_b0h (i0 i1 : Int) (s0 : List UInt8) (x0 x1 : List V) : head 0 [0, 2, 3, 4, 5, 6, 10, 11, 22, 30] (Tryd.cfg.fc 61).acc { tm := [(0, V.str s0), (2, V.sl (some true) true 0 []), (3, vi 0), (4, vi (wI ((↑s0.length : Int).tdiv 4))), (5, V.ref 0), (6, vi i0), (10, V.ref 50), (11, vi (wI (i1 + 16))), (22, V.bool false), (30, V.bool false), (108, V.bool true)], hp := [(0, Ob.row false 1 x0), (1, Ob.dead), (46, Ob.row false 1 [V.str (List.map Sym.byteOf (List.take ((wI (i1 + 16)).toNat - i1.toNat) (List.drop i1.toNat x0)))]), (50, Ob.row false 1 (x1 ++ [V.str (List.map Sym.byteOf (List.take ((wI (i1 + 16)).toNat - i1.toNat) (List.drop i1.toNat x0)))]))], nx := 70 } = { tm := [(0, V.str s0), (2, V.sl (some true) true 0 []), (3, vi 0), (4, vi (wI ((↑s0.length : Int).tdiv 4))), (5, V.ref 0), (6, vi i0), (10, V.ref 1), (11, vi (wI (i1 + 16))), (22, V.bool false), (30, V.bool false)], hp := [(0, Ob.row false 1 x0), (1, Ob.row false 1 (x1 ++ [V.str (List.map Sym.byteOf (List.take ((wI (i1 + 16)).toNat - i1.toNat) (List.drop i1.toNat x0)))]))], nx := 2 } := by kernel_rfl
theorem L61_5_b1 (i0 i1 : Int) (s0 : List UInt8) (x0 x1 : List V) (k : Nat)
    (c0 : decide (i1 < (↑x0.length : Int)) = false) :
    eC k 17 0 61 (loopBody Tryd.f61 3) { tm := [(0, V.str s0), (2, V.sl (some true) true 0 []), (3, vi 0), (4, vi (wI ((↑s0.length : Int).tdiv 4))), (5, V.ref 0), (6, vi i0), (10, V.ref 1), (11, vi i1), (22, V.bool false), (30, V.bool false)], hp := [(0, Ob.row false 1 x0), (1, Ob.row false 1 x1)], nx := 2 } = some (Exit.exit 7, { tm := [(0, V.str s0), (2, V.sl (some true) true 0 []), (3, vi 0), (4, vi (wI ((↑s0.length : Int).tdiv 4))), (5, V.ref 0), (6, vi i0), (10, V.ref 1), (11, vi i1), (22, V.bool false), (30, V.bool false), (108, V.bool false)], hp := [(0, Ob.row false 1 x0), (1, Ob.row false 1 x1)], nx := 18 }) :=
  byL (k := k) (d := 17) [Hn.br 108 false] (aI c0 trivial) (by kernel_rfl)
inductive L61_5_R where
  | e0 (i1 : Int) (x1 : List V)
noncomputable def L61_5_end (i0 : Int) (s0 : List UInt8) (x0 : List V) : L61_5_R → Exit × St
  | .e0 i1 x1 => (Exit.exit 7, { tm := [(0, V.str s0), (2, V.sl (some true) true 0 []), (3, V.int .i64 0), (4, V.int .i64 (IntKind.i64.wrap ((↑s0.length : Int).tdiv 4))), (5, V.ref 0), (6, V.int .i64 i0), (10, V.ref 1), (11, V.int .i64 i1), (22, V.bool false), (30, V.bool false), (108, V.bool false)], hp := [(0, Ob.row false 1 x0), (1, Ob.row false 1 x1)], nx := 18 })
def L61_5 (k : Nat) (i0 : Int) (s0 : List UInt8) (x0 : List V) : Nat → Int → List V → Option L61_5_R
  | 0, _, _ => none
  | f + 1, i1, x1 => (bif decide (i1 < (↑x0.length : Int)) then (guardP ((0 : Int) ≤ i1 ∧ i1 ≤ IntKind.i64.wrap (i1 + (16 : Int)) ∧ IntKind.i64.wrap (i1 + (16 : Int)) ≤ (↑x0.length : Int)) (guardP ((List.take ((IntKind.i64.wrap (i1 + (16 : Int))).toNat - i1.toNat) (List.drop i1.toNat x0)).all isByte = true) (guardP (x1.length + (1 : Nat) ≤ maxLen') (L61_5 k i0 s0 x0 f (IntKind.i64.wrap (i1 + 16)) (x1 ++ [V.str (List.map Sym.byteOf (List.take ((IntKind.i64.wrap (i1 + 16)).toNat - i1.toNat) (List.drop i1.toNat x0)))]))))) else (some (L61_5_R.e0 i1 x1)))
theorem L61_5_ok {i0 : Int} {s0 : List UInt8} {x0 : List V} {k : Nat} : ∀ {f : Nat} {i1 : Int} {x1 : List V} {r : L61_5_R}, L61_5 k i0 s0 x0 f i1 x1 = some r →
    LoopsN Tryd.prog Tryd.cfg (k + 17) 0 Tryd.f61 (Tryd.cfg.fc 61) 3 [0, 2, 3, 4, 5, 6, 10, 11, 22, 30] f { tm := [(0, V.str s0), (2, V.sl (some true) true 0 []), (3, vi 0), (4, vi (wI ((↑s0.length : Int).tdiv 4))), (5, V.ref 0), (6, vi i0), (10, V.ref 1), (11, vi i1), (22, V.bool false), (30, V.bool false)], hp := [(0, Ob.row false 1 x0), (1, Ob.row false 1 x1)], nx := 2 } (L61_5_end i0 s0 x0 r) := by
  intro f
  induction f with
  | zero => intro i1 x1 r h; cases h
  | succ f ih =>
    intro i1 x1 r h
    rw [L61_5] at h
    rcases cond_elim h with ⟨e0, h⟩ | ⟨e0, h⟩
    ·
      obtain ⟨e1, h⟩ := guardP_some.1 h
      obtain ⟨e2, h⟩ := guardP_some.1 h
      obtain ⟨e3, h⟩ := guardP_some.1 h
      exact LoopsN.next (L61_5_b0 i0 i1 s0 x0 x1 k e0 (SlcR.mid e1 rfl) (GrdW.mk ⟨(.inl rfl), e2⟩) (GrdW.mk ⟨rfl, by decide, by decide, e3⟩)) (L61_5_b0h i0 i1 s0 x0 x1) (ih h)
    ·
      cases h; exact LoopsN.done (L61_5_b1 i0 i1 s0 x0 x1 k e0) (fun h => by cases h)
theorem P61_0 (s0 : List UInt8) (k : Nat)
    (c0 : (!decide ((↑s0.length : Int) = 16)) = true)
    (c1 : (!decide ((↑s0.length : Int) = 32)) = true) :
    cP ((k + 18)) 61 [V.str s0] = some (V.tup [V.sl (some true) true 0 [], vi 4]) :=
  byF (k := k) (d := 18) [Hn.br 18 true, Hn.br 22 true] (aI c0 (aI c1 trivial)) (by kernel_rfl)
theorem P61_1 (i0 i1 : Int) (s0 : List UInt8) (x0 x1 : List V) (k : Nat)
    (c0 : (!decide ((↑s0.length : Int) = 16)) = true)
    (c1 : (!decide ((↑s0.length : Int) = 32)) = false)
    (c2 : GrdW (s0.length ≤ maxLen' ∧ (1 : Nat) = (1 : Nat)) (V.ref (60 : Nat)) [((60 : Nat), Ob.row false (1 : Nat) (List.map (fun c => vb (bN c)) s0))])
    (c3 : LoopsN Tryd.prog Tryd.cfg (k + 17) 0 Tryd.f61 (Tryd.cfg.fc 61) 0 [0, 2, 3, 4, 5, 6, 22] (k + 17) { tm := [(0, V.str s0), (2, V.sl (some true) true 0 []), (3, vi 0), (4, vi (wI ((↑s0.length : Int).tdiv 4))), (5, V.ref 0), (6, vi (wI ((↑s0.length : Int).tdiv 4))), (22, V.bool false)], hp := [(0, Ob.row false 1 (List.map (fun c => vb (bN c)) s0))], nx := 1 } (Exit.exit 0, { tm := [(0, V.str s0), (2, V.sl (some true) true 0 []), (3, vi 0), (4, vi (wI ((↑s0.length : Int).tdiv 4))), (5, V.ref 0), (6, vi i0), (22, V.bool false), (30, V.bool false)], hp := [(0, Ob.row false 1 x0)], nx := 21 }))
    (c4 : LoopsN Tryd.prog Tryd.cfg (k + 17) 0 Tryd.f61 (Tryd.cfg.fc 61) 3 [0, 2, 3, 4, 5, 6, 10, 11, 22, 30] (k + 17) { tm := [(0, V.str s0), (2, V.sl (some true) true 0 []), (3, vi 0), (4, vi (wI ((↑s0.length : Int).tdiv 4))), (5, V.ref 0), (6, vi i0), (10, V.ref 1), (11, vi 0), (22, V.bool false), (30, V.bool false)], hp := [(0, Ob.row false 1 x0), (1, Ob.row false 1 [])], nx := 2 } (Exit.exit 7, { tm := [(0, V.str s0), (2, V.sl (some true) true 0 []), (3, vi 0), (4, vi (wI ((↑s0.length : Int).tdiv 4))), (5, V.ref 0), (6, vi i0), (10, V.ref 1), (11, vi i1), (22, V.bool false), (30, V.bool false), (108, V.bool false)], hp := [(0, Ob.row false 1 x0), (1, Ob.row false 1 x1)], nx := 18 })) :
    cP ((k + 18)) 61 [V.str s0] = some (V.tup [V.sl none false 1 x1, vi 0]) :=
  byF (k := k) (d := 18) [Hn.br 18 true, Hn.br 22 false, Hn.op 24 (V.ref 60) [(60, Ob.row false 1 (List.map (fun c => vb (bN c)) s0))], Hn.loop (Exit.exit 0, { tm := [(0, V.str s0), (2, V.sl (some true) true 0 []), (3, vi 0), (4, vi (wI ((↑s0.length : Int).tdiv 4))), (5, V.ref 0), (6, vi i0), (22, V.bool false), (30, V.bool false)], hp := [(0, Ob.row false 1 x0)], nx := 21 }), Hn.loop (Exit.exit 7, { tm := [(0, V.str s0), (2, V.sl (some true) true 0 []), (3, vi 0), (4, vi (wI ((↑s0.length : Int).tdiv 4))), (5, V.ref 0), (6, vi i0), (10, V.ref 1), (11, vi i1), (22, V.bool false), (30, V.bool false), (108, V.bool false)], hp := [(0, Ob.row false 1 x0), (1, Ob.row false 1 x1)], nx := 18 })] (aI c0 (aI c1 (aI c2 (aI c3 (aI c4 trivial))))) (by kernel_rfl)
theorem P61_2 (i0 i1 : Int) (s0 : List UInt8) (x0 x1 : List V) (k : Nat)
    (c0 : (!decide ((↑s0.length : Int) = 16)) = false)
    (c1 : GrdW (s0.length ≤ maxLen' ∧ (1 : Nat) = (1 : Nat)) (V.ref (60 : Nat)) [((60 : Nat), Ob.row false (1 : Nat) (List.map (fun c => vb (bN c)) s0))])
    (c2 : LoopsN Tryd.prog Tryd.cfg (k + 17) 0 Tryd.f61 (Tryd.cfg.fc 61) 0 [0, 2, 3, 4, 5, 6, 22] (k + 17) { tm := [(0, V.str s0), (2, V.sl (some true) true 0 []), (3, vi 0), (4, vi (wI ((↑s0.length : Int).tdiv 4))), (5, V.ref 0), (6, vi (wI ((↑s0.length : Int).tdiv 4))), (22, V.bool false)], hp := [(0, Ob.row false 1 (List.map (fun c => vb (bN c)) s0))], nx := 1 } (Exit.exit 0, { tm := [(0, V.str s0), (2, V.sl (some true) true 0 []), (3, vi 0), (4, vi (wI ((↑s0.length : Int).tdiv 4))), (5, V.ref 0), (6, vi i0), (22, V.bool false), (30, V.bool false)], hp := [(0, Ob.row false 1 x0)], nx := 21 }))
    (c3 : LoopsN Tryd.prog Tryd.cfg (k + 17) 0 Tryd.f61 (Tryd.cfg.fc 61) 3 [0, 2, 3, 4, 5, 6, 10, 11, 22, 30] (k + 17) { tm := [(0, V.str s0), (2, V.sl (some true) true 0 []), (3, vi 0), (4, vi (wI ((↑s0.length : Int).tdiv 4))), (5, V.ref 0), (6, vi i0), (10, V.ref 1), (11, vi 0), (22, V.bool false), (30, V.bool false)], hp := [(0, Ob.row false 1 x0), (1, Ob.row false 1 [])], nx := 2 } (Exit.exit 7, { tm := [(0, V.str s0), (2, V.sl (some true) true 0 []), (3, vi 0), (4, vi (wI ((↑s0.length : Int).tdiv 4))), (5, V.ref 0), (6, vi i0), (10, V.ref 1), (11, vi i1), (22, V.bool false), (30, V.bool false), (108, V.bool false)], hp := [(0, Ob.row false 1 x0), (1, Ob.row false 1 x1)], nx := 18 })) :
    cP ((k + 18)) 61 [V.str s0] = some (V.tup [V.sl none false 1 x1, vi 0]) :=
  byF (k := k) (d := 18) [Hn.br 18 false, Hn.op 24 (V.ref 60) [(60, Ob.row false 1 (List.map (fun c => vb (bN c)) s0))], Hn.loop (Exit.exit 0, { tm := [(0, V.str s0), (2, V.sl (some true) true 0 []), (3, vi 0), (4, vi (wI ((↑s0.length : Int).tdiv 4))), (5, V.ref 0), (6, vi i0), (22, V.bool false), (30, V.bool false)], hp := [(0, Ob.row false 1 x0)], nx := 21 }), Hn.loop (Exit.exit 7, { tm := [(0, V.str s0), (2, V.sl (some true) true 0 []), (3, vi 0), (4, vi (wI ((↑s0.length : Int).tdiv 4))), (5, V.ref 0), (6, vi i0), (10, V.ref 1), (11, vi i1), (22, V.bool false), (30, V.bool false), (108, V.bool false)], hp := [(0, Ob.row false 1 x0), (1, Ob.row false 1 x1)], nx := 18 })] (aI c0 (aI c1 (aI c2 (aI c3 trivial)))) (by kernel_rfl)
def F61 (k : Nat) (s0 : List UInt8) : Option (Option Bool × Bool × Nat × List V × Int) :=
  (bif !decide ((↑s0.length : Int) = 16) then (bif !decide ((↑s0.length : Int) = 32) then (some ((some true), (true), (0), ([]), (4))) else (guardP (s0.length ≤ maxLen') ((L61_0 k s0 (k + 17) (IntKind.i64.wrap ((↑s0.length : Int).tdiv 4)) (List.map (fun c => V.int .u8 (↑c.toNat : Int)) s0)).bind fun
    | L61_0_R.e0 i0 x0 => ((L61_5 k i0 s0 x0 (k + 17) (0) ([])).bind fun
    | L61_5_R.e0 i1 x1 => (some ((none), (false), (1), (x1), (0))))))) else (guardP (s0.length ≤ maxLen') ((L61_0 k s0 (k + 17) (IntKind.i64.wrap ((↑s0.length : Int).tdiv 4)) (List.map (fun c => V.int .u8 (↑c.toNat : Int)) s0)).bind fun
    | L61_0_R.e0 i0 x0 => ((L61_5 k i0 s0 x0 (k + 17) (0) ([])).bind fun
    | L61_5_R.e0 i1 x1 => (some ((none), (false), (1), (x1), (0)))))))
theorem F61_ok {s0 : List UInt8} {k : Nat} {r : Option Bool × Bool × Nat × List V × Int} (h : F61 k s0 = some r) :
    cP ((k + 18)) 61 [V.str s0] = some (V.tup [V.sl r.1 r.2.1 r.2.2.1 r.2.2.2.1, vi r.2.2.2.2]) := by
  unfold F61 at h
  rcases cond_elim h with ⟨e0, h⟩ | ⟨e0, h⟩
  ·
    rcases cond_elim h with ⟨e1, h⟩ | ⟨e1, h⟩
    ·
      have h := Option.some.inj h; subst h; exact P61_0 s0 k e0 e1
    ·
      obtain ⟨e2, h⟩ := guardP_some.1 h
      obtain ⟨ee, e3, h⟩ := bE h
      cases ee with
      | e0 i0 x0 =>
        obtain ⟨ee, e4, h⟩ := bE h
        cases ee with
        | e0 i1 x1 =>
          have h := Option.some.inj h; subst h; exact P61_1 i0 i1 s0 x0 x1 k e0 e1 (GrdW.mk ⟨e2, rfl⟩) (L61_0_ok e3) (L61_5_ok e4)
  ·
    obtain ⟨e1, h⟩ := guardP_some.1 h
    obtain ⟨ee, e2, h⟩ := bE h
    cases ee with
    | e0 i0 x0 =>
      obtain ⟨ee, e3, h⟩ := bE h
      cases ee with
      | e0 i1 x1 =>
        have h := Option.some.inj h; subst h; exact P61_2 i0 i1 s0 x0 x1 k e0 (GrdW.mk ⟨e1, rfl⟩) (L61_0_ok e2) (L61_5_ok e3)
def dAu8u8u8u8u8u8u8u8u8u8u8u8u8u8u8u8Z : V → Option (Int × Int × Int × Int × Int × Int × Int × Int × Int × Int × Int × Int × Int × Int × Int × Int)
  | V.agg [V.int .u8 a0, V.int .u8 a1, V.int .u8 a2, V.int .u8 a3, V.int .u8 a4, V.int .u8 a5, V.int .u8 a6, V.int .u8 a7, V.int .u8 a8, V.int .u8 a9, V.int .u8 a10, V.int .u8 a11, V.int .u8 a12, V.int .u8 a13, V.int .u8 a14, V.int .u8 a15] => some (a0, a1, a2, a3, a4, a5, a6, a7, a8, a9, a10, a11, a12, a13, a14, a15)
  | _ => none
theorem dAu8u8u8u8u8u8u8u8u8u8u8u8u8u8u8u8Z_ok {v : V} {a : Int × Int × Int × Int × Int × Int × Int × Int × Int × Int × Int × Int × Int × Int × Int × Int} (h : dAu8u8u8u8u8u8u8u8u8u8u8u8u8u8u8u8Z v = some a) : v = (fun (a : Int × Int × Int × Int × Int × Int × Int × Int × Int × Int × Int × Int × Int × Int × Int × Int) => V.agg [vb a.1, vb a.2.1, vb a.2.2.1, vb a.2.2.2.1, vb a.2.2.2.2.1, vb a.2.2.2.2.2.1, vb a.2.2.2.2.2.2.1, vb a.2.2.2.2.2.2.2.1, vb a.2.2.2.2.2.2.2.2.1, vb a.2.2.2.2.2.2.2.2.2.1, vb a.2.2.2.2.2.2.2.2.2.2.1, vb a.2.2.2.2.2.2.2.2.2.2.2.1, vb a.2.2.2.2.2.2.2.2.2.2.2.2.1, vb a.2.2.2.2.2.2.2.2.2.2.2.2.2.1, vb a.2.2.2.2.2.2.2.2.2.2.2.2.2.2.1, vb a.2.2.2.2.2.2.2.2.2.2.2.2.2.2.2] ) a := by
  unfold dAu8u8u8u8u8u8u8u8u8u8u8u8u8u8u8u8Z at h; split at h
  · cases h; rfl
  · cases h
theorem L53_0_b0 (i1 i2 i3 i4 i5 i6 i7 i8 i9 i10 i11 i12 i13 i14 i15 i16 i33 i34 i35 i36 i37 i38 i39 i40 i41 i42 i43 i44 i45 i46 i47 i48 i49 i50 i51 i52 i53 i54 i55 i56 i57 i58 i59 i60 i61 i62 i63 i64 i65 i66 i67 i68 i69 i70 i71 i72 i73 i74 i75 i76 i77 i78 i79 i80 i81 i82 i83 i84 i85 i86 i87 i88 i89 i90 i91 i92 i93 i94 i95 i96 i97 i98 i99 i100 i101 i102 i103 i104 i105 i106 i107 i108 i109 i110 i111 i112 i113 : Int) (b0 : Bool) (s1 s3 : List UInt8) (x0 : List V) (o0 : Option Bool) (n0 k : Nat)
    (c0 : decide (i33 < (↑(List.drop (Int.toNat 1) x0).length : Int)) = true)
    (c1 : IdxP (List.drop (Int.toNat 1) x0) i33 n0 1 (V.str s3))
    (c2 : cP ((k + 36)) 65 [V.agg [vb i34, vb i35, vb i36, vb i37, vb i38, vb i39, vb i40, vb i41, vb i42, vb i43, vb i44, vb i45, vb i46, vb i47, vb i48, vb i49]] = some (V.agg [vb i50, vb i51, vb i52, vb i53, vb i54, vb i55, vb i56, vb i57, vb i58, vb i59, vb i60, vb i61, vb i62, vb i63, vb i64, vb i65]))
    (c3 : cP ((k + 36)) 66 [V.agg [vb i50, vb i51, vb i52, vb i53, vb i54, vb i55, vb i56, vb i57, vb i58, vb i59, vb i60, vb i61, vb i62, vb i63, vb i64, vb i65]] = some (V.agg [vb i66, vb i67, vb i68, vb i69, vb i70, vb i71, vb i72, vb i73, vb i74, vb i75, vb i76, vb i77, vb i78, vb i79, vb i80, vb i81]))
    (c4 : decide (i33 < wI ((↑x0.length : Int) - 2)) = true)
    (c5 : cP ((k + 36)) 67 [V.agg [vb i66, vb i67, vb i68, vb i69, vb i70, vb i71, vb i72, vb i73, vb i74, vb i75, vb i76, vb i77, vb i78, vb i79, vb i80, vb i81]] = some (V.agg [vb i82, vb i83, vb i84, vb i85, vb i86, vb i87, vb i88, vb i89, vb i90, vb i91, vb i92, vb i93, vb i94, vb i95, vb i96, vb i97]))
    (c6 : cP ((k + 36)) 64 [V.agg [vb i82, vb i83, vb i84, vb i85, vb i86, vb i87, vb i88, vb i89, vb i90, vb i91, vb i92, vb i93, vb i94, vb i95, vb i96, vb i97], V.str s3] = some (V.agg [vb i98, vb i99, vb i100, vb i101, vb i102, vb i103, vb i104, vb i105, vb i106, vb i107, vb i108, vb i109, vb i110, vb i111, vb i112, vb i113])) :
    eC k 36 96 63 (loopBody Tryd.f63 0) { tm := [(0, V.agg [vb i1, vb i2, vb i3, vb i4, vb i5, vb i6, vb i7, vb i8, vb i9, vb i10, vb i11, vb i12, vb i13, vb i14, vb i15, vb i16]), (1, V.ptr 28 0), (2, V.ptr 96 0), (3, V.ptr 97 0), (12, V.sl o0 b0 n0 (List.drop (Int.toNat 1) x0)), (13, vi (↑(List.drop (Int.toNat 1) x0).length : Int)), (14, vi i33)], hp := [(28, Ob.var [V.sl o0 b0 n0 x0]), (84, Ob.row false 1 (List.map (fun c => vb (bN c)) s1)), (96, Ob.var [vb i34, vb i35, vb i36, vb i37, vb i38, vb i39, vb i40, vb i41, vb i42, vb i43, vb i44, vb i45, vb i46, vb i47, vb i48, vb i49]), (97, Ob.var [vb 0, vb 0, vb 0, vb 0, vb 0, vb 0, vb 0, vb 0, vb 0, vb 0, vb 0, vb 0, vb 0, vb 0, vb 0, vb 0])], nx := 98 } = some (Exit.normal, { tm := [(0, V.agg [vb i1, vb i2, vb i3, vb i4, vb i5, vb i6, vb i7, vb i8, vb i9, vb i10, vb i11, vb i12, vb i13, vb i14, vb i15, vb i16]), (1, V.ptr 28 0), (2, V.ptr 96 0), (3, V.ptr 97 0), (4, vi i33), (5, V.str s3), (12, V.sl o0 b0 n0 (List.drop (Int.toNat 1) x0)), (13, vi (↑(List.drop (Int.toNat 1) x0).length : Int)), (14, vi (wI (i33 + 1))), (15, V.bool true), (26, V.bool true)], hp := [(28, Ob.var [V.sl o0 b0 n0 x0]), (84, Ob.row false 1 (List.map (fun c => vb (bN c)) s1)), (96, Ob.var [vb i98, vb i99, vb i100, vb i101, vb i102, vb i103, vb i104, vb i105, vb i106, vb i107, vb i108, vb i109, vb i110, vb i111, vb i112, vb i113]), (97, Ob.var [vb 0, vb 0, vb 0, vb 0, vb 0, vb 0, vb 0, vb 0, vb 0, vb 0, vb 0, vb 0, vb 0, vb 0, vb 0, vb 0])], nx := 194 }) :=
  byL (k := k) (d := 36) [Hn.br 15 true, Hn.op 17 ((V.str s3).cpt 0) [], Hn.call 20 (V.agg [vb i50, vb i51, vb i52, vb i53, vb i54, vb i55, vb i56, vb i57, vb i58, vb i59, vb i60, vb i61, vb i62, vb i63, vb i64, vb i65]), Hn.call 21 (V.agg [vb i66, vb i67, vb i68, vb i69, vb i70, vb i71, vb i72, vb i73, vb i74, vb i75, vb i76, vb i77, vb i78, vb i79, vb i80, vb i81]), Hn.br 26 true, Hn.call 28 (V.agg [vb i82, vb i83, vb i84, vb i85, vb i86, vb i87, vb i88, vb i89, vb i90, vb i91, vb i92, vb i93, vb i94, vb i95, vb i96, vb i97]), Hn.call 31 (V.agg [vb i98, vb i99, vb i100, vb i101, vb i102, vb i103, vb i104, vb i105, vb i106, vb i107, vb i108, vb i109, vb i110, vb i111, vb i112, vb i113])] (aI c0 (aI c1 (aI c2 (aI c3 (aI c4 (aI c5 (aI c6 trivial))))))) (by kernel_rfl)
theorem L53_0_b0h (i1 i2 i3 i4 i5 i6 i7 i8 i9 i10 i11 i12 i13 i14 i15 i16 i33 i98 i99 i100 i101 i102 i103 i104 i105 i106 i107 i108 i109 i110 i111 i112 i113 : Int) (b0 : Bool) (s1 s3 : List UInt8) (x0 : List V) (o0 : Option Bool) (n0 : Nat) : head 96 [0, 1, 2, 3, 12, 13, 14] (Tryd.cfg.fc 63).acc { tm := [(0, V.agg [vb i1, vb i2, vb i3, vb i4, vb i5, vb i6, vb i7, vb i8, vb i9, vb i10, vb i11, vb i12, vb i13, vb i14, vb i15, vb i16]), (1, V.ptr 28 0), (2, V.ptr 96 0), (3, V.ptr 97 0), (4, vi i33), (5, V.str s3), (12, V.sl o0 b0 n0 (List.drop (Int.toNat 1) x0)), (13, vi (↑(List.drop (Int.toNat 1) x0).length : Int)), (14, vi (wI (i33 + 1))), (15, V.bool true), (26, V.bool true)], hp := [(28, Ob.var [V.sl o0 b0 n0 x0]), (84, Ob.row false 1 (List.map (fun c => vb (bN c)) s1)), (96, Ob.var [vb i98, vb i99, vb i100, vb i101, vb i102, vb i103, vb i104, vb i105, vb i106, vb i107, vb i108, vb i109, vb i110, vb i111, vb i112, vb i113]), (97, Ob.var [vb 0, vb 0, vb 0, vb 0, vb 0, vb 0, vb 0, vb 0, vb 0, vb 0, vb 0, vb 0, vb 0, vb 0, vb 0, vb 0])], nx := 194 } = { tm := [(0, V.agg [vb i1, vb i2, vb i3, vb i4, vb i5, vb i6, vb i7, vb i8, vb i9, vb i10, vb i11, vb i12, vb i13, vb i14, vb i15, vb i16]), (1, V.ptr 28 0), (2, V.ptr 96 0), (3, V.ptr 97 0), (12, V.sl o0 b0 n0 (List.drop (Int.toNat 1) x0)), (13, vi (↑(List.drop (Int.toNat 1) x0).length : Int)), (14, vi (wI (i33 + 1)))], hp := [(28, Ob.var [V.sl o0 b0 n0 x0]), (84, Ob.row false 1 (List.map (fun c => vb (bN c)) s1)), (96, Ob.var [vb i98, vb i99, vb i100, vb i101, vb i102, vb i103, vb i104, vb i105, vb i106, vb i107, vb i108, vb i109, vb i110, vb i111, vb i112, vb i113]), (97, Ob.var [vb 0, vb 0, vb 0, vb 0, vb 0, vb 0, vb 0, vb 0, vb 0, vb 0, vb 0, vb 0, vb 0, vb 0, vb 0, vb 0])], nx := 98 } := by kernel_rfl
theorem L53_0_b1 (i1 i2 i3 i4 i5 i6 i7 i8 i9 i10 i11 i12 i13 i14 i15 i16 i33 i34 i35 i36 i37 i38 i39 i40 i41 i42 i43 i44 i45 i46 i47 i48 i49 i50 i51 i52 i53 i54 i55 i56 i57 i58 i59 i60 i61 i62 i63 i64 i65 i66 i67 i68 i69 i70 i71 i72 i73 i74 i75 i76 i77 i78 i79 i80 i81 i82 i83 i84 i85 i86 i87 i88 i89 i90 i91 i92 i93 i94 i95 i96 i97 : Int) (b0 : Bool) (s1 s3 : List UInt8) (x0 : List V) (o0 : Option Bool) (n0 k : Nat)
    (c0 : decide (i33 < (↑(List.drop (Int.toNat 1) x0).length : Int)) = true)
    (c1 : IdxP (List.drop (Int.toNat 1) x0) i33 n0 1 (V.str s3))
    (c2 : cP ((k + 36)) 65 [V.agg [vb i34, vb i35, vb i36, vb i37, vb i38, vb i39, vb i40, vb i41, vb i42, vb i43, vb i44, vb i45, vb i46, vb i47, vb i48, vb i49]] = some (V.agg [vb i50, vb i51, vb i52, vb i53, vb i54, vb i55, vb i56, vb i57, vb i58, vb i59, vb i60, vb i61, vb i62, vb i63, vb i64, vb i65]))
    (c3 : cP ((k + 36)) 66 [V.agg [vb i50, vb i51, vb i52, vb i53, vb i54, vb i55, vb i56, vb i57, vb i58, vb i59, vb i60, vb i61, vb i62, vb i63, vb i64, vb i65]] = some (V.agg [vb i66, vb i67, vb i68, vb i69, vb i70, vb i71, vb i72, vb i73, vb i74, vb i75, vb i76, vb i77, vb i78, vb i79, vb i80, vb i81]))
    (c4 : decide (i33 < wI ((↑x0.length : Int) - 2)) = false)
    (c5 : cP ((k + 36)) 64 [V.agg [vb i66, vb i67, vb i68, vb i69, vb i70, vb i71, vb i72, vb i73, vb i74, vb i75, vb i76, vb i77, vb i78, vb i79, vb i80, vb i81], V.str s3] = some (V.agg [vb i82, vb i83, vb i84, vb i85, vb i86, vb i87, vb i88, vb i89, vb i90, vb i91, vb i92, vb i93, vb i94, vb i95, vb i96, vb i97])) :
    eC k 36 96 63 (loopBody Tryd.f63 0) { tm := [(0, V.agg [vb i1, vb i2, vb i3, vb i4, vb i5, vb i6, vb i7, vb i8, vb i9, vb i10, vb i11, vb i12, vb i13, vb i14, vb i15, vb i16]), (1, V.ptr 28 0), (2, V.ptr 96 0), (3, V.ptr 97 0), (12, V.sl o0 b0 n0 (List.drop (Int.toNat 1) x0)), (13, vi (↑(List.drop (Int.toNat 1) x0).length : Int)), (14, vi i33)], hp := [(28, Ob.var [V.sl o0 b0 n0 x0]), (84, Ob.row false 1 (List.map (fun c => vb (bN c)) s1)), (96, Ob.var [vb i34, vb i35, vb i36, vb i37, vb i38, vb i39, vb i40, vb i41, vb i42, vb i43, vb i44, vb i45, vb i46, vb i47, vb i48, vb i49]), (97, Ob.var [vb 0, vb 0, vb 0, vb 0, vb 0, vb 0, vb 0, vb 0, vb 0, vb 0, vb 0, vb 0, vb 0, vb 0, vb 0, vb 0])], nx := 98 } = some (Exit.normal, { tm := [(0, V.agg [vb i1, vb i2, vb i3, vb i4, vb i5, vb i6, vb i7, vb i8, vb i9, vb i10, vb i11, vb i12, vb i13, vb i14, vb i15, vb i16]), (1, V.ptr 28 0), (2, V.ptr 96 0), (3, V.ptr 97 0), (4, vi i33), (5, V.str s3), (12, V.sl o0 b0 n0 (List.drop (Int.toNat 1) x0)), (13, vi (↑(List.drop (Int.toNat 1) x0).length : Int)), (14, vi (wI (i33 + 1))), (15, V.bool true), (26, V.bool false)], hp := [(28, Ob.var [V.sl o0 b0 n0 x0]), (84, Ob.row false 1 (List.map (fun c => vb (bN c)) s1)), (96, Ob.var [vb i82, vb i83, vb i84, vb i85, vb i86, vb i87, vb i88, vb i89, vb i90, vb i91, vb i92, vb i93, vb i94, vb i95, vb i96, vb i97]), (97, Ob.var [vb 0, vb 0, vb 0, vb 0, vb 0, vb 0, vb 0, vb 0, vb 0, vb 0, vb 0, vb 0, vb 0, vb 0, vb 0, vb 0])], nx := 182 }) :=
  byL (k := k) (d := 36) [Hn.br 15 true, Hn.op 17 ((V.str s3).cpt 0) [], Hn.call 20 (V.agg [vb i50, vb i51, vb i52, vb i53, vb i54, vb i55, vb i56, vb i57, vb i58, vb i59, vb i60, vb i61, vb i62, vb i63, vb i64, vb i65]), Hn.call 21 (V.agg [vb i66, vb i67, vb i68, vb i69, vb i70, vb i71, vb i72, vb i73, vb i74, vb i75, vb i76, vb i77, vb i78, vb i79, vb i80, vb i81]), Hn.br 26 false, Hn.call 31 (V.agg [vb i82, vb i83, vb i84, vb i85, vb i86, vb i87, vb i88, vb i89, vb i90, vb i91, vb i92, vb i93, vb i94, vb i95, vb i96, vb i97])] (aI c0 (aI c1 (aI c2 (aI c3 (aI c4 (aI c5 trivial)))))) (by kernel_rfl)
theorem L53_0_b1h (i1 i2 i3 i4 i5 i6 i7 i8 i9 i10 i11 i12 i13 i14 i15 i16 i33 i82 i83 i84 i85 i86 i87 i88 i89 i90 i91 i92 i93 i94 i95 i96 i97 : Int) (b0 : Bool) (s1 s3 : List UInt8) (x0 : List V) (o0 : Option Bool) (n0 : Nat) : head 96 [0, 1, 2, 3, 12, 13, 14] (Tryd.cfg.fc 63).acc { tm := [(0, V.agg [vb i1, vb i2, vb i3, vb i4, vb i5, vb i6, vb i7, vb i8, vb i9, vb i10, vb i11, vb i12, vb i13, vb i14, vb i15, vb i16]), (1, V.ptr 28 0), (2, V.ptr 96 0), (3, V.ptr 97 0), (4, vi i33), (5, V.str s3), (12, V.sl o0 b0 n0 (List.drop (Int.toNat 1) x0)), (13, vi (↑(List.drop (Int.toNat 1) x0).length : Int)), (14, vi (wI (i33 + 1))), (15, V.bool true), (26, V.bool false)], hp := [(28, Ob.var [V.sl o0 b0 n0 x0]), (84, Ob.row false 1 (List.map (fun c => vb (bN c)) s1)), (96, Ob.var [vb i82, vb i83, vb i84, vb i85, vb i86, vb i87, vb i88, vb i89, vb i90, vb i91, vb i92, vb i93, vb i94, vb i95, vb i96, vb i97]), (97, Ob.var [vb 0, vb 0, vb 0, vb 0, vb 0, vb 0, vb 0, vb 0, vb 0, vb 0, vb 0, vb 0, vb 0, vb 0, vb 0, vb 0])], nx := 182 } = { tm := [(0, V.agg [vb i1, vb i2, vb i3, vb i4, vb i5, vb i6, vb i7, vb i8, vb i9, vb i10, vb i11, vb i12, vb i13, vb i14, vb i15, vb i16]), (1, V.ptr 28 0), (2, V.ptr 96 0), (3, V.ptr 97 0), (12, V.sl o0 b0 n0 (List.drop (Int.toNat 1) x0)), (13, vi (↑(List.drop (Int.toNat 1) x0).length : Int)), (14, vi (wI (i33 + 1)))], hp := [(28, Ob.var [V.sl o0 b0 n0 x0]), (84, Ob.row false 1 (List.map (fun c => vb (bN c)) s1)), (96, Ob.var [vb i82, vb i83, vb i84, vb i85, vb i86, vb i87, vb i88, vb i89, vb i90, vb i91, vb i92, vb i93, vb i94, vb i95, vb i96, vb i97]), (97, Ob.var [vb 0, vb 0, vb 0, vb 0, vb 0, vb 0, vb 0, vb 0, vb 0, vb 0, vb 0, vb 0, vb 0, vb 0, vb 0, vb 0])], nx := 98 } := by kernel_rfl
theorem L53_0_b2 (i1 i2 i3 i4 i5 i6 i7 i8 i9 i10 i11 i12 i13 i14 i15 i16 i33 i34 i35 i36 i37 i38 i39 i40 i41 i42 i43 i44 i45 i46 i47 i48 i49 : Int) (b0 : Bool) (s1 : List UInt8) (x0 : List V) (o0 : Option Bool) (n0 k : Nat)
    (c0 : decide (i33 < (↑(List.drop (Int.toNat 1) x0).length : Int)) = false) :
    eC k 36 96 63 (loopBody Tryd.f63 0) { tm := [(0, V.agg [vb i1, vb i2, vb i3, vb i4, vb i5, vb i6, vb i7, vb i8, vb i9, vb i10, vb i11, vb i12, vb i13, vb i14, vb i15, vb i16]), (1, V.ptr 28 0), (2, V.ptr 96 0), (3, V.ptr 97 0), (12, V.sl o0 b0 n0 (List.drop (Int.toNat 1) x0)), (13, vi (↑(List.drop (Int.toNat 1) x0).length : Int)), (14, vi i33)], hp := [(28, Ob.var [V.sl o0 b0 n0 x0]), (84, Ob.row false 1 (List.map (fun c => vb (bN c)) s1)), (96, Ob.var [vb i34, vb i35, vb i36, vb i37, vb i38, vb i39, vb i40, vb i41, vb i42, vb i43, vb i44, vb i45, vb i46, vb i47, vb i48, vb i49]), (97, Ob.var [vb 0, vb 0, vb 0, vb 0, vb 0, vb 0, vb 0, vb 0, vb 0, vb 0, vb 0, vb 0, vb 0, vb 0, vb 0, vb 0])], nx := 98 } = some (Exit.exit 0, { tm := [(0, V.agg [vb i1, vb i2, vb i3, vb i4, vb i5, vb i6, vb i7, vb i8, vb i9, vb i10, vb i11, vb i12, vb i13, vb i14, vb i15, vb i16]), (1, V.ptr 28 0), (2, V.ptr 96 0), (3, V.ptr 97 0), (12, V.sl o0 b0 n0 (List.drop (Int.toNat 1) x0)), (13, vi (↑(List.drop (Int.toNat 1) x0).length : Int)), (14, vi i33), (15, V.bool false)], hp := [(28, Ob.var [V.sl o0 b0 n0 x0]), (84, Ob.row false 1 (List.map (fun c => vb (bN c)) s1)), (96, Ob.var [vb i34, vb i35, vb i36, vb i37, vb i38, vb i39, vb i40, vb i41, vb i42, vb i43, vb i44, vb i45, vb i46, vb i47, vb i48, vb i49]), (97, Ob.var [vb 0, vb 0, vb 0, vb 0, vb 0, vb 0, vb 0, vb 0, vb 0, vb 0, vb 0, vb 0, vb 0, vb 0, vb 0, vb 0])], nx := 102 }) :=
  byL (k := k) (d := 36) [Hn.br 15 false] (aI c0 trivial) (by kernel_rfl)
inductive L53_0_R where
  | e0 (i33 : Int) (i34 : Int) (i35 : Int) (i36 : Int) (i37 : Int) (i38 : Int) (i39 : Int) (i40 : Int) (i41 : Int) (i42 : Int) (i43 : Int) (i44 : Int) (i45 : Int) (i46 : Int) (i47 : Int) (i48 : Int) (i49 : Int)
noncomputable def L53_0_end (i1 : Int) (i2 : Int) (i3 : Int) (i4 : Int) (i5 : Int) (i6 : Int) (i7 : Int) (i8 : Int) (i9 : Int) (i10 : Int) (i11 : Int) (i12 : Int) (i13 : Int) (i14 : Int) (i15 : Int) (i16 : Int) (b0 : Bool) (s1 : List UInt8) (x0 : List V) (o0 : Option Bool) (n0 : Nat) : L53_0_R → Exit × St
  | .e0 i33 i34 i35 i36 i37 i38 i39 i40 i41 i42 i43 i44 i45 i46 i47 i48 i49 => (Exit.exit 0, { tm := [(0, V.agg [V.int .u8 i1, V.int .u8 i2, V.int .u8 i3, V.int .u8 i4, V.int .u8 i5, V.int .u8 i6, V.int .u8 i7, V.int .u8 i8, V.int .u8 i9, V.int .u8 i10, V.int .u8 i11, V.int .u8 i12, V.int .u8 i13, V.int .u8 i14, V.int .u8 i15, V.int .u8 i16]), (1, V.ptr 28 0), (2, V.ptr 96 0), (3, V.ptr 97 0), (12, V.sl o0 b0 n0 (List.drop (Int.toNat 1) x0)), (13, V.int .i64 (↑(List.drop (Int.toNat 1) x0).length : Int)), (14, V.int .i64 i33), (15, V.bool false)], hp := [(28, Ob.var [V.sl o0 b0 n0 x0]), (84, Ob.row false 1 (List.map (fun c => V.int .u8 (↑c.toNat : Int)) s1)), (96, Ob.var [V.int .u8 i34, V.int .u8 i35, V.int .u8 i36, V.int .u8 i37, V.int .u8 i38, V.int .u8 i39, V.int .u8 i40, V.int .u8 i41, V.int .u8 i42, V.int .u8 i43, V.int .u8 i44, V.int .u8 i45, V.int .u8 i46, V.int .u8 i47, V.int .u8 i48, V.int .u8 i49]), (97, Ob.var [V.int .u8 0, V.int .u8 0, V.int .u8 0, V.int .u8 0, V.int .u8 0, V.int .u8 0, V.int .u8 0, V.int .u8 0, V.int .u8 0, V.int .u8 0, V.int .u8 0, V.int .u8 0, V.int .u8 0, V.int .u8 0, V.int .u8 0, V.int .u8 0])], nx := 102 })
def L53_0 (k : Nat) (i1 i2 i3 i4 i5 i6 i7 i8 i9 i10 i11 i12 i13 i14 i15 i16 : Int) (b0 : Bool) (s1 : List UInt8) (x0 : List V) (o0 : Option Bool) (n0 : Nat) : Nat → Int → Int → Int → Int → Int → Int → Int → Int → Int → Int → Int → Int → Int → Int → Int → Int → Int → Option L53_0_R
  | 0, _, _, _, _, _, _, _, _, _, _, _, _, _, _, _, _, _ => none
  | f + 1, i33, i34, i35, i36, i37, i38, i39, i40, i41, i42, i43, i44, i45, i46, i47, i48, i49 => (bif decide (i33 < (↑(List.drop (Int.toNat 1) x0).length : Int)) then (guardP (n0 = (1 : Nat)) (((at? (List.drop (Int.toNat 1) x0) (i33)).bind dS).bind fun s3 => ((F65 (k + 1) (i34) (i35) (i36) (i37) (i38) (i39) (i40) (i41) (i42) (i43) (i44) (i45) (i46) (i47) (i48) (i49)).bind fun (i50, i51, i52, i53, i54, i55, i56, i57, i58, i59, i60, i61, i62, i63, i64, i65) => ((F66 (k + 16) (i50) (i51) (i52) (i53) (i54) (i55) (i56) (i57) (i58) (i59) (i60) (i61) (i62) (i63) (i64) (i65)).bind fun (i66, i67, i68, i69, i70, i71, i72, i73, i74, i75, i76, i77, i78, i79, i80, i81) => (bif decide (i33 < IntKind.i64.wrap ((↑x0.length : Int) - 2)) then ((F67 (k + 10) (i66) (i67) (i68) (i69) (i70) (i71) (i72) (i73) (i74) (i75) (i76) (i77) (i78) (i79) (i80) (i81)).bind fun (i82, i83, i84, i85, i86, i87, i88, i89, i90, i91, i92, i93, i94, i95, i96, i97) => ((F64 (k + 16) (i82) (i83) (i84) (i85) (i86) (i87) (i88) (i89) (i90) (i91) (i92) (i93) (i94) (i95) (i96) (i97) (s3)).bind fun (i98, i99, i100, i101, i102, i103, i104, i105, i106, i107, i108, i109, i110, i111, i112, i113) => (L53_0 k i1 i2 i3 i4 i5 i6 i7 i8 i9 i10 i11 i12 i13 i14 i15 i16 b0 s1 x0 o0 n0 f (IntKind.i64.wrap (i33 + 1)) (i98) (i99) (i100) (i101) (i102) (i103) (i104) (i105) (i106) (i107) (i108) (i109) (i110) (i111) (i112) (i113)))) else ((F64 (k + 16) (i66) (i67) (i68) (i69) (i70) (i71) (i72) (i73) (i74) (i75) (i76) (i77) (i78) (i79) (i80) (i81) (s3)).bind fun (i82, i83, i84, i85, i86, i87, i88, i89, i90, i91, i92, i93, i94, i95, i96, i97) => (L53_0 k i1 i2 i3 i4 i5 i6 i7 i8 i9 i10 i11 i12 i13 i14 i15 i16 b0 s1 x0 o0 n0 f (IntKind.i64.wrap (i33 + 1)) (i82) (i83) (i84) (i85) (i86) (i87) (i88) (i89) (i90) (i91) (i92) (i93) (i94) (i95) (i96) (i97)))))))) else (some (L53_0_R.e0 i33 i34 i35 i36 i37 i38 i39 i40 i41 i42 i43 i44 i45 i46 i47 i48 i49)))
theorem L53_0_ok {i1 i2 i3 i4 i5 i6 i7 i8 i9 i10 i11 i12 i13 i14 i15 i16 : Int} {b0 : Bool} {s1 : List UInt8} {x0 : List V} {o0 : Option Bool} {n0 k : Nat} : ∀ {f : Nat} {i33 : Int} {i34 : Int} {i35 : Int} {i36 : Int} {i37 : Int} {i38 : Int} {i39 : Int} {i40 : Int} {i41 : Int} {i42 : Int} {i43 : Int} {i44 : Int} {i45 : Int} {i46 : Int} {i47 : Int} {i48 : Int} {i49 : Int} {r : L53_0_R}, L53_0 k i1 i2 i3 i4 i5 i6 i7 i8 i9 i10 i11 i12 i13 i14 i15 i16 b0 s1 x0 o0 n0 f i33 i34 i35 i36 i37 i38 i39 i40 i41 i42 i43 i44 i45 i46 i47 i48 i49 = some r →
    LoopsN Tryd.prog Tryd.cfg (k + 36) 96 Tryd.f63 (Tryd.cfg.fc 63) 0 [0, 1, 2, 3, 12, 13, 14] f { tm := [(0, V.agg [vb i1, vb i2, vb i3, vb i4, vb i5, vb i6, vb i7, vb i8, vb i9, vb i10, vb i11, vb i12, vb i13, vb i14, vb i15, vb i16]), (1, V.ptr 28 0), (2, V.ptr 96 0), (3, V.ptr 97 0), (12, V.sl o0 b0 n0 (List.drop (Int.toNat 1) x0)), (13, vi (↑(List.drop (Int.toNat 1) x0).length : Int)), (14, vi i33)], hp := [(28, Ob.var [V.sl o0 b0 n0 x0]), (84, Ob.row false 1 (List.map (fun c => vb (bN c)) s1)), (96, Ob.var [vb i34, vb i35, vb i36, vb i37, vb i38, vb i39, vb i40, vb i41, vb i42, vb i43, vb i44, vb i45, vb i46, vb i47, vb i48, vb i49]), (97, Ob.var [vb 0, vb 0, vb 0, vb 0, vb 0, vb 0, vb 0, vb 0, vb 0, vb 0, vb 0, vb 0, vb 0, vb 0, vb 0, vb 0])], nx := 98 } (L53_0_end i1 i2 i3 i4 i5 i6 i7 i8 i9 i10 i11 i12 i13 i14 i15 i16 b0 s1 x0 o0 n0 r) := by
  intro f
  induction f with
  | zero => intro i33 i34 i35 i36 i37 i38 i39 i40 i41 i42 i43 i44 i45 i46 i47 i48 i49 r h; cases h
  | succ f ih =>
    intro i33 i34 i35 i36 i37 i38 i39 i40 i41 i42 i43 i44 i45 i46 i47 i48 i49 r h
    rw [L53_0] at h
    rcases cond_elim h with ⟨e0, h⟩ | ⟨e0, h⟩
    ·
      obtain ⟨e1, h⟩ := guardP_some.1 h
      obtain ⟨s3, e2, h⟩ := bE h
      obtain ⟨⟨i50, i51, i52, i53, i54, i55, i56, i57, i58, i59, i60, i61, i62, i63, i64, i65⟩, e3, h⟩ := bE h
      obtain ⟨⟨i66, i67, i68, i69, i70, i71, i72, i73, i74, i75, i76, i77, i78, i79, i80, i81⟩, e4, h⟩ := bE h
      rcases cond_elim h with ⟨e5, h⟩ | ⟨e5, h⟩
      ·
        obtain ⟨⟨i82, i83, i84, i85, i86, i87, i88, i89, i90, i91, i92, i93, i94, i95, i96, i97⟩, e6, h⟩ := bE h
        obtain ⟨⟨i98, i99, i100, i101, i102, i103, i104, i105, i106, i107, i108, i109, i110, i111, i112, i113⟩, e7, h⟩ := bE h
        exact LoopsN.next (L53_0_b0 i1 i2 i3 i4 i5 i6 i7 i8 i9 i10 i11 i12 i13 i14 i15 i16 i33 i34 i35 i36 i37 i38 i39 i40 i41 i42 i43 i44 i45 i46 i47 i48 i49 i50 i51 i52 i53 i54 i55 i56 i57 i58 i59 i60 i61 i62 i63 i64 i65 i66 i67 i68 i69 i70 i71 i72 i73 i74 i75 i76 i77 i78 i79 i80 i81 i82 i83 i84 i85 i86 i87 i88 i89 i90 i91 i92 i93 i94 i95 i96 i97 i98 i99 i100 i101 i102 i103 i104 i105 i106 i107 i108 i109 i110 i111 i112 i113 b0 s1 s3 x0 o0 n0 k e0 (IdxP.of_at' (at_d dS_ok e2 :) e1) (F65_ok e3) (F66_ok e4) e5 (F67_ok e6) (F64_ok e7)) (L53_0_b0h i1 i2 i3 i4 i5 i6 i7 i8 i9 i10 i11 i12 i13 i14 i15 i16 i33 i98 i99 i100 i101 i102 i103 i104 i105 i106 i107 i108 i109 i110 i111 i112 i113 b0 s1 s3 x0 o0 n0) (ih h)
      ·
        obtain ⟨⟨i82, i83, i84, i85, i86, i87, i88, i89, i90, i91, i92, i93, i94, i95, i96, i97⟩, e6, h⟩ := bE h
        exact LoopsN.next (L53_0_b1 i1 i2 i3 i4 i5 i6 i7 i8 i9 i10 i11 i12 i13 i14 i15 i16 i33 i34 i35 i36 i37 i38 i39 i40 i41 i42 i43 i44 i45 i46 i47 i48 i49 i50 i51 i52 i53 i54 i55 i56 i57 i58 i59 i60 i61 i62 i63 i64 i65 i66 i67 i68 i69 i70 i71 i72 i73 i74 i75 i76 i77 i78 i79 i80 i81 i82 i83 i84 i85 i86 i87 i88 i89 i90 i91 i92 i93 i94 i95 i96 i97 b0 s1 s3 x0 o0 n0 k e0 (IdxP.of_at' (at_d dS_ok e2 :) e1) (F65_ok e3) (F66_ok e4) e5 (F64_ok e6)) (L53_0_b1h i1 i2 i3 i4 i5 i6 i7 i8 i9 i10 i11 i12 i13 i14 i15 i16 i33 i82 i83 i84 i85 i86 i87 i88 i89 i90 i91 i92 i93 i94 i95 i96 i97 b0 s1 s3 x0 o0 n0) (ih h)
    ·
      cases h; exact LoopsN.done (L53_0_b2 i1 i2 i3 i4 i5 i6 i7 i8 i9 i10 i11 i12 i13 i14 i15 i16 i33 i34 i35 i36 i37 i38 i39 i40 i41 i42 i43 i44 i45 i46 i47 i48 i49 b0 s1 x0 o0 n0 k e0) (fun h => by cases h)
theorem P53_0 (i0 : Int) (b0 : Bool) (s0 s1 : List UInt8) (x0 : List V) (o0 : Option Bool) (n0 k : Nat)
    (c0 : cP ((k + 38)) 61 [V.str s0] = some (V.tup [V.sl o0 b0 n0 x0, vi i0]))
    (c1 : (!decide (i0 = 0)) = true) :
    cP ((k + 39)) 53 [V.str s0, V.str s1] = some (V.tup [V.str [], vi i0]) :=
  byF (k := k) (d := 39) [Hn.call 10 (V.tup [V.sl o0 b0 n0 x0, vi i0]), Hn.br 14 true] (aI c0 (aI c1 trivial)) (by kernel_rfl)
theorem P53_1 (i0 : Int) (b0 : Bool) (s0 s1 : List UInt8) (x0 : List V) (o0 : Option Bool) (n0 k : Nat)
    (c0 : cP ((k + 38)) 61 [V.str s0] = some (V.tup [V.sl o0 b0 n0 x0, vi i0]))
    (c1 : (!decide (i0 = 0)) = false)
    (c2 : (!decide ((↑s1.length : Int) = 16)) = true) :
    cP ((k + 39)) 53 [V.str s0, V.str s1] = some (V.tup [V.str [], vi 4]) :=
  byF (k := k) (d := 39) [Hn.call 10 (V.tup [V.sl o0 b0 n0 x0, vi i0]), Hn.br 14 false, Hn.enter, Hn.br 9 true] (aI c0 (aI c1 (aI c2 trivial))) (by kernel_rfl)
theorem P53_2 (i0 i1 i2 i3 i4 i5 i6 i7 i8 i9 i10 i11 i12 i13 i14 i15 i16 i17 i18 i19 i20 i21 i22 i23 i24 i25 i26 i27 i28 i29 i30 i31 i32 i33 i34 i35 i36 i37 i38 i39 i40 i41 i42 i43 i44 i45 i46 i47 i48 i49 : Int) (b0 : Bool) (s0 s1 s2 : List UInt8) (x0 : List V) (o0 : Option Bool) (n0 k : Nat)
    (c0 : cP ((k + 38)) 61 [V.str s0] = some (V.tup [V.sl o0 b0 n0 x0, vi i0]))
    (c1 : (!decide (i0 = 0)) = false)
    (c2 : (!decide ((↑s1.length : Int) = 16)) = false)
    (c3 : GrdW (s1.length ≤ maxLen' ∧ (1 : Nat) = (1 : Nat)) (V.ref (84 : Nat)) [((84 : Nat), Ob.row false (1 : Nat) (List.map (fun c => vb (bN c)) s1))])
    (c4 : ArrP 16 (List.map (fun c => vb (bN c)) s1).length (V.ept 84 0 0))
    (c5 : LdA Tryd.prog 108 1 (List.map (fun c => vb (bN c)) s1) 0 (V.agg [vb i1, vb i2, vb i3, vb i4, vb i5, vb i6, vb i7, vb i8, vb i9, vb i10, vb i11, vb i12, vb i13, vb i14, vb i15, vb i16]))
    (c6 : IdxP x0 0 n0 1 (V.str s2))
    (c7 : cP ((k + 36)) 64 [V.agg [vb i1, vb i2, vb i3, vb i4, vb i5, vb i6, vb i7, vb i8, vb i9, vb i10, vb i11, vb i12, vb i13, vb i14, vb i15, vb i16], V.str s2] = some (V.agg [vb i17, vb i18, vb i19, vb i20, vb i21, vb i22, vb i23, vb i24, vb i25, vb i26, vb i27, vb i28, vb i29, vb i30, vb i31, vb i32]))
    (c8 : SlcP true 1 (V.sl o0 b0 n0 x0) (some (vi 1)) none none (V.sl o0 b0 n0 (List.drop (Int.toNat 1) x0)))
    (c9 : LoopsN Tryd.prog Tryd.cfg (k + 36) 96 Tryd.f63 (Tryd.cfg.fc 63) 0 [0, 1, 2, 3, 12, 13, 14] (k + 36) { tm := [(0, V.agg [vb i1, vb i2, vb i3, vb i4, vb i5, vb i6, vb i7, vb i8, vb i9, vb i10, vb i11, vb i12, vb i13, vb i14, vb i15, vb i16]), (1, V.ptr 28 0), (2, V.ptr 96 0), (3, V.ptr 97 0), (12, V.sl o0 b0 n0 (List.drop (Int.toNat 1) x0)), (13, vi (↑(List.drop (Int.toNat 1) x0).length : Int)), (14, vi 0)], hp := [(28, Ob.var [V.sl o0 b0 n0 x0]), (84, Ob.row false 1 (List.map (fun c => vb (bN c)) s1)), (96, Ob.var [vb i17, vb i18, vb i19, vb i20, vb i21, vb i22, vb i23, vb i24, vb i25, vb i26, vb i27, vb i28, vb i29, vb i30, vb i31, vb i32]), (97, Ob.var [vb 0, vb 0, vb 0, vb 0, vb 0, vb 0, vb 0, vb 0, vb 0, vb 0, vb 0, vb 0, vb 0, vb 0, vb 0, vb 0])], nx := 98 } (Exit.exit 0, { tm := [(0, V.agg [vb i1, vb i2, vb i3, vb i4, vb i5, vb i6, vb i7, vb i8, vb i9, vb i10, vb i11, vb i12, vb i13, vb i14, vb i15, vb i16]), (1, V.ptr 28 0), (2, V.ptr 96 0), (3, V.ptr 97 0), (12, V.sl o0 b0 n0 (List.drop (Int.toNat 1) x0)), (13, vi (↑(List.drop (Int.toNat 1) x0).length : Int)), (14, vi i33), (15, V.bool false)], hp := [(28, Ob.var [V.sl o0 b0 n0 x0]), (84, Ob.row false 1 (List.map (fun c => vb (bN c)) s1)), (96, Ob.var [vb i34, vb i35, vb i36, vb i37, vb i38, vb i39, vb i40, vb i41, vb i42, vb i43, vb i44, vb i45, vb i46, vb i47, vb i48, vb i49]), (97, Ob.var [vb 0, vb 0, vb 0, vb 0, vb 0, vb 0, vb 0, vb 0, vb 0, vb 0, vb 0, vb 0, vb 0, vb 0, vb 0, vb 0])], nx := 102 })) :
    cP ((k + 39)) 53 [V.str s0, V.str s1] = some (V.tup [V.str (List.map Sym.byteOf (1, List.take 16 (List.drop 0 [vb i34, vb i35, vb i36, vb i37, vb i38, vb i39, vb i40, vb i41, vb i42, vb i43, vb i44, vb i45, vb i46, vb i47, vb i48, vb i49])).snd), vi 0]) :=
  byF (k := k) (d := 39) [Hn.call 10 (V.tup [V.sl o0 b0 n0 x0, vi i0]), Hn.br 14 false, Hn.enter, Hn.br 9 false, Hn.op 12 (V.ref 84) [(84, Ob.row false 1 (List.map (fun c => vb (bN c)) s1))], Hn.op 13 (V.ept 84 0 0) [], Hn.op 14 (V.agg [vb i1, vb i2, vb i3, vb i4, vb i5, vb i6, vb i7, vb i8, vb i9, vb i10, vb i11, vb i12, vb i13, vb i14, vb i15, vb i16]) [], Hn.enter, Hn.op 8 ((V.str s2).cpt 0) [], Hn.call 10 (V.agg [vb i17, vb i18, vb i19, vb i20, vb i21, vb i22, vb i23, vb i24, vb i25, vb i26, vb i27, vb i28, vb i29, vb i30, vb i31, vb i32]), Hn.op 12 (V.sl o0 b0 n0 (List.drop (Int.toNat 1) x0)) [], Hn.loop (Exit.exit 0, { tm := [(0, V.agg [vb i1, vb i2, vb i3, vb i4, vb i5, vb i6, vb i7, vb i8, vb i9, vb i10, vb i11, vb i12, vb i13, vb i14, vb i15, vb i16]), (1, V.ptr 28 0), (2, V.ptr 96 0), (3, V.ptr 97 0), (12, V.sl o0 b0 n0 (List.drop (Int.toNat 1) x0)), (13, vi (↑(List.drop (Int.toNat 1) x0).length : Int)), (14, vi i33), (15, V.bool false)], hp := [(28, Ob.var [V.sl o0 b0 n0 x0]), (84, Ob.row false 1 (List.map (fun c => vb (bN c)) s1)), (96, Ob.var [vb i34, vb i35, vb i36, vb i37, vb i38, vb i39, vb i40, vb i41, vb i42, vb i43, vb i44, vb i45, vb i46, vb i47, vb i48, vb i49]), (97, Ob.var [vb 0, vb 0, vb 0, vb 0, vb 0, vb 0, vb 0, vb 0, vb 0, vb 0, vb 0, vb 0, vb 0, vb 0, vb 0, vb 0])], nx := 102 })] (aI c0 (aI c1 (aI c2 (aI c3 (aI c4 (aI c5 (aI c6 (aI c7 (aI c8 (aI c9 trivial)))))))))) (by kernel_rfl)
def F53 (k : Nat) (s0 s1 : List UInt8) : Option (List UInt8 × Int) :=
  ((F61 (k + 20) (s0)).bind fun (o0, b0, n0, x0, i0) => (bif !decide (i0 = 0) then (some (([]), (i0))) else (bif !decide ((↑s1.length : Int) = 16) then (some (([]), (4))) else (guardP (s1.length ≤ maxLen') (guardP ((16 : Nat) ≤ (List.map (fun c => V.int .u8 (↑c.toNat : Int)) s1).length) (((arr? (List.map (fun c => V.int .u8 (↑c.toNat : Int)) s1) (0) 16).bind dAu8u8u8u8u8u8u8u8u8u8u8u8u8u8u8u8Z).bind fun (i1, i2, i3, i4, i5, i6, i7, i8, i9, i10, i11, i12, i13, i14, i15, i16) => (guardP (n0 = (1 : Nat)) (((at? (x0) (0)).bind dS).bind fun s2 => ((F64 (k + 16) (i1) (i2) (i3) (i4) (i5) (i6) (i7) (i8) (i9) (i10) (i11) (i12) (i13) (i14) (i15) (i16) (s2)).bind fun (i17, i18, i19, i20, i21, i22, i23, i24, i25, i26, i27, i28, i29, i30, i31, i32) => (guardP ((0 : Int) ≤ (1 : Int) ∧ (1 : Int) ≤ (↑x0.length : Int)) ((L53_0 k i1 i2 i3 i4 i5 i6 i7 i8 i9 i10 i11 i12 i13 i14 i15 i16 b0 s1 x0 o0 n0 (k + 36) (0) (i17) (i18) (i19) (i20) (i21) (i22) (i23) (i24) (i25) (i26) (i27) (i28) (i29) (i30) (i31) (i32)).bind fun
    | L53_0_R.e0 i33 i34 i35 i36 i37 i38 i39 i40 i41 i42 i43 i44 i45 i46 i47 i48 i49 => (some ((List.map Sym.byteOf (1, List.take 16 (List.drop 0 [V.int .u8 i34, V.int .u8 i35, V.int .u8 i36, V.int .u8 i37, V.int .u8 i38, V.int .u8 i39, V.int .u8 i40, V.int .u8 i41, V.int .u8 i42, V.int .u8 i43, V.int .u8 i44, V.int .u8 i45, V.int .u8 i46, V.int .u8 i47, V.int .u8 i48, V.int .u8 i49])).snd), (0))))))))))))))
theorem F53_ok {s0 s1 : List UInt8} {k : Nat} {r : List UInt8 × Int} (h : F53 k s0 s1 = some r) :
    cP ((k + 39)) 53 [V.str s0, V.str s1] = some (V.tup [V.str r.1, vi r.2]) := by
  unfold F53 at h
  obtain ⟨⟨o0, b0, n0, x0, i0⟩, e0, h⟩ := bE h
  rcases cond_elim h with ⟨e1, h⟩ | ⟨e1, h⟩
  ·
    have h := Option.some.inj h; subst h; exact P53_0 i0 b0 s0 s1 x0 o0 n0 k (F61_ok e0) e1
  ·
    rcases cond_elim h with ⟨e2, h⟩ | ⟨e2, h⟩
    ·
      have h := Option.some.inj h; subst h; exact P53_1 i0 b0 s0 s1 x0 o0 n0 k (F61_ok e0) e1 e2
    ·
      obtain ⟨e3, h⟩ := guardP_some.1 h
      obtain ⟨e4, h⟩ := guardP_some.1 h
      obtain ⟨⟨i1, i2, i3, i4, i5, i6, i7, i8, i9, i10, i11, i12, i13, i14, i15, i16⟩, e5, h⟩ := bE h
      obtain ⟨e6, h⟩ := guardP_some.1 h
      obtain ⟨s2, e7, h⟩ := bE h
      obtain ⟨⟨i17, i18, i19, i20, i21, i22, i23, i24, i25, i26, i27, i28, i29, i30, i31, i32⟩, e8, h⟩ := bE h
      obtain ⟨e9, h⟩ := guardP_some.1 h
      obtain ⟨ee, e10, h⟩ := bE h
      cases ee with
      | e0 i33 i34 i35 i36 i37 i38 i39 i40 i41 i42 i43 i44 i45 i46 i47 i48 i49 =>
        have h := Option.some.inj h; subst h; exact P53_2 i0 i1 i2 i3 i4 i5 i6 i7 i8 i9 i10 i11 i12 i13 i14 i15 i16 i17 i18 i19 i20 i21 i22 i23 i24 i25 i26 i27 i28 i29 i30 i31 i32 i33 i34 i35 i36 i37 i38 i39 i40 i41 i42 i43 i44 i45 i46 i47 i48 i49 b0 s0 s1 s2 x0 o0 n0 k (F61_ok e0) e1 e2 (GrdW.mk ⟨e3, rfl⟩) (ArrP.mk e4) (LdA.mk (arr_d dAu8u8u8u8u8u8u8u8u8u8u8u8u8u8u8u8Z_ok e5 :) (by decide +kernel) rfl (by decide) (by kernel_rfl)) (IdxP.of_at' (at_d dS_ok e7 :) e6) (F64_ok e8) (SlcP.fromS e9 e6) (L53_0_ok e10)
end Go.Proofs
set_option linter.unusedVariables false
set_option maxHeartbeats 0
set_option maxRecDepth 100000
namespace Go.Proofs
open Go Go.Sym
theorem L86_0_b0 (i0 i1 i2 : Int) (s0 : List UInt8) (k : Nat)
    (c0 : decide (i1 < (↑(List.map (fun c => vb (bN c)) (List.take (Int.toNat 8) s0)).length : Int)) = true)
    (c1 : IdxR (List.map (fun c => vb (bN c)) (List.take (Int.toNat 8) s0)).length i1 1 1 (V.ept 0 i1.toNat 0))
    (c2 : LdP Tryd.prog 5 (List.map (fun c => vb (bN c)) (List.take (Int.toNat 8) s0)) i1.toNat 0 (vb i2)) :
    eC k 2 0 86 (loopBody Tryd.f86 0) { tm := [(0, V.str s0), (2, vu 0), (3, vu i0), (8, V.ref 0), (9, vi (↑(List.map (fun c => vb (bN c)) (List.take (Int.toNat 8) s0)).length : Int)), (10, vi i1)], hp := [(0, Ob.row false 1 (List.map (fun c => vb (bN c)) (List.take (Int.toNat 8) s0)))], nx := 1 } = some (Exit.normal, { tm := [(0, V.str s0), (2, vu 0), (3, vu (wU (↑(BitVec.ofInt IntKind.u64.bits (wU (i0 * 2 ^ min (Int.toNat 8) IntKind.u64.bits)) ||| BitVec.ofInt IntKind.u64.bits (wU i2)).toNat : Int))), (5, vb i2), (8, V.ref 0), (9, vi (↑(List.map (fun c => vb (bN c)) (List.take (Int.toNat 8) s0)).length : Int)), (10, vi (wI (i1 + 1))), (11, V.bool true)], hp := [(0, Ob.row false 1 (List.map (fun c => vb (bN c)) (List.take (Int.toNat 8) s0)))], nx := 49 }) :=
  byL (k := k) (d := 2) [Hn.br 11 true, Hn.op 12 (V.ept 0 i1.toNat 0) [], Hn.op 13 (vb i2) []] (aI c0 (aI c1 (aI c2 trivial))) (by kernel_rfl)
theorem L86_0_b0h (i0 i1 i2 : Int) (s0 : List UInt8) : head 0 [0, 2, 3, 8, 9, 10] (Tryd.cfg.fc 86).acc { tm := [(0, V.str s0), (2, vu 0), (3, vu (wU (↑(BitVec.ofInt IntKind.u64.bits (wU (i0 * 2 ^ min (Int.toNat 8) IntKind.u64.bits)) ||| BitVec.ofInt IntKind.u64.bits (wU i2)).toNat : Int))), (5, vb i2), (8, V.ref 0), (9, vi (↑(List.map (fun c => vb (bN c)) (List.take (Int.toNat 8) s0)).length : Int)), (10, vi (wI (i1 + 1))), (11, V.bool true)], hp := [(0, Ob.row false 1 (List.map (fun c => vb (bN c)) (List.take (Int.toNat 8) s0)))], nx := 49 } = { tm := [(0, V.str s0), (2, vu 0), (3, vu (wU (↑(BitVec.ofInt IntKind.u64.bits (wU (i0 * 2 ^ min (Int.toNat 8) IntKind.u64.bits)) ||| BitVec.ofInt IntKind.u64.bits (wU i2)).toNat : Int))), (8, V.ref 0), (9, vi (↑(List.map (fun c => vb (bN c)) (List.take (Int.toNat 8) s0)).length : Int)), (10, vi (wI (i1 + 1)))], hp := [(0, Ob.row false 1 (List.map (fun c => vb (bN c)) (List.take (Int.toNat 8) s0)))], nx := 1 } := by kernel_rfl
theorem L86_0_b1 (i0 i1 : Int) (s0 : List UInt8) (k : Nat)
    (c0 : decide (i1 < (↑(List.map (fun c => vb (bN c)) (List.take (Int.toNat 8) s0)).length : Int)) = false) :
    eC k 2 0 86 (loopBody Tryd.f86 0) { tm := [(0, V.str s0), (2, vu 0), (3, vu i0), (8, V.ref 0), (9, vi (↑(List.map (fun c => vb (bN c)) (List.take (Int.toNat 8) s0)).length : Int)), (10, vi i1)], hp := [(0, Ob.row false 1 (List.map (fun c => vb (bN c)) (List.take (Int.toNat 8) s0)))], nx := 1 } = some (Exit.exit 0, { tm := [(0, V.str s0), (2, vu 0), (3, vu i0), (8, V.ref 0), (9, vi (↑(List.map (fun c => vb (bN c)) (List.take (Int.toNat 8) s0)).length : Int)), (10, vi i1), (11, V.bool false)], hp := [(0, Ob.row false 1 (List.map (fun c => vb (bN c)) (List.take (Int.toNat 8) s0)))], nx := 5 }) :=
  byL (k := k) (d := 2) [Hn.br 11 false] (aI c0 trivial) (by kernel_rfl)
inductive L86_0_R where
  | e0 (i0 : Int) (i1 : Int)
noncomputable def L86_0_end (s0 : List UInt8) : L86_0_R → Exit × St
  | .e0 i0 i1 => (Exit.exit 0, { tm := [(0, V.str s0), (2, V.int .u64 0), (3, V.int .u64 i0), (8, V.ref 0), (9, V.int .i64 (↑(List.map (fun c => V.int .u8 (↑c.toNat : Int)) (List.take (Int.toNat 8) s0)).length : Int)), (10, V.int .i64 i1), (11, V.bool false)], hp := [(0, Ob.row false 1 (List.map (fun c => V.int .u8 (↑c.toNat : Int)) (List.take (Int.toNat 8) s0)))], nx := 5 })
def L86_0 (k : Nat) (s0 : List UInt8) : Nat → Int → Int → Option L86_0_R
  | 0, _, _ => none
  | f + 1, i0, i1 => (bif decide (i1 < (↑(List.map (fun c => V.int .u8 (↑c.toNat : Int)) (List.take (Int.toNat 8) s0)).length : Int)) then (guardP ((0 : Int) ≤ i1 ∧ i1 < (↑(List.map (fun c => V.int .u8 (↑c.toNat : Int)) (List.take (Int.toNat (8 : Int)) s0)).length : Int)) ((((List.map (fun c => V.int .u8 (↑c.toNat : Int)) (List.take (Int.toNat 8) s0))[i1.toNat]?).bind (dI IntKind.u8)).bind fun i2 => (L86_0 k s0 f (IntKind.u64.wrap (↑(BitVec.ofInt IntKind.u64.bits (IntKind.u64.wrap (i0 * 2 ^ min (Int.toNat 8) IntKind.u64.bits)) ||| BitVec.ofInt IntKind.u64.bits (IntKind.u64.wrap i2)).toNat : Int)) (IntKind.i64.wrap (i1 + 1))))) else (some (L86_0_R.e0 i0 i1)))
theorem L86_0_ok {s0 : List UInt8} {k : Nat} : ∀ {f : Nat} {i0 : Int} {i1 : Int} {r : L86_0_R}, L86_0 k s0 f i0 i1 = some r →
    LoopsN Tryd.prog Tryd.cfg (k + 2) 0 Tryd.f86 (Tryd.cfg.fc 86) 0 [0, 2, 3, 8, 9, 10] f { tm := [(0, V.str s0), (2, vu 0), (3, vu i0), (8, V.ref 0), (9, vi (↑(List.map (fun c => vb (bN c)) (List.take (Int.toNat 8) s0)).length : Int)), (10, vi i1)], hp := [(0, Ob.row false 1 (List.map (fun c => vb (bN c)) (List.take (Int.toNat 8) s0)))], nx := 1 } (L86_0_end s0 r) := by
  intro f
  induction f with
  | zero => intro i0 i1 r h; cases h
  | succ f ih =>
    intro i0 i1 r h
    rw [L86_0] at h
    rcases cond_elim h with ⟨e0, h⟩ | ⟨e0, h⟩
    ·
      obtain ⟨e1, h⟩ := guardP_some.1 h
      obtain ⟨i2, e2, h⟩ := bE h
      exact LoopsN.next (L86_0_b0 i0 i1 i2 s0 k e0 (IdxR.mk' e1 rfl) (LdP.mk (get_d dI_ok e2 :) (by kernel_rfl))) (L86_0_b0h i0 i1 i2 s0) (ih h)
    ·
      cases h; exact LoopsN.done (L86_0_b1 i0 i1 s0 k e0) (fun h => by cases h)
theorem P86_0 (i0 i1 : Int) (s0 : List UInt8) (k : Nat)
    (c0 : SlcP false 0 (V.str s0) none (some (vi 8)) none (V.str (List.take (Int.toNat 8) s0)))
    (c1 : GrdW ((List.take (Int.toNat (8 : Int)) s0).length ≤ maxLen' ∧ (1 : Nat) = (1 : Nat)) (V.ref (16 : Nat)) [((16 : Nat), Ob.row false (1 : Nat) (List.map (fun c => vb (bN c)) (List.take (Int.toNat (8 : Int)) s0)))])
    (c2 : LoopsN Tryd.prog Tryd.cfg (k + 2) 0 Tryd.f86 (Tryd.cfg.fc 86) 0 [0, 2, 3, 8, 9, 10] (k + 2) { tm := [(0, V.str s0), (2, vu 0), (3, vu 0), (8, V.ref 0), (9, vi (↑(List.map (fun c => vb (bN c)) (List.take (Int.toNat 8) s0)).length : Int)), (10, vi 0)], hp := [(0, Ob.row false 1 (List.map (fun c => vb (bN c)) (List.take (Int.toNat 8) s0)))], nx := 1 } (Exit.exit 0, { tm := [(0, V.str s0), (2, vu 0), (3, vu i0), (8, V.ref 0), (9, vi (↑(List.map (fun c => vb (bN c)) (List.take (Int.toNat 8) s0)).length : Int)), (10, vi i1), (11, V.bool false)], hp := [(0, Ob.row false 1 (List.map (fun c => vb (bN c)) (List.take (Int.toNat 8) s0)))], nx := 5 })) :
    cP ((k + 3)) 86 [V.str s0] = some (vu i0) :=
  byF (k := k) (d := 3) [Hn.op 7 (V.str (List.take (Int.toNat 8) s0)) [], Hn.op 8 (V.ref 16) [(16, Ob.row false 1 (List.map (fun c => vb (bN c)) (List.take (Int.toNat 8) s0)))], Hn.loop (Exit.exit 0, { tm := [(0, V.str s0), (2, vu 0), (3, vu i0), (8, V.ref 0), (9, vi (↑(List.map (fun c => vb (bN c)) (List.take (Int.toNat 8) s0)).length : Int)), (10, vi i1), (11, V.bool false)], hp := [(0, Ob.row false 1 (List.map (fun c => vb (bN c)) (List.take (Int.toNat 8) s0)))], nx := 5 })] (aI c0 (aI c1 (aI c2 trivial))) (by kernel_rfl)
def F86 (k : Nat) (s0 : List UInt8) : Option (Int) :=
  (guardP ((0 : Int) ≤ (8 : Int) ∧ (8 : Int) ≤ (↑s0.length : Int)) (guardP ((List.take (Int.toNat (8 : Int)) s0).length ≤ maxLen') ((L86_0 k s0 (k + 2) (0) (0)).bind fun
    | L86_0_R.e0 i0 i1 => (some (i0)))))
theorem F86_ok {s0 : List UInt8} {k : Nat} {r : Int} (h : F86 k s0 = some r) :
    cP ((k + 3)) 86 [V.str s0] = some (vu r) := by
  unfold F86 at h
  obtain ⟨e0, h⟩ := guardP_some.1 h
  obtain ⟨e1, h⟩ := guardP_some.1 h
  obtain ⟨ee, e2, h⟩ := bE h
  cases ee with
  | e0 i0 i1 =>
    have h := Option.some.inj h; subst h; exact P86_0 i0 i1 s0 k (SlcP.strUptoS e0) (GrdW.mk ⟨e1, rfl⟩) (L86_0_ok e2)
theorem P71_0 (i0 i1 : Int) (s0 : List UInt8) (k : Nat)
    (c0 : cP ((k + 5)) 86 [V.str s0] = some (vu i0))
    (c1 : SlcP false 0 (V.str s0) (some (vi 8)) none none (V.str (List.drop (Int.toNat 8) s0)))
    (c2 : cP ((k + 5)) 86 [V.str (List.drop (Int.toNat 8) s0)] = some (vu i1)) :
    cP ((k + 6)) 71 [V.str s0] = some (V.agg [vu i0, vu i1]) :=
  byF (k := k) (d := 6) [Hn.call 4 (vu i0), Hn.op 6 (V.str (List.drop (Int.toNat 8) s0)) [], Hn.call 7 (vu i1)] (aI c0 (aI c1 (aI c2 trivial))) (by kernel_rfl)
def F71 (k : Nat) (s0 : List UInt8) : Option (Int × Int) :=
  ((F86 (k + 2) (s0)).bind fun i0 => (guardP ((0 : Int) ≤ (8 : Int) ∧ (8 : Int) ≤ (↑s0.length : Int)) ((F86 (k + 2) (List.drop (Int.toNat 8) s0)).bind fun i1 => (some ((i0), (i1))))))
theorem F71_ok {s0 : List UInt8} {k : Nat} {r : Int × Int} (h : F71 k s0 = some r) :
    cP ((k + 6)) 71 [V.str s0] = some (V.agg [vu r.1, vu r.2]) := by
  unfold F71 at h
  obtain ⟨i0, e0, h⟩ := bE h
  obtain ⟨e1, h⟩ := guardP_some.1 h
  obtain ⟨i1, e2, h⟩ := bE h
  have h := Option.some.inj h; subst h; exact P71_0 i0 i1 s0 k (F86_ok e0) (SlcP.strFromS e1) (F86_ok e2)
theorem P90_0 (i0 i1 : Int) (k : Nat)
    (c0 : decide (wU (↑(BitVec.ofInt IntKind.u64.bits i1 &&& BitVec.ofInt IntKind.u64.bits 1).toNat : Int) = 1) = true) :
    cP ((k + 3)) 90 [V.agg [vu i0, vu i1]] = some (V.agg [vu (wU (↑(BitVec.ofInt IntKind.u64.bits (i0.fdiv (2 ^ min (Int.toNat 1) IntKind.u64.bits)) ^^^ BitVec.ofInt IntKind.u64.bits 16212958658533785600).toNat : Int)), vu (wU (↑(BitVec.ofInt IntKind.u64.bits (wU (i0 * 2 ^ min (Int.toNat 63) IntKind.u64.bits)) ||| BitVec.ofInt IntKind.u64.bits (i1.fdiv (2 ^ min (Int.toNat 1) IntKind.u64.bits))).toNat : Int))]) :=
  byF (k := k) (d := 3) [Hn.br 18 true] (aI c0 trivial) (by kernel_rfl)
theorem P90_1 (i0 i1 : Int) (k : Nat)
    (c0 : decide (wU (↑(BitVec.ofInt IntKind.u64.bits i1 &&& BitVec.ofInt IntKind.u64.bits 1).toNat : Int) = 1) = false) :
    cP ((k + 3)) 90 [V.agg [vu i0, vu i1]] = some (V.agg [vu (i0.fdiv (2 ^ min (Int.toNat 1) IntKind.u64.bits)), vu (wU (↑(BitVec.ofInt IntKind.u64.bits (wU (i0 * 2 ^ min (Int.toNat 63) IntKind.u64.bits)) ||| BitVec.ofInt IntKind.u64.bits (i1.fdiv (2 ^ min (Int.toNat 1) IntKind.u64.bits))).toNat : Int))]) :=
  byF (k := k) (d := 3) [Hn.br 18 false] (aI c0 trivial) (by kernel_rfl)
def F90 (k : Nat) (i0 i1 : Int) : Option (Int × Int) :=
  (bif decide (IntKind.u64.wrap (↑(BitVec.ofInt IntKind.u64.bits i1 &&& BitVec.ofInt IntKind.u64.bits 1).toNat : Int) = 1) then (some ((IntKind.u64.wrap (↑(BitVec.ofInt IntKind.u64.bits (i0.fdiv (2 ^ min (Int.toNat 1) IntKind.u64.bits)) ^^^ BitVec.ofInt IntKind.u64.bits 16212958658533785600).toNat : Int)), (IntKind.u64.wrap (↑(BitVec.ofInt IntKind.u64.bits (IntKind.u64.wrap (i0 * 2 ^ min (Int.toNat 63) IntKind.u64.bits)) ||| BitVec.ofInt IntKind.u64.bits (i1.fdiv (2 ^ min (Int.toNat 1) IntKind.u64.bits))).toNat : Int)))) else (some ((i0.fdiv (2 ^ min (Int.toNat 1) IntKind.u64.bits)), (IntKind.u64.wrap (↑(BitVec.ofInt IntKind.u64.bits (IntKind.u64.wrap (i0 * 2 ^ min (Int.toNat 63) IntKind.u64.bits)) ||| BitVec.ofInt IntKind.u64.bits (i1.fdiv (2 ^ min (Int.toNat 1) IntKind.u64.bits))).toNat : Int)))))
theorem F90_ok {i0 i1 : Int} {k : Nat} {r : Int × Int} (h : F90 k i0 i1 = some r) :
    cP ((k + 3)) 90 [V.agg [vu i0, vu i1]] = some (V.agg [vu r.1, vu r.2]) := by
  unfold F90 at h
  rcases cond_elim h with ⟨e0, h⟩ | ⟨e0, h⟩
  ·
    have h := Option.some.inj h; subst h; exact P90_0 i0 i1 k e0
  ·
    have h := Option.some.inj h; subst h; exact P90_1 i0 i1 k e0
theorem P91_0 (i0 i1 i2 : Int) (k : Nat)
    (c0 : IdxA 2 (i2.fdiv (2 ^ min (Int.toNat 6) IntKind.i64.bits)) 1 (fun d => V.ptr 0 (0 + d)) (V.ptr 0 0))
    (c1 : GrdP ((0 : Int) ≤ wI ((63 : Int) - wI (↑(BitVec.ofInt IntKind.i64.bits i2 &&& BitVec.ofInt IntKind.i64.bits (63 : Int)).toNat : Int))) (vu (i0.fdiv ((2 : Int) ^ min (wI ((63 : Int) - wI (↑(BitVec.ofInt IntKind.i64.bits i2 &&& BitVec.ofInt IntKind.i64.bits (63 : Int)).toNat : Int))).toNat IntKind.u64.bits)))) :
    cP ((k + 3)) 91 [V.agg [vu i0, vu i1], vi i2] = some (V.bool (decide (wU (↑(BitVec.ofInt IntKind.u64.bits (i0.fdiv (2 ^ min (wI (63 - wI (↑(BitVec.ofInt IntKind.i64.bits i2 &&& BitVec.ofInt IntKind.i64.bits 63).toNat : Int))).toNat IntKind.u64.bits)) &&& BitVec.ofInt IntKind.u64.bits 1).toNat : Int) = 1))) :=
  byF (k := k) (d := 3) [Hn.op 7 (V.ptr 0 0) [], Hn.op 12 (vu (i0.fdiv (2 ^ min (wI (63 - wI (↑(BitVec.ofInt IntKind.i64.bits i2 &&& BitVec.ofInt IntKind.i64.bits 63).toNat : Int))).toNat IntKind.u64.bits))) []] (aI c0 (aI c1 trivial)) (by kernel_rfl)
theorem P91_1 (i0 i1 i2 : Int) (k : Nat)
    (c0 : IdxA 2 (i2.fdiv (2 ^ min (Int.toNat 6) IntKind.i64.bits)) 1 (fun d => V.ptr 0 (0 + d)) (V.ptr 0 1))
    (c1 : GrdP ((0 : Int) ≤ wI ((63 : Int) - wI (↑(BitVec.ofInt IntKind.i64.bits i2 &&& BitVec.ofInt IntKind.i64.bits (63 : Int)).toNat : Int))) (vu (i1.fdiv ((2 : Int) ^ min (wI ((63 : Int) - wI (↑(BitVec.ofInt IntKind.i64.bits i2 &&& BitVec.ofInt IntKind.i64.bits (63 : Int)).toNat : Int))).toNat IntKind.u64.bits)))) :
    cP ((k + 3)) 91 [V.agg [vu i0, vu i1], vi i2] = some (V.bool (decide (wU (↑(BitVec.ofInt IntKind.u64.bits (i1.fdiv (2 ^ min (wI (63 - wI (↑(BitVec.ofInt IntKind.i64.bits i2 &&& BitVec.ofInt IntKind.i64.bits 63).toNat : Int))).toNat IntKind.u64.bits)) &&& BitVec.ofInt IntKind.u64.bits 1).toNat : Int) = 1))) :=
  byF (k := k) (d := 3) [Hn.op 7 (V.ptr 0 1) [], Hn.op 12 (vu (i1.fdiv (2 ^ min (wI (63 - wI (↑(BitVec.ofInt IntKind.i64.bits i2 &&& BitVec.ofInt IntKind.i64.bits 63).toNat : Int))).toNat IntKind.u64.bits))) []] (aI c0 (aI c1 trivial)) (by kernel_rfl)
def F91 (k : Nat) (i0 i1 i2 : Int) : Option (Bool) :=
  (bif decide (i2.fdiv (2 ^ min (Int.toNat 6) IntKind.i64.bits) = 0) then (guardP ((0 : Int) ≤ IntKind.i64.wrap ((63 : Int) - IntKind.i64.wrap (↑(BitVec.ofInt IntKind.i64.bits i2 &&& BitVec.ofInt IntKind.i64.bits (63 : Int)).toNat : Int))) (some (decide (IntKind.u64.wrap (↑(BitVec.ofInt IntKind.u64.bits (i0.fdiv (2 ^ min (IntKind.i64.wrap (63 - IntKind.i64.wrap (↑(BitVec.ofInt IntKind.i64.bits i2 &&& BitVec.ofInt IntKind.i64.bits 63).toNat : Int))).toNat IntKind.u64.bits)) &&& BitVec.ofInt IntKind.u64.bits 1).toNat : Int) = 1)))) else (bif decide (i2.fdiv (2 ^ min (Int.toNat 6) IntKind.i64.bits) = 1) then (guardP ((0 : Int) ≤ IntKind.i64.wrap ((63 : Int) - IntKind.i64.wrap (↑(BitVec.ofInt IntKind.i64.bits i2 &&& BitVec.ofInt IntKind.i64.bits (63 : Int)).toNat : Int))) (some (decide (IntKind.u64.wrap (↑(BitVec.ofInt IntKind.u64.bits (i1.fdiv (2 ^ min (IntKind.i64.wrap (63 - IntKind.i64.wrap (↑(BitVec.ofInt IntKind.i64.bits i2 &&& BitVec.ofInt IntKind.i64.bits 63).toNat : Int))).toNat IntKind.u64.bits)) &&& BitVec.ofInt IntKind.u64.bits 1).toNat : Int) = 1)))) else none))
theorem F91_ok {i0 i1 i2 : Int} {k : Nat} {r : Bool} (h : F91 k i0 i1 i2 = some r) :
    cP ((k + 3)) 91 [V.agg [vu i0, vu i1], vi i2] = some (V.bool r) := by
  unfold F91 at h
  rcases cond_elim h with ⟨e0, h⟩ | ⟨e0, h⟩
  ·
    obtain ⟨e1, h⟩ := guardP_some.1 h
    have h := Option.some.inj h; subst h; exact P91_0 i0 i1 i2 k (IdxA.mk 0 e0 (by decide) (by decide) rfl) (GrdP.mk e1)
  ·
    rcases cond_elim h with ⟨e1, h⟩ | ⟨e1, h⟩
    ·
      obtain ⟨e2, h⟩ := guardP_some.1 h
      have h := Option.some.inj h; subst h; exact P91_1 i0 i1 i2 k (IdxA.mk 1 e1 (by decide) (by decide) rfl) (GrdP.mk e2)
    ·
      cases h
theorem L73_0_b0 (i0 i1 i2 i3 i4 i5 i6 i7 i8 : Int) (k : Nat)
    (c0 : decide (0 ≤ i4) = true)
    (c1 : cP ((k + 5)) 90 [V.agg [vu i5, vu i6]] = some (V.agg [vu i7, vu i8]))
    (c2 : cP ((k + 5)) 91 [V.agg [vu i2, vu i3], vi i4] = some (V.bool true)) :
    eC k 5 0 73 (loopBody Tryd.f73 0) { tm := [(0, V.agg [vu i0, vu i1]), (1, V.agg [vu i2, vu i3]), (2, V.ptr 0 0), (3, V.ptr 1 0), (4, V.ptr 2 0), (5, V.ptr 3 0), (6, vi i4)], hp := [(0, Ob.var [vu i0, vu i1]), (1, Ob.var [vu i2, vu i3]), (2, Ob.var [vu 0, vu 0]), (3, Ob.var [vu i5, vu i6])], nx := 4 } = some (Exit.normal, { tm := [(0, V.agg [vu i0, vu i1]), (1, V.agg [vu i2, vu i3]), (2, V.ptr 0 0), (3, V.ptr 1 0), (4, V.ptr 2 0), (5, V.ptr 3 0), (6, vi (wI (i4 - 1))), (8, V.bool true), (15, V.bool true)], hp := [(0, Ob.var [vu i0, vu i1]), (1, Ob.var [vu i2, vu i3]), (2, Ob.var [vu 0, vu 0]), (3, Ob.var [vu (wU (↑(BitVec.ofInt IntKind.u64.bits i7 ^^^ BitVec.ofInt IntKind.u64.bits i0).toNat : Int)), vu (wU (↑(BitVec.ofInt IntKind.u64.bits i8 ^^^ BitVec.ofInt IntKind.u64.bits i1).toNat : Int))])], nx := 96 }) :=
  byL (k := k) (d := 5) [Hn.br 8 true, Hn.call 12 (V.agg [vu i7, vu i8]), Hn.call 15 (V.bool true)] (aI c0 (aI c1 (aI c2 trivial))) (by kernel_rfl)
theorem L73_0_b0h (i0 i1 i2 i3 i4 i7 i8 : Int) : head 0 [0, 1, 2, 3, 4, 5, 6] (Tryd.cfg.fc 73).acc { tm := [(0, V.agg [vu i0, vu i1]), (1, V.agg [vu i2, vu i3]), (2, V.ptr 0 0), (3, V.ptr 1 0), (4, V.ptr 2 0), (5, V.ptr 3 0), (6, vi (wI (i4 - 1))), (8, V.bool true), (15, V.bool true)], hp := [(0, Ob.var [vu i0, vu i1]), (1, Ob.var [vu i2, vu i3]), (2, Ob.var [vu 0, vu 0]), (3, Ob.var [vu (wU (↑(BitVec.ofInt IntKind.u64.bits i7 ^^^ BitVec.ofInt IntKind.u64.bits i0).toNat : Int)), vu (wU (↑(BitVec.ofInt IntKind.u64.bits i8 ^^^ BitVec.ofInt IntKind.u64.bits i1).toNat : Int))])], nx := 96 } = { tm := [(0, V.agg [vu i0, vu i1]), (1, V.agg [vu i2, vu i3]), (2, V.ptr 0 0), (3, V.ptr 1 0), (4, V.ptr 2 0), (5, V.ptr 3 0), (6, vi (wI (i4 - 1)))], hp := [(0, Ob.var [vu i0, vu i1]), (1, Ob.var [vu i2, vu i3]), (2, Ob.var [vu 0, vu 0]), (3, Ob.var [vu (wU (↑(BitVec.ofInt IntKind.u64.bits i7 ^^^ BitVec.ofInt IntKind.u64.bits i0).toNat : Int)), vu (wU (↑(BitVec.ofInt IntKind.u64.bits i8 ^^^ BitVec.ofInt IntKind.u64.bits i1).toNat : Int))])], nx := 4 } := by kernel_rfl
theorem L73_0_b1 (i0 i1 i2 i3 i4 i5 i6 i7 i8 : Int) (k : Nat)
    (c0 : decide (0 ≤ i4) = true)
    (c1 : cP ((k + 5)) 90 [V.agg [vu i5, vu i6]] = some (V.agg [vu i7, vu i8]))
    (c2 : cP ((k + 5)) 91 [V.agg [vu i2, vu i3], vi i4] = some (V.bool false)) :
    eC k 5 0 73 (loopBody Tryd.f73 0) { tm := [(0, V.agg [vu i0, vu i1]), (1, V.agg [vu i2, vu i3]), (2, V.ptr 0 0), (3, V.ptr 1 0), (4, V.ptr 2 0), (5, V.ptr 3 0), (6, vi i4)], hp := [(0, Ob.var [vu i0, vu i1]), (1, Ob.var [vu i2, vu i3]), (2, Ob.var [vu 0, vu 0]), (3, Ob.var [vu i5, vu i6])], nx := 4 } = some (Exit.normal, { tm := [(0, V.agg [vu i0, vu i1]), (1, V.agg [vu i2, vu i3]), (2, V.ptr 0 0), (3, V.ptr 1 0), (4, V.ptr 2 0), (5, V.ptr 3 0), (6, vi (wI (i4 - 1))), (8, V.bool true), (15, V.bool false)], hp := [(0, Ob.var [vu i0, vu i1]), (1, Ob.var [vu i2, vu i3]), (2, Ob.var [vu 0, vu 0]), (3, Ob.var [vu i7, vu i8])], nx := 48 }) :=
  byL (k := k) (d := 5) [Hn.br 8 true, Hn.call 12 (V.agg [vu i7, vu i8]), Hn.call 15 (V.bool false)] (aI c0 (aI c1 (aI c2 trivial))) (by kernel_rfl)
theorem L73_0_b1h (i0 i1 i2 i3 i4 i7 i8 : Int) : head 0 [0, 1, 2, 3, 4, 5, 6] (Tryd.cfg.fc 73).acc { tm := [(0, V.agg [vu i0, vu i1]), (1, V.agg [vu i2, vu i3]), (2, V.ptr 0 0), (3, V.ptr 1 0), (4, V.ptr 2 0), (5, V.ptr 3 0), (6, vi (wI (i4 - 1))), (8, V.bool true), (15, V.bool false)], hp := [(0, Ob.var [vu i0, vu i1]), (1, Ob.var [vu i2, vu i3]), (2, Ob.var [vu 0, vu 0]), (3, Ob.var [vu i7, vu i8])], nx := 48 } = { tm := [(0, V.agg [vu i0, vu i1]), (1, V.agg [vu i2, vu i3]), (2, V.ptr 0 0), (3, V.ptr 1 0), (4, V.ptr 2 0), (5, V.ptr 3 0), (6, vi (wI (i4 - 1)))], hp := [(0, Ob.var [vu i0, vu i1]), (1, Ob.var [vu i2, vu i3]), (2, Ob.var [vu 0, vu 0]), (3, Ob.var [vu i7, vu i8])], nx := 4 } := by kernel_rfl
theorem L73_0_b2 (i0 i1 i2 i3 i4 i5 i6 : Int) (k : Nat)
    (c0 : decide (0 ≤ i4) = false) :
    eC k 5 0 73 (loopBody Tryd.f73 0) { tm := [(0, V.agg [vu i0, vu i1]), (1, V.agg [vu i2, vu i3]), (2, V.ptr 0 0), (3, V.ptr 1 0), (4, V.ptr 2 0), (5, V.ptr 3 0), (6, vi i4)], hp := [(0, Ob.var [vu i0, vu i1]), (1, Ob.var [vu i2, vu i3]), (2, Ob.var [vu 0, vu 0]), (3, Ob.var [vu i5, vu i6])], nx := 4 } = some (Exit.exit 0, { tm := [(0, V.agg [vu i0, vu i1]), (1, V.agg [vu i2, vu i3]), (2, V.ptr 0 0), (3, V.ptr 1 0), (4, V.ptr 2 0), (5, V.ptr 3 0), (6, vi i4), (8, V.bool false)], hp := [(0, Ob.var [vu i0, vu i1]), (1, Ob.var [vu i2, vu i3]), (2, Ob.var [vu 0, vu 0]), (3, Ob.var [vu i5, vu i6])], nx := 12 }) :=
  byL (k := k) (d := 5) [Hn.br 8 false] (aI c0 trivial) (by kernel_rfl)
inductive L73_0_R where
  | e0 (i4 : Int) (i5 : Int) (i6 : Int)
noncomputable def L73_0_end (i0 : Int) (i1 : Int) (i2 : Int) (i3 : Int) : L73_0_R → Exit × St
  | .e0 i4 i5 i6 => (Exit.exit 0, { tm := [(0, V.agg [V.int .u64 i0, V.int .u64 i1]), (1, V.agg [V.int .u64 i2, V.int .u64 i3]), (2, V.ptr 0 0), (3, V.ptr 1 0), (4, V.ptr 2 0), (5, V.ptr 3 0), (6, V.int .i64 i4), (8, V.bool false)], hp := [(0, Ob.var [V.int .u64 i0, V.int .u64 i1]), (1, Ob.var [V.int .u64 i2, V.int .u64 i3]), (2, Ob.var [V.int .u64 0, V.int .u64 0]), (3, Ob.var [V.int .u64 i5, V.int .u64 i6])], nx := 12 })
def L73_0 (k : Nat) (i0 i1 i2 i3 : Int) : Nat → Int → Int → Int → Option L73_0_R
  | 0, _, _, _ => none
  | f + 1, i4, i5, i6 => (bif decide (0 ≤ i4) then ((F90 (k + 2) (i5) (i6)).bind fun (i7, i8) => ((F91 (k + 2) (i2) (i3) (i4)).bind fun b0 => (bif b0 then (L73_0 k i0 i1 i2 i3 f (IntKind.i64.wrap (i4 - 1)) (IntKind.u64.wrap (↑(BitVec.ofInt IntKind.u64.bits i7 ^^^ BitVec.ofInt IntKind.u64.bits i0).toNat : Int)) (IntKind.u64.wrap (↑(BitVec.ofInt IntKind.u64.bits i8 ^^^ BitVec.ofInt IntKind.u64.bits i1).toNat : Int))) else (L73_0 k i0 i1 i2 i3 f (IntKind.i64.wrap (i4 - 1)) (i7) (i8))))) else (some (L73_0_R.e0 i4 i5 i6)))
theorem L73_0_ok {i0 i1 i2 i3 : Int} {k : Nat} : ∀ {f : Nat} {i4 : Int} {i5 : Int} {i6 : Int} {r : L73_0_R}, L73_0 k i0 i1 i2 i3 f i4 i5 i6 = some r →
    LoopsN Tryd.prog Tryd.cfg (k + 5) 0 Tryd.f73 (Tryd.cfg.fc 73) 0 [0, 1, 2, 3, 4, 5, 6] f { tm := [(0, V.agg [vu i0, vu i1]), (1, V.agg [vu i2, vu i3]), (2, V.ptr 0 0), (3, V.ptr 1 0), (4, V.ptr 2 0), (5, V.ptr 3 0), (6, vi i4)], hp := [(0, Ob.var [vu i0, vu i1]), (1, Ob.var [vu i2, vu i3]), (2, Ob.var [vu 0, vu 0]), (3, Ob.var [vu i5, vu i6])], nx := 4 } (L73_0_end i0 i1 i2 i3 r) := by
  intro f
  induction f with
  | zero => intro i4 i5 i6 r h; cases h
  | succ f ih =>
    intro i4 i5 i6 r h
    rw [L73_0] at h
    rcases cond_elim h with ⟨e0, h⟩ | ⟨e0, h⟩
    ·
      obtain ⟨⟨i7, i8⟩, e1, h⟩ := bE h
      obtain ⟨b0, e2, h⟩ := bE h
      rcases cond_elim h with ⟨e3, h⟩ | ⟨e3, h⟩
      ·
        exact LoopsN.next (L73_0_b0 i0 i1 i2 i3 i4 i5 i6 i7 i8 k e0 (F90_ok e1) ((F91_ok e2).trans (by rw [e3]))) (L73_0_b0h i0 i1 i2 i3 i4 i7 i8) (ih h)
      ·
        exact LoopsN.next (L73_0_b1 i0 i1 i2 i3 i4 i5 i6 i7 i8 k e0 (F90_ok e1) ((F91_ok e2).trans (by rw [e3]))) (L73_0_b1h i0 i1 i2 i3 i4 i7 i8) (ih h)
    ·
      cases h; exact LoopsN.done (L73_0_b2 i0 i1 i2 i3 i4 i5 i6 k e0) (fun h => by cases h)
theorem P73_0 (i0 i1 i2 i3 i4 i5 i6 : Int) (k : Nat)
    (c0 : LoopsN Tryd.prog Tryd.cfg (k + 5) 0 Tryd.f73 (Tryd.cfg.fc 73) 0 [0, 1, 2, 3, 4, 5, 6] (k + 5) { tm := [(0, V.agg [vu i0, vu i1]), (1, V.agg [vu i2, vu i3]), (2, V.ptr 0 0), (3, V.ptr 1 0), (4, V.ptr 2 0), (5, V.ptr 3 0), (6, vi 127)], hp := [(0, Ob.var [vu i0, vu i1]), (1, Ob.var [vu i2, vu i3]), (2, Ob.var [vu 0, vu 0]), (3, Ob.var [vu 0, vu 0])], nx := 4 } (Exit.exit 0, { tm := [(0, V.agg [vu i0, vu i1]), (1, V.agg [vu i2, vu i3]), (2, V.ptr 0 0), (3, V.ptr 1 0), (4, V.ptr 2 0), (5, V.ptr 3 0), (6, vi i4), (8, V.bool false)], hp := [(0, Ob.var [vu i0, vu i1]), (1, Ob.var [vu i2, vu i3]), (2, Ob.var [vu 0, vu 0]), (3, Ob.var [vu i5, vu i6])], nx := 12 })) :
    cP ((k + 6)) 73 [V.agg [vu i0, vu i1], V.agg [vu i2, vu i3]] = some (V.agg [vu i5, vu i6]) :=
  byF (k := k) (d := 6) [Hn.loop (Exit.exit 0, { tm := [(0, V.agg [vu i0, vu i1]), (1, V.agg [vu i2, vu i3]), (2, V.ptr 0 0), (3, V.ptr 1 0), (4, V.ptr 2 0), (5, V.ptr 3 0), (6, vi i4), (8, V.bool false)], hp := [(0, Ob.var [vu i0, vu i1]), (1, Ob.var [vu i2, vu i3]), (2, Ob.var [vu 0, vu 0]), (3, Ob.var [vu i5, vu i6])], nx := 12 })] (aI c0 trivial) (by kernel_rfl)
def F73 (k : Nat) (i0 i1 i2 i3 : Int) : Option (Int × Int) :=
  ((L73_0 k i0 i1 i2 i3 (k + 5) (127) (0) (0)).bind fun
    | L73_0_R.e0 i4 i5 i6 => (some ((i5), (i6))))
theorem F73_ok {i0 i1 i2 i3 : Int} {k : Nat} {r : Int × Int} (h : F73 k i0 i1 i2 i3 = some r) :
    cP ((k + 6)) 73 [V.agg [vu i0, vu i1], V.agg [vu i2, vu i3]] = some (V.agg [vu r.1, vu r.2]) := by
  unfold F73 at h
  obtain ⟨ee, e0, h⟩ := bE h
  cases ee with
  | e0 i4 i5 i6 =>
    have h := Option.some.inj h; subst h; exact P73_0 i0 i1 i2 i3 i4 i5 i6 k (L73_0_ok e0)
theorem P89_0 (i0 : Int) (k : Nat) :
    cP ((k + 12)) 89 [vu i0] = some (V.str (List.map Sym.byteOf (1, List.take 8 (List.drop 0 [vb (wB (i0.fdiv (2 ^ min (Int.toNat 56) IntKind.u64.bits))), vb (wB (i0.fdiv (2 ^ min (Int.toNat 48) IntKind.u64.bits))), vb (wB (i0.fdiv (2 ^ min (Int.toNat 40) IntKind.u64.bits))), vb (wB (i0.fdiv (2 ^ min (Int.toNat 32) IntKind.u64.bits))), vb (wB (i0.fdiv (2 ^ min (Int.toNat 24) IntKind.u64.bits))), vb (wB (i0.fdiv (2 ^ min (Int.toNat 16) IntKind.u64.bits))), vb (wB (i0.fdiv (2 ^ min (Int.toNat 8) IntKind.u64.bits))), vb (wB (i0.fdiv (2 ^ min (Int.toNat 0) IntKind.u64.bits)))])).snd)) :=
  byF (k := k) (d := 12) [Hn.rounds] trivial (by kernel_rfl)
def F89 (k : Nat) (i0 : Int) : Option (List UInt8) :=
  (some (List.map Sym.byteOf (1, List.take 8 (List.drop 0 [V.int .u8 (IntKind.u8.wrap (i0.fdiv (2 ^ min (Int.toNat 56) IntKind.u64.bits))), V.int .u8 (IntKind.u8.wrap (i0.fdiv (2 ^ min (Int.toNat 48) IntKind.u64.bits))), V.int .u8 (IntKind.u8.wrap (i0.fdiv (2 ^ min (Int.toNat 40) IntKind.u64.bits))), V.int .u8 (IntKind.u8.wrap (i0.fdiv (2 ^ min (Int.toNat 32) IntKind.u64.bits))), V.int .u8 (IntKind.u8.wrap (i0.fdiv (2 ^ min (Int.toNat 24) IntKind.u64.bits))), V.int .u8 (IntKind.u8.wrap (i0.fdiv (2 ^ min (Int.toNat 16) IntKind.u64.bits))), V.int .u8 (IntKind.u8.wrap (i0.fdiv (2 ^ min (Int.toNat 8) IntKind.u64.bits))), V.int .u8 (IntKind.u8.wrap (i0.fdiv (2 ^ min (Int.toNat 0) IntKind.u64.bits)))])).snd))
theorem F89_ok {i0 : Int} {k : Nat} {r : List UInt8} (h : F89 k i0 = some r) :
    cP ((k + 12)) 89 [vu i0] = some (V.str r) := by
  unfold F89 at h
  have h := Option.some.inj h; subst h; exact P89_0 i0 k
theorem P74_0 (i0 i1 : Int) (s0 s1 : List UInt8) (k : Nat)
    (c0 : cP ((k + 14)) 89 [vu i0] = some (V.str s0))
    (c1 : cP ((k + 14)) 89 [vu i1] = some (V.str s1))
    (c2 : GrdP (s0.length + s1.length ≤ maxText) (V.str (s0 ++ s1))) :
    cP ((k + 15)) 74 [V.agg [vu i0, vu i1]] = some (V.str (s0 ++ s1)) :=
  byF (k := k) (d := 15) [Hn.call 5 (V.str s0), Hn.call 8 (V.str s1), Hn.op 9 (V.str (s0 ++ s1)) []] (aI c0 (aI c1 (aI c2 trivial))) (by kernel_rfl)
def F74 (k : Nat) (i0 i1 : Int) : Option (List UInt8) :=
  ((F89 (k + 2) (i0)).bind fun s0 => ((F89 (k + 2) (i1)).bind fun s1 => (guardP (s0.length + s1.length ≤ maxText) (some (s0 ++ s1)))))
theorem F74_ok {i0 i1 : Int} {k : Nat} {r : List UInt8} (h : F74 k i0 i1 = some r) :
    cP ((k + 15)) 74 [V.agg [vu i0, vu i1]] = some (V.str r) := by
  unfold F74 at h
  obtain ⟨s0, e0, h⟩ := bE h
  obtain ⟨s1, e1, h⟩ := bE h
  obtain ⟨e2, h⟩ := guardP_some.1 h
  have h := Option.some.inj h; subst h; exact P74_0 i0 i1 s0 s1 k (F89_ok e0) (F89_ok e1) (GrdP.mk e2)
end Go.Proofs
