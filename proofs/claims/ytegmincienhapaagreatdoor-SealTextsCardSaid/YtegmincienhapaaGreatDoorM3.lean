/-
  Lemmas on the machine of plain values and on what functions of this program answer, part 3.
-/
import Derived.Test.YtegmincienhapaaGreatDoorM2
set_option linter.unusedVariables false
set_option linter.unusedSimpArgs false
set_option linter.unusedVariables false
set_option maxHeartbeats 0
set_option maxRecDepth 100000
namespace Go.Proofs
open Go Go.Sym
theorem P62_0 (i0 i1 i2 i3 i4 i5 i6 i7 i8 i9 i10 i11 i12 i13 i14 i15 : Int) (s0 : List UInt8) (u0 u1 u2 u3 u4 u5 u6 u7 u8 u9 u10 u11 u12 u13 u14 u15 : UInt8) (k : Nat)
    (c0 : StrP s0 0 u0)
    (c1 : StrP s0 1 u1)
    (c2 : StrP s0 2 u2)
    (c3 : StrP s0 3 u3)
    (c4 : StrP s0 4 u4)
    (c5 : StrP s0 5 u5)
    (c6 : StrP s0 6 u6)
    (c7 : StrP s0 7 u7)
    (c8 : StrP s0 8 u8)
    (c9 : StrP s0 9 u9)
    (c10 : StrP s0 10 u10)
    (c11 : StrP s0 11 u11)
    (c12 : StrP s0 12 u12)
    (c13 : StrP s0 13 u13)
    (c14 : StrP s0 14 u14)
    (c15 : StrP s0 15 u15) :
    cP ((k + 20)) 62 [V.agg [vb i0, vb i1, vb i2, vb i3, vb i4, vb i5, vb i6, vb i7, vb i8, vb i9, vb i10, vb i11, vb i12, vb i13, vb i14, vb i15], V.str s0] = some (V.agg [vb (x8 i0 (bN u0)), vb (x8 i1 (bN u1)), vb (x8 i2 (bN u2)), vb (x8 i3 (bN u3)), vb (x8 i4 (bN u4)), vb (x8 i5 (bN u5)), vb (x8 i6 (bN u6)), vb (x8 i7 (bN u7)), vb (x8 i8 (bN u8)), vb (x8 i9 (bN u9)), vb (x8 i10 (bN u10)), vb (x8 i11 (bN u11)), vb (x8 i12 (bN u12)), vb (x8 i13 (bN u13)), vb (x8 i14 (bN u14)), vb (x8 i15 (bN u15))]) :=
  byF (k := k) (d := 20) [Hn.rounds, Hn.op 14 (vb (bN u0)) [], Hn.op 14 (vb (bN u1)) [], Hn.op 14 (vb (bN u2)) [], Hn.op 14 (vb (bN u3)) [], Hn.op 14 (vb (bN u4)) [], Hn.op 14 (vb (bN u5)) [], Hn.op 14 (vb (bN u6)) [], Hn.op 14 (vb (bN u7)) [], Hn.op 14 (vb (bN u8)) [], Hn.op 14 (vb (bN u9)) [], Hn.op 14 (vb (bN u10)) [], Hn.op 14 (vb (bN u11)) [], Hn.op 14 (vb (bN u12)) [], Hn.op 14 (vb (bN u13)) [], Hn.op 14 (vb (bN u14)) [], Hn.op 14 (vb (bN u15)) []] (aI c0 (aI c1 (aI c2 (aI c3 (aI c4 (aI c5 (aI c6 (aI c7 (aI c8 (aI c9 (aI c10 (aI c11 (aI c12 (aI c13 (aI c14 (aI c15 trivial)))))))))))))))) (by kernel_rfl)
def F62 (k : Nat) (i0 i1 i2 i3 i4 i5 i6 i7 i8 i9 i10 i11 i12 i13 i14 i15 : Int) (s0 : List UInt8) : Option (Int × Int × Int × Int × Int × Int × Int × Int × Int × Int × Int × Int × Int × Int × Int × Int) :=
  ((satB (s0) (0)).bind fun u0 => ((satB (s0) (1)).bind fun u1 => ((satB (s0) (2)).bind fun u2 => ((satB (s0) (3)).bind fun u3 => ((satB (s0) (4)).bind fun u4 => ((satB (s0) (5)).bind fun u5 => ((satB (s0) (6)).bind fun u6 => ((satB (s0) (7)).bind fun u7 => ((satB (s0) (8)).bind fun u8 => ((satB (s0) (9)).bind fun u9 => ((satB (s0) (10)).bind fun u10 => ((satB (s0) (11)).bind fun u11 => ((satB (s0) (12)).bind fun u12 => ((satB (s0) (13)).bind fun u13 => ((satB (s0) (14)).bind fun u14 => ((satB (s0) (15)).bind fun u15 => (some ((IntKind.u8.wrap (↑(BitVec.ofInt IntKind.u8.bits i0 ^^^ BitVec.ofInt IntKind.u8.bits (↑u0.toNat : Int)).toNat : Int)), (IntKind.u8.wrap (↑(BitVec.ofInt IntKind.u8.bits i1 ^^^ BitVec.ofInt IntKind.u8.bits (↑u1.toNat : Int)).toNat : Int)), (IntKind.u8.wrap (↑(BitVec.ofInt IntKind.u8.bits i2 ^^^ BitVec.ofInt IntKind.u8.bits (↑u2.toNat : Int)).toNat : Int)), (IntKind.u8.wrap (↑(BitVec.ofInt IntKind.u8.bits i3 ^^^ BitVec.ofInt IntKind.u8.bits (↑u3.toNat : Int)).toNat : Int)), (IntKind.u8.wrap (↑(BitVec.ofInt IntKind.u8.bits i4 ^^^ BitVec.ofInt IntKind.u8.bits (↑u4.toNat : Int)).toNat : Int)), (IntKind.u8.wrap (↑(BitVec.ofInt IntKind.u8.bits i5 ^^^ BitVec.ofInt IntKind.u8.bits (↑u5.toNat : Int)).toNat : Int)), (IntKind.u8.wrap (↑(BitVec.ofInt IntKind.u8.bits i6 ^^^ BitVec.ofInt IntKind.u8.bits (↑u6.toNat : Int)).toNat : Int)), (IntKind.u8.wrap (↑(BitVec.ofInt IntKind.u8.bits i7 ^^^ BitVec.ofInt IntKind.u8.bits (↑u7.toNat : Int)).toNat : Int)), (IntKind.u8.wrap (↑(BitVec.ofInt IntKind.u8.bits i8 ^^^ BitVec.ofInt IntKind.u8.bits (↑u8.toNat : Int)).toNat : Int)), (IntKind.u8.wrap (↑(BitVec.ofInt IntKind.u8.bits i9 ^^^ BitVec.ofInt IntKind.u8.bits (↑u9.toNat : Int)).toNat : Int)), (IntKind.u8.wrap (↑(BitVec.ofInt IntKind.u8.bits i10 ^^^ BitVec.ofInt IntKind.u8.bits (↑u10.toNat : Int)).toNat : Int)), (IntKind.u8.wrap (↑(BitVec.ofInt IntKind.u8.bits i11 ^^^ BitVec.ofInt IntKind.u8.bits (↑u11.toNat : Int)).toNat : Int)), (IntKind.u8.wrap (↑(BitVec.ofInt IntKind.u8.bits i12 ^^^ BitVec.ofInt IntKind.u8.bits (↑u12.toNat : Int)).toNat : Int)), (IntKind.u8.wrap (↑(BitVec.ofInt IntKind.u8.bits i13 ^^^ BitVec.ofInt IntKind.u8.bits (↑u13.toNat : Int)).toNat : Int)), (IntKind.u8.wrap (↑(BitVec.ofInt IntKind.u8.bits i14 ^^^ BitVec.ofInt IntKind.u8.bits (↑u14.toNat : Int)).toNat : Int)), (IntKind.u8.wrap (↑(BitVec.ofInt IntKind.u8.bits i15 ^^^ BitVec.ofInt IntKind.u8.bits (↑u15.toNat : Int)).toNat : Int))))))))))))))))))))
theorem F62_ok {i0 i1 i2 i3 i4 i5 i6 i7 i8 i9 i10 i11 i12 i13 i14 i15 : Int} {s0 : List UInt8} {k : Nat} {r : Int × Int × Int × Int × Int × Int × Int × Int × Int × Int × Int × Int × Int × Int × Int × Int} (h : F62 k i0 i1 i2 i3 i4 i5 i6 i7 i8 i9 i10 i11 i12 i13 i14 i15 s0 = some r) :
    cP ((k + 20)) 62 [V.agg [vb i0, vb i1, vb i2, vb i3, vb i4, vb i5, vb i6, vb i7, vb i8, vb i9, vb i10, vb i11, vb i12, vb i13, vb i14, vb i15], V.str s0] = some (V.agg [vb r.1, vb r.2.1, vb r.2.2.1, vb r.2.2.2.1, vb r.2.2.2.2.1, vb r.2.2.2.2.2.1, vb r.2.2.2.2.2.2.1, vb r.2.2.2.2.2.2.2.1, vb r.2.2.2.2.2.2.2.2.1, vb r.2.2.2.2.2.2.2.2.2.1, vb r.2.2.2.2.2.2.2.2.2.2.1, vb r.2.2.2.2.2.2.2.2.2.2.2.1, vb r.2.2.2.2.2.2.2.2.2.2.2.2.1, vb r.2.2.2.2.2.2.2.2.2.2.2.2.2.1, vb r.2.2.2.2.2.2.2.2.2.2.2.2.2.2.1, vb r.2.2.2.2.2.2.2.2.2.2.2.2.2.2.2]) := by
  unfold F62 at h
  obtain ⟨u0, e0, h⟩ := bE h
  obtain ⟨u1, e1, h⟩ := bE h
  obtain ⟨u2, e2, h⟩ := bE h
  obtain ⟨u3, e3, h⟩ := bE h
  obtain ⟨u4, e4, h⟩ := bE h
  obtain ⟨u5, e5, h⟩ := bE h
  obtain ⟨u6, e6, h⟩ := bE h
  obtain ⟨u7, e7, h⟩ := bE h
  obtain ⟨u8, e8, h⟩ := bE h
  obtain ⟨u9, e9, h⟩ := bE h
  obtain ⟨u10, e10, h⟩ := bE h
  obtain ⟨u11, e11, h⟩ := bE h
  obtain ⟨u12, e12, h⟩ := bE h
  obtain ⟨u13, e13, h⟩ := bE h
  obtain ⟨u14, e14, h⟩ := bE h
  obtain ⟨u15, e15, h⟩ := bE h
  have h := Option.some.inj h; subst h; exact P62_0 i0 i1 i2 i3 i4 i5 i6 i7 i8 i9 i10 i11 i12 i13 i14 i15 s0 u0 u1 u2 u3 u4 u5 u6 u7 u8 u9 u10 u11 u12 u13 u14 u15 k (StrP.of_at e0) (StrP.of_at e1) (StrP.of_at e2) (StrP.of_at e3) (StrP.of_at e4) (StrP.of_at e5) (StrP.of_at e6) (StrP.of_at e7) (StrP.of_at e8) (StrP.of_at e9) (StrP.of_at e10) (StrP.of_at e11) (StrP.of_at e12) (StrP.of_at e13) (StrP.of_at e14) (StrP.of_at e15)
theorem P63_0 (i0 i1 i2 i3 i4 i5 i6 i7 i8 i9 i10 i11 i12 i13 i14 i15 i16 i17 i18 i19 i20 i21 i22 i23 i24 i25 i26 i27 i28 i29 i30 i31 : Int) (k : Nat)
    (c0 : cP ((k + 34)) 87 [vb i0] = some (vb i16))
    (c1 : cP ((k + 34)) 87 [vb i1] = some (vb i17))
    (c2 : cP ((k + 34)) 87 [vb i2] = some (vb i18))
    (c3 : cP ((k + 34)) 87 [vb i3] = some (vb i19))
    (c4 : cP ((k + 34)) 87 [vb i4] = some (vb i20))
    (c5 : cP ((k + 34)) 87 [vb i5] = some (vb i21))
    (c6 : cP ((k + 34)) 87 [vb i6] = some (vb i22))
    (c7 : cP ((k + 34)) 87 [vb i7] = some (vb i23))
    (c8 : cP ((k + 34)) 87 [vb i8] = some (vb i24))
    (c9 : cP ((k + 34)) 87 [vb i9] = some (vb i25))
    (c10 : cP ((k + 34)) 87 [vb i10] = some (vb i26))
    (c11 : cP ((k + 34)) 87 [vb i11] = some (vb i27))
    (c12 : cP ((k + 34)) 87 [vb i12] = some (vb i28))
    (c13 : cP ((k + 34)) 87 [vb i13] = some (vb i29))
    (c14 : cP ((k + 34)) 87 [vb i14] = some (vb i30))
    (c15 : cP ((k + 34)) 87 [vb i15] = some (vb i31)) :
    cP ((k + 35)) 63 [V.agg [vb i0, vb i1, vb i2, vb i3, vb i4, vb i5, vb i6, vb i7, vb i8, vb i9, vb i10, vb i11, vb i12, vb i13, vb i14, vb i15]] = some (V.agg [vb i16, vb i17, vb i18, vb i19, vb i20, vb i21, vb i22, vb i23, vb i24, vb i25, vb i26, vb i27, vb i28, vb i29, vb i30, vb i31]) :=
  byF (k := k) (d := 35) [Hn.rounds, Hn.call 11 (vb i16), Hn.call 11 (vb i17), Hn.call 11 (vb i18), Hn.call 11 (vb i19), Hn.call 11 (vb i20), Hn.call 11 (vb i21), Hn.call 11 (vb i22), Hn.call 11 (vb i23), Hn.call 11 (vb i24), Hn.call 11 (vb i25), Hn.call 11 (vb i26), Hn.call 11 (vb i27), Hn.call 11 (vb i28), Hn.call 11 (vb i29), Hn.call 11 (vb i30), Hn.call 11 (vb i31)] (aI c0 (aI c1 (aI c2 (aI c3 (aI c4 (aI c5 (aI c6 (aI c7 (aI c8 (aI c9 (aI c10 (aI c11 (aI c12 (aI c13 (aI c14 (aI c15 trivial)))))))))))))))) (by kernel_rfl)
def F63 (k : Nat) (i0 i1 i2 i3 i4 i5 i6 i7 i8 i9 i10 i11 i12 i13 i14 i15 : Int) : Option (Int × Int × Int × Int × Int × Int × Int × Int × Int × Int × Int × Int × Int × Int × Int × Int) :=
  ((F87 (k + 19) (i0)).bind fun i16 => ((F87 (k + 19) (i1)).bind fun i17 => ((F87 (k + 19) (i2)).bind fun i18 => ((F87 (k + 19) (i3)).bind fun i19 => ((F87 (k + 19) (i4)).bind fun i20 => ((F87 (k + 19) (i5)).bind fun i21 => ((F87 (k + 19) (i6)).bind fun i22 => ((F87 (k + 19) (i7)).bind fun i23 => ((F87 (k + 19) (i8)).bind fun i24 => ((F87 (k + 19) (i9)).bind fun i25 => ((F87 (k + 19) (i10)).bind fun i26 => ((F87 (k + 19) (i11)).bind fun i27 => ((F87 (k + 19) (i12)).bind fun i28 => ((F87 (k + 19) (i13)).bind fun i29 => ((F87 (k + 19) (i14)).bind fun i30 => ((F87 (k + 19) (i15)).bind fun i31 => (some ((i16), (i17), (i18), (i19), (i20), (i21), (i22), (i23), (i24), (i25), (i26), (i27), (i28), (i29), (i30), (i31)))))))))))))))))))
theorem F63_ok {i0 i1 i2 i3 i4 i5 i6 i7 i8 i9 i10 i11 i12 i13 i14 i15 : Int} {k : Nat} {r : Int × Int × Int × Int × Int × Int × Int × Int × Int × Int × Int × Int × Int × Int × Int × Int} (h : F63 k i0 i1 i2 i3 i4 i5 i6 i7 i8 i9 i10 i11 i12 i13 i14 i15 = some r) :
    cP ((k + 35)) 63 [V.agg [vb i0, vb i1, vb i2, vb i3, vb i4, vb i5, vb i6, vb i7, vb i8, vb i9, vb i10, vb i11, vb i12, vb i13, vb i14, vb i15]] = some (V.agg [vb r.1, vb r.2.1, vb r.2.2.1, vb r.2.2.2.1, vb r.2.2.2.2.1, vb r.2.2.2.2.2.1, vb r.2.2.2.2.2.2.1, vb r.2.2.2.2.2.2.2.1, vb r.2.2.2.2.2.2.2.2.1, vb r.2.2.2.2.2.2.2.2.2.1, vb r.2.2.2.2.2.2.2.2.2.2.1, vb r.2.2.2.2.2.2.2.2.2.2.2.1, vb r.2.2.2.2.2.2.2.2.2.2.2.2.1, vb r.2.2.2.2.2.2.2.2.2.2.2.2.2.1, vb r.2.2.2.2.2.2.2.2.2.2.2.2.2.2.1, vb r.2.2.2.2.2.2.2.2.2.2.2.2.2.2.2]) := by
  unfold F63 at h
  obtain ⟨i16, e0, h⟩ := bE h
  obtain ⟨i17, e1, h⟩ := bE h
  obtain ⟨i18, e2, h⟩ := bE h
  obtain ⟨i19, e3, h⟩ := bE h
  obtain ⟨i20, e4, h⟩ := bE h
  obtain ⟨i21, e5, h⟩ := bE h
  obtain ⟨i22, e6, h⟩ := bE h
  obtain ⟨i23, e7, h⟩ := bE h
  obtain ⟨i24, e8, h⟩ := bE h
  obtain ⟨i25, e9, h⟩ := bE h
  obtain ⟨i26, e10, h⟩ := bE h
  obtain ⟨i27, e11, h⟩ := bE h
  obtain ⟨i28, e12, h⟩ := bE h
  obtain ⟨i29, e13, h⟩ := bE h
  obtain ⟨i30, e14, h⟩ := bE h
  obtain ⟨i31, e15, h⟩ := bE h
  have h := Option.some.inj h; subst h; exact P63_0 i0 i1 i2 i3 i4 i5 i6 i7 i8 i9 i10 i11 i12 i13 i14 i15 i16 i17 i18 i19 i20 i21 i22 i23 i24 i25 i26 i27 i28 i29 i30 i31 k (F87_ok e0) (F87_ok e1) (F87_ok e2) (F87_ok e3) (F87_ok e4) (F87_ok e5) (F87_ok e6) (F87_ok e7) (F87_ok e8) (F87_ok e9) (F87_ok e10) (F87_ok e11) (F87_ok e12) (F87_ok e13) (F87_ok e14) (F87_ok e15)
theorem P64_0 (i0 i1 i2 i3 i4 i5 i6 i7 i8 i9 i10 i11 i12 i13 i14 i15 : Int) (k : Nat) :
    cP ((k + 20)) 64 [V.agg [vb i0, vb i1, vb i2, vb i3, vb i4, vb i5, vb i6, vb i7, vb i8, vb i9, vb i10, vb i11, vb i12, vb i13, vb i14, vb i15]] = some (V.agg [vb i0, vb i5, vb i10, vb i15, vb i4, vb i9, vb i14, vb i3, vb i8, vb i13, vb i2, vb i7, vb i12, vb i1, vb i6, vb i11]) :=
  byF (k := k) (d := 20) [Hn.rounds] trivial (by kernel_rfl)
def F64 (k : Nat) (i0 i1 i2 i3 i4 i5 i6 i7 i8 i9 i10 i11 i12 i13 i14 i15 : Int) : Option (Int × Int × Int × Int × Int × Int × Int × Int × Int × Int × Int × Int × Int × Int × Int × Int) :=
  (some ((i0), (i5), (i10), (i15), (i4), (i9), (i14), (i3), (i8), (i13), (i2), (i7), (i12), (i1), (i6), (i11)))
theorem F64_ok {i0 i1 i2 i3 i4 i5 i6 i7 i8 i9 i10 i11 i12 i13 i14 i15 : Int} {k : Nat} {r : Int × Int × Int × Int × Int × Int × Int × Int × Int × Int × Int × Int × Int × Int × Int × Int} (h : F64 k i0 i1 i2 i3 i4 i5 i6 i7 i8 i9 i10 i11 i12 i13 i14 i15 = some r) :
    cP ((k + 20)) 64 [V.agg [vb i0, vb i1, vb i2, vb i3, vb i4, vb i5, vb i6, vb i7, vb i8, vb i9, vb i10, vb i11, vb i12, vb i13, vb i14, vb i15]] = some (V.agg [vb r.1, vb r.2.1, vb r.2.2.1, vb r.2.2.2.1, vb r.2.2.2.2.1, vb r.2.2.2.2.2.1, vb r.2.2.2.2.2.2.1, vb r.2.2.2.2.2.2.2.1, vb r.2.2.2.2.2.2.2.2.1, vb r.2.2.2.2.2.2.2.2.2.1, vb r.2.2.2.2.2.2.2.2.2.2.1, vb r.2.2.2.2.2.2.2.2.2.2.2.1, vb r.2.2.2.2.2.2.2.2.2.2.2.2.1, vb r.2.2.2.2.2.2.2.2.2.2.2.2.2.1, vb r.2.2.2.2.2.2.2.2.2.2.2.2.2.2.1, vb r.2.2.2.2.2.2.2.2.2.2.2.2.2.2.2]) := by
  unfold F64 at h
  have h := Option.some.inj h; subst h; exact P64_0 i0 i1 i2 i3 i4 i5 i6 i7 i8 i9 i10 i11 i12 i13 i14 i15 k
theorem P65_0 (i0 i1 i2 i3 i4 i5 i6 i7 i8 i9 i10 i11 i12 i13 i14 i15 i16 i17 i18 i19 i20 i21 i22 i23 i24 i25 i26 i27 i28 i29 i30 i31 : Int) (k : Nat)
    (c0 : cP ((k + 25)) 89 [vb (x8 i0 i1), vb 2] = some (vb i16))
    (c1 : cP ((k + 25)) 89 [vb (x8 i1 i2), vb 2] = some (vb i17))
    (c2 : cP ((k + 25)) 89 [vb (x8 i2 i3), vb 2] = some (vb i18))
    (c3 : cP ((k + 25)) 89 [vb (x8 i3 i0), vb 2] = some (vb i19))
    (c4 : cP ((k + 25)) 89 [vb (x8 i4 i5), vb 2] = some (vb i20))
    (c5 : cP ((k + 25)) 89 [vb (x8 i5 i6), vb 2] = some (vb i21))
    (c6 : cP ((k + 25)) 89 [vb (x8 i6 i7), vb 2] = some (vb i22))
    (c7 : cP ((k + 25)) 89 [vb (x8 i7 i4), vb 2] = some (vb i23))
    (c8 : cP ((k + 25)) 89 [vb (x8 i8 i9), vb 2] = some (vb i24))
    (c9 : cP ((k + 25)) 89 [vb (x8 i9 i10), vb 2] = some (vb i25))
    (c10 : cP ((k + 25)) 89 [vb (x8 i10 i11), vb 2] = some (vb i26))
    (c11 : cP ((k + 25)) 89 [vb (x8 i11 i8), vb 2] = some (vb i27))
    (c12 : cP ((k + 25)) 89 [vb (x8 i12 i13), vb 2] = some (vb i28))
    (c13 : cP ((k + 25)) 89 [vb (x8 i13 i14), vb 2] = some (vb i29))
    (c14 : cP ((k + 25)) 89 [vb (x8 i14 i15), vb 2] = some (vb i30))
    (c15 : cP ((k + 25)) 89 [vb (x8 i15 i12), vb 2] = some (vb i31)) :
    cP ((k + 26)) 65 [V.agg [vb i0, vb i1, vb i2, vb i3, vb i4, vb i5, vb i6, vb i7, vb i8, vb i9, vb i10, vb i11, vb i12, vb i13, vb i14, vb i15]] = some (V.agg [vb (wB (↑(BitVec.ofInt IntKind.u8.bits i0 ^^^ BitVec.ofInt IntKind.u8.bits (wB (↑(BitVec.ofInt IntKind.u8.bits (x8 (x8 (x8 i0 i1) i2) i3) ^^^ BitVec.ofInt IntKind.u8.bits i16).toNat : Int))).toNat : Int)), vb (wB (↑(BitVec.ofInt IntKind.u8.bits i1 ^^^ BitVec.ofInt IntKind.u8.bits (wB (↑(BitVec.ofInt IntKind.u8.bits (x8 (x8 (x8 i0 i1) i2) i3) ^^^ BitVec.ofInt IntKind.u8.bits i17).toNat : Int))).toNat : Int)), vb (wB (↑(BitVec.ofInt IntKind.u8.bits i2 ^^^ BitVec.ofInt IntKind.u8.bits (wB (↑(BitVec.ofInt IntKind.u8.bits (x8 (x8 (x8 i0 i1) i2) i3) ^^^ BitVec.ofInt IntKind.u8.bits i18).toNat : Int))).toNat : Int)), vb (wB (↑(BitVec.ofInt IntKind.u8.bits i3 ^^^ BitVec.ofInt IntKind.u8.bits (wB (↑(BitVec.ofInt IntKind.u8.bits (x8 (x8 (x8 i0 i1) i2) i3) ^^^ BitVec.ofInt IntKind.u8.bits i19).toNat : Int))).toNat : Int)), vb (wB (↑(BitVec.ofInt IntKind.u8.bits i4 ^^^ BitVec.ofInt IntKind.u8.bits (wB (↑(BitVec.ofInt IntKind.u8.bits (x8 (x8 (x8 i4 i5) i6) i7) ^^^ BitVec.ofInt IntKind.u8.bits i20).toNat : Int))).toNat : Int)), vb (wB (↑(BitVec.ofInt IntKind.u8.bits i5 ^^^ BitVec.ofInt IntKind.u8.bits (wB (↑(BitVec.ofInt IntKind.u8.bits (x8 (x8 (x8 i4 i5) i6) i7) ^^^ BitVec.ofInt IntKind.u8.bits i21).toNat : Int))).toNat : Int)), vb (wB (↑(BitVec.ofInt IntKind.u8.bits i6 ^^^ BitVec.ofInt IntKind.u8.bits (wB (↑(BitVec.ofInt IntKind.u8.bits (x8 (x8 (x8 i4 i5) i6) i7) ^^^ BitVec.ofInt IntKind.u8.bits i22).toNat : Int))).toNat : Int)), vb (wB (↑(BitVec.ofInt IntKind.u8.bits i7 ^^^ BitVec.ofInt IntKind.u8.bits (wB (↑(BitVec.ofInt IntKind.u8.bits (x8 (x8 (x8 i4 i5) i6) i7) ^^^ BitVec.ofInt IntKind.u8.bits i23).toNat : Int))).toNat : Int)), vb (wB (↑(BitVec.ofInt IntKind.u8.bits i8 ^^^ BitVec.ofInt IntKind.u8.bits (wB (↑(BitVec.ofInt IntKind.u8.bits (x8 (x8 (x8 i8 i9) i10) i11) ^^^ BitVec.ofInt IntKind.u8.bits i24).toNat : Int))).toNat : Int)), vb (wB (↑(BitVec.ofInt IntKind.u8.bits i9 ^^^ BitVec.ofInt IntKind.u8.bits (wB (↑(BitVec.ofInt IntKind.u8.bits (x8 (x8 (x8 i8 i9) i10) i11) ^^^ BitVec.ofInt IntKind.u8.bits i25).toNat : Int))).toNat : Int)), vb (wB (↑(BitVec.ofInt IntKind.u8.bits i10 ^^^ BitVec.ofInt IntKind.u8.bits (wB (↑(BitVec.ofInt IntKind.u8.bits (x8 (x8 (x8 i8 i9) i10) i11) ^^^ BitVec.ofInt IntKind.u8.bits i26).toNat : Int))).toNat : Int)), vb (wB (↑(BitVec.ofInt IntKind.u8.bits i11 ^^^ BitVec.ofInt IntKind.u8.bits (wB (↑(BitVec.ofInt IntKind.u8.bits (x8 (x8 (x8 i8 i9) i10) i11) ^^^ BitVec.ofInt IntKind.u8.bits i27).toNat : Int))).toNat : Int)), vb (wB (↑(BitVec.ofInt IntKind.u8.bits i12 ^^^ BitVec.ofInt IntKind.u8.bits (wB (↑(BitVec.ofInt IntKind.u8.bits (x8 (x8 (x8 i12 i13) i14) i15) ^^^ BitVec.ofInt IntKind.u8.bits i28).toNat : Int))).toNat : Int)), vb (wB (↑(BitVec.ofInt IntKind.u8.bits i13 ^^^ BitVec.ofInt IntKind.u8.bits (wB (↑(BitVec.ofInt IntKind.u8.bits (x8 (x8 (x8 i12 i13) i14) i15) ^^^ BitVec.ofInt IntKind.u8.bits i29).toNat : Int))).toNat : Int)), vb (wB (↑(BitVec.ofInt IntKind.u8.bits i14 ^^^ BitVec.ofInt IntKind.u8.bits (wB (↑(BitVec.ofInt IntKind.u8.bits (x8 (x8 (x8 i12 i13) i14) i15) ^^^ BitVec.ofInt IntKind.u8.bits i30).toNat : Int))).toNat : Int)), vb (wB (↑(BitVec.ofInt IntKind.u8.bits i15 ^^^ BitVec.ofInt IntKind.u8.bits (wB (↑(BitVec.ofInt IntKind.u8.bits (x8 (x8 (x8 i12 i13) i14) i15) ^^^ BitVec.ofInt IntKind.u8.bits i31).toNat : Int))).toNat : Int))]) :=
  byF (k := k) (d := 26) [Hn.rounds, Hn.rounds, Hn.call 46 (vb i16), Hn.call 46 (vb i17), Hn.call 46 (vb i18), Hn.call 46 (vb i19), Hn.rounds, Hn.call 46 (vb i20), Hn.call 46 (vb i21), Hn.call 46 (vb i22), Hn.call 46 (vb i23), Hn.rounds, Hn.call 46 (vb i24), Hn.call 46 (vb i25), Hn.call 46 (vb i26), Hn.call 46 (vb i27), Hn.rounds, Hn.call 46 (vb i28), Hn.call 46 (vb i29), Hn.call 46 (vb i30), Hn.call 46 (vb i31)] (aI c0 (aI c1 (aI c2 (aI c3 (aI c4 (aI c5 (aI c6 (aI c7 (aI c8 (aI c9 (aI c10 (aI c11 (aI c12 (aI c13 (aI c14 (aI c15 trivial)))))))))))))))) (by kernel_rfl)
def F65 (k : Nat) (i0 i1 i2 i3 i4 i5 i6 i7 i8 i9 i10 i11 i12 i13 i14 i15 : Int) : Option (Int × Int × Int × Int × Int × Int × Int × Int × Int × Int × Int × Int × Int × Int × Int × Int) :=
  ((F89 (k + 19) (IntKind.u8.wrap (↑(BitVec.ofInt IntKind.u8.bits i0 ^^^ BitVec.ofInt IntKind.u8.bits i1).toNat : Int)) (2)).bind fun i16 => ((F89 (k + 19) (IntKind.u8.wrap (↑(BitVec.ofInt IntKind.u8.bits i1 ^^^ BitVec.ofInt IntKind.u8.bits i2).toNat : Int)) (2)).bind fun i17 => ((F89 (k + 19) (IntKind.u8.wrap (↑(BitVec.ofInt IntKind.u8.bits i2 ^^^ BitVec.ofInt IntKind.u8.bits i3).toNat : Int)) (2)).bind fun i18 => ((F89 (k + 19) (IntKind.u8.wrap (↑(BitVec.ofInt IntKind.u8.bits i3 ^^^ BitVec.ofInt IntKind.u8.bits i0).toNat : Int)) (2)).bind fun i19 => ((F89 (k + 19) (IntKind.u8.wrap (↑(BitVec.ofInt IntKind.u8.bits i4 ^^^ BitVec.ofInt IntKind.u8.bits i5).toNat : Int)) (2)).bind fun i20 => ((F89 (k + 19) (IntKind.u8.wrap (↑(BitVec.ofInt IntKind.u8.bits i5 ^^^ BitVec.ofInt IntKind.u8.bits i6).toNat : Int)) (2)).bind fun i21 => ((F89 (k + 19) (IntKind.u8.wrap (↑(BitVec.ofInt IntKind.u8.bits i6 ^^^ BitVec.ofInt IntKind.u8.bits i7).toNat : Int)) (2)).bind fun i22 => ((F89 (k + 19) (IntKind.u8.wrap (↑(BitVec.ofInt IntKind.u8.bits i7 ^^^ BitVec.ofInt IntKind.u8.bits i4).toNat : Int)) (2)).bind fun i23 => ((F89 (k + 19) (IntKind.u8.wrap (↑(BitVec.ofInt IntKind.u8.bits i8 ^^^ BitVec.ofInt IntKind.u8.bits i9).toNat : Int)) (2)).bind fun i24 => ((F89 (k + 19) (IntKind.u8.wrap (↑(BitVec.ofInt IntKind.u8.bits i9 ^^^ BitVec.ofInt IntKind.u8.bits i10).toNat : Int)) (2)).bind fun i25 => ((F89 (k + 19) (IntKind.u8.wrap (↑(BitVec.ofInt IntKind.u8.bits i10 ^^^ BitVec.ofInt IntKind.u8.bits i11).toNat : Int)) (2)).bind fun i26 => ((F89 (k + 19) (IntKind.u8.wrap (↑(BitVec.ofInt IntKind.u8.bits i11 ^^^ BitVec.ofInt IntKind.u8.bits i8).toNat : Int)) (2)).bind fun i27 => ((F89 (k + 19) (IntKind.u8.wrap (↑(BitVec.ofInt IntKind.u8.bits i12 ^^^ BitVec.ofInt IntKind.u8.bits i13).toNat : Int)) (2)).bind fun i28 => ((F89 (k + 19) (IntKind.u8.wrap (↑(BitVec.ofInt IntKind.u8.bits i13 ^^^ BitVec.ofInt IntKind.u8.bits i14).toNat : Int)) (2)).bind fun i29 => ((F89 (k + 19) (IntKind.u8.wrap (↑(BitVec.ofInt IntKind.u8.bits i14 ^^^ BitVec.ofInt IntKind.u8.bits i15).toNat : Int)) (2)).bind fun i30 => ((F89 (k + 19) (IntKind.u8.wrap (↑(BitVec.ofInt IntKind.u8.bits i15 ^^^ BitVec.ofInt IntKind.u8.bits i12).toNat : Int)) (2)).bind fun i31 => (some ((IntKind.u8.wrap (↑(BitVec.ofInt IntKind.u8.bits i0 ^^^ BitVec.ofInt IntKind.u8.bits (IntKind.u8.wrap (↑(BitVec.ofInt IntKind.u8.bits (IntKind.u8.wrap (↑(BitVec.ofInt IntKind.u8.bits (IntKind.u8.wrap (↑(BitVec.ofInt IntKind.u8.bits (IntKind.u8.wrap (↑(BitVec.ofInt IntKind.u8.bits i0 ^^^ BitVec.ofInt IntKind.u8.bits i1).toNat : Int)) ^^^ BitVec.ofInt IntKind.u8.bits i2).toNat : Int)) ^^^ BitVec.ofInt IntKind.u8.bits i3).toNat : Int)) ^^^ BitVec.ofInt IntKind.u8.bits i16).toNat : Int))).toNat : Int)), (IntKind.u8.wrap (↑(BitVec.ofInt IntKind.u8.bits i1 ^^^ BitVec.ofInt IntKind.u8.bits (IntKind.u8.wrap (↑(BitVec.ofInt IntKind.u8.bits (IntKind.u8.wrap (↑(BitVec.ofInt IntKind.u8.bits (IntKind.u8.wrap (↑(BitVec.ofInt IntKind.u8.bits (IntKind.u8.wrap (↑(BitVec.ofInt IntKind.u8.bits i0 ^^^ BitVec.ofInt IntKind.u8.bits i1).toNat : Int)) ^^^ BitVec.ofInt IntKind.u8.bits i2).toNat : Int)) ^^^ BitVec.ofInt IntKind.u8.bits i3).toNat : Int)) ^^^ BitVec.ofInt IntKind.u8.bits i17).toNat : Int))).toNat : Int)), (IntKind.u8.wrap (↑(BitVec.ofInt IntKind.u8.bits i2 ^^^ BitVec.ofInt IntKind.u8.bits (IntKind.u8.wrap (↑(BitVec.ofInt IntKind.u8.bits (IntKind.u8.wrap (↑(BitVec.ofInt IntKind.u8.bits (IntKind.u8.wrap (↑(BitVec.ofInt IntKind.u8.bits (IntKind.u8.wrap (↑(BitVec.ofInt IntKind.u8.bits i0 ^^^ BitVec.ofInt IntKind.u8.bits i1).toNat : Int)) ^^^ BitVec.ofInt IntKind.u8.bits i2).toNat : Int)) ^^^ BitVec.ofInt IntKind.u8.bits i3).toNat : Int)) ^^^ BitVec.ofInt IntKind.u8.bits i18).toNat : Int))).toNat : Int)), (IntKind.u8.wrap (↑(BitVec.ofInt IntKind.u8.bits i3 ^^^ BitVec.ofInt IntKind.u8.bits (IntKind.u8.wrap (↑(BitVec.ofInt IntKind.u8.bits (IntKind.u8.wrap (↑(BitVec.ofInt IntKind.u8.bits (IntKind.u8.wrap (↑(BitVec.ofInt IntKind.u8.bits (IntKind.u8.wrap (↑(BitVec.ofInt IntKind.u8.bits i0 ^^^ BitVec.ofInt IntKind.u8.bits i1).toNat : Int)) ^^^ BitVec.ofInt IntKind.u8.bits i2).toNat : Int)) ^^^ BitVec.ofInt IntKind.u8.bits i3).toNat : Int)) ^^^ BitVec.ofInt IntKind.u8.bits i19).toNat : Int))).toNat : Int)), (IntKind.u8.wrap (↑(BitVec.ofInt IntKind.u8.bits i4 ^^^ BitVec.ofInt IntKind.u8.bits (IntKind.u8.wrap (↑(BitVec.ofInt IntKind.u8.bits (IntKind.u8.wrap (↑(BitVec.ofInt IntKind.u8.bits (IntKind.u8.wrap (↑(BitVec.ofInt IntKind.u8.bits (IntKind.u8.wrap (↑(BitVec.ofInt IntKind.u8.bits i4 ^^^ BitVec.ofInt IntKind.u8.bits i5).toNat : Int)) ^^^ BitVec.ofInt IntKind.u8.bits i6).toNat : Int)) ^^^ BitVec.ofInt IntKind.u8.bits i7).toNat : Int)) ^^^ BitVec.ofInt IntKind.u8.bits i20).toNat : Int))).toNat : Int)), (IntKind.u8.wrap (↑(BitVec.ofInt IntKind.u8.bits i5 ^^^ BitVec.ofInt IntKind.u8.bits (IntKind.u8.wrap (↑(BitVec.ofInt IntKind.u8.bits (IntKind.u8.wrap (↑(BitVec.ofInt IntKind.u8.bits (IntKind.u8.wrap (↑(BitVec.ofInt IntKind.u8.bits (IntKind.u8.wrap (↑(BitVec.ofInt IntKind.u8.bits i4 ^^^ BitVec.ofInt IntKind.u8.bits i5).toNat : Int)) ^^^ BitVec.ofInt IntKind.u8.bits i6).toNat : Int)) ^^^ BitVec.ofInt IntKind.u8.bits i7).toNat : Int)) ^^^ BitVec.ofInt IntKind.u8.bits i21).toNat : Int))).toNat : Int)), (IntKind.u8.wrap (↑(BitVec.ofInt IntKind.u8.bits i6 ^^^ BitVec.ofInt IntKind.u8.bits (IntKind.u8.wrap (↑(BitVec.ofInt IntKind.u8.bits (IntKind.u8.wrap (↑(BitVec.ofInt IntKind.u8.bits (IntKind.u8.wrap (↑(BitVec.ofInt IntKind.u8.bits (IntKind.u8.wrap (↑(BitVec.ofInt IntKind.u8.bits i4 ^^^ BitVec.ofInt IntKind.u8.bits i5).toNat : Int)) ^^^ BitVec.ofInt IntKind.u8.bits i6).toNat : Int)) ^^^ BitVec.ofInt IntKind.u8.bits i7).toNat : Int)) ^^^ BitVec.ofInt IntKind.u8.bits i22).toNat : Int))).toNat : Int)), (IntKind.u8.wrap (↑(BitVec.ofInt IntKind.u8.bits i7 ^^^ BitVec.ofInt IntKind.u8.bits (IntKind.u8.wrap (↑(BitVec.ofInt IntKind.u8.bits (IntKind.u8.wrap (↑(BitVec.ofInt IntKind.u8.bits (IntKind.u8.wrap (↑(BitVec.ofInt IntKind.u8.bits (IntKind.u8.wrap (↑(BitVec.ofInt IntKind.u8.bits i4 ^^^ BitVec.ofInt IntKind.u8.bits i5).toNat : Int)) ^^^ BitVec.ofInt IntKind.u8.bits i6).toNat : Int)) ^^^ BitVec.ofInt IntKind.u8.bits i7).toNat : Int)) ^^^ BitVec.ofInt IntKind.u8.bits i23).toNat : Int))).toNat : Int)), (IntKind.u8.wrap (↑(BitVec.ofInt IntKind.u8.bits i8 ^^^ BitVec.ofInt IntKind.u8.bits (IntKind.u8.wrap (↑(BitVec.ofInt IntKind.u8.bits (IntKind.u8.wrap (↑(BitVec.ofInt IntKind.u8.bits (IntKind.u8.wrap (↑(BitVec.ofInt IntKind.u8.bits (IntKind.u8.wrap (↑(BitVec.ofInt IntKind.u8.bits i8 ^^^ BitVec.ofInt IntKind.u8.bits i9).toNat : Int)) ^^^ BitVec.ofInt IntKind.u8.bits i10).toNat : Int)) ^^^ BitVec.ofInt IntKind.u8.bits i11).toNat : Int)) ^^^ BitVec.ofInt IntKind.u8.bits i24).toNat : Int))).toNat : Int)), (IntKind.u8.wrap (↑(BitVec.ofInt IntKind.u8.bits i9 ^^^ BitVec.ofInt IntKind.u8.bits (IntKind.u8.wrap (↑(BitVec.ofInt IntKind.u8.bits (IntKind.u8.wrap (↑(BitVec.ofInt IntKind.u8.bits (IntKind.u8.wrap (↑(BitVec.ofInt IntKind.u8.bits (IntKind.u8.wrap (↑(BitVec.ofInt IntKind.u8.bits i8 ^^^ BitVec.ofInt IntKind.u8.bits i9).toNat : Int)) ^^^ BitVec.ofInt IntKind.u8.bits i10).toNat : Int)) ^^^ BitVec.ofInt IntKind.u8.bits i11).toNat : Int)) ^^^ BitVec.ofInt IntKind.u8.bits i25).toNat : Int))).toNat : Int)), (IntKind.u8.wrap (↑(BitVec.ofInt IntKind.u8.bits i10 ^^^ BitVec.ofInt IntKind.u8.bits (IntKind.u8.wrap (↑(BitVec.ofInt IntKind.u8.bits (IntKind.u8.wrap (↑(BitVec.ofInt IntKind.u8.bits (IntKind.u8.wrap (↑(BitVec.ofInt IntKind.u8.bits (IntKind.u8.wrap (↑(BitVec.ofInt IntKind.u8.bits i8 ^^^ BitVec.ofInt IntKind.u8.bits i9).toNat : Int)) ^^^ BitVec.ofInt IntKind.u8.bits i10).toNat : Int)) ^^^ BitVec.ofInt IntKind.u8.bits i11).toNat : Int)) ^^^ BitVec.ofInt IntKind.u8.bits i26).toNat : Int))).toNat : Int)), (IntKind.u8.wrap (↑(BitVec.ofInt IntKind.u8.bits i11 ^^^ BitVec.ofInt IntKind.u8.bits (IntKind.u8.wrap (↑(BitVec.ofInt IntKind.u8.bits (IntKind.u8.wrap (↑(BitVec.ofInt IntKind.u8.bits (IntKind.u8.wrap (↑(BitVec.ofInt IntKind.u8.bits (IntKind.u8.wrap (↑(BitVec.ofInt IntKind.u8.bits i8 ^^^ BitVec.ofInt IntKind.u8.bits i9).toNat : Int)) ^^^ BitVec.ofInt IntKind.u8.bits i10).toNat : Int)) ^^^ BitVec.ofInt IntKind.u8.bits i11).toNat : Int)) ^^^ BitVec.ofInt IntKind.u8.bits i27).toNat : Int))).toNat : Int)), (IntKind.u8.wrap (↑(BitVec.ofInt IntKind.u8.bits i12 ^^^ BitVec.ofInt IntKind.u8.bits (IntKind.u8.wrap (↑(BitVec.ofInt IntKind.u8.bits (IntKind.u8.wrap (↑(BitVec.ofInt IntKind.u8.bits (IntKind.u8.wrap (↑(BitVec.ofInt IntKind.u8.bits (IntKind.u8.wrap (↑(BitVec.ofInt IntKind.u8.bits i12 ^^^ BitVec.ofInt IntKind.u8.bits i13).toNat : Int)) ^^^ BitVec.ofInt IntKind.u8.bits i14).toNat : Int)) ^^^ BitVec.ofInt IntKind.u8.bits i15).toNat : Int)) ^^^ BitVec.ofInt IntKind.u8.bits i28).toNat : Int))).toNat : Int)), (IntKind.u8.wrap (↑(BitVec.ofInt IntKind.u8.bits i13 ^^^ BitVec.ofInt IntKind.u8.bits (IntKind.u8.wrap (↑(BitVec.ofInt IntKind.u8.bits (IntKind.u8.wrap (↑(BitVec.ofInt IntKind.u8.bits (IntKind.u8.wrap (↑(BitVec.ofInt IntKind.u8.bits (IntKind.u8.wrap (↑(BitVec.ofInt IntKind.u8.bits i12 ^^^ BitVec.ofInt IntKind.u8.bits i13).toNat : Int)) ^^^ BitVec.ofInt IntKind.u8.bits i14).toNat : Int)) ^^^ BitVec.ofInt IntKind.u8.bits i15).toNat : Int)) ^^^ BitVec.ofInt IntKind.u8.bits i29).toNat : Int))).toNat : Int)), (IntKind.u8.wrap (↑(BitVec.ofInt IntKind.u8.bits i14 ^^^ BitVec.ofInt IntKind.u8.bits (IntKind.u8.wrap (↑(BitVec.ofInt IntKind.u8.bits (IntKind.u8.wrap (↑(BitVec.ofInt IntKind.u8.bits (IntKind.u8.wrap (↑(BitVec.ofInt IntKind.u8.bits (IntKind.u8.wrap (↑(BitVec.ofInt IntKind.u8.bits i12 ^^^ BitVec.ofInt IntKind.u8.bits i13).toNat : Int)) ^^^ BitVec.ofInt IntKind.u8.bits i14).toNat : Int)) ^^^ BitVec.ofInt IntKind.u8.bits i15).toNat : Int)) ^^^ BitVec.ofInt IntKind.u8.bits i30).toNat : Int))).toNat : Int)), (IntKind.u8.wrap (↑(BitVec.ofInt IntKind.u8.bits i15 ^^^ BitVec.ofInt IntKind.u8.bits (IntKind.u8.wrap (↑(BitVec.ofInt IntKind.u8.bits (IntKind.u8.wrap (↑(BitVec.ofInt IntKind.u8.bits (IntKind.u8.wrap (↑(BitVec.ofInt IntKind.u8.bits (IntKind.u8.wrap (↑(BitVec.ofInt IntKind.u8.bits i12 ^^^ BitVec.ofInt IntKind.u8.bits i13).toNat : Int)) ^^^ BitVec.ofInt IntKind.u8.bits i14).toNat : Int)) ^^^ BitVec.ofInt IntKind.u8.bits i15).toNat : Int)) ^^^ BitVec.ofInt IntKind.u8.bits i31).toNat : Int))).toNat : Int))))))))))))))))))))
theorem F65_ok {i0 i1 i2 i3 i4 i5 i6 i7 i8 i9 i10 i11 i12 i13 i14 i15 : Int} {k : Nat} {r : Int × Int × Int × Int × Int × Int × Int × Int × Int × Int × Int × Int × Int × Int × Int × Int} (h : F65 k i0 i1 i2 i3 i4 i5 i6 i7 i8 i9 i10 i11 i12 i13 i14 i15 = some r) :
    cP ((k + 26)) 65 [V.agg [vb i0, vb i1, vb i2, vb i3, vb i4, vb i5, vb i6, vb i7, vb i8, vb i9, vb i10, vb i11, vb i12, vb i13, vb i14, vb i15]] = some (V.agg [vb r.1, vb r.2.1, vb r.2.2.1, vb r.2.2.2.1, vb r.2.2.2.2.1, vb r.2.2.2.2.2.1, vb r.2.2.2.2.2.2.1, vb r.2.2.2.2.2.2.2.1, vb r.2.2.2.2.2.2.2.2.1, vb r.2.2.2.2.2.2.2.2.2.1, vb r.2.2.2.2.2.2.2.2.2.2.1, vb r.2.2.2.2.2.2.2.2.2.2.2.1, vb r.2.2.2.2.2.2.2.2.2.2.2.2.1, vb r.2.2.2.2.2.2.2.2.2.2.2.2.2.1, vb r.2.2.2.2.2.2.2.2.2.2.2.2.2.2.1, vb r.2.2.2.2.2.2.2.2.2.2.2.2.2.2.2]) := by
  unfold F65 at h
  obtain ⟨i16, e0, h⟩ := bE h
  obtain ⟨i17, e1, h⟩ := bE h
  obtain ⟨i18, e2, h⟩ := bE h
  obtain ⟨i19, e3, h⟩ := bE h
  obtain ⟨i20, e4, h⟩ := bE h
  obtain ⟨i21, e5, h⟩ := bE h
  obtain ⟨i22, e6, h⟩ := bE h
  obtain ⟨i23, e7, h⟩ := bE h
  obtain ⟨i24, e8, h⟩ := bE h
  obtain ⟨i25, e9, h⟩ := bE h
  obtain ⟨i26, e10, h⟩ := bE h
  obtain ⟨i27, e11, h⟩ := bE h
  obtain ⟨i28, e12, h⟩ := bE h
  obtain ⟨i29, e13, h⟩ := bE h
  obtain ⟨i30, e14, h⟩ := bE h
  obtain ⟨i31, e15, h⟩ := bE h
  have h := Option.some.inj h; subst h; exact P65_0 i0 i1 i2 i3 i4 i5 i6 i7 i8 i9 i10 i11 i12 i13 i14 i15 i16 i17 i18 i19 i20 i21 i22 i23 i24 i25 i26 i27 i28 i29 i30 i31 k (F89_ok e0) (F89_ok e1) (F89_ok e2) (F89_ok e3) (F89_ok e4) (F89_ok e5) (F89_ok e6) (F89_ok e7) (F89_ok e8) (F89_ok e9) (F89_ok e10) (F89_ok e11) (F89_ok e12) (F89_ok e13) (F89_ok e14) (F89_ok e15)
def dAu8u8u8u8Z : V → Option (Int × Int × Int × Int)
  | V.agg [V.int .u8 a0, V.int .u8 a1, V.int .u8 a2, V.int .u8 a3] => some (a0, a1, a2, a3)
  | _ => none
theorem dAu8u8u8u8Z_ok {v : V} {a : Int × Int × Int × Int} (h : dAu8u8u8u8Z v = some a) : v = (fun (a : Int × Int × Int × Int) => V.agg [vb a.1, vb a.2.1, vb a.2.2.1, vb a.2.2.2] ) a := by
  unfold dAu8u8u8u8Z at h; split at h
  · cases h; rfl
  · cases h
theorem L59_1_b0 (i0 i5 i6 i7 i8 i9 i10 i11 : Int) (s0 : List UInt8) (x1 : List V) (k : Nat)
    (c0 : decide (i10 < 4) = true)
    (c1 : IdxR x1.length (wI (wI (4 * wI (i0 - wI ((↑s0.length : Int).tdiv 4))) + i10)) 1 1 (V.ept 0 (wI (wI (4 * wI (i0 - wI ((↑s0.length : Int).tdiv 4))) + i10)).toNat 0))
    (c2 : LdP Tryz.prog 5 x1 (wI (wI (4 * wI (i0 - wI ((↑s0.length : Int).tdiv 4))) + i10)).toNat 0 (vb i11))
    (c3 : IdxA 4 i10 1 (fun d => V.ptr 1 (0 + d)) (V.ptr 1 0))
    (c4 : GrdW ((1 : Nat) = (1 : Nat) ∧ (0 : Nat) < (1 : Nat) ∧ (1 : Nat) ≤ (64 : Nat) ∧ x1.length + (1 : Nat) ≤ maxLen') (V.ref (74 : Nat)) [((0 : Nat), Ob.dead), ((74 : Nat), Ob.row false (1 : Nat) (x1 ++ [vb (wB (↑(BitVec.ofInt IntKind.u8.bits i11 ^^^ BitVec.ofInt IntKind.u8.bits (x8 i5 i6)).toNat : Int))]))]) :
    eC k 17 0 59 (loopBody Tryz.f59 2) { tm := [(0, V.str s0), (2, V.sl (some true) true 0 []), (3, vi 0), (4, vi (wI ((↑s0.length : Int).tdiv 4))), (5, V.ref 0), (6, vi i0), (7, V.ptr 1 0), (22, V.bool false), (30, V.bool true), (42, V.bool true), (85, vi i10)], hp := [(0, Ob.row false 1 x1), (1, Ob.var [vb (x8 i5 i6), vb i7, vb i8, vb i9])], nx := 2 } = some (Exit.normal, { tm := [(0, V.str s0), (2, V.sl (some true) true 0 []), (3, vi 0), (4, vi (wI ((↑s0.length : Int).tdiv 4))), (5, V.ref 74), (6, vi i0), (7, V.ptr 1 0), (9, vi i10), (22, V.bool false), (30, V.bool true), (42, V.bool true), (85, vi (wI (i10 + 1))), (86, V.bool true)], hp := [(0, Ob.dead), (1, Ob.var [vb (x8 i5 i6), vb i7, vb i8, vb i9]), (70, Ob.row false 1 [vb (wB (↑(BitVec.ofInt IntKind.u8.bits i11 ^^^ BitVec.ofInt IntKind.u8.bits (x8 i5 i6)).toNat : Int))]), (74, Ob.row false 1 (x1 ++ [vb (wB (↑(BitVec.ofInt IntKind.u8.bits i11 ^^^ BitVec.ofInt IntKind.u8.bits (x8 i5 i6)).toNat : Int))]))], nx := 90 }) :=
  byL (k := k) (d := 17) [Hn.br 86 true, Hn.op 96 (V.ept 0 (wI (wI (4 * wI (i0 - wI ((↑s0.length : Int).tdiv 4))) + i10)).toNat 0) [], Hn.op 97 (vb i11) [], Hn.op 99 (V.ptr 1 0) [], Hn.op 103 (V.ref 74) [(0, Ob.dead), (74, Ob.row false 1 (x1 ++ [vb (wB (↑(BitVec.ofInt IntKind.u8.bits i11 ^^^ BitVec.ofInt IntKind.u8.bits (x8 i5 i6)).toNat : Int))]))]] (aI c0 (aI c1 (aI c2 (aI c3 (aI c4 trivial))))) (by kernel_rfl)
theorem L59_1_b0h (i0 i5 i6 i7 i8 i9 i10 i11 : Int) (s0 : List UInt8) (x1 : List V) : head 0 [0, 2, 3, 4, 5, 6, 7, 22, 30, 42, 85] (Tryz.cfg.fc 59).acc { tm := [(0, V.str s0), (2, V.sl (some true) true 0 []), (3, vi 0), (4, vi (wI ((↑s0.length : Int).tdiv 4))), (5, V.ref 74), (6, vi i0), (7, V.ptr 1 0), (9, vi i10), (22, V.bool false), (30, V.bool true), (42, V.bool true), (85, vi (wI (i10 + 1))), (86, V.bool true)], hp := [(0, Ob.dead), (1, Ob.var [vb (x8 i5 i6), vb i7, vb i8, vb i9]), (70, Ob.row false 1 [vb (wB (↑(BitVec.ofInt IntKind.u8.bits i11 ^^^ BitVec.ofInt IntKind.u8.bits (x8 i5 i6)).toNat : Int))]), (74, Ob.row false 1 (x1 ++ [vb (wB (↑(BitVec.ofInt IntKind.u8.bits i11 ^^^ BitVec.ofInt IntKind.u8.bits (x8 i5 i6)).toNat : Int))]))], nx := 90 } = { tm := [(0, V.str s0), (2, V.sl (some true) true 0 []), (3, vi 0), (4, vi (wI ((↑s0.length : Int).tdiv 4))), (5, V.ref 0), (6, vi i0), (7, V.ptr 1 0), (22, V.bool false), (30, V.bool true), (42, V.bool true), (85, vi (wI (i10 + 1)))], hp := [(0, Ob.row false 1 (x1 ++ [vb (wB (↑(BitVec.ofInt IntKind.u8.bits i11 ^^^ BitVec.ofInt IntKind.u8.bits (x8 i5 i6)).toNat : Int))])), (1, Ob.var [vb (x8 i5 i6), vb i7, vb i8, vb i9])], nx := 2 } := by kernel_rfl
theorem L59_1_b1 (i0 i5 i6 i7 i8 i9 i10 i11 : Int) (s0 : List UInt8) (x1 : List V) (k : Nat)
    (c0 : decide (i10 < 4) = true)
    (c1 : IdxR x1.length (wI (wI (4 * wI (i0 - wI ((↑s0.length : Int).tdiv 4))) + i10)) 1 1 (V.ept 0 (wI (wI (4 * wI (i0 - wI ((↑s0.length : Int).tdiv 4))) + i10)).toNat 0))
    (c2 : LdP Tryz.prog 5 x1 (wI (wI (4 * wI (i0 - wI ((↑s0.length : Int).tdiv 4))) + i10)).toNat 0 (vb i11))
    (c3 : IdxA 4 i10 1 (fun d => V.ptr 1 (0 + d)) (V.ptr 1 1))
    (c4 : GrdW ((1 : Nat) = (1 : Nat) ∧ (0 : Nat) < (1 : Nat) ∧ (1 : Nat) ≤ (64 : Nat) ∧ x1.length + (1 : Nat) ≤ maxLen') (V.ref (74 : Nat)) [((0 : Nat), Ob.dead), ((74 : Nat), Ob.row false (1 : Nat) (x1 ++ [vb (x8 i11 i7)]))]) :
    eC k 17 0 59 (loopBody Tryz.f59 2) { tm := [(0, V.str s0), (2, V.sl (some true) true 0 []), (3, vi 0), (4, vi (wI ((↑s0.length : Int).tdiv 4))), (5, V.ref 0), (6, vi i0), (7, V.ptr 1 0), (22, V.bool false), (30, V.bool true), (42, V.bool true), (85, vi i10)], hp := [(0, Ob.row false 1 x1), (1, Ob.var [vb (x8 i5 i6), vb i7, vb i8, vb i9])], nx := 2 } = some (Exit.normal, { tm := [(0, V.str s0), (2, V.sl (some true) true 0 []), (3, vi 0), (4, vi (wI ((↑s0.length : Int).tdiv 4))), (5, V.ref 74), (6, vi i0), (7, V.ptr 1 0), (9, vi i10), (22, V.bool false), (30, V.bool true), (42, V.bool true), (85, vi (wI (i10 + 1))), (86, V.bool true)], hp := [(0, Ob.dead), (1, Ob.var [vb (x8 i5 i6), vb i7, vb i8, vb i9]), (70, Ob.row false 1 [vb (x8 i11 i7)]), (74, Ob.row false 1 (x1 ++ [vb (x8 i11 i7)]))], nx := 90 }) :=
  byL (k := k) (d := 17) [Hn.br 86 true, Hn.op 96 (V.ept 0 (wI (wI (4 * wI (i0 - wI ((↑s0.length : Int).tdiv 4))) + i10)).toNat 0) [], Hn.op 97 (vb i11) [], Hn.op 99 (V.ptr 1 1) [], Hn.op 103 (V.ref 74) [(0, Ob.dead), (74, Ob.row false 1 (x1 ++ [vb (x8 i11 i7)]))]] (aI c0 (aI c1 (aI c2 (aI c3 (aI c4 trivial))))) (by kernel_rfl)
theorem L59_1_b1h (i0 i5 i6 i7 i8 i9 i10 i11 : Int) (s0 : List UInt8) (x1 : List V) : head 0 [0, 2, 3, 4, 5, 6, 7, 22, 30, 42, 85] (Tryz.cfg.fc 59).acc { tm := [(0, V.str s0), (2, V.sl (some true) true 0 []), (3, vi 0), (4, vi (wI ((↑s0.length : Int).tdiv 4))), (5, V.ref 74), (6, vi i0), (7, V.ptr 1 0), (9, vi i10), (22, V.bool false), (30, V.bool true), (42, V.bool true), (85, vi (wI (i10 + 1))), (86, V.bool true)], hp := [(0, Ob.dead), (1, Ob.var [vb (x8 i5 i6), vb i7, vb i8, vb i9]), (70, Ob.row false 1 [vb (x8 i11 i7)]), (74, Ob.row false 1 (x1 ++ [vb (x8 i11 i7)]))], nx := 90 } = { tm := [(0, V.str s0), (2, V.sl (some true) true 0 []), (3, vi 0), (4, vi (wI ((↑s0.length : Int).tdiv 4))), (5, V.ref 0), (6, vi i0), (7, V.ptr 1 0), (22, V.bool false), (30, V.bool true), (42, V.bool true), (85, vi (wI (i10 + 1)))], hp := [(0, Ob.row false 1 (x1 ++ [vb (x8 i11 i7)])), (1, Ob.var [vb (x8 i5 i6), vb i7, vb i8, vb i9])], nx := 2 } := by kernel_rfl
theorem L59_1_b2 (i0 i5 i6 i7 i8 i9 i10 i11 : Int) (s0 : List UInt8) (x1 : List V) (k : Nat)
    (c0 : decide (i10 < 4) = true)
    (c1 : IdxR x1.length (wI (wI (4 * wI (i0 - wI ((↑s0.length : Int).tdiv 4))) + i10)) 1 1 (V.ept 0 (wI (wI (4 * wI (i0 - wI ((↑s0.length : Int).tdiv 4))) + i10)).toNat 0))
    (c2 : LdP Tryz.prog 5 x1 (wI (wI (4 * wI (i0 - wI ((↑s0.length : Int).tdiv 4))) + i10)).toNat 0 (vb i11))
    (c3 : IdxA 4 i10 1 (fun d => V.ptr 1 (0 + d)) (V.ptr 1 2))
    (c4 : GrdW ((1 : Nat) = (1 : Nat) ∧ (0 : Nat) < (1 : Nat) ∧ (1 : Nat) ≤ (64 : Nat) ∧ x1.length + (1 : Nat) ≤ maxLen') (V.ref (74 : Nat)) [((0 : Nat), Ob.dead), ((74 : Nat), Ob.row false (1 : Nat) (x1 ++ [vb (x8 i11 i8)]))]) :
    eC k 17 0 59 (loopBody Tryz.f59 2) { tm := [(0, V.str s0), (2, V.sl (some true) true 0 []), (3, vi 0), (4, vi (wI ((↑s0.length : Int).tdiv 4))), (5, V.ref 0), (6, vi i0), (7, V.ptr 1 0), (22, V.bool false), (30, V.bool true), (42, V.bool true), (85, vi i10)], hp := [(0, Ob.row false 1 x1), (1, Ob.var [vb (x8 i5 i6), vb i7, vb i8, vb i9])], nx := 2 } = some (Exit.normal, { tm := [(0, V.str s0), (2, V.sl (some true) true 0 []), (3, vi 0), (4, vi (wI ((↑s0.length : Int).tdiv 4))), (5, V.ref 74), (6, vi i0), (7, V.ptr 1 0), (9, vi i10), (22, V.bool false), (30, V.bool true), (42, V.bool true), (85, vi (wI (i10 + 1))), (86, V.bool true)], hp := [(0, Ob.dead), (1, Ob.var [vb (x8 i5 i6), vb i7, vb i8, vb i9]), (70, Ob.row false 1 [vb (x8 i11 i8)]), (74, Ob.row false 1 (x1 ++ [vb (x8 i11 i8)]))], nx := 90 }) :=
  byL (k := k) (d := 17) [Hn.br 86 true, Hn.op 96 (V.ept 0 (wI (wI (4 * wI (i0 - wI ((↑s0.length : Int).tdiv 4))) + i10)).toNat 0) [], Hn.op 97 (vb i11) [], Hn.op 99 (V.ptr 1 2) [], Hn.op 103 (V.ref 74) [(0, Ob.dead), (74, Ob.row false 1 (x1 ++ [vb (x8 i11 i8)]))]] (aI c0 (aI c1 (aI c2 (aI c3 (aI c4 trivial))))) (by kernel_rfl)
theorem L59_1_b2h (i0 i5 i6 i7 i8 i9 i10 i11 : Int) (s0 : List UInt8) (x1 : List V) : head 0 [0, 2, 3, 4, 5, 6, 7, 22, 30, 42, 85] (Tryz.cfg.fc 59).acc { tm := [(0, V.str s0), (2, V.sl (some true) true 0 []), (3, vi 0), (4, vi (wI ((↑s0.length : Int).tdiv 4))), (5, V.ref 74), (6, vi i0), (7, V.ptr 1 0), (9, vi i10), (22, V.bool false), (30, V.bool true), (42, V.bool true), (85, vi (wI (i10 + 1))), (86, V.bool true)], hp := [(0, Ob.dead), (1, Ob.var [vb (x8 i5 i6), vb i7, vb i8, vb i9]), (70, Ob.row false 1 [vb (x8 i11 i8)]), (74, Ob.row false 1 (x1 ++ [vb (x8 i11 i8)]))], nx := 90 } = { tm := [(0, V.str s0), (2, V.sl (some true) true 0 []), (3, vi 0), (4, vi (wI ((↑s0.length : Int).tdiv 4))), (5, V.ref 0), (6, vi i0), (7, V.ptr 1 0), (22, V.bool false), (30, V.bool true), (42, V.bool true), (85, vi (wI (i10 + 1)))], hp := [(0, Ob.row false 1 (x1 ++ [vb (x8 i11 i8)])), (1, Ob.var [vb (x8 i5 i6), vb i7, vb i8, vb i9])], nx := 2 } := by kernel_rfl
theorem L59_1_b3 (i0 i5 i6 i7 i8 i9 i10 i11 : Int) (s0 : List UInt8) (x1 : List V) (k : Nat)
    (c0 : decide (i10 < 4) = true)
    (c1 : IdxR x1.length (wI (wI (4 * wI (i0 - wI ((↑s0.length : Int).tdiv 4))) + i10)) 1 1 (V.ept 0 (wI (wI (4 * wI (i0 - wI ((↑s0.length : Int).tdiv 4))) + i10)).toNat 0))
    (c2 : LdP Tryz.prog 5 x1 (wI (wI (4 * wI (i0 - wI ((↑s0.length : Int).tdiv 4))) + i10)).toNat 0 (vb i11))
    (c3 : IdxA 4 i10 1 (fun d => V.ptr 1 (0 + d)) (V.ptr 1 3))
    (c4 : GrdW ((1 : Nat) = (1 : Nat) ∧ (0 : Nat) < (1 : Nat) ∧ (1 : Nat) ≤ (64 : Nat) ∧ x1.length + (1 : Nat) ≤ maxLen') (V.ref (74 : Nat)) [((0 : Nat), Ob.dead), ((74 : Nat), Ob.row false (1 : Nat) (x1 ++ [vb (x8 i11 i9)]))]) :
    eC k 17 0 59 (loopBody Tryz.f59 2) { tm := [(0, V.str s0), (2, V.sl (some true) true 0 []), (3, vi 0), (4, vi (wI ((↑s0.length : Int).tdiv 4))), (5, V.ref 0), (6, vi i0), (7, V.ptr 1 0), (22, V.bool false), (30, V.bool true), (42, V.bool true), (85, vi i10)], hp := [(0, Ob.row false 1 x1), (1, Ob.var [vb (x8 i5 i6), vb i7, vb i8, vb i9])], nx := 2 } = some (Exit.normal, { tm := [(0, V.str s0), (2, V.sl (some true) true 0 []), (3, vi 0), (4, vi (wI ((↑s0.length : Int).tdiv 4))), (5, V.ref 74), (6, vi i0), (7, V.ptr 1 0), (9, vi i10), (22, V.bool false), (30, V.bool true), (42, V.bool true), (85, vi (wI (i10 + 1))), (86, V.bool true)], hp := [(0, Ob.dead), (1, Ob.var [vb (x8 i5 i6), vb i7, vb i8, vb i9]), (70, Ob.row false 1 [vb (x8 i11 i9)]), (74, Ob.row false 1 (x1 ++ [vb (x8 i11 i9)]))], nx := 90 }) :=
  byL (k := k) (d := 17) [Hn.br 86 true, Hn.op 96 (V.ept 0 (wI (wI (4 * wI (i0 - wI ((↑s0.length : Int).tdiv 4))) + i10)).toNat 0) [], Hn.op 97 (vb i11) [], Hn.op 99 (V.ptr 1 3) [], Hn.op 103 (V.ref 74) [(0, Ob.dead), (74, Ob.row false 1 (x1 ++ [vb (x8 i11 i9)]))]] (aI c0 (aI c1 (aI c2 (aI c3 (aI c4 trivial))))) (by kernel_rfl)
theorem L59_1_b3h (i0 i5 i6 i7 i8 i9 i10 i11 : Int) (s0 : List UInt8) (x1 : List V) : head 0 [0, 2, 3, 4, 5, 6, 7, 22, 30, 42, 85] (Tryz.cfg.fc 59).acc { tm := [(0, V.str s0), (2, V.sl (some true) true 0 []), (3, vi 0), (4, vi (wI ((↑s0.length : Int).tdiv 4))), (5, V.ref 74), (6, vi i0), (7, V.ptr 1 0), (9, vi i10), (22, V.bool false), (30, V.bool true), (42, V.bool true), (85, vi (wI (i10 + 1))), (86, V.bool true)], hp := [(0, Ob.dead), (1, Ob.var [vb (x8 i5 i6), vb i7, vb i8, vb i9]), (70, Ob.row false 1 [vb (x8 i11 i9)]), (74, Ob.row false 1 (x1 ++ [vb (x8 i11 i9)]))], nx := 90 } = { tm := [(0, V.str s0), (2, V.sl (some true) true 0 []), (3, vi 0), (4, vi (wI ((↑s0.length : Int).tdiv 4))), (5, V.ref 0), (6, vi i0), (7, V.ptr 1 0), (22, V.bool false), (30, V.bool true), (42, V.bool true), (85, vi (wI (i10 + 1)))], hp := [(0, Ob.row false 1 (x1 ++ [vb (x8 i11 i9)])), (1, Ob.var [vb (x8 i5 i6), vb i7, vb i8, vb i9])], nx := 2 } := by kernel_rfl
theorem L59_1_b4 (i0 i5 i6 i7 i8 i9 i10 : Int) (s0 : List UInt8) (x1 : List V) (k : Nat)
    (c0 : decide (i10 < 4) = false) :
    eC k 17 0 59 (loopBody Tryz.f59 2) { tm := [(0, V.str s0), (2, V.sl (some true) true 0 []), (3, vi 0), (4, vi (wI ((↑s0.length : Int).tdiv 4))), (5, V.ref 0), (6, vi i0), (7, V.ptr 1 0), (22, V.bool false), (30, V.bool true), (42, V.bool true), (85, vi i10)], hp := [(0, Ob.row false 1 x1), (1, Ob.var [vb (x8 i5 i6), vb i7, vb i8, vb i9])], nx := 2 } = some (Exit.exit 5, { tm := [(0, V.str s0), (2, V.sl (some true) true 0 []), (3, vi 0), (4, vi (wI ((↑s0.length : Int).tdiv 4))), (5, V.ref 0), (6, vi i0), (7, V.ptr 1 0), (22, V.bool false), (30, V.bool true), (42, V.bool true), (85, vi i10), (86, V.bool false)], hp := [(0, Ob.row false 1 x1), (1, Ob.var [vb (x8 i5 i6), vb i7, vb i8, vb i9])], nx := 6 }) :=
  byL (k := k) (d := 17) [Hn.br 86 false] (aI c0 trivial) (by kernel_rfl)
inductive L59_1_R where
  | e0 (i10 : Int) (x1 : List V)
noncomputable def L59_1_end (i0 : Int) (i5 : Int) (i6 : Int) (i7 : Int) (i8 : Int) (i9 : Int) (s0 : List UInt8) : L59_1_R → Exit × St
  | .e0 i10 x1 => (Exit.exit 5, { tm := [(0, V.str s0), (2, V.sl (some true) true 0 []), (3, V.int .i64 0), (4, V.int .i64 (IntKind.i64.wrap ((↑s0.length : Int).tdiv 4))), (5, V.ref 0), (6, V.int .i64 i0), (7, V.ptr 1 0), (22, V.bool false), (30, V.bool true), (42, V.bool true), (85, V.int .i64 i10), (86, V.bool false)], hp := [(0, Ob.row false 1 x1), (1, Ob.var [V.int .u8 (IntKind.u8.wrap (↑(BitVec.ofInt IntKind.u8.bits i5 ^^^ BitVec.ofInt IntKind.u8.bits i6).toNat : Int)), V.int .u8 i7, V.int .u8 i8, V.int .u8 i9])], nx := 6 })
def L59_1 (k : Nat) (i0 i5 i6 i7 i8 i9 : Int) (s0 : List UInt8) : Nat → Int → List V → Option L59_1_R
  | 0, _, _ => none
  | f + 1, i10, x1 => (bif decide (i10 < 4) then (guardP ((0 : Int) ≤ IntKind.i64.wrap (IntKind.i64.wrap ((4 : Int) * IntKind.i64.wrap (i0 - IntKind.i64.wrap ((↑s0.length : Int).tdiv (4 : Int)))) + i10) ∧ IntKind.i64.wrap (IntKind.i64.wrap ((4 : Int) * IntKind.i64.wrap (i0 - IntKind.i64.wrap ((↑s0.length : Int).tdiv (4 : Int)))) + i10) < (↑x1.length : Int)) ((((x1)[(IntKind.i64.wrap (IntKind.i64.wrap (4 * IntKind.i64.wrap (i0 - IntKind.i64.wrap ((↑s0.length : Int).tdiv 4))) + i10)).toNat]?).bind (dI IntKind.u8)).bind fun i11 => (bif decide (i10 = 0) then (guardP (x1.length + (1 : Nat) ≤ maxLen') (L59_1 k i0 i5 i6 i7 i8 i9 s0 f (IntKind.i64.wrap (i10 + 1)) (x1 ++ [V.int .u8 (IntKind.u8.wrap (↑(BitVec.ofInt IntKind.u8.bits i11 ^^^ BitVec.ofInt IntKind.u8.bits (IntKind.u8.wrap (↑(BitVec.ofInt IntKind.u8.bits i5 ^^^ BitVec.ofInt IntKind.u8.bits i6).toNat : Int))).toNat : Int))]))) else (bif decide (i10 = 1) then (guardP (x1.length + (1 : Nat) ≤ maxLen') (L59_1 k i0 i5 i6 i7 i8 i9 s0 f (IntKind.i64.wrap (i10 + 1)) (x1 ++ [V.int .u8 (IntKind.u8.wrap (↑(BitVec.ofInt IntKind.u8.bits i11 ^^^ BitVec.ofInt IntKind.u8.bits i7).toNat : Int))]))) else (bif decide (i10 = 2) then (guardP (x1.length + (1 : Nat) ≤ maxLen') (L59_1 k i0 i5 i6 i7 i8 i9 s0 f (IntKind.i64.wrap (i10 + 1)) (x1 ++ [V.int .u8 (IntKind.u8.wrap (↑(BitVec.ofInt IntKind.u8.bits i11 ^^^ BitVec.ofInt IntKind.u8.bits i8).toNat : Int))]))) else (bif decide (i10 = 3) then (guardP (x1.length + (1 : Nat) ≤ maxLen') (L59_1 k i0 i5 i6 i7 i8 i9 s0 f (IntKind.i64.wrap (i10 + 1)) (x1 ++ [V.int .u8 (IntKind.u8.wrap (↑(BitVec.ofInt IntKind.u8.bits i11 ^^^ BitVec.ofInt IntKind.u8.bits i9).toNat : Int))]))) else none)))))) else (some (L59_1_R.e0 i10 x1)))
theorem L59_1_ok {i0 i5 i6 i7 i8 i9 : Int} {s0 : List UInt8} {k : Nat} : ∀ {f : Nat} {i10 : Int} {x1 : List V} {r : L59_1_R}, L59_1 k i0 i5 i6 i7 i8 i9 s0 f i10 x1 = some r →
    LoopsN Tryz.prog Tryz.cfg (k + 17) 0 Tryz.f59 (Tryz.cfg.fc 59) 2 [0, 2, 3, 4, 5, 6, 7, 22, 30, 42, 85] f { tm := [(0, V.str s0), (2, V.sl (some true) true 0 []), (3, vi 0), (4, vi (wI ((↑s0.length : Int).tdiv 4))), (5, V.ref 0), (6, vi i0), (7, V.ptr 1 0), (22, V.bool false), (30, V.bool true), (42, V.bool true), (85, vi i10)], hp := [(0, Ob.row false 1 x1), (1, Ob.var [vb (x8 i5 i6), vb i7, vb i8, vb i9])], nx := 2 } (L59_1_end i0 i5 i6 i7 i8 i9 s0 r) := by
  intro f
  induction f with
  | zero => intro i10 x1 r h; cases h
  | succ f ih =>
    intro i10 x1 r h
    rw [L59_1] at h
    rcases cond_elim h with ⟨e0, h⟩ | ⟨e0, h⟩
    ·
      obtain ⟨e1, h⟩ := guardP_some.1 h
      obtain ⟨i11, e2, h⟩ := bE h
      rcases cond_elim h with ⟨e3, h⟩ | ⟨e3, h⟩
      ·
        obtain ⟨e4, h⟩ := guardP_some.1 h
        exact LoopsN.next (L59_1_b0 i0 i5 i6 i7 i8 i9 i10 i11 s0 x1 k e0 (IdxR.mk' e1 rfl) (LdP.mk (get_d dI_ok e2 :) (by kernel_rfl)) (IdxA.mk 0 e3 (by decide) (by decide) rfl) (GrdW.mk ⟨rfl, by decide, by decide, e4⟩)) (L59_1_b0h i0 i5 i6 i7 i8 i9 i10 i11 s0 x1) (ih h)
      ·
        rcases cond_elim h with ⟨e4, h⟩ | ⟨e4, h⟩
        ·
          obtain ⟨e5, h⟩ := guardP_some.1 h
          exact LoopsN.next (L59_1_b1 i0 i5 i6 i7 i8 i9 i10 i11 s0 x1 k e0 (IdxR.mk' e1 rfl) (LdP.mk (get_d dI_ok e2 :) (by kernel_rfl)) (IdxA.mk 1 e4 (by decide) (by decide) rfl) (GrdW.mk ⟨rfl, by decide, by decide, e5⟩)) (L59_1_b1h i0 i5 i6 i7 i8 i9 i10 i11 s0 x1) (ih h)
        ·
          rcases cond_elim h with ⟨e5, h⟩ | ⟨e5, h⟩
          ·
            obtain ⟨e6, h⟩ := guardP_some.1 h
            exact LoopsN.next (L59_1_b2 i0 i5 i6 i7 i8 i9 i10 i11 s0 x1 k e0 (IdxR.mk' e1 rfl) (LdP.mk (get_d dI_ok e2 :) (by kernel_rfl)) (IdxA.mk 2 e5 (by decide) (by decide) rfl) (GrdW.mk ⟨rfl, by decide, by decide, e6⟩)) (L59_1_b2h i0 i5 i6 i7 i8 i9 i10 i11 s0 x1) (ih h)
          ·
            rcases cond_elim h with ⟨e6, h⟩ | ⟨e6, h⟩
            ·
              obtain ⟨e7, h⟩ := guardP_some.1 h
              exact LoopsN.next (L59_1_b3 i0 i5 i6 i7 i8 i9 i10 i11 s0 x1 k e0 (IdxR.mk' e1 rfl) (LdP.mk (get_d dI_ok e2 :) (by kernel_rfl)) (IdxA.mk 3 e6 (by decide) (by decide) rfl) (GrdW.mk ⟨rfl, by decide, by decide, e7⟩)) (L59_1_b3h i0 i5 i6 i7 i8 i9 i10 i11 s0 x1) (ih h)
            ·
              cases h
    ·
      cases h; exact LoopsN.done (L59_1_b4 i0 i5 i6 i7 i8 i9 i10 s0 x1 k e0) (fun h => by cases h)
theorem L59_2_b0 (i0 i5 i6 i7 i8 i9 i10 : Int) (s0 : List UInt8) (x0 : List V) (k : Nat)
    (c0 : decide (i5 < 4) = true)
    (c1 : IdxA 4 i5 1 (fun d => V.ptr 1 (0 + d)) (V.ptr 1 0))
    (c2 : cP ((k + 17)) 87 [vb i6] = some (vb i10))
    (c3 : IdxA 4 i5 1 (fun d => V.ptr 1 (0 + d)) (V.ptr 1 0)) :
    eC k 17 0 59 (loopBody Tryz.f59 1) { tm := [(0, V.str s0), (2, V.sl (some true) true 0 []), (3, vi 0), (4, vi (wI ((↑s0.length : Int).tdiv 4))), (5, V.ref 0), (6, vi i0), (7, V.ptr 1 0), (22, V.bool false), (30, V.bool true), (42, V.bool false), (66, V.bool true), (75, vi i5)], hp := [(0, Ob.row false 1 x0), (1, Ob.var [vb i6, vb i7, vb i8, vb i9])], nx := 2 } = some (Exit.normal, { tm := [(0, V.str s0), (2, V.sl (some true) true 0 []), (3, vi 0), (4, vi (wI ((↑s0.length : Int).tdiv 4))), (5, V.ref 0), (6, vi i0), (7, V.ptr 1 0), (8, vi i5), (22, V.bool false), (30, V.bool true), (42, V.bool false), (66, V.bool true), (75, vi (wI (i5 + 1))), (76, V.bool true)], hp := [(0, Ob.row false 1 x0), (1, Ob.var [vb i10, vb i7, vb i8, vb i9])], nx := 50 }) :=
  byL (k := k) (d := 17) [Hn.br 76 true, Hn.op 80 (V.ptr 1 0) [], Hn.call 82 (vb i10), Hn.op 83 (V.ptr 1 0) []] (aI c0 (aI c1 (aI c2 (aI c3 trivial)))) (by kernel_rfl)
theorem L59_2_b0h (i0 i5 i7 i8 i9 i10 : Int) (s0 : List UInt8) (x0 : List V) : head 0 [0, 2, 3, 4, 5, 6, 7, 22, 30, 42, 66, 75] (Tryz.cfg.fc 59).acc { tm := [(0, V.str s0), (2, V.sl (some true) true 0 []), (3, vi 0), (4, vi (wI ((↑s0.length : Int).tdiv 4))), (5, V.ref 0), (6, vi i0), (7, V.ptr 1 0), (8, vi i5), (22, V.bool false), (30, V.bool true), (42, V.bool false), (66, V.bool true), (75, vi (wI (i5 + 1))), (76, V.bool true)], hp := [(0, Ob.row false 1 x0), (1, Ob.var [vb i10, vb i7, vb i8, vb i9])], nx := 50 } = { tm := [(0, V.str s0), (2, V.sl (some true) true 0 []), (3, vi 0), (4, vi (wI ((↑s0.length : Int).tdiv 4))), (5, V.ref 0), (6, vi i0), (7, V.ptr 1 0), (22, V.bool false), (30, V.bool true), (42, V.bool false), (66, V.bool true), (75, vi (wI (i5 + 1)))], hp := [(0, Ob.row false 1 x0), (1, Ob.var [vb i10, vb i7, vb i8, vb i9])], nx := 2 } := by kernel_rfl
theorem L59_2_b1 (i0 i5 i6 i7 i8 i9 i10 : Int) (s0 : List UInt8) (x0 : List V) (k : Nat)
    (c0 : decide (i5 < 4) = true)
    (c1 : IdxA 4 i5 1 (fun d => V.ptr 1 (0 + d)) (V.ptr 1 1))
    (c2 : cP ((k + 17)) 87 [vb i7] = some (vb i10))
    (c3 : IdxA 4 i5 1 (fun d => V.ptr 1 (0 + d)) (V.ptr 1 1)) :
    eC k 17 0 59 (loopBody Tryz.f59 1) { tm := [(0, V.str s0), (2, V.sl (some true) true 0 []), (3, vi 0), (4, vi (wI ((↑s0.length : Int).tdiv 4))), (5, V.ref 0), (6, vi i0), (7, V.ptr 1 0), (22, V.bool false), (30, V.bool true), (42, V.bool false), (66, V.bool true), (75, vi i5)], hp := [(0, Ob.row false 1 x0), (1, Ob.var [vb i6, vb i7, vb i8, vb i9])], nx := 2 } = some (Exit.normal, { tm := [(0, V.str s0), (2, V.sl (some true) true 0 []), (3, vi 0), (4, vi (wI ((↑s0.length : Int).tdiv 4))), (5, V.ref 0), (6, vi i0), (7, V.ptr 1 0), (8, vi i5), (22, V.bool false), (30, V.bool true), (42, V.bool false), (66, V.bool true), (75, vi (wI (i5 + 1))), (76, V.bool true)], hp := [(0, Ob.row false 1 x0), (1, Ob.var [vb i6, vb i10, vb i8, vb i9])], nx := 50 }) :=
  byL (k := k) (d := 17) [Hn.br 76 true, Hn.op 80 (V.ptr 1 1) [], Hn.call 82 (vb i10), Hn.op 83 (V.ptr 1 1) []] (aI c0 (aI c1 (aI c2 (aI c3 trivial)))) (by kernel_rfl)
theorem L59_2_b1h (i0 i5 i6 i8 i9 i10 : Int) (s0 : List UInt8) (x0 : List V) : head 0 [0, 2, 3, 4, 5, 6, 7, 22, 30, 42, 66, 75] (Tryz.cfg.fc 59).acc { tm := [(0, V.str s0), (2, V.sl (some true) true 0 []), (3, vi 0), (4, vi (wI ((↑s0.length : Int).tdiv 4))), (5, V.ref 0), (6, vi i0), (7, V.ptr 1 0), (8, vi i5), (22, V.bool false), (30, V.bool true), (42, V.bool false), (66, V.bool true), (75, vi (wI (i5 + 1))), (76, V.bool true)], hp := [(0, Ob.row false 1 x0), (1, Ob.var [vb i6, vb i10, vb i8, vb i9])], nx := 50 } = { tm := [(0, V.str s0), (2, V.sl (some true) true 0 []), (3, vi 0), (4, vi (wI ((↑s0.length : Int).tdiv 4))), (5, V.ref 0), (6, vi i0), (7, V.ptr 1 0), (22, V.bool false), (30, V.bool true), (42, V.bool false), (66, V.bool true), (75, vi (wI (i5 + 1)))], hp := [(0, Ob.row false 1 x0), (1, Ob.var [vb i6, vb i10, vb i8, vb i9])], nx := 2 } := by kernel_rfl
theorem L59_2_b2 (i0 i5 i6 i7 i8 i9 i10 : Int) (s0 : List UInt8) (x0 : List V) (k : Nat)
    (c0 : decide (i5 < 4) = true)
    (c1 : IdxA 4 i5 1 (fun d => V.ptr 1 (0 + d)) (V.ptr 1 2))
    (c2 : cP ((k + 17)) 87 [vb i8] = some (vb i10))
    (c3 : IdxA 4 i5 1 (fun d => V.ptr 1 (0 + d)) (V.ptr 1 2)) :
    eC k 17 0 59 (loopBody Tryz.f59 1) { tm := [(0, V.str s0), (2, V.sl (some true) true 0 []), (3, vi 0), (4, vi (wI ((↑s0.length : Int).tdiv 4))), (5, V.ref 0), (6, vi i0), (7, V.ptr 1 0), (22, V.bool false), (30, V.bool true), (42, V.bool false), (66, V.bool true), (75, vi i5)], hp := [(0, Ob.row false 1 x0), (1, Ob.var [vb i6, vb i7, vb i8, vb i9])], nx := 2 } = some (Exit.normal, { tm := [(0, V.str s0), (2, V.sl (some true) true 0 []), (3, vi 0), (4, vi (wI ((↑s0.length : Int).tdiv 4))), (5, V.ref 0), (6, vi i0), (7, V.ptr 1 0), (8, vi i5), (22, V.bool false), (30, V.bool true), (42, V.bool false), (66, V.bool true), (75, vi (wI (i5 + 1))), (76, V.bool true)], hp := [(0, Ob.row false 1 x0), (1, Ob.var [vb i6, vb i7, vb i10, vb i9])], nx := 50 }) :=
  byL (k := k) (d := 17) [Hn.br 76 true, Hn.op 80 (V.ptr 1 2) [], Hn.call 82 (vb i10), Hn.op 83 (V.ptr 1 2) []] (aI c0 (aI c1 (aI c2 (aI c3 trivial)))) (by kernel_rfl)
theorem L59_2_b2h (i0 i5 i6 i7 i9 i10 : Int) (s0 : List UInt8) (x0 : List V) : head 0 [0, 2, 3, 4, 5, 6, 7, 22, 30, 42, 66, 75] (Tryz.cfg.fc 59).acc { tm := [(0, V.str s0), (2, V.sl (some true) true 0 []), (3, vi 0), (4, vi (wI ((↑s0.length : Int).tdiv 4))), (5, V.ref 0), (6, vi i0), (7, V.ptr 1 0), (8, vi i5), (22, V.bool false), (30, V.bool true), (42, V.bool false), (66, V.bool true), (75, vi (wI (i5 + 1))), (76, V.bool true)], hp := [(0, Ob.row false 1 x0), (1, Ob.var [vb i6, vb i7, vb i10, vb i9])], nx := 50 } = { tm := [(0, V.str s0), (2, V.sl (some true) true 0 []), (3, vi 0), (4, vi (wI ((↑s0.length : Int).tdiv 4))), (5, V.ref 0), (6, vi i0), (7, V.ptr 1 0), (22, V.bool false), (30, V.bool true), (42, V.bool false), (66, V.bool true), (75, vi (wI (i5 + 1)))], hp := [(0, Ob.row false 1 x0), (1, Ob.var [vb i6, vb i7, vb i10, vb i9])], nx := 2 } := by kernel_rfl
theorem L59_2_b3 (i0 i5 i6 i7 i8 i9 i10 : Int) (s0 : List UInt8) (x0 : List V) (k : Nat)
    (c0 : decide (i5 < 4) = true)
    (c1 : IdxA 4 i5 1 (fun d => V.ptr 1 (0 + d)) (V.ptr 1 3))
    (c2 : cP ((k + 17)) 87 [vb i9] = some (vb i10))
    (c3 : IdxA 4 i5 1 (fun d => V.ptr 1 (0 + d)) (V.ptr 1 3)) :
    eC k 17 0 59 (loopBody Tryz.f59 1) { tm := [(0, V.str s0), (2, V.sl (some true) true 0 []), (3, vi 0), (4, vi (wI ((↑s0.length : Int).tdiv 4))), (5, V.ref 0), (6, vi i0), (7, V.ptr 1 0), (22, V.bool false), (30, V.bool true), (42, V.bool false), (66, V.bool true), (75, vi i5)], hp := [(0, Ob.row false 1 x0), (1, Ob.var [vb i6, vb i7, vb i8, vb i9])], nx := 2 } = some (Exit.normal, { tm := [(0, V.str s0), (2, V.sl (some true) true 0 []), (3, vi 0), (4, vi (wI ((↑s0.length : Int).tdiv 4))), (5, V.ref 0), (6, vi i0), (7, V.ptr 1 0), (8, vi i5), (22, V.bool false), (30, V.bool true), (42, V.bool false), (66, V.bool true), (75, vi (wI (i5 + 1))), (76, V.bool true)], hp := [(0, Ob.row false 1 x0), (1, Ob.var [vb i6, vb i7, vb i8, vb i10])], nx := 50 }) :=
  byL (k := k) (d := 17) [Hn.br 76 true, Hn.op 80 (V.ptr 1 3) [], Hn.call 82 (vb i10), Hn.op 83 (V.ptr 1 3) []] (aI c0 (aI c1 (aI c2 (aI c3 trivial)))) (by kernel_rfl)
theorem L59_2_b3h (i0 i5 i6 i7 i8 i10 : Int) (s0 : List UInt8) (x0 : List V) : head 0 [0, 2, 3, 4, 5, 6, 7, 22, 30, 42, 66, 75] (Tryz.cfg.fc 59).acc { tm := [(0, V.str s0), (2, V.sl (some true) true 0 []), (3, vi 0), (4, vi (wI ((↑s0.length : Int).tdiv 4))), (5, V.ref 0), (6, vi i0), (7, V.ptr 1 0), (8, vi i5), (22, V.bool false), (30, V.bool true), (42, V.bool false), (66, V.bool true), (75, vi (wI (i5 + 1))), (76, V.bool true)], hp := [(0, Ob.row false 1 x0), (1, Ob.var [vb i6, vb i7, vb i8, vb i10])], nx := 50 } = { tm := [(0, V.str s0), (2, V.sl (some true) true 0 []), (3, vi 0), (4, vi (wI ((↑s0.length : Int).tdiv 4))), (5, V.ref 0), (6, vi i0), (7, V.ptr 1 0), (22, V.bool false), (30, V.bool true), (42, V.bool false), (66, V.bool true), (75, vi (wI (i5 + 1)))], hp := [(0, Ob.row false 1 x0), (1, Ob.var [vb i6, vb i7, vb i8, vb i10])], nx := 2 } := by kernel_rfl
theorem L59_2_b4 (i0 i5 i6 i7 i8 i9 : Int) (s0 : List UInt8) (x0 : List V) (k : Nat)
    (c0 : decide (i5 < 4) = false) :
    eC k 17 0 59 (loopBody Tryz.f59 1) { tm := [(0, V.str s0), (2, V.sl (some true) true 0 []), (3, vi 0), (4, vi (wI ((↑s0.length : Int).tdiv 4))), (5, V.ref 0), (6, vi i0), (7, V.ptr 1 0), (22, V.bool false), (30, V.bool true), (42, V.bool false), (66, V.bool true), (75, vi i5)], hp := [(0, Ob.row false 1 x0), (1, Ob.var [vb i6, vb i7, vb i8, vb i9])], nx := 2 } = some (Exit.exit 3, { tm := [(0, V.str s0), (2, V.sl (some true) true 0 []), (3, vi 0), (4, vi (wI ((↑s0.length : Int).tdiv 4))), (5, V.ref 0), (6, vi i0), (7, V.ptr 1 0), (22, V.bool false), (30, V.bool true), (42, V.bool false), (66, V.bool true), (75, vi i5), (76, V.bool false)], hp := [(0, Ob.row false 1 x0), (1, Ob.var [vb i6, vb i7, vb i8, vb i9])], nx := 6 }) :=
  byL (k := k) (d := 17) [Hn.br 76 false] (aI c0 trivial) (by kernel_rfl)
inductive L59_2_R where
  | e0 (i5 : Int) (i6 : Int) (i7 : Int) (i8 : Int) (i9 : Int)
noncomputable def L59_2_end (i0 : Int) (s0 : List UInt8) (x0 : List V) : L59_2_R → Exit × St
  | .e0 i5 i6 i7 i8 i9 => (Exit.exit 3, { tm := [(0, V.str s0), (2, V.sl (some true) true 0 []), (3, V.int .i64 0), (4, V.int .i64 (IntKind.i64.wrap ((↑s0.length : Int).tdiv 4))), (5, V.ref 0), (6, V.int .i64 i0), (7, V.ptr 1 0), (22, V.bool false), (30, V.bool true), (42, V.bool false), (66, V.bool true), (75, V.int .i64 i5), (76, V.bool false)], hp := [(0, Ob.row false 1 x0), (1, Ob.var [V.int .u8 i6, V.int .u8 i7, V.int .u8 i8, V.int .u8 i9])], nx := 6 })
def L59_2 (k : Nat) (i0 : Int) (s0 : List UInt8) (x0 : List V) : Nat → Int → Int → Int → Int → Int → Option L59_2_R
  | 0, _, _, _, _, _ => none
  | f + 1, i5, i6, i7, i8, i9 => (bif decide (i5 < 4) then (bif decide (i5 = 0) then ((F87 (k + 2) (i6)).bind fun i10 => (L59_2 k i0 s0 x0 f (IntKind.i64.wrap (i5 + 1)) (i10) (i7) (i8) (i9))) else (bif decide (i5 = 1) then ((F87 (k + 2) (i7)).bind fun i10 => (L59_2 k i0 s0 x0 f (IntKind.i64.wrap (i5 + 1)) (i6) (i10) (i8) (i9))) else (bif decide (i5 = 2) then ((F87 (k + 2) (i8)).bind fun i10 => (L59_2 k i0 s0 x0 f (IntKind.i64.wrap (i5 + 1)) (i6) (i7) (i10) (i9))) else (bif decide (i5 = 3) then ((F87 (k + 2) (i9)).bind fun i10 => (L59_2 k i0 s0 x0 f (IntKind.i64.wrap (i5 + 1)) (i6) (i7) (i8) (i10))) else none)))) else (some (L59_2_R.e0 i5 i6 i7 i8 i9)))
theorem L59_2_ok {i0 : Int} {s0 : List UInt8} {x0 : List V} {k : Nat} : ∀ {f : Nat} {i5 : Int} {i6 : Int} {i7 : Int} {i8 : Int} {i9 : Int} {r : L59_2_R}, L59_2 k i0 s0 x0 f i5 i6 i7 i8 i9 = some r →
    LoopsN Tryz.prog Tryz.cfg (k + 17) 0 Tryz.f59 (Tryz.cfg.fc 59) 1 [0, 2, 3, 4, 5, 6, 7, 22, 30, 42, 66, 75] f { tm := [(0, V.str s0), (2, V.sl (some true) true 0 []), (3, vi 0), (4, vi (wI ((↑s0.length : Int).tdiv 4))), (5, V.ref 0), (6, vi i0), (7, V.ptr 1 0), (22, V.bool false), (30, V.bool true), (42, V.bool false), (66, V.bool true), (75, vi i5)], hp := [(0, Ob.row false 1 x0), (1, Ob.var [vb i6, vb i7, vb i8, vb i9])], nx := 2 } (L59_2_end i0 s0 x0 r) := by
  intro f
  induction f with
  | zero => intro i5 i6 i7 i8 i9 r h; cases h
  | succ f ih =>
    intro i5 i6 i7 i8 i9 r h
    rw [L59_2] at h
    rcases cond_elim h with ⟨e0, h⟩ | ⟨e0, h⟩
    ·
      rcases cond_elim h with ⟨e1, h⟩ | ⟨e1, h⟩
      ·
        obtain ⟨i10, e2, h⟩ := bE h
        exact LoopsN.next (L59_2_b0 i0 i5 i6 i7 i8 i9 i10 s0 x0 k e0 (IdxA.mk 0 e1 (by decide) (by decide) rfl) (F87_ok e2) (IdxA.mk 0 e1 (by decide) (by decide) rfl)) (L59_2_b0h i0 i5 i7 i8 i9 i10 s0 x0) (ih h)
      ·
        rcases cond_elim h with ⟨e2, h⟩ | ⟨e2, h⟩
        ·
          obtain ⟨i10, e3, h⟩ := bE h
          exact LoopsN.next (L59_2_b1 i0 i5 i6 i7 i8 i9 i10 s0 x0 k e0 (IdxA.mk 1 e2 (by decide) (by decide) rfl) (F87_ok e3) (IdxA.mk 1 e2 (by decide) (by decide) rfl)) (L59_2_b1h i0 i5 i6 i8 i9 i10 s0 x0) (ih h)
        ·
          rcases cond_elim h with ⟨e3, h⟩ | ⟨e3, h⟩
          ·
            obtain ⟨i10, e4, h⟩ := bE h
            exact LoopsN.next (L59_2_b2 i0 i5 i6 i7 i8 i9 i10 s0 x0 k e0 (IdxA.mk 2 e3 (by decide) (by decide) rfl) (F87_ok e4) (IdxA.mk 2 e3 (by decide) (by decide) rfl)) (L59_2_b2h i0 i5 i6 i7 i9 i10 s0 x0) (ih h)
          ·
            rcases cond_elim h with ⟨e4, h⟩ | ⟨e4, h⟩
            ·
              obtain ⟨i10, e5, h⟩ := bE h
              exact LoopsN.next (L59_2_b3 i0 i5 i6 i7 i8 i9 i10 s0 x0 k e0 (IdxA.mk 3 e4 (by decide) (by decide) rfl) (F87_ok e5) (IdxA.mk 3 e4 (by decide) (by decide) rfl)) (L59_2_b3h i0 i5 i6 i7 i8 i10 s0 x0) (ih h)
            ·
              cases h
    ·
      cases h; exact LoopsN.done (L59_2_b4 i0 i5 i6 i7 i8 i9 s0 x0 k e0) (fun h => by cases h)
theorem L59_3_b0 (i0 i5 i6 i7 i8 i9 i10 i11 : Int) (s0 : List UInt8) (x1 : List V) (k : Nat)
    (c0 : decide (i10 < 4) = true)
    (c1 : IdxR x1.length (wI (wI (4 * wI (i0 - wI ((↑s0.length : Int).tdiv 4))) + i10)) 1 1 (V.ept 0 (wI (wI (4 * wI (i0 - wI ((↑s0.length : Int).tdiv 4))) + i10)).toNat 0))
    (c2 : LdP Tryz.prog 5 x1 (wI (wI (4 * wI (i0 - wI ((↑s0.length : Int).tdiv 4))) + i10)).toNat 0 (vb i11))
    (c3 : IdxA 4 i10 1 (fun d => V.ptr 1 (0 + d)) (V.ptr 1 0))
    (c4 : GrdW ((1 : Nat) = (1 : Nat) ∧ (0 : Nat) < (1 : Nat) ∧ (1 : Nat) ≤ (64 : Nat) ∧ x1.length + (1 : Nat) ≤ maxLen') (V.ref (74 : Nat)) [((0 : Nat), Ob.dead), ((74 : Nat), Ob.row false (1 : Nat) (x1 ++ [vb (x8 i11 i6)]))]) :
    eC k 17 0 59 (loopBody Tryz.f59 2) { tm := [(0, V.str s0), (2, V.sl (some true) true 0 []), (3, vi 0), (4, vi (wI ((↑s0.length : Int).tdiv 4))), (5, V.ref 0), (6, vi i0), (7, V.ptr 1 0), (22, V.bool false), (30, V.bool true), (42, V.bool false), (66, V.bool true), (75, vi i5), (76, V.bool false), (85, vi i10)], hp := [(0, Ob.row false 1 x1), (1, Ob.var [vb i6, vb i7, vb i8, vb i9])], nx := 2 } = some (Exit.normal, { tm := [(0, V.str s0), (2, V.sl (some true) true 0 []), (3, vi 0), (4, vi (wI ((↑s0.length : Int).tdiv 4))), (5, V.ref 74), (6, vi i0), (7, V.ptr 1 0), (9, vi i10), (22, V.bool false), (30, V.bool true), (42, V.bool false), (66, V.bool true), (75, vi i5), (76, V.bool false), (85, vi (wI (i10 + 1))), (86, V.bool true)], hp := [(0, Ob.dead), (1, Ob.var [vb i6, vb i7, vb i8, vb i9]), (70, Ob.row false 1 [vb (x8 i11 i6)]), (74, Ob.row false 1 (x1 ++ [vb (x8 i11 i6)]))], nx := 90 }) :=
  byL (k := k) (d := 17) [Hn.br 86 true, Hn.op 96 (V.ept 0 (wI (wI (4 * wI (i0 - wI ((↑s0.length : Int).tdiv 4))) + i10)).toNat 0) [], Hn.op 97 (vb i11) [], Hn.op 99 (V.ptr 1 0) [], Hn.op 103 (V.ref 74) [(0, Ob.dead), (74, Ob.row false 1 (x1 ++ [vb (x8 i11 i6)]))]] (aI c0 (aI c1 (aI c2 (aI c3 (aI c4 trivial))))) (by kernel_rfl)
theorem L59_3_b0h (i0 i5 i6 i7 i8 i9 i10 i11 : Int) (s0 : List UInt8) (x1 : List V) : head 0 [0, 2, 3, 4, 5, 6, 7, 22, 30, 42, 66, 75, 76, 85] (Tryz.cfg.fc 59).acc { tm := [(0, V.str s0), (2, V.sl (some true) true 0 []), (3, vi 0), (4, vi (wI ((↑s0.length : Int).tdiv 4))), (5, V.ref 74), (6, vi i0), (7, V.ptr 1 0), (9, vi i10), (22, V.bool false), (30, V.bool true), (42, V.bool false), (66, V.bool true), (75, vi i5), (76, V.bool false), (85, vi (wI (i10 + 1))), (86, V.bool true)], hp := [(0, Ob.dead), (1, Ob.var [vb i6, vb i7, vb i8, vb i9]), (70, Ob.row false 1 [vb (x8 i11 i6)]), (74, Ob.row false 1 (x1 ++ [vb (x8 i11 i6)]))], nx := 90 } = { tm := [(0, V.str s0), (2, V.sl (some true) true 0 []), (3, vi 0), (4, vi (wI ((↑s0.length : Int).tdiv 4))), (5, V.ref 0), (6, vi i0), (7, V.ptr 1 0), (22, V.bool false), (30, V.bool true), (42, V.bool false), (66, V.bool true), (75, vi i5), (76, V.bool false), (85, vi (wI (i10 + 1)))], hp := [(0, Ob.row false 1 (x1 ++ [vb (x8 i11 i6)])), (1, Ob.var [vb i6, vb i7, vb i8, vb i9])], nx := 2 } := by kernel_rfl
theorem L59_3_b1 (i0 i5 i6 i7 i8 i9 i10 i11 : Int) (s0 : List UInt8) (x1 : List V) (k : Nat)
    (c0 : decide (i10 < 4) = true)
    (c1 : IdxR x1.length (wI (wI (4 * wI (i0 - wI ((↑s0.length : Int).tdiv 4))) + i10)) 1 1 (V.ept 0 (wI (wI (4 * wI (i0 - wI ((↑s0.length : Int).tdiv 4))) + i10)).toNat 0))
    (c2 : LdP Tryz.prog 5 x1 (wI (wI (4 * wI (i0 - wI ((↑s0.length : Int).tdiv 4))) + i10)).toNat 0 (vb i11))
    (c3 : IdxA 4 i10 1 (fun d => V.ptr 1 (0 + d)) (V.ptr 1 1))
    (c4 : GrdW ((1 : Nat) = (1 : Nat) ∧ (0 : Nat) < (1 : Nat) ∧ (1 : Nat) ≤ (64 : Nat) ∧ x1.length + (1 : Nat) ≤ maxLen') (V.ref (74 : Nat)) [((0 : Nat), Ob.dead), ((74 : Nat), Ob.row false (1 : Nat) (x1 ++ [vb (x8 i11 i7)]))]) :
    eC k 17 0 59 (loopBody Tryz.f59 2) { tm := [(0, V.str s0), (2, V.sl (some true) true 0 []), (3, vi 0), (4, vi (wI ((↑s0.length : Int).tdiv 4))), (5, V.ref 0), (6, vi i0), (7, V.ptr 1 0), (22, V.bool false), (30, V.bool true), (42, V.bool false), (66, V.bool true), (75, vi i5), (76, V.bool false), (85, vi i10)], hp := [(0, Ob.row false 1 x1), (1, Ob.var [vb i6, vb i7, vb i8, vb i9])], nx := 2 } = some (Exit.normal, { tm := [(0, V.str s0), (2, V.sl (some true) true 0 []), (3, vi 0), (4, vi (wI ((↑s0.length : Int).tdiv 4))), (5, V.ref 74), (6, vi i0), (7, V.ptr 1 0), (9, vi i10), (22, V.bool false), (30, V.bool true), (42, V.bool false), (66, V.bool true), (75, vi i5), (76, V.bool false), (85, vi (wI (i10 + 1))), (86, V.bool true)], hp := [(0, Ob.dead), (1, Ob.var [vb i6, vb i7, vb i8, vb i9]), (70, Ob.row false 1 [vb (x8 i11 i7)]), (74, Ob.row false 1 (x1 ++ [vb (x8 i11 i7)]))], nx := 90 }) :=
  byL (k := k) (d := 17) [Hn.br 86 true, Hn.op 96 (V.ept 0 (wI (wI (4 * wI (i0 - wI ((↑s0.length : Int).tdiv 4))) + i10)).toNat 0) [], Hn.op 97 (vb i11) [], Hn.op 99 (V.ptr 1 1) [], Hn.op 103 (V.ref 74) [(0, Ob.dead), (74, Ob.row false 1 (x1 ++ [vb (x8 i11 i7)]))]] (aI c0 (aI c1 (aI c2 (aI c3 (aI c4 trivial))))) (by kernel_rfl)
theorem L59_3_b1h (i0 i5 i6 i7 i8 i9 i10 i11 : Int) (s0 : List UInt8) (x1 : List V) : head 0 [0, 2, 3, 4, 5, 6, 7, 22, 30, 42, 66, 75, 76, 85] (Tryz.cfg.fc 59).acc { tm := [(0, V.str s0), (2, V.sl (some true) true 0 []), (3, vi 0), (4, vi (wI ((↑s0.length : Int).tdiv 4))), (5, V.ref 74), (6, vi i0), (7, V.ptr 1 0), (9, vi i10), (22, V.bool false), (30, V.bool true), (42, V.bool false), (66, V.bool true), (75, vi i5), (76, V.bool false), (85, vi (wI (i10 + 1))), (86, V.bool true)], hp := [(0, Ob.dead), (1, Ob.var [vb i6, vb i7, vb i8, vb i9]), (70, Ob.row false 1 [vb (x8 i11 i7)]), (74, Ob.row false 1 (x1 ++ [vb (x8 i11 i7)]))], nx := 90 } = { tm := [(0, V.str s0), (2, V.sl (some true) true 0 []), (3, vi 0), (4, vi (wI ((↑s0.length : Int).tdiv 4))), (5, V.ref 0), (6, vi i0), (7, V.ptr 1 0), (22, V.bool false), (30, V.bool true), (42, V.bool false), (66, V.bool true), (75, vi i5), (76, V.bool false), (85, vi (wI (i10 + 1)))], hp := [(0, Ob.row false 1 (x1 ++ [vb (x8 i11 i7)])), (1, Ob.var [vb i6, vb i7, vb i8, vb i9])], nx := 2 } := by kernel_rfl
theorem L59_3_b2 (i0 i5 i6 i7 i8 i9 i10 i11 : Int) (s0 : List UInt8) (x1 : List V) (k : Nat)
    (c0 : decide (i10 < 4) = true)
    (c1 : IdxR x1.length (wI (wI (4 * wI (i0 - wI ((↑s0.length : Int).tdiv 4))) + i10)) 1 1 (V.ept 0 (wI (wI (4 * wI (i0 - wI ((↑s0.length : Int).tdiv 4))) + i10)).toNat 0))
    (c2 : LdP Tryz.prog 5 x1 (wI (wI (4 * wI (i0 - wI ((↑s0.length : Int).tdiv 4))) + i10)).toNat 0 (vb i11))
    (c3 : IdxA 4 i10 1 (fun d => V.ptr 1 (0 + d)) (V.ptr 1 2))
    (c4 : GrdW ((1 : Nat) = (1 : Nat) ∧ (0 : Nat) < (1 : Nat) ∧ (1 : Nat) ≤ (64 : Nat) ∧ x1.length + (1 : Nat) ≤ maxLen') (V.ref (74 : Nat)) [((0 : Nat), Ob.dead), ((74 : Nat), Ob.row false (1 : Nat) (x1 ++ [vb (x8 i11 i8)]))]) :
    eC k 17 0 59 (loopBody Tryz.f59 2) { tm := [(0, V.str s0), (2, V.sl (some true) true 0 []), (3, vi 0), (4, vi (wI ((↑s0.length : Int).tdiv 4))), (5, V.ref 0), (6, vi i0), (7, V.ptr 1 0), (22, V.bool false), (30, V.bool true), (42, V.bool false), (66, V.bool true), (75, vi i5), (76, V.bool false), (85, vi i10)], hp := [(0, Ob.row false 1 x1), (1, Ob.var [vb i6, vb i7, vb i8, vb i9])], nx := 2 } = some (Exit.normal, { tm := [(0, V.str s0), (2, V.sl (some true) true 0 []), (3, vi 0), (4, vi (wI ((↑s0.length : Int).tdiv 4))), (5, V.ref 74), (6, vi i0), (7, V.ptr 1 0), (9, vi i10), (22, V.bool false), (30, V.bool true), (42, V.bool false), (66, V.bool true), (75, vi i5), (76, V.bool false), (85, vi (wI (i10 + 1))), (86, V.bool true)], hp := [(0, Ob.dead), (1, Ob.var [vb i6, vb i7, vb i8, vb i9]), (70, Ob.row false 1 [vb (x8 i11 i8)]), (74, Ob.row false 1 (x1 ++ [vb (x8 i11 i8)]))], nx := 90 }) :=
  byL (k := k) (d := 17) [Hn.br 86 true, Hn.op 96 (V.ept 0 (wI (wI (4 * wI (i0 - wI ((↑s0.length : Int).tdiv 4))) + i10)).toNat 0) [], Hn.op 97 (vb i11) [], Hn.op 99 (V.ptr 1 2) [], Hn.op 103 (V.ref 74) [(0, Ob.dead), (74, Ob.row false 1 (x1 ++ [vb (x8 i11 i8)]))]] (aI c0 (aI c1 (aI c2 (aI c3 (aI c4 trivial))))) (by kernel_rfl)
theorem L59_3_b2h (i0 i5 i6 i7 i8 i9 i10 i11 : Int) (s0 : List UInt8) (x1 : List V) : head 0 [0, 2, 3, 4, 5, 6, 7, 22, 30, 42, 66, 75, 76, 85] (Tryz.cfg.fc 59).acc { tm := [(0, V.str s0), (2, V.sl (some true) true 0 []), (3, vi 0), (4, vi (wI ((↑s0.length : Int).tdiv 4))), (5, V.ref 74), (6, vi i0), (7, V.ptr 1 0), (9, vi i10), (22, V.bool false), (30, V.bool true), (42, V.bool false), (66, V.bool true), (75, vi i5), (76, V.bool false), (85, vi (wI (i10 + 1))), (86, V.bool true)], hp := [(0, Ob.dead), (1, Ob.var [vb i6, vb i7, vb i8, vb i9]), (70, Ob.row false 1 [vb (x8 i11 i8)]), (74, Ob.row false 1 (x1 ++ [vb (x8 i11 i8)]))], nx := 90 } = { tm := [(0, V.str s0), (2, V.sl (some true) true 0 []), (3, vi 0), (4, vi (wI ((↑s0.length : Int).tdiv 4))), (5, V.ref 0), (6, vi i0), (7, V.ptr 1 0), (22, V.bool false), (30, V.bool true), (42, V.bool false), (66, V.bool true), (75, vi i5), (76, V.bool false), (85, vi (wI (i10 + 1)))], hp := [(0, Ob.row false 1 (x1 ++ [vb (x8 i11 i8)])), (1, Ob.var [vb i6, vb i7, vb i8, vb i9])], nx := 2 } := by kernel_rfl
theorem L59_3_b3 (i0 i5 i6 i7 i8 i9 i10 i11 : Int) (s0 : List UInt8) (x1 : List V) (k : Nat)
    (c0 : decide (i10 < 4) = true)
    (c1 : IdxR x1.length (wI (wI (4 * wI (i0 - wI ((↑s0.length : Int).tdiv 4))) + i10)) 1 1 (V.ept 0 (wI (wI (4 * wI (i0 - wI ((↑s0.length : Int).tdiv 4))) + i10)).toNat 0))
    (c2 : LdP Tryz.prog 5 x1 (wI (wI (4 * wI (i0 - wI ((↑s0.length : Int).tdiv 4))) + i10)).toNat 0 (vb i11))
    (c3 : IdxA 4 i10 1 (fun d => V.ptr 1 (0 + d)) (V.ptr 1 3))
    (c4 : GrdW ((1 : Nat) = (1 : Nat) ∧ (0 : Nat) < (1 : Nat) ∧ (1 : Nat) ≤ (64 : Nat) ∧ x1.length + (1 : Nat) ≤ maxLen') (V.ref (74 : Nat)) [((0 : Nat), Ob.dead), ((74 : Nat), Ob.row false (1 : Nat) (x1 ++ [vb (x8 i11 i9)]))]) :
    eC k 17 0 59 (loopBody Tryz.f59 2) { tm := [(0, V.str s0), (2, V.sl (some true) true 0 []), (3, vi 0), (4, vi (wI ((↑s0.length : Int).tdiv 4))), (5, V.ref 0), (6, vi i0), (7, V.ptr 1 0), (22, V.bool false), (30, V.bool true), (42, V.bool false), (66, V.bool true), (75, vi i5), (76, V.bool false), (85, vi i10)], hp := [(0, Ob.row false 1 x1), (1, Ob.var [vb i6, vb i7, vb i8, vb i9])], nx := 2 } = some (Exit.normal, { tm := [(0, V.str s0), (2, V.sl (some true) true 0 []), (3, vi 0), (4, vi (wI ((↑s0.length : Int).tdiv 4))), (5, V.ref 74), (6, vi i0), (7, V.ptr 1 0), (9, vi i10), (22, V.bool false), (30, V.bool true), (42, V.bool false), (66, V.bool true), (75, vi i5), (76, V.bool false), (85, vi (wI (i10 + 1))), (86, V.bool true)], hp := [(0, Ob.dead), (1, Ob.var [vb i6, vb i7, vb i8, vb i9]), (70, Ob.row false 1 [vb (x8 i11 i9)]), (74, Ob.row false 1 (x1 ++ [vb (x8 i11 i9)]))], nx := 90 }) :=
  byL (k := k) (d := 17) [Hn.br 86 true, Hn.op 96 (V.ept 0 (wI (wI (4 * wI (i0 - wI ((↑s0.length : Int).tdiv 4))) + i10)).toNat 0) [], Hn.op 97 (vb i11) [], Hn.op 99 (V.ptr 1 3) [], Hn.op 103 (V.ref 74) [(0, Ob.dead), (74, Ob.row false 1 (x1 ++ [vb (x8 i11 i9)]))]] (aI c0 (aI c1 (aI c2 (aI c3 (aI c4 trivial))))) (by kernel_rfl)
theorem L59_3_b3h (i0 i5 i6 i7 i8 i9 i10 i11 : Int) (s0 : List UInt8) (x1 : List V) : head 0 [0, 2, 3, 4, 5, 6, 7, 22, 30, 42, 66, 75, 76, 85] (Tryz.cfg.fc 59).acc { tm := [(0, V.str s0), (2, V.sl (some true) true 0 []), (3, vi 0), (4, vi (wI ((↑s0.length : Int).tdiv 4))), (5, V.ref 74), (6, vi i0), (7, V.ptr 1 0), (9, vi i10), (22, V.bool false), (30, V.bool true), (42, V.bool false), (66, V.bool true), (75, vi i5), (76, V.bool false), (85, vi (wI (i10 + 1))), (86, V.bool true)], hp := [(0, Ob.dead), (1, Ob.var [vb i6, vb i7, vb i8, vb i9]), (70, Ob.row false 1 [vb (x8 i11 i9)]), (74, Ob.row false 1 (x1 ++ [vb (x8 i11 i9)]))], nx := 90 } = { tm := [(0, V.str s0), (2, V.sl (some true) true 0 []), (3, vi 0), (4, vi (wI ((↑s0.length : Int).tdiv 4))), (5, V.ref 0), (6, vi i0), (7, V.ptr 1 0), (22, V.bool false), (30, V.bool true), (42, V.bool false), (66, V.bool true), (75, vi i5), (76, V.bool false), (85, vi (wI (i10 + 1)))], hp := [(0, Ob.row false 1 (x1 ++ [vb (x8 i11 i9)])), (1, Ob.var [vb i6, vb i7, vb i8, vb i9])], nx := 2 } := by kernel_rfl
theorem L59_3_b4 (i0 i5 i6 i7 i8 i9 i10 : Int) (s0 : List UInt8) (x1 : List V) (k : Nat)
    (c0 : decide (i10 < 4) = false) :
    eC k 17 0 59 (loopBody Tryz.f59 2) { tm := [(0, V.str s0), (2, V.sl (some true) true 0 []), (3, vi 0), (4, vi (wI ((↑s0.length : Int).tdiv 4))), (5, V.ref 0), (6, vi i0), (7, V.ptr 1 0), (22, V.bool false), (30, V.bool true), (42, V.bool false), (66, V.bool true), (75, vi i5), (76, V.bool false), (85, vi i10)], hp := [(0, Ob.row false 1 x1), (1, Ob.var [vb i6, vb i7, vb i8, vb i9])], nx := 2 } = some (Exit.exit 5, { tm := [(0, V.str s0), (2, V.sl (some true) true 0 []), (3, vi 0), (4, vi (wI ((↑s0.length : Int).tdiv 4))), (5, V.ref 0), (6, vi i0), (7, V.ptr 1 0), (22, V.bool false), (30, V.bool true), (42, V.bool false), (66, V.bool true), (75, vi i5), (76, V.bool false), (85, vi i10), (86, V.bool false)], hp := [(0, Ob.row false 1 x1), (1, Ob.var [vb i6, vb i7, vb i8, vb i9])], nx := 6 }) :=
  byL (k := k) (d := 17) [Hn.br 86 false] (aI c0 trivial) (by kernel_rfl)
inductive L59_3_R where
  | e0 (i10 : Int) (x1 : List V)
noncomputable def L59_3_end (i0 : Int) (i5 : Int) (i6 : Int) (i7 : Int) (i8 : Int) (i9 : Int) (s0 : List UInt8) : L59_3_R → Exit × St
  | .e0 i10 x1 => (Exit.exit 5, { tm := [(0, V.str s0), (2, V.sl (some true) true 0 []), (3, V.int .i64 0), (4, V.int .i64 (IntKind.i64.wrap ((↑s0.length : Int).tdiv 4))), (5, V.ref 0), (6, V.int .i64 i0), (7, V.ptr 1 0), (22, V.bool false), (30, V.bool true), (42, V.bool false), (66, V.bool true), (75, V.int .i64 i5), (76, V.bool false), (85, V.int .i64 i10), (86, V.bool false)], hp := [(0, Ob.row false 1 x1), (1, Ob.var [V.int .u8 i6, V.int .u8 i7, V.int .u8 i8, V.int .u8 i9])], nx := 6 })
def L59_3 (k : Nat) (i0 i5 i6 i7 i8 i9 : Int) (s0 : List UInt8) : Nat → Int → List V → Option L59_3_R
  | 0, _, _ => none
  | f + 1, i10, x1 => (bif decide (i10 < 4) then (guardP ((0 : Int) ≤ IntKind.i64.wrap (IntKind.i64.wrap ((4 : Int) * IntKind.i64.wrap (i0 - IntKind.i64.wrap ((↑s0.length : Int).tdiv (4 : Int)))) + i10) ∧ IntKind.i64.wrap (IntKind.i64.wrap ((4 : Int) * IntKind.i64.wrap (i0 - IntKind.i64.wrap ((↑s0.length : Int).tdiv (4 : Int)))) + i10) < (↑x1.length : Int)) ((((x1)[(IntKind.i64.wrap (IntKind.i64.wrap (4 * IntKind.i64.wrap (i0 - IntKind.i64.wrap ((↑s0.length : Int).tdiv 4))) + i10)).toNat]?).bind (dI IntKind.u8)).bind fun i11 => (bif decide (i10 = 0) then (guardP (x1.length + (1 : Nat) ≤ maxLen') (L59_3 k i0 i5 i6 i7 i8 i9 s0 f (IntKind.i64.wrap (i10 + 1)) (x1 ++ [V.int .u8 (IntKind.u8.wrap (↑(BitVec.ofInt IntKind.u8.bits i11 ^^^ BitVec.ofInt IntKind.u8.bits i6).toNat : Int))]))) else (bif decide (i10 = 1) then (guardP (x1.length + (1 : Nat) ≤ maxLen') (L59_3 k i0 i5 i6 i7 i8 i9 s0 f (IntKind.i64.wrap (i10 + 1)) (x1 ++ [V.int .u8 (IntKind.u8.wrap (↑(BitVec.ofInt IntKind.u8.bits i11 ^^^ BitVec.ofInt IntKind.u8.bits i7).toNat : Int))]))) else (bif decide (i10 = 2) then (guardP (x1.length + (1 : Nat) ≤ maxLen') (L59_3 k i0 i5 i6 i7 i8 i9 s0 f (IntKind.i64.wrap (i10 + 1)) (x1 ++ [V.int .u8 (IntKind.u8.wrap (↑(BitVec.ofInt IntKind.u8.bits i11 ^^^ BitVec.ofInt IntKind.u8.bits i8).toNat : Int))]))) else (bif decide (i10 = 3) then (guardP (x1.length + (1 : Nat) ≤ maxLen') (L59_3 k i0 i5 i6 i7 i8 i9 s0 f (IntKind.i64.wrap (i10 + 1)) (x1 ++ [V.int .u8 (IntKind.u8.wrap (↑(BitVec.ofInt IntKind.u8.bits i11 ^^^ BitVec.ofInt IntKind.u8.bits i9).toNat : Int))]))) else none)))))) else (some (L59_3_R.e0 i10 x1)))
theorem L59_3_ok {i0 i5 i6 i7 i8 i9 : Int} {s0 : List UInt8} {k : Nat} : ∀ {f : Nat} {i10 : Int} {x1 : List V} {r : L59_3_R}, L59_3 k i0 i5 i6 i7 i8 i9 s0 f i10 x1 = some r →
    LoopsN Tryz.prog Tryz.cfg (k + 17) 0 Tryz.f59 (Tryz.cfg.fc 59) 2 [0, 2, 3, 4, 5, 6, 7, 22, 30, 42, 66, 75, 76, 85] f { tm := [(0, V.str s0), (2, V.sl (some true) true 0 []), (3, vi 0), (4, vi (wI ((↑s0.length : Int).tdiv 4))), (5, V.ref 0), (6, vi i0), (7, V.ptr 1 0), (22, V.bool false), (30, V.bool true), (42, V.bool false), (66, V.bool true), (75, vi i5), (76, V.bool false), (85, vi i10)], hp := [(0, Ob.row false 1 x1), (1, Ob.var [vb i6, vb i7, vb i8, vb i9])], nx := 2 } (L59_3_end i0 i5 i6 i7 i8 i9 s0 r) := by
  intro f
  induction f with
  | zero => intro i10 x1 r h; cases h
  | succ f ih =>
    intro i10 x1 r h
    rw [L59_3] at h
    rcases cond_elim h with ⟨e0, h⟩ | ⟨e0, h⟩
    ·
      obtain ⟨e1, h⟩ := guardP_some.1 h
      obtain ⟨i11, e2, h⟩ := bE h
      rcases cond_elim h with ⟨e3, h⟩ | ⟨e3, h⟩
      ·
        obtain ⟨e4, h⟩ := guardP_some.1 h
        exact LoopsN.next (L59_3_b0 i0 i5 i6 i7 i8 i9 i10 i11 s0 x1 k e0 (IdxR.mk' e1 rfl) (LdP.mk (get_d dI_ok e2 :) (by kernel_rfl)) (IdxA.mk 0 e3 (by decide) (by decide) rfl) (GrdW.mk ⟨rfl, by decide, by decide, e4⟩)) (L59_3_b0h i0 i5 i6 i7 i8 i9 i10 i11 s0 x1) (ih h)
      ·
        rcases cond_elim h with ⟨e4, h⟩ | ⟨e4, h⟩
        ·
          obtain ⟨e5, h⟩ := guardP_some.1 h
          exact LoopsN.next (L59_3_b1 i0 i5 i6 i7 i8 i9 i10 i11 s0 x1 k e0 (IdxR.mk' e1 rfl) (LdP.mk (get_d dI_ok e2 :) (by kernel_rfl)) (IdxA.mk 1 e4 (by decide) (by decide) rfl) (GrdW.mk ⟨rfl, by decide, by decide, e5⟩)) (L59_3_b1h i0 i5 i6 i7 i8 i9 i10 i11 s0 x1) (ih h)
        ·
          rcases cond_elim h with ⟨e5, h⟩ | ⟨e5, h⟩
          ·
            obtain ⟨e6, h⟩ := guardP_some.1 h
            exact LoopsN.next (L59_3_b2 i0 i5 i6 i7 i8 i9 i10 i11 s0 x1 k e0 (IdxR.mk' e1 rfl) (LdP.mk (get_d dI_ok e2 :) (by kernel_rfl)) (IdxA.mk 2 e5 (by decide) (by decide) rfl) (GrdW.mk ⟨rfl, by decide, by decide, e6⟩)) (L59_3_b2h i0 i5 i6 i7 i8 i9 i10 i11 s0 x1) (ih h)
          ·
            rcases cond_elim h with ⟨e6, h⟩ | ⟨e6, h⟩
            ·
              obtain ⟨e7, h⟩ := guardP_some.1 h
              exact LoopsN.next (L59_3_b3 i0 i5 i6 i7 i8 i9 i10 i11 s0 x1 k e0 (IdxR.mk' e1 rfl) (LdP.mk (get_d dI_ok e2 :) (by kernel_rfl)) (IdxA.mk 3 e6 (by decide) (by decide) rfl) (GrdW.mk ⟨rfl, by decide, by decide, e7⟩)) (L59_3_b3h i0 i5 i6 i7 i8 i9 i10 i11 s0 x1) (ih h)
            ·
              cases h
    ·
      cases h; exact LoopsN.done (L59_3_b4 i0 i5 i6 i7 i8 i9 i10 s0 x1 k e0) (fun h => by cases h)
theorem L59_4_b0 (i0 i1 i2 i3 i4 i5 i6 : Int) (s0 : List UInt8) (x1 : List V) (k : Nat)
    (c0 : decide (i5 < 4) = true)
    (c1 : IdxR x1.length (wI (wI (4 * wI (i0 - wI ((↑s0.length : Int).tdiv 4))) + i5)) 1 1 (V.ept 0 (wI (wI (4 * wI (i0 - wI ((↑s0.length : Int).tdiv 4))) + i5)).toNat 0))
    (c2 : LdP Tryz.prog 5 x1 (wI (wI (4 * wI (i0 - wI ((↑s0.length : Int).tdiv 4))) + i5)).toNat 0 (vb i6))
    (c3 : IdxA 4 i5 1 (fun d => V.ptr 1 (0 + d)) (V.ptr 1 0))
    (c4 : GrdW ((1 : Nat) = (1 : Nat) ∧ (0 : Nat) < (1 : Nat) ∧ (1 : Nat) ≤ (64 : Nat) ∧ x1.length + (1 : Nat) ≤ maxLen') (V.ref (74 : Nat)) [((0 : Nat), Ob.dead), ((74 : Nat), Ob.row false (1 : Nat) (x1 ++ [vb (x8 i6 i1)]))]) :
    eC k 17 0 59 (loopBody Tryz.f59 2) { tm := [(0, V.str s0), (2, V.sl (some true) true 0 []), (3, vi 0), (4, vi (wI ((↑s0.length : Int).tdiv 4))), (5, V.ref 0), (6, vi i0), (7, V.ptr 1 0), (22, V.bool false), (30, V.bool true), (42, V.bool false), (66, V.bool false), (85, vi i5)], hp := [(0, Ob.row false 1 x1), (1, Ob.var [vb i1, vb i2, vb i3, vb i4])], nx := 2 } = some (Exit.normal, { tm := [(0, V.str s0), (2, V.sl (some true) true 0 []), (3, vi 0), (4, vi (wI ((↑s0.length : Int).tdiv 4))), (5, V.ref 74), (6, vi i0), (7, V.ptr 1 0), (9, vi i5), (22, V.bool false), (30, V.bool true), (42, V.bool false), (66, V.bool false), (85, vi (wI (i5 + 1))), (86, V.bool true)], hp := [(0, Ob.dead), (1, Ob.var [vb i1, vb i2, vb i3, vb i4]), (70, Ob.row false 1 [vb (x8 i6 i1)]), (74, Ob.row false 1 (x1 ++ [vb (x8 i6 i1)]))], nx := 90 }) :=
  byL (k := k) (d := 17) [Hn.br 86 true, Hn.op 96 (V.ept 0 (wI (wI (4 * wI (i0 - wI ((↑s0.length : Int).tdiv 4))) + i5)).toNat 0) [], Hn.op 97 (vb i6) [], Hn.op 99 (V.ptr 1 0) [], Hn.op 103 (V.ref 74) [(0, Ob.dead), (74, Ob.row false 1 (x1 ++ [vb (x8 i6 i1)]))]] (aI c0 (aI c1 (aI c2 (aI c3 (aI c4 trivial))))) (by kernel_rfl)
theorem L59_4_b0h (i0 i1 i2 i3 i4 i5 i6 : Int) (s0 : List UInt8) (x1 : List V) : head 0 [0, 2, 3, 4, 5, 6, 7, 22, 30, 42, 66, 85] (Tryz.cfg.fc 59).acc { tm := [(0, V.str s0), (2, V.sl (some true) true 0 []), (3, vi 0), (4, vi (wI ((↑s0.length : Int).tdiv 4))), (5, V.ref 74), (6, vi i0), (7, V.ptr 1 0), (9, vi i5), (22, V.bool false), (30, V.bool true), (42, V.bool false), (66, V.bool false), (85, vi (wI (i5 + 1))), (86, V.bool true)], hp := [(0, Ob.dead), (1, Ob.var [vb i1, vb i2, vb i3, vb i4]), (70, Ob.row false 1 [vb (x8 i6 i1)]), (74, Ob.row false 1 (x1 ++ [vb (x8 i6 i1)]))], nx := 90 } = { tm := [(0, V.str s0), (2, V.sl (some true) true 0 []), (3, vi 0), (4, vi (wI ((↑s0.length : Int).tdiv 4))), (5, V.ref 0), (6, vi i0), (7, V.ptr 1 0), (22, V.bool false), (30, V.bool true), (42, V.bool false), (66, V.bool false), (85, vi (wI (i5 + 1)))], hp := [(0, Ob.row false 1 (x1 ++ [vb (x8 i6 i1)])), (1, Ob.var [vb i1, vb i2, vb i3, vb i4])], nx := 2 } := by kernel_rfl
theorem L59_4_b1 (i0 i1 i2 i3 i4 i5 i6 : Int) (s0 : List UInt8) (x1 : List V) (k : Nat)
    (c0 : decide (i5 < 4) = true)
    (c1 : IdxR x1.length (wI (wI (4 * wI (i0 - wI ((↑s0.length : Int).tdiv 4))) + i5)) 1 1 (V.ept 0 (wI (wI (4 * wI (i0 - wI ((↑s0.length : Int).tdiv 4))) + i5)).toNat 0))
    (c2 : LdP Tryz.prog 5 x1 (wI (wI (4 * wI (i0 - wI ((↑s0.length : Int).tdiv 4))) + i5)).toNat 0 (vb i6))
    (c3 : IdxA 4 i5 1 (fun d => V.ptr 1 (0 + d)) (V.ptr 1 1))
    (c4 : GrdW ((1 : Nat) = (1 : Nat) ∧ (0 : Nat) < (1 : Nat) ∧ (1 : Nat) ≤ (64 : Nat) ∧ x1.length + (1 : Nat) ≤ maxLen') (V.ref (74 : Nat)) [((0 : Nat), Ob.dead), ((74 : Nat), Ob.row false (1 : Nat) (x1 ++ [vb (x8 i6 i2)]))]) :
    eC k 17 0 59 (loopBody Tryz.f59 2) { tm := [(0, V.str s0), (2, V.sl (some true) true 0 []), (3, vi 0), (4, vi (wI ((↑s0.length : Int).tdiv 4))), (5, V.ref 0), (6, vi i0), (7, V.ptr 1 0), (22, V.bool false), (30, V.bool true), (42, V.bool false), (66, V.bool false), (85, vi i5)], hp := [(0, Ob.row false 1 x1), (1, Ob.var [vb i1, vb i2, vb i3, vb i4])], nx := 2 } = some (Exit.normal, { tm := [(0, V.str s0), (2, V.sl (some true) true 0 []), (3, vi 0), (4, vi (wI ((↑s0.length : Int).tdiv 4))), (5, V.ref 74), (6, vi i0), (7, V.ptr 1 0), (9, vi i5), (22, V.bool false), (30, V.bool true), (42, V.bool false), (66, V.bool false), (85, vi (wI (i5 + 1))), (86, V.bool true)], hp := [(0, Ob.dead), (1, Ob.var [vb i1, vb i2, vb i3, vb i4]), (70, Ob.row false 1 [vb (x8 i6 i2)]), (74, Ob.row false 1 (x1 ++ [vb (x8 i6 i2)]))], nx := 90 }) :=
  byL (k := k) (d := 17) [Hn.br 86 true, Hn.op 96 (V.ept 0 (wI (wI (4 * wI (i0 - wI ((↑s0.length : Int).tdiv 4))) + i5)).toNat 0) [], Hn.op 97 (vb i6) [], Hn.op 99 (V.ptr 1 1) [], Hn.op 103 (V.ref 74) [(0, Ob.dead), (74, Ob.row false 1 (x1 ++ [vb (x8 i6 i2)]))]] (aI c0 (aI c1 (aI c2 (aI c3 (aI c4 trivial))))) (by kernel_rfl)
theorem L59_4_b1h (i0 i1 i2 i3 i4 i5 i6 : Int) (s0 : List UInt8) (x1 : List V) : head 0 [0, 2, 3, 4, 5, 6, 7, 22, 30, 42, 66, 85] (Tryz.cfg.fc 59).acc { tm := [(0, V.str s0), (2, V.sl (some true) true 0 []), (3, vi 0), (4, vi (wI ((↑s0.length : Int).tdiv 4))), (5, V.ref 74), (6, vi i0), (7, V.ptr 1 0), (9, vi i5), (22, V.bool false), (30, V.bool true), (42, V.bool false), (66, V.bool false), (85, vi (wI (i5 + 1))), (86, V.bool true)], hp := [(0, Ob.dead), (1, Ob.var [vb i1, vb i2, vb i3, vb i4]), (70, Ob.row false 1 [vb (x8 i6 i2)]), (74, Ob.row false 1 (x1 ++ [vb (x8 i6 i2)]))], nx := 90 } = { tm := [(0, V.str s0), (2, V.sl (some true) true 0 []), (3, vi 0), (4, vi (wI ((↑s0.length : Int).tdiv 4))), (5, V.ref 0), (6, vi i0), (7, V.ptr 1 0), (22, V.bool false), (30, V.bool true), (42, V.bool false), (66, V.bool false), (85, vi (wI (i5 + 1)))], hp := [(0, Ob.row false 1 (x1 ++ [vb (x8 i6 i2)])), (1, Ob.var [vb i1, vb i2, vb i3, vb i4])], nx := 2 } := by kernel_rfl
theorem L59_4_b2 (i0 i1 i2 i3 i4 i5 i6 : Int) (s0 : List UInt8) (x1 : List V) (k : Nat)
    (c0 : decide (i5 < 4) = true)
    (c1 : IdxR x1.length (wI (wI (4 * wI (i0 - wI ((↑s0.length : Int).tdiv 4))) + i5)) 1 1 (V.ept 0 (wI (wI (4 * wI (i0 - wI ((↑s0.length : Int).tdiv 4))) + i5)).toNat 0))
    (c2 : LdP Tryz.prog 5 x1 (wI (wI (4 * wI (i0 - wI ((↑s0.length : Int).tdiv 4))) + i5)).toNat 0 (vb i6))
    (c3 : IdxA 4 i5 1 (fun d => V.ptr 1 (0 + d)) (V.ptr 1 2))
    (c4 : GrdW ((1 : Nat) = (1 : Nat) ∧ (0 : Nat) < (1 : Nat) ∧ (1 : Nat) ≤ (64 : Nat) ∧ x1.length + (1 : Nat) ≤ maxLen') (V.ref (74 : Nat)) [((0 : Nat), Ob.dead), ((74 : Nat), Ob.row false (1 : Nat) (x1 ++ [vb (x8 i6 i3)]))]) :
    eC k 17 0 59 (loopBody Tryz.f59 2) { tm := [(0, V.str s0), (2, V.sl (some true) true 0 []), (3, vi 0), (4, vi (wI ((↑s0.length : Int).tdiv 4))), (5, V.ref 0), (6, vi i0), (7, V.ptr 1 0), (22, V.bool false), (30, V.bool true), (42, V.bool false), (66, V.bool false), (85, vi i5)], hp := [(0, Ob.row false 1 x1), (1, Ob.var [vb i1, vb i2, vb i3, vb i4])], nx := 2 } = some (Exit.normal, { tm := [(0, V.str s0), (2, V.sl (some true) true 0 []), (3, vi 0), (4, vi (wI ((↑s0.length : Int).tdiv 4))), (5, V.ref 74), (6, vi i0), (7, V.ptr 1 0), (9, vi i5), (22, V.bool false), (30, V.bool true), (42, V.bool false), (66, V.bool false), (85, vi (wI (i5 + 1))), (86, V.bool true)], hp := [(0, Ob.dead), (1, Ob.var [vb i1, vb i2, vb i3, vb i4]), (70, Ob.row false 1 [vb (x8 i6 i3)]), (74, Ob.row false 1 (x1 ++ [vb (x8 i6 i3)]))], nx := 90 }) :=
  byL (k := k) (d := 17) [Hn.br 86 true, Hn.op 96 (V.ept 0 (wI (wI (4 * wI (i0 - wI ((↑s0.length : Int).tdiv 4))) + i5)).toNat 0) [], Hn.op 97 (vb i6) [], Hn.op 99 (V.ptr 1 2) [], Hn.op 103 (V.ref 74) [(0, Ob.dead), (74, Ob.row false 1 (x1 ++ [vb (x8 i6 i3)]))]] (aI c0 (aI c1 (aI c2 (aI c3 (aI c4 trivial))))) (by kernel_rfl)
theorem L59_4_b2h (i0 i1 i2 i3 i4 i5 i6 : Int) (s0 : List UInt8) (x1 : List V) : head 0 [0, 2, 3, 4, 5, 6, 7, 22, 30, 42, 66, 85] (Tryz.cfg.fc 59).acc { tm := [(0, V.str s0), (2, V.sl (some true) true 0 []), (3, vi 0), (4, vi (wI ((↑s0.length : Int).tdiv 4))), (5, V.ref 74), (6, vi i0), (7, V.ptr 1 0), (9, vi i5), (22, V.bool false), (30, V.bool true), (42, V.bool false), (66, V.bool false), (85, vi (wI (i5 + 1))), (86, V.bool true)], hp := [(0, Ob.dead), (1, Ob.var [vb i1, vb i2, vb i3, vb i4]), (70, Ob.row false 1 [vb (x8 i6 i3)]), (74, Ob.row false 1 (x1 ++ [vb (x8 i6 i3)]))], nx := 90 } = { tm := [(0, V.str s0), (2, V.sl (some true) true 0 []), (3, vi 0), (4, vi (wI ((↑s0.length : Int).tdiv 4))), (5, V.ref 0), (6, vi i0), (7, V.ptr 1 0), (22, V.bool false), (30, V.bool true), (42, V.bool false), (66, V.bool false), (85, vi (wI (i5 + 1)))], hp := [(0, Ob.row false 1 (x1 ++ [vb (x8 i6 i3)])), (1, Ob.var [vb i1, vb i2, vb i3, vb i4])], nx := 2 } := by kernel_rfl
theorem L59_4_b3 (i0 i1 i2 i3 i4 i5 i6 : Int) (s0 : List UInt8) (x1 : List V) (k : Nat)
    (c0 : decide (i5 < 4) = true)
    (c1 : IdxR x1.length (wI (wI (4 * wI (i0 - wI ((↑s0.length : Int).tdiv 4))) + i5)) 1 1 (V.ept 0 (wI (wI (4 * wI (i0 - wI ((↑s0.length : Int).tdiv 4))) + i5)).toNat 0))
    (c2 : LdP Tryz.prog 5 x1 (wI (wI (4 * wI (i0 - wI ((↑s0.length : Int).tdiv 4))) + i5)).toNat 0 (vb i6))
    (c3 : IdxA 4 i5 1 (fun d => V.ptr 1 (0 + d)) (V.ptr 1 3))
    (c4 : GrdW ((1 : Nat) = (1 : Nat) ∧ (0 : Nat) < (1 : Nat) ∧ (1 : Nat) ≤ (64 : Nat) ∧ x1.length + (1 : Nat) ≤ maxLen') (V.ref (74 : Nat)) [((0 : Nat), Ob.dead), ((74 : Nat), Ob.row false (1 : Nat) (x1 ++ [vb (x8 i6 i4)]))]) :
    eC k 17 0 59 (loopBody Tryz.f59 2) { tm := [(0, V.str s0), (2, V.sl (some true) true 0 []), (3, vi 0), (4, vi (wI ((↑s0.length : Int).tdiv 4))), (5, V.ref 0), (6, vi i0), (7, V.ptr 1 0), (22, V.bool false), (30, V.bool true), (42, V.bool false), (66, V.bool false), (85, vi i5)], hp := [(0, Ob.row false 1 x1), (1, Ob.var [vb i1, vb i2, vb i3, vb i4])], nx := 2 } = some (Exit.normal, { tm := [(0, V.str s0), (2, V.sl (some true) true 0 []), (3, vi 0), (4, vi (wI ((↑s0.length : Int).tdiv 4))), (5, V.ref 74), (6, vi i0), (7, V.ptr 1 0), (9, vi i5), (22, V.bool false), (30, V.bool true), (42, V.bool false), (66, V.bool false), (85, vi (wI (i5 + 1))), (86, V.bool true)], hp := [(0, Ob.dead), (1, Ob.var [vb i1, vb i2, vb i3, vb i4]), (70, Ob.row false 1 [vb (x8 i6 i4)]), (74, Ob.row false 1 (x1 ++ [vb (x8 i6 i4)]))], nx := 90 }) :=
  byL (k := k) (d := 17) [Hn.br 86 true, Hn.op 96 (V.ept 0 (wI (wI (4 * wI (i0 - wI ((↑s0.length : Int).tdiv 4))) + i5)).toNat 0) [], Hn.op 97 (vb i6) [], Hn.op 99 (V.ptr 1 3) [], Hn.op 103 (V.ref 74) [(0, Ob.dead), (74, Ob.row false 1 (x1 ++ [vb (x8 i6 i4)]))]] (aI c0 (aI c1 (aI c2 (aI c3 (aI c4 trivial))))) (by kernel_rfl)
theorem L59_4_b3h (i0 i1 i2 i3 i4 i5 i6 : Int) (s0 : List UInt8) (x1 : List V) : head 0 [0, 2, 3, 4, 5, 6, 7, 22, 30, 42, 66, 85] (Tryz.cfg.fc 59).acc { tm := [(0, V.str s0), (2, V.sl (some true) true 0 []), (3, vi 0), (4, vi (wI ((↑s0.length : Int).tdiv 4))), (5, V.ref 74), (6, vi i0), (7, V.ptr 1 0), (9, vi i5), (22, V.bool false), (30, V.bool true), (42, V.bool false), (66, V.bool false), (85, vi (wI (i5 + 1))), (86, V.bool true)], hp := [(0, Ob.dead), (1, Ob.var [vb i1, vb i2, vb i3, vb i4]), (70, Ob.row false 1 [vb (x8 i6 i4)]), (74, Ob.row false 1 (x1 ++ [vb (x8 i6 i4)]))], nx := 90 } = { tm := [(0, V.str s0), (2, V.sl (some true) true 0 []), (3, vi 0), (4, vi (wI ((↑s0.length : Int).tdiv 4))), (5, V.ref 0), (6, vi i0), (7, V.ptr 1 0), (22, V.bool false), (30, V.bool true), (42, V.bool false), (66, V.bool false), (85, vi (wI (i5 + 1)))], hp := [(0, Ob.row false 1 (x1 ++ [vb (x8 i6 i4)])), (1, Ob.var [vb i1, vb i2, vb i3, vb i4])], nx := 2 } := by kernel_rfl
theorem L59_4_b4 (i0 i1 i2 i3 i4 i5 : Int) (s0 : List UInt8) (x1 : List V) (k : Nat)
    (c0 : decide (i5 < 4) = false) :
    eC k 17 0 59 (loopBody Tryz.f59 2) { tm := [(0, V.str s0), (2, V.sl (some true) true 0 []), (3, vi 0), (4, vi (wI ((↑s0.length : Int).tdiv 4))), (5, V.ref 0), (6, vi i0), (7, V.ptr 1 0), (22, V.bool false), (30, V.bool true), (42, V.bool false), (66, V.bool false), (85, vi i5)], hp := [(0, Ob.row false 1 x1), (1, Ob.var [vb i1, vb i2, vb i3, vb i4])], nx := 2 } = some (Exit.exit 5, { tm := [(0, V.str s0), (2, V.sl (some true) true 0 []), (3, vi 0), (4, vi (wI ((↑s0.length : Int).tdiv 4))), (5, V.ref 0), (6, vi i0), (7, V.ptr 1 0), (22, V.bool false), (30, V.bool true), (42, V.bool false), (66, V.bool false), (85, vi i5), (86, V.bool false)], hp := [(0, Ob.row false 1 x1), (1, Ob.var [vb i1, vb i2, vb i3, vb i4])], nx := 6 }) :=
  byL (k := k) (d := 17) [Hn.br 86 false] (aI c0 trivial) (by kernel_rfl)
inductive L59_4_R where
  | e0 (i5 : Int) (x1 : List V)
noncomputable def L59_4_end (i0 : Int) (i1 : Int) (i2 : Int) (i3 : Int) (i4 : Int) (s0 : List UInt8) : L59_4_R → Exit × St
  | .e0 i5 x1 => (Exit.exit 5, { tm := [(0, V.str s0), (2, V.sl (some true) true 0 []), (3, V.int .i64 0), (4, V.int .i64 (IntKind.i64.wrap ((↑s0.length : Int).tdiv 4))), (5, V.ref 0), (6, V.int .i64 i0), (7, V.ptr 1 0), (22, V.bool false), (30, V.bool true), (42, V.bool false), (66, V.bool false), (85, V.int .i64 i5), (86, V.bool false)], hp := [(0, Ob.row false 1 x1), (1, Ob.var [V.int .u8 i1, V.int .u8 i2, V.int .u8 i3, V.int .u8 i4])], nx := 6 })
def L59_4 (k : Nat) (i0 i1 i2 i3 i4 : Int) (s0 : List UInt8) : Nat → Int → List V → Option L59_4_R
  | 0, _, _ => none
  | f + 1, i5, x1 => (bif decide (i5 < 4) then (guardP ((0 : Int) ≤ IntKind.i64.wrap (IntKind.i64.wrap ((4 : Int) * IntKind.i64.wrap (i0 - IntKind.i64.wrap ((↑s0.length : Int).tdiv (4 : Int)))) + i5) ∧ IntKind.i64.wrap (IntKind.i64.wrap ((4 : Int) * IntKind.i64.wrap (i0 - IntKind.i64.wrap ((↑s0.length : Int).tdiv (4 : Int)))) + i5) < (↑x1.length : Int)) ((((x1)[(IntKind.i64.wrap (IntKind.i64.wrap (4 * IntKind.i64.wrap (i0 - IntKind.i64.wrap ((↑s0.length : Int).tdiv 4))) + i5)).toNat]?).bind (dI IntKind.u8)).bind fun i6 => (bif decide (i5 = 0) then (guardP (x1.length + (1 : Nat) ≤ maxLen') (L59_4 k i0 i1 i2 i3 i4 s0 f (IntKind.i64.wrap (i5 + 1)) (x1 ++ [V.int .u8 (IntKind.u8.wrap (↑(BitVec.ofInt IntKind.u8.bits i6 ^^^ BitVec.ofInt IntKind.u8.bits i1).toNat : Int))]))) else (bif decide (i5 = 1) then (guardP (x1.length + (1 : Nat) ≤ maxLen') (L59_4 k i0 i1 i2 i3 i4 s0 f (IntKind.i64.wrap (i5 + 1)) (x1 ++ [V.int .u8 (IntKind.u8.wrap (↑(BitVec.ofInt IntKind.u8.bits i6 ^^^ BitVec.ofInt IntKind.u8.bits i2).toNat : Int))]))) else (bif decide (i5 = 2) then (guardP (x1.length + (1 : Nat) ≤ maxLen') (L59_4 k i0 i1 i2 i3 i4 s0 f (IntKind.i64.wrap (i5 + 1)) (x1 ++ [V.int .u8 (IntKind.u8.wrap (↑(BitVec.ofInt IntKind.u8.bits i6 ^^^ BitVec.ofInt IntKind.u8.bits i3).toNat : Int))]))) else (bif decide (i5 = 3) then (guardP (x1.length + (1 : Nat) ≤ maxLen') (L59_4 k i0 i1 i2 i3 i4 s0 f (IntKind.i64.wrap (i5 + 1)) (x1 ++ [V.int .u8 (IntKind.u8.wrap (↑(BitVec.ofInt IntKind.u8.bits i6 ^^^ BitVec.ofInt IntKind.u8.bits i4).toNat : Int))]))) else none)))))) else (some (L59_4_R.e0 i5 x1)))
theorem L59_4_ok {i0 i1 i2 i3 i4 : Int} {s0 : List UInt8} {k : Nat} : ∀ {f : Nat} {i5 : Int} {x1 : List V} {r : L59_4_R}, L59_4 k i0 i1 i2 i3 i4 s0 f i5 x1 = some r →
    LoopsN Tryz.prog Tryz.cfg (k + 17) 0 Tryz.f59 (Tryz.cfg.fc 59) 2 [0, 2, 3, 4, 5, 6, 7, 22, 30, 42, 66, 85] f { tm := [(0, V.str s0), (2, V.sl (some true) true 0 []), (3, vi 0), (4, vi (wI ((↑s0.length : Int).tdiv 4))), (5, V.ref 0), (6, vi i0), (7, V.ptr 1 0), (22, V.bool false), (30, V.bool true), (42, V.bool false), (66, V.bool false), (85, vi i5)], hp := [(0, Ob.row false 1 x1), (1, Ob.var [vb i1, vb i2, vb i3, vb i4])], nx := 2 } (L59_4_end i0 i1 i2 i3 i4 s0 r) := by
  intro f
  induction f with
  | zero => intro i5 x1 r h; cases h
  | succ f ih =>
    intro i5 x1 r h
    rw [L59_4] at h
    rcases cond_elim h with ⟨e0, h⟩ | ⟨e0, h⟩
    ·
      obtain ⟨e1, h⟩ := guardP_some.1 h
      obtain ⟨i6, e2, h⟩ := bE h
      rcases cond_elim h with ⟨e3, h⟩ | ⟨e3, h⟩
      ·
        obtain ⟨e4, h⟩ := guardP_some.1 h
        exact LoopsN.next (L59_4_b0 i0 i1 i2 i3 i4 i5 i6 s0 x1 k e0 (IdxR.mk' e1 rfl) (LdP.mk (get_d dI_ok e2 :) (by kernel_rfl)) (IdxA.mk 0 e3 (by decide) (by decide) rfl) (GrdW.mk ⟨rfl, by decide, by decide, e4⟩)) (L59_4_b0h i0 i1 i2 i3 i4 i5 i6 s0 x1) (ih h)
      ·
        rcases cond_elim h with ⟨e4, h⟩ | ⟨e4, h⟩
        ·
          obtain ⟨e5, h⟩ := guardP_some.1 h
          exact LoopsN.next (L59_4_b1 i0 i1 i2 i3 i4 i5 i6 s0 x1 k e0 (IdxR.mk' e1 rfl) (LdP.mk (get_d dI_ok e2 :) (by kernel_rfl)) (IdxA.mk 1 e4 (by decide) (by decide) rfl) (GrdW.mk ⟨rfl, by decide, by decide, e5⟩)) (L59_4_b1h i0 i1 i2 i3 i4 i5 i6 s0 x1) (ih h)
        ·
          rcases cond_elim h with ⟨e5, h⟩ | ⟨e5, h⟩
          ·
            obtain ⟨e6, h⟩ := guardP_some.1 h
            exact LoopsN.next (L59_4_b2 i0 i1 i2 i3 i4 i5 i6 s0 x1 k e0 (IdxR.mk' e1 rfl) (LdP.mk (get_d dI_ok e2 :) (by kernel_rfl)) (IdxA.mk 2 e5 (by decide) (by decide) rfl) (GrdW.mk ⟨rfl, by decide, by decide, e6⟩)) (L59_4_b2h i0 i1 i2 i3 i4 i5 i6 s0 x1) (ih h)
          ·
            rcases cond_elim h with ⟨e6, h⟩ | ⟨e6, h⟩
            ·
              obtain ⟨e7, h⟩ := guardP_some.1 h
              exact LoopsN.next (L59_4_b3 i0 i1 i2 i3 i4 i5 i6 s0 x1 k e0 (IdxR.mk' e1 rfl) (LdP.mk (get_d dI_ok e2 :) (by kernel_rfl)) (IdxA.mk 3 e6 (by decide) (by decide) rfl) (GrdW.mk ⟨rfl, by decide, by decide, e7⟩)) (L59_4_b3h i0 i1 i2 i3 i4 i5 i6 s0 x1) (ih h)
            ·
              cases h
    ·
      cases h; exact LoopsN.done (L59_4_b4 i0 i1 i2 i3 i4 i5 s0 x1 k e0) (fun h => by cases h)
theorem L59_0_b0 (i0 i1 i2 i3 i4 i5 i6 i7 i8 i9 i10 : Int) (s0 : List UInt8) (x0 x1 : List V) (k : Nat)
    (c0 : decide (i0 < wI (4 * wI (wI ((↑s0.length : Int).tdiv 4) + 7))) = true)
    (c1 : SlcR x0.length 1 1 0 (some (vi (wI (wI (4 * i0) - 4)))) (some (vi (wI (4 * i0)))) (V.sub 0 (wI (wI (4 * i0) - 4)).toNat ((wI (4 * i0)).toNat - (wI (wI (4 * i0) - 4)).toNat)))
    (c2 : ArrP 4 ((wI (4 * i0)).toNat - (wI (wI (4 * i0) - 4)).toNat) (V.ept 0 (wI (wI (4 * i0) - 4)).toNat 0))
    (c3 : LdA Tryz.prog 123 1 x0 (wI (wI (4 * i0) - 4)).toNat (V.agg [vb i1, vb i2, vb i3, vb i4]))
    (c4 : GrdP (IntKind.i64 = IntKind.i64 ∧ wI ((↑s0.length : Int).tdiv (4 : Int)) ≠ (0 : Int)) (vi (i0.tmod (wI ((↑s0.length : Int).tdiv (4 : Int))))))
    (c5 : decide (i0.tmod (wI ((↑s0.length : Int).tdiv 4)) = 0) = true)
    (c6 : cP ((k + 17)) 87 [vb i2] = some (vb i5))
    (c7 : GrdP (IntKind.i64 = IntKind.i64 ∧ wI ((↑s0.length : Int).tdiv (4 : Int)) ≠ (0 : Int)) (vi (wI (i0.tdiv (wI ((↑s0.length : Int).tdiv (4 : Int)))))))
    (c8 : cP ((k + 17)) 88 [vb 2, vi (wI (wI (i0.tdiv (wI ((↑s0.length : Int).tdiv 4))) - 1))] = some (vb i6))
    (c9 : cP ((k + 17)) 87 [vb i3] = some (vb i7))
    (c10 : cP ((k + 17)) 87 [vb i4] = some (vb i8))
    (c11 : cP ((k + 17)) 87 [vb i1] = some (vb i9))
    (c12 : LoopsN Tryz.prog Tryz.cfg (k + 17) 0 Tryz.f59 (Tryz.cfg.fc 59) 2 [0, 2, 3, 4, 5, 6, 7, 22, 30, 42, 85] (k + 17) { tm := [(0, V.str s0), (2, V.sl (some true) true 0 []), (3, vi 0), (4, vi (wI ((↑s0.length : Int).tdiv 4))), (5, V.ref 0), (6, vi i0), (7, V.ptr 1 0), (22, V.bool false), (30, V.bool true), (42, V.bool true), (85, vi 0)], hp := [(0, Ob.row false 1 x0), (1, Ob.var [vb (x8 i5 i6), vb i7, vb i8, vb i9])], nx := 2 } (Exit.exit 5, { tm := [(0, V.str s0), (2, V.sl (some true) true 0 []), (3, vi 0), (4, vi (wI ((↑s0.length : Int).tdiv 4))), (5, V.ref 0), (6, vi i0), (7, V.ptr 1 0), (22, V.bool false), (30, V.bool true), (42, V.bool true), (85, vi i10), (86, V.bool false)], hp := [(0, Ob.row false 1 x1), (1, Ob.var [vb (x8 i5 i6), vb i7, vb i8, vb i9])], nx := 6 })) :
    eC k 17 0 59 (loopBody Tryz.f59 0) { tm := [(0, V.str s0), (2, V.sl (some true) true 0 []), (3, vi 0), (4, vi (wI ((↑s0.length : Int).tdiv 4))), (5, V.ref 0), (6, vi i0), (22, V.bool false)], hp := [(0, Ob.row false 1 x0)], nx := 1 } = some (Exit.normal, { tm := [(0, V.str s0), (2, V.sl (some true) true 0 []), (3, vi 0), (4, vi (wI ((↑s0.length : Int).tdiv 4))), (5, V.ref 0), (6, vi (wI (i0 + 1))), (7, V.ptr 1 0), (22, V.bool false), (30, V.bool true), (42, V.bool true), (85, vi i10), (86, V.bool false)], hp := [(0, Ob.row false 1 x1), (1, Ob.var [vb (x8 i5 i6), vb i7, vb i8, vb i9])], nx := 18 }) :=
  byL (k := k) (d := 17) [Hn.br 30 true, Hn.op 39 (V.sub 0 (wI (wI (4 * i0) - 4)).toNat ((wI (4 * i0)).toNat - (wI (wI (4 * i0) - 4)).toNat)) [], Hn.op 40 (V.ept 0 (wI (wI (4 * i0) - 4)).toNat 0) [], Hn.op 41 (V.agg [vb i1, vb i2, vb i3, vb i4]) [], Hn.op 45 (vi (i0.tmod (wI ((↑s0.length : Int).tdiv 4)))) [], Hn.br 42 true, Hn.call 49 (vb i5), Hn.op 52 (vi (wI (i0.tdiv (wI ((↑s0.length : Int).tdiv 4))))) [], Hn.call 54 (vb i6), Hn.call 58 (vb i7), Hn.call 61 (vb i8), Hn.call 64 (vb i9), Hn.loop (Exit.exit 5, { tm := [(0, V.str s0), (2, V.sl (some true) true 0 []), (3, vi 0), (4, vi (wI ((↑s0.length : Int).tdiv 4))), (5, V.ref 0), (6, vi i0), (7, V.ptr 1 0), (22, V.bool false), (30, V.bool true), (42, V.bool true), (85, vi i10), (86, V.bool false)], hp := [(0, Ob.row false 1 x1), (1, Ob.var [vb (x8 i5 i6), vb i7, vb i8, vb i9])], nx := 6 })] (aI c0 (aI c1 (aI c2 (aI c3 (aI c4 (aI c5 (aI c6 (aI c7 (aI c8 (aI c9 (aI c10 (aI c11 (aI c12 trivial))))))))))))) (by kernel_rfl)
theorem L59_0_b0h (i0 i5 i6 i7 i8 i9 i10 : Int) (s0 : List UInt8) (x1 : List V) : head 0 [0, 2, 3, 4, 5, 6, 22] (Tryz.cfg.fc 59).acc { tm := [(0, V.str s0), (2, V.sl (some true) true 0 []), (3, vi 0), (4, vi (wI ((↑s0.length : Int).tdiv 4))), (5, V.ref 0), (6, vi (wI (i0 + 1))), (7, V.ptr 1 0), (22, V.bool false), (30, V.bool true), (42, V.bool true), (85, vi i10), (86, V.bool false)], hp := [(0, Ob.row false 1 x1), (1, Ob.var [vb (x8 i5 i6), vb i7, vb i8, vb i9])], nx := 18 } = { tm := [(0, V.str s0), (2, V.sl (some true) true 0 []), (3, vi 0), (4, vi (wI ((↑s0.length : Int).tdiv 4))), (5, V.ref 0), (6, vi (wI (i0 + 1))), (22, V.bool false)], hp := [(0, Ob.row false 1 x1)], nx := 1 } := by kernel_rfl
theorem L59_0_b1 (i0 i1 i2 i3 i4 i5 i6 i7 i8 i9 i10 : Int) (s0 : List UInt8) (x0 x1 : List V) (k : Nat)
    (c0 : decide (i0 < wI (4 * wI (wI ((↑s0.length : Int).tdiv 4) + 7))) = true)
    (c1 : SlcR x0.length 1 1 0 (some (vi (wI (wI (4 * i0) - 4)))) (some (vi (wI (4 * i0)))) (V.sub 0 (wI (wI (4 * i0) - 4)).toNat ((wI (4 * i0)).toNat - (wI (wI (4 * i0) - 4)).toNat)))
    (c2 : ArrP 4 ((wI (4 * i0)).toNat - (wI (wI (4 * i0) - 4)).toNat) (V.ept 0 (wI (wI (4 * i0) - 4)).toNat 0))
    (c3 : LdA Tryz.prog 123 1 x0 (wI (wI (4 * i0) - 4)).toNat (V.agg [vb i1, vb i2, vb i3, vb i4]))
    (c4 : GrdP (IntKind.i64 = IntKind.i64 ∧ wI ((↑s0.length : Int).tdiv (4 : Int)) ≠ (0 : Int)) (vi (i0.tmod (wI ((↑s0.length : Int).tdiv (4 : Int))))))
    (c5 : decide (i0.tmod (wI ((↑s0.length : Int).tdiv 4)) = 0) = false)
    (c6 : decide (wI ((↑s0.length : Int).tdiv 4) = 8) = true)
    (c7 : GrdP (IntKind.i64 = IntKind.i64 ∧ wI ((↑s0.length : Int).tdiv (4 : Int)) ≠ (0 : Int)) (vi (i0.tmod (wI ((↑s0.length : Int).tdiv (4 : Int))))))
    (c8 : decide (i0.tmod (wI ((↑s0.length : Int).tdiv 4)) = 4) = true)
    (c9 : LoopsN Tryz.prog Tryz.cfg (k + 17) 0 Tryz.f59 (Tryz.cfg.fc 59) 1 [0, 2, 3, 4, 5, 6, 7, 22, 30, 42, 66, 75] (k + 17) { tm := [(0, V.str s0), (2, V.sl (some true) true 0 []), (3, vi 0), (4, vi (wI ((↑s0.length : Int).tdiv 4))), (5, V.ref 0), (6, vi i0), (7, V.ptr 1 0), (22, V.bool false), (30, V.bool true), (42, V.bool false), (66, V.bool true), (75, vi 0)], hp := [(0, Ob.row false 1 x0), (1, Ob.var [vb i1, vb i2, vb i3, vb i4])], nx := 2 } (Exit.exit 3, { tm := [(0, V.str s0), (2, V.sl (some true) true 0 []), (3, vi 0), (4, vi (wI ((↑s0.length : Int).tdiv 4))), (5, V.ref 0), (6, vi i0), (7, V.ptr 1 0), (22, V.bool false), (30, V.bool true), (42, V.bool false), (66, V.bool true), (75, vi i5), (76, V.bool false)], hp := [(0, Ob.row false 1 x0), (1, Ob.var [vb i6, vb i7, vb i8, vb i9])], nx := 6 }))
    (c10 : LoopsN Tryz.prog Tryz.cfg (k + 17) 0 Tryz.f59 (Tryz.cfg.fc 59) 2 [0, 2, 3, 4, 5, 6, 7, 22, 30, 42, 66, 75, 76, 85] (k + 17) { tm := [(0, V.str s0), (2, V.sl (some true) true 0 []), (3, vi 0), (4, vi (wI ((↑s0.length : Int).tdiv 4))), (5, V.ref 0), (6, vi i0), (7, V.ptr 1 0), (22, V.bool false), (30, V.bool true), (42, V.bool false), (66, V.bool true), (75, vi i5), (76, V.bool false), (85, vi 0)], hp := [(0, Ob.row false 1 x0), (1, Ob.var [vb i6, vb i7, vb i8, vb i9])], nx := 2 } (Exit.exit 5, { tm := [(0, V.str s0), (2, V.sl (some true) true 0 []), (3, vi 0), (4, vi (wI ((↑s0.length : Int).tdiv 4))), (5, V.ref 0), (6, vi i0), (7, V.ptr 1 0), (22, V.bool false), (30, V.bool true), (42, V.bool false), (66, V.bool true), (75, vi i5), (76, V.bool false), (85, vi i10), (86, V.bool false)], hp := [(0, Ob.row false 1 x1), (1, Ob.var [vb i6, vb i7, vb i8, vb i9])], nx := 6 })) :
    eC k 17 0 59 (loopBody Tryz.f59 0) { tm := [(0, V.str s0), (2, V.sl (some true) true 0 []), (3, vi 0), (4, vi (wI ((↑s0.length : Int).tdiv 4))), (5, V.ref 0), (6, vi i0), (22, V.bool false)], hp := [(0, Ob.row false 1 x0)], nx := 1 } = some (Exit.normal, { tm := [(0, V.str s0), (2, V.sl (some true) true 0 []), (3, vi 0), (4, vi (wI ((↑s0.length : Int).tdiv 4))), (5, V.ref 0), (6, vi (wI (i0 + 1))), (7, V.ptr 1 0), (22, V.bool false), (30, V.bool true), (42, V.bool false), (66, V.bool true), (75, vi i5), (76, V.bool false), (85, vi i10), (86, V.bool false)], hp := [(0, Ob.row false 1 x1), (1, Ob.var [vb i6, vb i7, vb i8, vb i9])], nx := 18 }) :=
  byL (k := k) (d := 17) [Hn.br 30 true, Hn.op 39 (V.sub 0 (wI (wI (4 * i0) - 4)).toNat ((wI (4 * i0)).toNat - (wI (wI (4 * i0) - 4)).toNat)) [], Hn.op 40 (V.ept 0 (wI (wI (4 * i0) - 4)).toNat 0) [], Hn.op 41 (V.agg [vb i1, vb i2, vb i3, vb i4]) [], Hn.op 45 (vi (i0.tmod (wI ((↑s0.length : Int).tdiv 4)))) [], Hn.br 42 false, Hn.br 69 true, Hn.op 72 (vi (i0.tmod (wI ((↑s0.length : Int).tdiv 4)))) [], Hn.br 66 true, Hn.loop (Exit.exit 3, { tm := [(0, V.str s0), (2, V.sl (some true) true 0 []), (3, vi 0), (4, vi (wI ((↑s0.length : Int).tdiv 4))), (5, V.ref 0), (6, vi i0), (7, V.ptr 1 0), (22, V.bool false), (30, V.bool true), (42, V.bool false), (66, V.bool true), (75, vi i5), (76, V.bool false)], hp := [(0, Ob.row false 1 x0), (1, Ob.var [vb i6, vb i7, vb i8, vb i9])], nx := 6 }), Hn.loop (Exit.exit 5, { tm := [(0, V.str s0), (2, V.sl (some true) true 0 []), (3, vi 0), (4, vi (wI ((↑s0.length : Int).tdiv 4))), (5, V.ref 0), (6, vi i0), (7, V.ptr 1 0), (22, V.bool false), (30, V.bool true), (42, V.bool false), (66, V.bool true), (75, vi i5), (76, V.bool false), (85, vi i10), (86, V.bool false)], hp := [(0, Ob.row false 1 x1), (1, Ob.var [vb i6, vb i7, vb i8, vb i9])], nx := 6 })] (aI c0 (aI c1 (aI c2 (aI c3 (aI c4 (aI c5 (aI c6 (aI c7 (aI c8 (aI c9 (aI c10 trivial))))))))))) (by kernel_rfl)
theorem L59_0_b1h (i0 i5 i6 i7 i8 i9 i10 : Int) (s0 : List UInt8) (x1 : List V) : head 0 [0, 2, 3, 4, 5, 6, 22] (Tryz.cfg.fc 59).acc { tm := [(0, V.str s0), (2, V.sl (some true) true 0 []), (3, vi 0), (4, vi (wI ((↑s0.length : Int).tdiv 4))), (5, V.ref 0), (6, vi (wI (i0 + 1))), (7, V.ptr 1 0), (22, V.bool false), (30, V.bool true), (42, V.bool false), (66, V.bool true), (75, vi i5), (76, V.bool false), (85, vi i10), (86, V.bool false)], hp := [(0, Ob.row false 1 x1), (1, Ob.var [vb i6, vb i7, vb i8, vb i9])], nx := 18 } = { tm := [(0, V.str s0), (2, V.sl (some true) true 0 []), (3, vi 0), (4, vi (wI ((↑s0.length : Int).tdiv 4))), (5, V.ref 0), (6, vi (wI (i0 + 1))), (22, V.bool false)], hp := [(0, Ob.row false 1 x1)], nx := 1 } := by kernel_rfl
theorem L59_0_b2 (i0 i1 i2 i3 i4 i5 : Int) (s0 : List UInt8) (x0 x1 : List V) (k : Nat)
    (c0 : decide (i0 < wI (4 * wI (wI ((↑s0.length : Int).tdiv 4) + 7))) = true)
    (c1 : SlcR x0.length 1 1 0 (some (vi (wI (wI (4 * i0) - 4)))) (some (vi (wI (4 * i0)))) (V.sub 0 (wI (wI (4 * i0) - 4)).toNat ((wI (4 * i0)).toNat - (wI (wI (4 * i0) - 4)).toNat)))
    (c2 : ArrP 4 ((wI (4 * i0)).toNat - (wI (wI (4 * i0) - 4)).toNat) (V.ept 0 (wI (wI (4 * i0) - 4)).toNat 0))
    (c3 : LdA Tryz.prog 123 1 x0 (wI (wI (4 * i0) - 4)).toNat (V.agg [vb i1, vb i2, vb i3, vb i4]))
    (c4 : GrdP (IntKind.i64 = IntKind.i64 ∧ wI ((↑s0.length : Int).tdiv (4 : Int)) ≠ (0 : Int)) (vi (i0.tmod (wI ((↑s0.length : Int).tdiv (4 : Int))))))
    (c5 : decide (i0.tmod (wI ((↑s0.length : Int).tdiv 4)) = 0) = false)
    (c6 : decide (wI ((↑s0.length : Int).tdiv 4) = 8) = true)
    (c7 : GrdP (IntKind.i64 = IntKind.i64 ∧ wI ((↑s0.length : Int).tdiv (4 : Int)) ≠ (0 : Int)) (vi (i0.tmod (wI ((↑s0.length : Int).tdiv (4 : Int))))))
    (c8 : decide (i0.tmod (wI ((↑s0.length : Int).tdiv 4)) = 4) = false)
    (c9 : LoopsN Tryz.prog Tryz.cfg (k + 17) 0 Tryz.f59 (Tryz.cfg.fc 59) 2 [0, 2, 3, 4, 5, 6, 7, 22, 30, 42, 66, 85] (k + 17) { tm := [(0, V.str s0), (2, V.sl (some true) true 0 []), (3, vi 0), (4, vi (wI ((↑s0.length : Int).tdiv 4))), (5, V.ref 0), (6, vi i0), (7, V.ptr 1 0), (22, V.bool false), (30, V.bool true), (42, V.bool false), (66, V.bool false), (85, vi 0)], hp := [(0, Ob.row false 1 x0), (1, Ob.var [vb i1, vb i2, vb i3, vb i4])], nx := 2 } (Exit.exit 5, { tm := [(0, V.str s0), (2, V.sl (some true) true 0 []), (3, vi 0), (4, vi (wI ((↑s0.length : Int).tdiv 4))), (5, V.ref 0), (6, vi i0), (7, V.ptr 1 0), (22, V.bool false), (30, V.bool true), (42, V.bool false), (66, V.bool false), (85, vi i5), (86, V.bool false)], hp := [(0, Ob.row false 1 x1), (1, Ob.var [vb i1, vb i2, vb i3, vb i4])], nx := 6 })) :
    eC k 17 0 59 (loopBody Tryz.f59 0) { tm := [(0, V.str s0), (2, V.sl (some true) true 0 []), (3, vi 0), (4, vi (wI ((↑s0.length : Int).tdiv 4))), (5, V.ref 0), (6, vi i0), (22, V.bool false)], hp := [(0, Ob.row false 1 x0)], nx := 1 } = some (Exit.normal, { tm := [(0, V.str s0), (2, V.sl (some true) true 0 []), (3, vi 0), (4, vi (wI ((↑s0.length : Int).tdiv 4))), (5, V.ref 0), (6, vi (wI (i0 + 1))), (7, V.ptr 1 0), (22, V.bool false), (30, V.bool true), (42, V.bool false), (66, V.bool false), (85, vi i5), (86, V.bool false)], hp := [(0, Ob.row false 1 x1), (1, Ob.var [vb i1, vb i2, vb i3, vb i4])], nx := 18 }) :=
  byL (k := k) (d := 17) [Hn.br 30 true, Hn.op 39 (V.sub 0 (wI (wI (4 * i0) - 4)).toNat ((wI (4 * i0)).toNat - (wI (wI (4 * i0) - 4)).toNat)) [], Hn.op 40 (V.ept 0 (wI (wI (4 * i0) - 4)).toNat 0) [], Hn.op 41 (V.agg [vb i1, vb i2, vb i3, vb i4]) [], Hn.op 45 (vi (i0.tmod (wI ((↑s0.length : Int).tdiv 4)))) [], Hn.br 42 false, Hn.br 69 true, Hn.op 72 (vi (i0.tmod (wI ((↑s0.length : Int).tdiv 4)))) [], Hn.br 66 false, Hn.loop (Exit.exit 5, { tm := [(0, V.str s0), (2, V.sl (some true) true 0 []), (3, vi 0), (4, vi (wI ((↑s0.length : Int).tdiv 4))), (5, V.ref 0), (6, vi i0), (7, V.ptr 1 0), (22, V.bool false), (30, V.bool true), (42, V.bool false), (66, V.bool false), (85, vi i5), (86, V.bool false)], hp := [(0, Ob.row false 1 x1), (1, Ob.var [vb i1, vb i2, vb i3, vb i4])], nx := 6 })] (aI c0 (aI c1 (aI c2 (aI c3 (aI c4 (aI c5 (aI c6 (aI c7 (aI c8 (aI c9 trivial)))))))))) (by kernel_rfl)
theorem L59_0_b2h (i0 i1 i2 i3 i4 i5 : Int) (s0 : List UInt8) (x1 : List V) : head 0 [0, 2, 3, 4, 5, 6, 22] (Tryz.cfg.fc 59).acc { tm := [(0, V.str s0), (2, V.sl (some true) true 0 []), (3, vi 0), (4, vi (wI ((↑s0.length : Int).tdiv 4))), (5, V.ref 0), (6, vi (wI (i0 + 1))), (7, V.ptr 1 0), (22, V.bool false), (30, V.bool true), (42, V.bool false), (66, V.bool false), (85, vi i5), (86, V.bool false)], hp := [(0, Ob.row false 1 x1), (1, Ob.var [vb i1, vb i2, vb i3, vb i4])], nx := 18 } = { tm := [(0, V.str s0), (2, V.sl (some true) true 0 []), (3, vi 0), (4, vi (wI ((↑s0.length : Int).tdiv 4))), (5, V.ref 0), (6, vi (wI (i0 + 1))), (22, V.bool false)], hp := [(0, Ob.row false 1 x1)], nx := 1 } := by kernel_rfl
theorem L59_0_b3 (i0 i1 i2 i3 i4 i5 : Int) (s0 : List UInt8) (x0 x1 : List V) (k : Nat)
    (c0 : decide (i0 < wI (4 * wI (wI ((↑s0.length : Int).tdiv 4) + 7))) = true)
    (c1 : SlcR x0.length 1 1 0 (some (vi (wI (wI (4 * i0) - 4)))) (some (vi (wI (4 * i0)))) (V.sub 0 (wI (wI (4 * i0) - 4)).toNat ((wI (4 * i0)).toNat - (wI (wI (4 * i0) - 4)).toNat)))
    (c2 : ArrP 4 ((wI (4 * i0)).toNat - (wI (wI (4 * i0) - 4)).toNat) (V.ept 0 (wI (wI (4 * i0) - 4)).toNat 0))
    (c3 : LdA Tryz.prog 123 1 x0 (wI (wI (4 * i0) - 4)).toNat (V.agg [vb i1, vb i2, vb i3, vb i4]))
    (c4 : GrdP (IntKind.i64 = IntKind.i64 ∧ wI ((↑s0.length : Int).tdiv (4 : Int)) ≠ (0 : Int)) (vi (i0.tmod (wI ((↑s0.length : Int).tdiv (4 : Int))))))
    (c5 : decide (i0.tmod (wI ((↑s0.length : Int).tdiv 4)) = 0) = false)
    (c6 : decide (wI ((↑s0.length : Int).tdiv 4) = 8) = false)
    (c7 : LoopsN Tryz.prog Tryz.cfg (k + 17) 0 Tryz.f59 (Tryz.cfg.fc 59) 2 [0, 2, 3, 4, 5, 6, 7, 22, 30, 42, 66, 85] (k + 17) { tm := [(0, V.str s0), (2, V.sl (some true) true 0 []), (3, vi 0), (4, vi (wI ((↑s0.length : Int).tdiv 4))), (5, V.ref 0), (6, vi i0), (7, V.ptr 1 0), (22, V.bool false), (30, V.bool true), (42, V.bool false), (66, V.bool false), (85, vi 0)], hp := [(0, Ob.row false 1 x0), (1, Ob.var [vb i1, vb i2, vb i3, vb i4])], nx := 2 } (Exit.exit 5, { tm := [(0, V.str s0), (2, V.sl (some true) true 0 []), (3, vi 0), (4, vi (wI ((↑s0.length : Int).tdiv 4))), (5, V.ref 0), (6, vi i0), (7, V.ptr 1 0), (22, V.bool false), (30, V.bool true), (42, V.bool false), (66, V.bool false), (85, vi i5), (86, V.bool false)], hp := [(0, Ob.row false 1 x1), (1, Ob.var [vb i1, vb i2, vb i3, vb i4])], nx := 6 })) :
    eC k 17 0 59 (loopBody Tryz.f59 0) { tm := [(0, V.str s0), (2, V.sl (some true) true 0 []), (3, vi 0), (4, vi (wI ((↑s0.length : Int).tdiv 4))), (5, V.ref 0), (6, vi i0), (22, V.bool false)], hp := [(0, Ob.row false 1 x0)], nx := 1 } = some (Exit.normal, { tm := [(0, V.str s0), (2, V.sl (some true) true 0 []), (3, vi 0), (4, vi (wI ((↑s0.length : Int).tdiv 4))), (5, V.ref 0), (6, vi (wI (i0 + 1))), (7, V.ptr 1 0), (22, V.bool false), (30, V.bool true), (42, V.bool false), (66, V.bool false), (85, vi i5), (86, V.bool false)], hp := [(0, Ob.row false 1 x1), (1, Ob.var [vb i1, vb i2, vb i3, vb i4])], nx := 18 }) :=
  byL (k := k) (d := 17) [Hn.br 30 true, Hn.op 39 (V.sub 0 (wI (wI (4 * i0) - 4)).toNat ((wI (4 * i0)).toNat - (wI (wI (4 * i0) - 4)).toNat)) [], Hn.op 40 (V.ept 0 (wI (wI (4 * i0) - 4)).toNat 0) [], Hn.op 41 (V.agg [vb i1, vb i2, vb i3, vb i4]) [], Hn.op 45 (vi (i0.tmod (wI ((↑s0.length : Int).tdiv 4)))) [], Hn.br 42 false, Hn.br 69 false, Hn.loop (Exit.exit 5, { tm := [(0, V.str s0), (2, V.sl (some true) true 0 []), (3, vi 0), (4, vi (wI ((↑s0.length : Int).tdiv 4))), (5, V.ref 0), (6, vi i0), (7, V.ptr 1 0), (22, V.bool false), (30, V.bool true), (42, V.bool false), (66, V.bool false), (85, vi i5), (86, V.bool false)], hp := [(0, Ob.row false 1 x1), (1, Ob.var [vb i1, vb i2, vb i3, vb i4])], nx := 6 })] (aI c0 (aI c1 (aI c2 (aI c3 (aI c4 (aI c5 (aI c6 (aI c7 trivial)))))))) (by kernel_rfl)
theorem L59_0_b3h (i0 i1 i2 i3 i4 i5 : Int) (s0 : List UInt8) (x1 : List V) : head 0 [0, 2, 3, 4, 5, 6, 22] (Tryz.cfg.fc 59).acc { tm := [(0, V.str s0), (2, V.sl (some true) true 0 []), (3, vi 0), (4, vi (wI ((↑s0.length : Int).tdiv 4))), (5, V.ref 0), (6, vi (wI (i0 + 1))), (7, V.ptr 1 0), (22, V.bool false), (30, V.bool true), (42, V.bool false), (66, V.bool false), (85, vi i5), (86, V.bool false)], hp := [(0, Ob.row false 1 x1), (1, Ob.var [vb i1, vb i2, vb i3, vb i4])], nx := 18 } = { tm := [(0, V.str s0), (2, V.sl (some true) true 0 []), (3, vi 0), (4, vi (wI ((↑s0.length : Int).tdiv 4))), (5, V.ref 0), (6, vi (wI (i0 + 1))), (22, V.bool false)], hp := [(0, Ob.row false 1 x1)], nx := 1 } := by kernel_rfl
theorem L59_0_b4 (i0 : Int) (s0 : List UInt8) (x0 : List V) (k : Nat)
    (c0 : decide (i0 < wI (4 * wI (wI ((↑s0.length : Int).tdiv 4) + 7))) = false) :
    eC k 17 0 59 (loopBody Tryz.f59 0) { tm := [(0, V.str s0), (2, V.sl (some true) true 0 []), (3, vi 0), (4, vi (wI ((↑s0.length : Int).tdiv 4))), (5, V.ref 0), (6, vi i0), (22, V.bool false)], hp := [(0, Ob.row false 1 x0)], nx := 1 } = some (Exit.exit 0, { tm := [(0, V.str s0), (2, V.sl (some true) true 0 []), (3, vi 0), (4, vi (wI ((↑s0.length : Int).tdiv 4))), (5, V.ref 0), (6, vi i0), (22, V.bool false), (30, V.bool false)], hp := [(0, Ob.row false 1 x0)], nx := 21 }) :=
  byL (k := k) (d := 17) [Hn.br 30 false] (aI c0 trivial) (by kernel_rfl)
inductive L59_0_R where
  | e0 (i0 : Int) (x0 : List V)
noncomputable def L59_0_end (s0 : List UInt8) : L59_0_R → Exit × St
  | .e0 i0 x0 => (Exit.exit 0, { tm := [(0, V.str s0), (2, V.sl (some true) true 0 []), (3, V.int .i64 0), (4, V.int .i64 (IntKind.i64.wrap ((↑s0.length : Int).tdiv 4))), (5, V.ref 0), (6, V.int .i64 i0), (22, V.bool false), (30, V.bool false)], hp := [(0, Ob.row false 1 x0)], nx := 21 })
def L59_0 (k : Nat) (s0 : List UInt8) : Nat → Int → List V → Option L59_0_R
  | 0, _, _ => none
  | f + 1, i0, x0 => (bif decide (i0 < IntKind.i64.wrap (4 * IntKind.i64.wrap (IntKind.i64.wrap ((↑s0.length : Int).tdiv 4) + 7))) then (guardP ((0 : Int) ≤ IntKind.i64.wrap (IntKind.i64.wrap ((4 : Int) * i0) - (4 : Int)) ∧ IntKind.i64.wrap (IntKind.i64.wrap ((4 : Int) * i0) - (4 : Int)) ≤ IntKind.i64.wrap ((4 : Int) * i0) ∧ IntKind.i64.wrap ((4 : Int) * i0) ≤ (↑x0.length : Int)) (guardP ((4 : Nat) ≤ (IntKind.i64.wrap ((4 : Int) * i0)).toNat - (IntKind.i64.wrap (IntKind.i64.wrap ((4 : Int) * i0) - (4 : Int))).toNat) (((arr? (x0) ((IntKind.i64.wrap (IntKind.i64.wrap (4 * i0) - 4)).toNat) 4).bind dAu8u8u8u8Z).bind fun (i1, i2, i3, i4) => (guardP (IntKind.i64.wrap ((↑s0.length : Int).tdiv (4 : Int)) ≠ (0 : Int)) (bif decide (i0.tmod (IntKind.i64.wrap ((↑s0.length : Int).tdiv 4)) = 0) then ((F87 (k + 2) (i2)).bind fun i5 => ((F88 (k + 8) (2) (IntKind.i64.wrap (IntKind.i64.wrap (i0.tdiv (IntKind.i64.wrap ((↑s0.length : Int).tdiv 4))) - 1))).bind fun i6 => ((F87 (k + 2) (i3)).bind fun i7 => ((F87 (k + 2) (i4)).bind fun i8 => ((F87 (k + 2) (i1)).bind fun i9 => ((L59_1 k i0 i5 i6 i7 i8 i9 s0 (k + 17) (0) (x0)).bind fun
    | L59_1_R.e0 i10 x1 => (L59_0 k s0 f (IntKind.i64.wrap (i0 + 1)) (x1)))))))) else (bif decide (IntKind.i64.wrap ((↑s0.length : Int).tdiv 4) = 8) then (bif decide (i0.tmod (IntKind.i64.wrap ((↑s0.length : Int).tdiv 4)) = 4) then ((L59_2 k i0 s0 x0 (k + 17) (0) (i1) (i2) (i3) (i4)).bind fun
    | L59_2_R.e0 i5 i6 i7 i8 i9 => ((L59_3 k i0 i5 i6 i7 i8 i9 s0 (k + 17) (0) (x0)).bind fun
    | L59_3_R.e0 i10 x1 => (L59_0 k s0 f (IntKind.i64.wrap (i0 + 1)) (x1)))) else ((L59_4 k i0 i1 i2 i3 i4 s0 (k + 17) (0) (x0)).bind fun
    | L59_4_R.e0 i5 x1 => (L59_0 k s0 f (IntKind.i64.wrap (i0 + 1)) (x1)))) else ((L59_4 k i0 i1 i2 i3 i4 s0 (k + 17) (0) (x0)).bind fun
    | L59_4_R.e0 i5 x1 => (L59_0 k s0 f (IntKind.i64.wrap (i0 + 1)) (x1))))))))) else (some (L59_0_R.e0 i0 x0)))
theorem L59_0_ok {s0 : List UInt8} {k : Nat} : ∀ {f : Nat} {i0 : Int} {x0 : List V} {r : L59_0_R}, L59_0 k s0 f i0 x0 = some r →
    LoopsN Tryz.prog Tryz.cfg (k + 17) 0 Tryz.f59 (Tryz.cfg.fc 59) 0 [0, 2, 3, 4, 5, 6, 22] f { tm := [(0, V.str s0), (2, V.sl (some true) true 0 []), (3, vi 0), (4, vi (wI ((↑s0.length : Int).tdiv 4))), (5, V.ref 0), (6, vi i0), (22, V.bool false)], hp := [(0, Ob.row false 1 x0)], nx := 1 } (L59_0_end s0 r) := by
  intro f
  induction f with
  | zero => intro i0 x0 r h; cases h
  | succ f ih =>
    intro i0 x0 r h
    rw [L59_0] at h
    rcases cond_elim h with ⟨e0, h⟩ | ⟨e0, h⟩
    ·
      obtain ⟨e1, h⟩ := guardP_some.1 h
      obtain ⟨e2, h⟩ := guardP_some.1 h
      obtain ⟨⟨i1, i2, i3, i4⟩, e3, h⟩ := bE h
      obtain ⟨e4, h⟩ := guardP_some.1 h
      rcases cond_elim h with ⟨e5, h⟩ | ⟨e5, h⟩
      ·
        obtain ⟨i5, e6, h⟩ := bE h
        obtain ⟨i6, e7, h⟩ := bE h
        obtain ⟨i7, e8, h⟩ := bE h
        obtain ⟨i8, e9, h⟩ := bE h
        obtain ⟨i9, e10, h⟩ := bE h
        obtain ⟨ee, e11, h⟩ := bE h
        cases ee with
        | e0 i10 x1 =>
          exact LoopsN.next (L59_0_b0 i0 i1 i2 i3 i4 i5 i6 i7 i8 i9 i10 s0 x0 x1 k e0 (SlcR.mid e1 rfl) (ArrP.mk e2) (LdA.mk (arr_d dAu8u8u8u8Z_ok e3 :) (by decide +kernel) rfl (by decide) (by kernel_rfl)) (GrdP.mk ⟨rfl, e4⟩) e5 (F87_ok e6) (GrdP.mk ⟨rfl, e4⟩) (F88_ok e7) (F87_ok e8) (F87_ok e9) (F87_ok e10) (L59_1_ok e11)) (L59_0_b0h i0 i5 i6 i7 i8 i9 i10 s0 x1) (ih h)
      ·
        rcases cond_elim h with ⟨e6, h⟩ | ⟨e6, h⟩
        ·
          rcases cond_elim h with ⟨e7, h⟩ | ⟨e7, h⟩
          ·
            obtain ⟨ee, e8, h⟩ := bE h
            cases ee with
            | e0 i5 i6 i7 i8 i9 =>
              obtain ⟨ee, e9, h⟩ := bE h
              cases ee with
              | e0 i10 x1 =>
                exact LoopsN.next (L59_0_b1 i0 i1 i2 i3 i4 i5 i6 i7 i8 i9 i10 s0 x0 x1 k e0 (SlcR.mid e1 rfl) (ArrP.mk e2) (LdA.mk (arr_d dAu8u8u8u8Z_ok e3 :) (by decide +kernel) rfl (by decide) (by kernel_rfl)) (GrdP.mk ⟨rfl, e4⟩) e5 e6 (GrdP.mk ⟨rfl, e4⟩) e7 (L59_2_ok e8) (L59_3_ok e9)) (L59_0_b1h i0 i5 i6 i7 i8 i9 i10 s0 x1) (ih h)
          ·
            obtain ⟨ee, e8, h⟩ := bE h
            cases ee with
            | e0 i5 x1 =>
              exact LoopsN.next (L59_0_b2 i0 i1 i2 i3 i4 i5 s0 x0 x1 k e0 (SlcR.mid e1 rfl) (ArrP.mk e2) (LdA.mk (arr_d dAu8u8u8u8Z_ok e3 :) (by decide +kernel) rfl (by decide) (by kernel_rfl)) (GrdP.mk ⟨rfl, e4⟩) e5 e6 (GrdP.mk ⟨rfl, e4⟩) e7 (L59_4_ok e8)) (L59_0_b2h i0 i1 i2 i3 i4 i5 s0 x1) (ih h)
        ·
          obtain ⟨ee, e7, h⟩ := bE h
          cases ee with
          | e0 i5 x1 =>
            exact LoopsN.next (L59_0_b3 i0 i1 i2 i3 i4 i5 s0 x0 x1 k e0 (SlcR.mid e1 rfl) (ArrP.mk e2) (LdA.mk (arr_d dAu8u8u8u8Z_ok e3 :) (by decide +kernel) rfl (by decide) (by kernel_rfl)) (GrdP.mk ⟨rfl, e4⟩) e5 e6 (L59_4_ok e7)) (L59_0_b3h i0 i1 i2 i3 i4 i5 s0 x1) (ih h)
    ·
      cases h; exact LoopsN.done (L59_0_b4 i0 s0 x0 k e0) (fun h => by cases h)
theorem L59_5_b0 (i0 i1 : Int) (s0 : List UInt8) (x0 x1 : List V) (k : Nat)
    (c0 : decide (i1 < (↑x0.length : Int)) = true)
    (c1 : SlcR x0.length 1 1 0 (some (vi i1)) (some (vi (wI (i1 + 16)))) (V.sub 0 i1.toNat ((wI (i1 + 16)).toNat - i1.toNat)))
    (c2 : GrdW (((1 : Nat) = (1 : Nat) ∨ (List.take ((wI (i1 + (16 : Int))).toNat - i1.toNat) (List.drop i1.toNat x0)).isEmpty = true) ∧ (List.take ((wI (i1 + (16 : Int))).toNat - i1.toNat) (List.drop i1.toNat x0)).all isByte = true) (V.str (List.map Sym.byteOf (List.take ((wI (i1 + (16 : Int))).toNat - i1.toNat) (List.drop i1.toNat x0)))) [])
    (c3 : GrdW ((1 : Nat) = (1 : Nat) ∧ (0 : Nat) < (1 : Nat) ∧ (16 : Nat) ≤ (64 : Nat) ∧ x1.length + (1 : Nat) ≤ maxLen') (V.ref (50 : Nat)) [((1 : Nat), Ob.dead), ((50 : Nat), Ob.row false (1 : Nat) (x1 ++ [V.str (List.map Sym.byteOf (List.take ((wI (i1 + (16 : Int))).toNat - i1.toNat) (List.drop i1.toNat x0)))]))]) :
    eC k 17 0 59 (loopBody Tryz.f59 3) { tm := [(0, V.str s0), (2, V.sl (some true) true 0 []), (3, vi 0), (4, vi (wI ((↑s0.length : Int).tdiv 4))), (5, V.ref 0), (6, vi i0), (10, V.ref 1), (11, vi i1), (22, V.bool false), (30, V.bool false)], hp := [(0, Ob.row false 1 x0), (1, Ob.row false 1 x1)], nx := 2 } = some (Exit.normal, { tm := [(0, V.str s0), (2, V.sl (some true) true 0 []), (3, vi 0), (4, vi (wI ((↑s0.length : Int).tdiv 4))), (5, V.ref 0), (6, vi i0), (10, V.ref 50), (11, vi (wI (i1 + 16))), (22, V.bool false), (30, V.bool false), (108, V.bool true)], hp := [(0, Ob.row false 1 x0), (1, Ob.dead), (46, Ob.row false 1 [V.str (List.map Sym.byteOf (List.take ((wI (i1 + 16)).toNat - i1.toNat) (List.drop i1.toNat x0)))]), (50, Ob.row false 1 (x1 ++ [V.str (List.map Sym.byteOf (List.take ((wI (i1 + 16)).toNat - i1.toNat) (List.drop i1.toNat x0)))]))], nx := 70 }) :=
  byL (k := k) (d := 17) [Hn.br 108 true, Hn.op 116 (V.sub 0 i1.toNat ((wI (i1 + 16)).toNat - i1.toNat)) [], Hn.op 117 (V.str (List.map Sym.byteOf (List.take ((wI (i1 + 16)).toNat - i1.toNat) (List.drop i1.toNat x0)))) [], Hn.op 119 (V.ref 50) [(1, Ob.dead), (50, Ob.row false 1 (x1 ++ [V.str (List.map Sym.byteOf (List.take ((wI (i1 + 16)).toNat - i1.toNat) (List.drop i1.toNat x0)))]))]] (aI c0 (aI c1 (aI c2 (aI c3 trivial)))) (by kernel_rfl)
theorem L59_5_b0h (i0 i1 : Int) (s0 : List UInt8) (x0 x1 : List V) : head 0 [0, 2, 3, 4, 5, 6, 10, 11, 22, 30] (Tryz.cfg.fc 59).acc { tm := [(0, V.str s0), (2, V.sl (some true) true 0 []), (3, vi 0), (4, vi (wI ((↑s0.length : Int).tdiv 4))), (5, V.ref 0), (6, vi i0), (10, V.ref 50), (11, vi (wI (i1 + 16))), (22, V.bool false), (30, V.bool false), (108, V.bool true)], hp := [(0, Ob.row false 1 x0), (1, Ob.dead), (46, Ob.row false 1 [V.str (List.map Sym.byteOf (List.take ((wI (i1 + 16)).toNat - i1.toNat) (List.drop i1.toNat x0)))]), (50, Ob.row false 1 (x1 ++ [V.str (List.map Sym.byteOf (List.take ((wI (i1 + 16)).toNat - i1.toNat) (List.drop i1.toNat x0)))]))], nx := 70 } = { tm := [(0, V.str s0), (2, V.sl (some true) true 0 []), (3, vi 0), (4, vi (wI ((↑s0.length : Int).tdiv 4))), (5, V.ref 0), (6, vi i0), (10, V.ref 1), (11, vi (wI (i1 + 16))), (22, V.bool false), (30, V.bool false)], hp := [(0, Ob.row false 1 x0), (1, Ob.row false 1 (x1 ++ [V.str (List.map Sym.byteOf (List.take ((wI (i1 + 16)).toNat - i1.toNat) (List.drop i1.toNat x0)))]))], nx := 2 } := by kernel_rfl
theorem L59_5_b1 (i0 i1 : Int) (s0 : List UInt8) (x0 x1 : List V) (k : Nat)
    (c0 : decide (i1 < (↑x0.length : Int)) = false) :
    eC k 17 0 59 (loopBody Tryz.f59 3) { tm := [(0, V.str s0), (2, V.sl (some true) true 0 []), (3, vi 0), (4, vi (wI ((↑s0.length : Int).tdiv 4))), (5, V.ref 0), (6, vi i0), (10, V.ref 1), (11, vi i1), (22, V.bool false), (30, V.bool false)], hp := [(0, Ob.row false 1 x0), (1, Ob.row false 1 x1)], nx := 2 } = some (Exit.exit 7, { tm := [(0, V.str s0), (2, V.sl (some true) true 0 []), (3, vi 0), (4, vi (wI ((↑s0.length : Int).tdiv 4))), (5, V.ref 0), (6, vi i0), (10, V.ref 1), (11, vi i1), (22, V.bool false), (30, V.bool false), (108, V.bool false)], hp := [(0, Ob.row false 1 x0), (1, Ob.row false 1 x1)], nx := 18 }) :=
  byL (k := k) (d := 17) [Hn.br 108 false] (aI c0 trivial) (by kernel_rfl)
inductive L59_5_R where
  | e0 (i1 : Int) (x1 : List V)
noncomputable def L59_5_end (i0 : Int) (s0 : List UInt8) (x0 : List V) : L59_5_R → Exit × St
  | .e0 i1 x1 => (Exit.exit 7, { tm := [(0, V.str s0), (2, V.sl (some true) true 0 []), (3, V.int .i64 0), (4, V.int .i64 (IntKind.i64.wrap ((↑s0.length : Int).tdiv 4))), (5, V.ref 0), (6, V.int .i64 i0), (10, V.ref 1), (11, V.int .i64 i1), (22, V.bool false), (30, V.bool false), (108, V.bool false)], hp := [(0, Ob.row false 1 x0), (1, Ob.row false 1 x1)], nx := 18 })
def L59_5 (k : Nat) (i0 : Int) (s0 : List UInt8) (x0 : List V) : Nat → Int → List V → Option L59_5_R
  | 0, _, _ => none
  | f + 1, i1, x1 => (bif decide (i1 < (↑x0.length : Int)) then (guardP ((0 : Int) ≤ i1 ∧ i1 ≤ IntKind.i64.wrap (i1 + (16 : Int)) ∧ IntKind.i64.wrap (i1 + (16 : Int)) ≤ (↑x0.length : Int)) (guardP ((List.take ((IntKind.i64.wrap (i1 + (16 : Int))).toNat - i1.toNat) (List.drop i1.toNat x0)).all isByte = true) (guardP (x1.length + (1 : Nat) ≤ maxLen') (L59_5 k i0 s0 x0 f (IntKind.i64.wrap (i1 + 16)) (x1 ++ [V.str (List.map Sym.byteOf (List.take ((IntKind.i64.wrap (i1 + 16)).toNat - i1.toNat) (List.drop i1.toNat x0)))]))))) else (some (L59_5_R.e0 i1 x1)))
theorem L59_5_ok {i0 : Int} {s0 : List UInt8} {x0 : List V} {k : Nat} : ∀ {f : Nat} {i1 : Int} {x1 : List V} {r : L59_5_R}, L59_5 k i0 s0 x0 f i1 x1 = some r →
    LoopsN Tryz.prog Tryz.cfg (k + 17) 0 Tryz.f59 (Tryz.cfg.fc 59) 3 [0, 2, 3, 4, 5, 6, 10, 11, 22, 30] f { tm := [(0, V.str s0), (2, V.sl (some true) true 0 []), (3, vi 0), (4, vi (wI ((↑s0.length : Int).tdiv 4))), (5, V.ref 0), (6, vi i0), (10, V.ref 1), (11, vi i1), (22, V.bool false), (30, V.bool false)], hp := [(0, Ob.row false 1 x0), (1, Ob.row false 1 x1)], nx := 2 } (L59_5_end i0 s0 x0 r) := by
  intro f
  induction f with
  | zero => intro i1 x1 r h; cases h
  | succ f ih =>
    intro i1 x1 r h
    rw [L59_5] at h
    rcases cond_elim h with ⟨e0, h⟩ | ⟨e0, h⟩
    ·
      obtain ⟨e1, h⟩ := guardP_some.1 h
      obtain ⟨e2, h⟩ := guardP_some.1 h
      obtain ⟨e3, h⟩ := guardP_some.1 h
      exact LoopsN.next (L59_5_b0 i0 i1 s0 x0 x1 k e0 (SlcR.mid e1 rfl) (GrdW.mk ⟨(.inl rfl), e2⟩) (GrdW.mk ⟨rfl, by decide, by decide, e3⟩)) (L59_5_b0h i0 i1 s0 x0 x1) (ih h)
    ·
      cases h; exact LoopsN.done (L59_5_b1 i0 i1 s0 x0 x1 k e0) (fun h => by cases h)
theorem P59_0 (s0 : List UInt8) (k : Nat)
    (c0 : (!decide ((↑s0.length : Int) = 16)) = true)
    (c1 : (!decide ((↑s0.length : Int) = 32)) = true) :
    cP ((k + 18)) 59 [V.str s0] = some (V.tup [V.sl (some true) true 0 [], vi 4]) :=
  byF (k := k) (d := 18) [Hn.br 18 true, Hn.br 22 true] (aI c0 (aI c1 trivial)) (by kernel_rfl)
theorem P59_1 (i0 i1 : Int) (s0 : List UInt8) (x0 x1 : List V) (k : Nat)
    (c0 : (!decide ((↑s0.length : Int) = 16)) = true)
    (c1 : (!decide ((↑s0.length : Int) = 32)) = false)
    (c2 : GrdW (s0.length ≤ maxLen' ∧ (1 : Nat) = (1 : Nat)) (V.ref (60 : Nat)) [((60 : Nat), Ob.row false (1 : Nat) (List.map (fun c => vb (bN c)) s0))])
    (c3 : LoopsN Tryz.prog Tryz.cfg (k + 17) 0 Tryz.f59 (Tryz.cfg.fc 59) 0 [0, 2, 3, 4, 5, 6, 22] (k + 17) { tm := [(0, V.str s0), (2, V.sl (some true) true 0 []), (3, vi 0), (4, vi (wI ((↑s0.length : Int).tdiv 4))), (5, V.ref 0), (6, vi (wI ((↑s0.length : Int).tdiv 4))), (22, V.bool false)], hp := [(0, Ob.row false 1 (List.map (fun c => vb (bN c)) s0))], nx := 1 } (Exit.exit 0, { tm := [(0, V.str s0), (2, V.sl (some true) true 0 []), (3, vi 0), (4, vi (wI ((↑s0.length : Int).tdiv 4))), (5, V.ref 0), (6, vi i0), (22, V.bool false), (30, V.bool false)], hp := [(0, Ob.row false 1 x0)], nx := 21 }))
    (c4 : LoopsN Tryz.prog Tryz.cfg (k + 17) 0 Tryz.f59 (Tryz.cfg.fc 59) 3 [0, 2, 3, 4, 5, 6, 10, 11, 22, 30] (k + 17) { tm := [(0, V.str s0), (2, V.sl (some true) true 0 []), (3, vi 0), (4, vi (wI ((↑s0.length : Int).tdiv 4))), (5, V.ref 0), (6, vi i0), (10, V.ref 1), (11, vi 0), (22, V.bool false), (30, V.bool false)], hp := [(0, Ob.row false 1 x0), (1, Ob.row false 1 [])], nx := 2 } (Exit.exit 7, { tm := [(0, V.str s0), (2, V.sl (some true) true 0 []), (3, vi 0), (4, vi (wI ((↑s0.length : Int).tdiv 4))), (5, V.ref 0), (6, vi i0), (10, V.ref 1), (11, vi i1), (22, V.bool false), (30, V.bool false), (108, V.bool false)], hp := [(0, Ob.row false 1 x0), (1, Ob.row false 1 x1)], nx := 18 })) :
    cP ((k + 18)) 59 [V.str s0] = some (V.tup [V.sl none false 1 x1, vi 0]) :=
  byF (k := k) (d := 18) [Hn.br 18 true, Hn.br 22 false, Hn.op 24 (V.ref 60) [(60, Ob.row false 1 (List.map (fun c => vb (bN c)) s0))], Hn.loop (Exit.exit 0, { tm := [(0, V.str s0), (2, V.sl (some true) true 0 []), (3, vi 0), (4, vi (wI ((↑s0.length : Int).tdiv 4))), (5, V.ref 0), (6, vi i0), (22, V.bool false), (30, V.bool false)], hp := [(0, Ob.row false 1 x0)], nx := 21 }), Hn.loop (Exit.exit 7, { tm := [(0, V.str s0), (2, V.sl (some true) true 0 []), (3, vi 0), (4, vi (wI ((↑s0.length : Int).tdiv 4))), (5, V.ref 0), (6, vi i0), (10, V.ref 1), (11, vi i1), (22, V.bool false), (30, V.bool false), (108, V.bool false)], hp := [(0, Ob.row false 1 x0), (1, Ob.row false 1 x1)], nx := 18 })] (aI c0 (aI c1 (aI c2 (aI c3 (aI c4 trivial))))) (by kernel_rfl)
theorem P59_2 (i0 i1 : Int) (s0 : List UInt8) (x0 x1 : List V) (k : Nat)
    (c0 : (!decide ((↑s0.length : Int) = 16)) = false)
    (c1 : GrdW (s0.length ≤ maxLen' ∧ (1 : Nat) = (1 : Nat)) (V.ref (60 : Nat)) [((60 : Nat), Ob.row false (1 : Nat) (List.map (fun c => vb (bN c)) s0))])
    (c2 : LoopsN Tryz.prog Tryz.cfg (k + 17) 0 Tryz.f59 (Tryz.cfg.fc 59) 0 [0, 2, 3, 4, 5, 6, 22] (k + 17) { tm := [(0, V.str s0), (2, V.sl (some true) true 0 []), (3, vi 0), (4, vi (wI ((↑s0.length : Int).tdiv 4))), (5, V.ref 0), (6, vi (wI ((↑s0.length : Int).tdiv 4))), (22, V.bool false)], hp := [(0, Ob.row false 1 (List.map (fun c => vb (bN c)) s0))], nx := 1 } (Exit.exit 0, { tm := [(0, V.str s0), (2, V.sl (some true) true 0 []), (3, vi 0), (4, vi (wI ((↑s0.length : Int).tdiv 4))), (5, V.ref 0), (6, vi i0), (22, V.bool false), (30, V.bool false)], hp := [(0, Ob.row false 1 x0)], nx := 21 }))
    (c3 : LoopsN Tryz.prog Tryz.cfg (k + 17) 0 Tryz.f59 (Tryz.cfg.fc 59) 3 [0, 2, 3, 4, 5, 6, 10, 11, 22, 30] (k + 17) { tm := [(0, V.str s0), (2, V.sl (some true) true 0 []), (3, vi 0), (4, vi (wI ((↑s0.length : Int).tdiv 4))), (5, V.ref 0), (6, vi i0), (10, V.ref 1), (11, vi 0), (22, V.bool false), (30, V.bool false)], hp := [(0, Ob.row false 1 x0), (1, Ob.row false 1 [])], nx := 2 } (Exit.exit 7, { tm := [(0, V.str s0), (2, V.sl (some true) true 0 []), (3, vi 0), (4, vi (wI ((↑s0.length : Int).tdiv 4))), (5, V.ref 0), (6, vi i0), (10, V.ref 1), (11, vi i1), (22, V.bool false), (30, V.bool false), (108, V.bool false)], hp := [(0, Ob.row false 1 x0), (1, Ob.row false 1 x1)], nx := 18 })) :
    cP ((k + 18)) 59 [V.str s0] = some (V.tup [V.sl none false 1 x1, vi 0]) :=
  byF (k := k) (d := 18) [Hn.br 18 false, Hn.op 24 (V.ref 60) [(60, Ob.row false 1 (List.map (fun c => vb (bN c)) s0))], Hn.loop (Exit.exit 0, { tm := [(0, V.str s0), (2, V.sl (some true) true 0 []), (3, vi 0), (4, vi (wI ((↑s0.length : Int).tdiv 4))), (5, V.ref 0), (6, vi i0), (22, V.bool false), (30, V.bool false)], hp := [(0, Ob.row false 1 x0)], nx := 21 }), Hn.loop (Exit.exit 7, { tm := [(0, V.str s0), (2, V.sl (some true) true 0 []), (3, vi 0), (4, vi (wI ((↑s0.length : Int).tdiv 4))), (5, V.ref 0), (6, vi i0), (10, V.ref 1), (11, vi i1), (22, V.bool false), (30, V.bool false), (108, V.bool false)], hp := [(0, Ob.row false 1 x0), (1, Ob.row false 1 x1)], nx := 18 })] (aI c0 (aI c1 (aI c2 (aI c3 trivial)))) (by kernel_rfl)
def F59 (k : Nat) (s0 : List UInt8) : Option (Option Bool × Bool × Nat × List V × Int) :=
  (bif !decide ((↑s0.length : Int) = 16) then (bif !decide ((↑s0.length : Int) = 32) then (some ((some true), (true), (0), ([]), (4))) else (guardP (s0.length ≤ maxLen') ((L59_0 k s0 (k + 17) (IntKind.i64.wrap ((↑s0.length : Int).tdiv 4)) (List.map (fun c => V.int .u8 (↑c.toNat : Int)) s0)).bind fun
    | L59_0_R.e0 i0 x0 => ((L59_5 k i0 s0 x0 (k + 17) (0) ([])).bind fun
    | L59_5_R.e0 i1 x1 => (some ((none), (false), (1), (x1), (0))))))) else (guardP (s0.length ≤ maxLen') ((L59_0 k s0 (k + 17) (IntKind.i64.wrap ((↑s0.length : Int).tdiv 4)) (List.map (fun c => V.int .u8 (↑c.toNat : Int)) s0)).bind fun
    | L59_0_R.e0 i0 x0 => ((L59_5 k i0 s0 x0 (k + 17) (0) ([])).bind fun
    | L59_5_R.e0 i1 x1 => (some ((none), (false), (1), (x1), (0)))))))
theorem F59_ok {s0 : List UInt8} {k : Nat} {r : Option Bool × Bool × Nat × List V × Int} (h : F59 k s0 = some r) :
    cP ((k + 18)) 59 [V.str s0] = some (V.tup [V.sl r.1 r.2.1 r.2.2.1 r.2.2.2.1, vi r.2.2.2.2]) := by
  unfold F59 at h
  rcases cond_elim h with ⟨e0, h⟩ | ⟨e0, h⟩
  ·
    rcases cond_elim h with ⟨e1, h⟩ | ⟨e1, h⟩
    ·
      have h := Option.some.inj h; subst h; exact P59_0 s0 k e0 e1
    ·
      obtain ⟨e2, h⟩ := guardP_some.1 h
      obtain ⟨ee, e3, h⟩ := bE h
      cases ee with
      | e0 i0 x0 =>
        obtain ⟨ee, e4, h⟩ := bE h
        cases ee with
        | e0 i1 x1 =>
          have h := Option.some.inj h; subst h; exact P59_1 i0 i1 s0 x0 x1 k e0 e1 (GrdW.mk ⟨e2, rfl⟩) (L59_0_ok e3) (L59_5_ok e4)
  ·
    obtain ⟨e1, h⟩ := guardP_some.1 h
    obtain ⟨ee, e2, h⟩ := bE h
    cases ee with
    | e0 i0 x0 =>
      obtain ⟨ee, e3, h⟩ := bE h
      cases ee with
      | e0 i1 x1 =>
        have h := Option.some.inj h; subst h; exact P59_2 i0 i1 s0 x0 x1 k e0 (GrdW.mk ⟨e1, rfl⟩) (L59_0_ok e2) (L59_5_ok e3)
def dAu8u8u8u8u8u8u8u8u8u8u8u8u8u8u8u8Z : V → Option (Int × Int × Int × Int × Int × Int × Int × Int × Int × Int × Int × Int × Int × Int × Int × Int)
  | V.agg [V.int .u8 a0, V.int .u8 a1, V.int .u8 a2, V.int .u8 a3, V.int .u8 a4, V.int .u8 a5, V.int .u8 a6, V.int .u8 a7, V.int .u8 a8, V.int .u8 a9, V.int .u8 a10, V.int .u8 a11, V.int .u8 a12, V.int .u8 a13, V.int .u8 a14, V.int .u8 a15] => some (a0, a1, a2, a3, a4, a5, a6, a7, a8, a9, a10, a11, a12, a13, a14, a15)
  | _ => none
theorem dAu8u8u8u8u8u8u8u8u8u8u8u8u8u8u8u8Z_ok {v : V} {a : Int × Int × Int × Int × Int × Int × Int × Int × Int × Int × Int × Int × Int × Int × Int × Int} (h : dAu8u8u8u8u8u8u8u8u8u8u8u8u8u8u8u8Z v = some a) : v = (fun (a : Int × Int × Int × Int × Int × Int × Int × Int × Int × Int × Int × Int × Int × Int × Int × Int) => V.agg [vb a.1, vb a.2.1, vb a.2.2.1, vb a.2.2.2.1, vb a.2.2.2.2.1, vb a.2.2.2.2.2.1, vb a.2.2.2.2.2.2.1, vb a.2.2.2.2.2.2.2.1, vb a.2.2.2.2.2.2.2.2.1, vb a.2.2.2.2.2.2.2.2.2.1, vb a.2.2.2.2.2.2.2.2.2.2.1, vb a.2.2.2.2.2.2.2.2.2.2.2.1, vb a.2.2.2.2.2.2.2.2.2.2.2.2.1, vb a.2.2.2.2.2.2.2.2.2.2.2.2.2.1, vb a.2.2.2.2.2.2.2.2.2.2.2.2.2.2.1, vb a.2.2.2.2.2.2.2.2.2.2.2.2.2.2.2] ) a := by
  unfold dAu8u8u8u8u8u8u8u8u8u8u8u8u8u8u8u8Z at h; split at h
  · cases h; rfl
  · cases h
theorem L46_0_b0 (i1 i2 i3 i4 i5 i6 i7 i8 i9 i10 i11 i12 i13 i14 i15 i16 i33 i34 i35 i36 i37 i38 i39 i40 i41 i42 i43 i44 i45 i46 i47 i48 i49 i50 i51 i52 i53 i54 i55 i56 i57 i58 i59 i60 i61 i62 i63 i64 i65 i66 i67 i68 i69 i70 i71 i72 i73 i74 i75 i76 i77 i78 i79 i80 i81 i82 i83 i84 i85 i86 i87 i88 i89 i90 i91 i92 i93 i94 i95 i96 i97 i98 i99 i100 i101 i102 i103 i104 i105 i106 i107 i108 i109 i110 i111 i112 i113 : Int) (b0 : Bool) (s1 s3 : List UInt8) (x0 : List V) (o0 : Option Bool) (n0 k : Nat)
    (c0 : decide (i33 < (↑(List.drop (Int.toNat 1) x0).length : Int)) = true)
    (c1 : IdxP (List.drop (Int.toNat 1) x0) i33 n0 1 (V.str s3))
    (c2 : cP ((k + 36)) 63 [V.agg [vb i34, vb i35, vb i36, vb i37, vb i38, vb i39, vb i40, vb i41, vb i42, vb i43, vb i44, vb i45, vb i46, vb i47, vb i48, vb i49]] = some (V.agg [vb i50, vb i51, vb i52, vb i53, vb i54, vb i55, vb i56, vb i57, vb i58, vb i59, vb i60, vb i61, vb i62, vb i63, vb i64, vb i65]))
    (c3 : cP ((k + 36)) 64 [V.agg [vb i50, vb i51, vb i52, vb i53, vb i54, vb i55, vb i56, vb i57, vb i58, vb i59, vb i60, vb i61, vb i62, vb i63, vb i64, vb i65]] = some (V.agg [vb i66, vb i67, vb i68, vb i69, vb i70, vb i71, vb i72, vb i73, vb i74, vb i75, vb i76, vb i77, vb i78, vb i79, vb i80, vb i81]))
    (c4 : decide (i33 < wI ((↑x0.length : Int) - 2)) = true)
    (c5 : cP ((k + 36)) 65 [V.agg [vb i66, vb i67, vb i68, vb i69, vb i70, vb i71, vb i72, vb i73, vb i74, vb i75, vb i76, vb i77, vb i78, vb i79, vb i80, vb i81]] = some (V.agg [vb i82, vb i83, vb i84, vb i85, vb i86, vb i87, vb i88, vb i89, vb i90, vb i91, vb i92, vb i93, vb i94, vb i95, vb i96, vb i97]))
    (c6 : cP ((k + 36)) 62 [V.agg [vb i82, vb i83, vb i84, vb i85, vb i86, vb i87, vb i88, vb i89, vb i90, vb i91, vb i92, vb i93, vb i94, vb i95, vb i96, vb i97], V.str s3] = some (V.agg [vb i98, vb i99, vb i100, vb i101, vb i102, vb i103, vb i104, vb i105, vb i106, vb i107, vb i108, vb i109, vb i110, vb i111, vb i112, vb i113])) :
    eC k 36 96 61 (loopBody Tryz.f61 0) { tm := [(0, V.agg [vb i1, vb i2, vb i3, vb i4, vb i5, vb i6, vb i7, vb i8, vb i9, vb i10, vb i11, vb i12, vb i13, vb i14, vb i15, vb i16]), (1, V.ptr 28 0), (2, V.ptr 96 0), (3, V.ptr 97 0), (12, V.sl o0 b0 n0 (List.drop (Int.toNat 1) x0)), (13, vi (↑(List.drop (Int.toNat 1) x0).length : Int)), (14, vi i33)], hp := [(28, Ob.var [V.sl o0 b0 n0 x0]), (84, Ob.row false 1 (List.map (fun c => vb (bN c)) s1)), (96, Ob.var [vb i34, vb i35, vb i36, vb i37, vb i38, vb i39, vb i40, vb i41, vb i42, vb i43, vb i44, vb i45, vb i46, vb i47, vb i48, vb i49]), (97, Ob.var [vb 0, vb 0, vb 0, vb 0, vb 0, vb 0, vb 0, vb 0, vb 0, vb 0, vb 0, vb 0, vb 0, vb 0, vb 0, vb 0])], nx := 98 } = some (Exit.normal, { tm := [(0, V.agg [vb i1, vb i2, vb i3, vb i4, vb i5, vb i6, vb i7, vb i8, vb i9, vb i10, vb i11, vb i12, vb i13, vb i14, vb i15, vb i16]), (1, V.ptr 28 0), (2, V.ptr 96 0), (3, V.ptr 97 0), (4, vi i33), (5, V.str s3), (12, V.sl o0 b0 n0 (List.drop (Int.toNat 1) x0)), (13, vi (↑(List.drop (Int.toNat 1) x0).length : Int)), (14, vi (wI (i33 + 1))), (15, V.bool true), (26, V.bool true)], hp := [(28, Ob.var [V.sl o0 b0 n0 x0]), (84, Ob.row false 1 (List.map (fun c => vb (bN c)) s1)), (96, Ob.var [vb i98, vb i99, vb i100, vb i101, vb i102, vb i103, vb i104, vb i105, vb i106, vb i107, vb i108, vb i109, vb i110, vb i111, vb i112, vb i113]), (97, Ob.var [vb 0, vb 0, vb 0, vb 0, vb 0, vb 0, vb 0, vb 0, vb 0, vb 0, vb 0, vb 0, vb 0, vb 0, vb 0, vb 0])], nx := 194 }) :=
  byL (k := k) (d := 36) [Hn.br 15 true, Hn.op 17 ((V.str s3).cpt 0) [], Hn.call 20 (V.agg [vb i50, vb i51, vb i52, vb i53, vb i54, vb i55, vb i56, vb i57, vb i58, vb i59, vb i60, vb i61, vb i62, vb i63, vb i64, vb i65]), Hn.call 21 (V.agg [vb i66, vb i67, vb i68, vb i69, vb i70, vb i71, vb i72, vb i73, vb i74, vb i75, vb i76, vb i77, vb i78, vb i79, vb i80, vb i81]), Hn.br 26 true, Hn.call 28 (V.agg [vb i82, vb i83, vb i84, vb i85, vb i86, vb i87, vb i88, vb i89, vb i90, vb i91, vb i92, vb i93, vb i94, vb i95, vb i96, vb i97]), Hn.call 31 (V.agg [vb i98, vb i99, vb i100, vb i101, vb i102, vb i103, vb i104, vb i105, vb i106, vb i107, vb i108, vb i109, vb i110, vb i111, vb i112, vb i113])] (aI c0 (aI c1 (aI c2 (aI c3 (aI c4 (aI c5 (aI c6 trivial))))))) (by kernel_rfl)
theorem L46_0_b0h (i1 i2 i3 i4 i5 i6 i7 i8 i9 i10 i11 i12 i13 i14 i15 i16 i33 i98 i99 i100 i101 i102 i103 i104 i105 i106 i107 i108 i109 i110 i111 i112 i113 : Int) (b0 : Bool) (s1 s3 : List UInt8) (x0 : List V) (o0 : Option Bool) (n0 : Nat) : head 96 [0, 1, 2, 3, 12, 13, 14] (Tryz.cfg.fc 61).acc { tm := [(0, V.agg [vb i1, vb i2, vb i3, vb i4, vb i5, vb i6, vb i7, vb i8, vb i9, vb i10, vb i11, vb i12, vb i13, vb i14, vb i15, vb i16]), (1, V.ptr 28 0), (2, V.ptr 96 0), (3, V.ptr 97 0), (4, vi i33), (5, V.str s3), (12, V.sl o0 b0 n0 (List.drop (Int.toNat 1) x0)), (13, vi (↑(List.drop (Int.toNat 1) x0).length : Int)), (14, vi (wI (i33 + 1))), (15, V.bool true), (26, V.bool true)], hp := [(28, Ob.var [V.sl o0 b0 n0 x0]), (84, Ob.row false 1 (List.map (fun c => vb (bN c)) s1)), (96, Ob.var [vb i98, vb i99, vb i100, vb i101, vb i102, vb i103, vb i104, vb i105, vb i106, vb i107, vb i108, vb i109, vb i110, vb i111, vb i112, vb i113]), (97, Ob.var [vb 0, vb 0, vb 0, vb 0, vb 0, vb 0, vb 0, vb 0, vb 0, vb 0, vb 0, vb 0, vb 0, vb 0, vb 0, vb 0])], nx := 194 } = { tm := [(0, V.agg [vb i1, vb i2, vb i3, vb i4, vb i5, vb i6, vb i7, vb i8, vb i9, vb i10, vb i11, vb i12, vb i13, vb i14, vb i15, vb i16]), (1, V.ptr 28 0), (2, V.ptr 96 0), (3, V.ptr 97 0), (12, V.sl o0 b0 n0 (List.drop (Int.toNat 1) x0)), (13, vi (↑(List.drop (Int.toNat 1) x0).length : Int)), (14, vi (wI (i33 + 1)))], hp := [(28, Ob.var [V.sl o0 b0 n0 x0]), (84, Ob.row false 1 (List.map (fun c => vb (bN c)) s1)), (96, Ob.var [vb i98, vb i99, vb i100, vb i101, vb i102, vb i103, vb i104, vb i105, vb i106, vb i107, vb i108, vb i109, vb i110, vb i111, vb i112, vb i113]), (97, Ob.var [vb 0, vb 0, vb 0, vb 0, vb 0, vb 0, vb 0, vb 0, vb 0, vb 0, vb 0, vb 0, vb 0, vb 0, vb 0, vb 0])], nx := 98 } := by kernel_rfl
theorem L46_0_b1 (i1 i2 i3 i4 i5 i6 i7 i8 i9 i10 i11 i12 i13 i14 i15 i16 i33 i34 i35 i36 i37 i38 i39 i40 i41 i42 i43 i44 i45 i46 i47 i48 i49 i50 i51 i52 i53 i54 i55 i56 i57 i58 i59 i60 i61 i62 i63 i64 i65 i66 i67 i68 i69 i70 i71 i72 i73 i74 i75 i76 i77 i78 i79 i80 i81 i82 i83 i84 i85 i86 i87 i88 i89 i90 i91 i92 i93 i94 i95 i96 i97 : Int) (b0 : Bool) (s1 s3 : List UInt8) (x0 : List V) (o0 : Option Bool) (n0 k : Nat)
    (c0 : decide (i33 < (↑(List.drop (Int.toNat 1) x0).length : Int)) = true)
    (c1 : IdxP (List.drop (Int.toNat 1) x0) i33 n0 1 (V.str s3))
    (c2 : cP ((k + 36)) 63 [V.agg [vb i34, vb i35, vb i36, vb i37, vb i38, vb i39, vb i40, vb i41, vb i42, vb i43, vb i44, vb i45, vb i46, vb i47, vb i48, vb i49]] = some (V.agg [vb i50, vb i51, vb i52, vb i53, vb i54, vb i55, vb i56, vb i57, vb i58, vb i59, vb i60, vb i61, vb i62, vb i63, vb i64, vb i65]))
    (c3 : cP ((k + 36)) 64 [V.agg [vb i50, vb i51, vb i52, vb i53, vb i54, vb i55, vb i56, vb i57, vb i58, vb i59, vb i60, vb i61, vb i62, vb i63, vb i64, vb i65]] = some (V.agg [vb i66, vb i67, vb i68, vb i69, vb i70, vb i71, vb i72, vb i73, vb i74, vb i75, vb i76, vb i77, vb i78, vb i79, vb i80, vb i81]))
    (c4 : decide (i33 < wI ((↑x0.length : Int) - 2)) = false)
    (c5 : cP ((k + 36)) 62 [V.agg [vb i66, vb i67, vb i68, vb i69, vb i70, vb i71, vb i72, vb i73, vb i74, vb i75, vb i76, vb i77, vb i78, vb i79, vb i80, vb i81], V.str s3] = some (V.agg [vb i82, vb i83, vb i84, vb i85, vb i86, vb i87, vb i88, vb i89, vb i90, vb i91, vb i92, vb i93, vb i94, vb i95, vb i96, vb i97])) :
    eC k 36 96 61 (loopBody Tryz.f61 0) { tm := [(0, V.agg [vb i1, vb i2, vb i3, vb i4, vb i5, vb i6, vb i7, vb i8, vb i9, vb i10, vb i11, vb i12, vb i13, vb i14, vb i15, vb i16]), (1, V.ptr 28 0), (2, V.ptr 96 0), (3, V.ptr 97 0), (12, V.sl o0 b0 n0 (List.drop (Int.toNat 1) x0)), (13, vi (↑(List.drop (Int.toNat 1) x0).length : Int)), (14, vi i33)], hp := [(28, Ob.var [V.sl o0 b0 n0 x0]), (84, Ob.row false 1 (List.map (fun c => vb (bN c)) s1)), (96, Ob.var [vb i34, vb i35, vb i36, vb i37, vb i38, vb i39, vb i40, vb i41, vb i42, vb i43, vb i44, vb i45, vb i46, vb i47, vb i48, vb i49]), (97, Ob.var [vb 0, vb 0, vb 0, vb 0, vb 0, vb 0, vb 0, vb 0, vb 0, vb 0, vb 0, vb 0, vb 0, vb 0, vb 0, vb 0])], nx := 98 } = some (Exit.normal, { tm := [(0, V.agg [vb i1, vb i2, vb i3, vb i4, vb i5, vb i6, vb i7, vb i8, vb i9, vb i10, vb i11, vb i12, vb i13, vb i14, vb i15, vb i16]), (1, V.ptr 28 0), (2, V.ptr 96 0), (3, V.ptr 97 0), (4, vi i33), (5, V.str s3), (12, V.sl o0 b0 n0 (List.drop (Int.toNat 1) x0)), (13, vi (↑(List.drop (Int.toNat 1) x0).length : Int)), (14, vi (wI (i33 + 1))), (15, V.bool true), (26, V.bool false)], hp := [(28, Ob.var [V.sl o0 b0 n0 x0]), (84, Ob.row false 1 (List.map (fun c => vb (bN c)) s1)), (96, Ob.var [vb i82, vb i83, vb i84, vb i85, vb i86, vb i87, vb i88, vb i89, vb i90, vb i91, vb i92, vb i93, vb i94, vb i95, vb i96, vb i97]), (97, Ob.var [vb 0, vb 0, vb 0, vb 0, vb 0, vb 0, vb 0, vb 0, vb 0, vb 0, vb 0, vb 0, vb 0, vb 0, vb 0, vb 0])], nx := 182 }) :=
  byL (k := k) (d := 36) [Hn.br 15 true, Hn.op 17 ((V.str s3).cpt 0) [], Hn.call 20 (V.agg [vb i50, vb i51, vb i52, vb i53, vb i54, vb i55, vb i56, vb i57, vb i58, vb i59, vb i60, vb i61, vb i62, vb i63, vb i64, vb i65]), Hn.call 21 (V.agg [vb i66, vb i67, vb i68, vb i69, vb i70, vb i71, vb i72, vb i73, vb i74, vb i75, vb i76, vb i77, vb i78, vb i79, vb i80, vb i81]), Hn.br 26 false, Hn.call 31 (V.agg [vb i82, vb i83, vb i84, vb i85, vb i86, vb i87, vb i88, vb i89, vb i90, vb i91, vb i92, vb i93, vb i94, vb i95, vb i96, vb i97])] (aI c0 (aI c1 (aI c2 (aI c3 (aI c4 (aI c5 trivial)))))) (by kernel_rfl)
theorem L46_0_b1h (i1 i2 i3 i4 i5 i6 i7 i8 i9 i10 i11 i12 i13 i14 i15 i16 i33 i82 i83 i84 i85 i86 i87 i88 i89 i90 i91 i92 i93 i94 i95 i96 i97 : Int) (b0 : Bool) (s1 s3 : List UInt8) (x0 : List V) (o0 : Option Bool) (n0 : Nat) : head 96 [0, 1, 2, 3, 12, 13, 14] (Tryz.cfg.fc 61).acc { tm := [(0, V.agg [vb i1, vb i2, vb i3, vb i4, vb i5, vb i6, vb i7, vb i8, vb i9, vb i10, vb i11, vb i12, vb i13, vb i14, vb i15, vb i16]), (1, V.ptr 28 0), (2, V.ptr 96 0), (3, V.ptr 97 0), (4, vi i33), (5, V.str s3), (12, V.sl o0 b0 n0 (List.drop (Int.toNat 1) x0)), (13, vi (↑(List.drop (Int.toNat 1) x0).length : Int)), (14, vi (wI (i33 + 1))), (15, V.bool true), (26, V.bool false)], hp := [(28, Ob.var [V.sl o0 b0 n0 x0]), (84, Ob.row false 1 (List.map (fun c => vb (bN c)) s1)), (96, Ob.var [vb i82, vb i83, vb i84, vb i85, vb i86, vb i87, vb i88, vb i89, vb i90, vb i91, vb i92, vb i93, vb i94, vb i95, vb i96, vb i97]), (97, Ob.var [vb 0, vb 0, vb 0, vb 0, vb 0, vb 0, vb 0, vb 0, vb 0, vb 0, vb 0, vb 0, vb 0, vb 0, vb 0, vb 0])], nx := 182 } = { tm := [(0, V.agg [vb i1, vb i2, vb i3, vb i4, vb i5, vb i6, vb i7, vb i8, vb i9, vb i10, vb i11, vb i12, vb i13, vb i14, vb i15, vb i16]), (1, V.ptr 28 0), (2, V.ptr 96 0), (3, V.ptr 97 0), (12, V.sl o0 b0 n0 (List.drop (Int.toNat 1) x0)), (13, vi (↑(List.drop (Int.toNat 1) x0).length : Int)), (14, vi (wI (i33 + 1)))], hp := [(28, Ob.var [V.sl o0 b0 n0 x0]), (84, Ob.row false 1 (List.map (fun c => vb (bN c)) s1)), (96, Ob.var [vb i82, vb i83, vb i84, vb i85, vb i86, vb i87, vb i88, vb i89, vb i90, vb i91, vb i92, vb i93, vb i94, vb i95, vb i96, vb i97]), (97, Ob.var [vb 0, vb 0, vb 0, vb 0, vb 0, vb 0, vb 0, vb 0, vb 0, vb 0, vb 0, vb 0, vb 0, vb 0, vb 0, vb 0])], nx := 98 } := by kernel_rfl
theorem L46_0_b2 (i1 i2 i3 i4 i5 i6 i7 i8 i9 i10 i11 i12 i13 i14 i15 i16 i33 i34 i35 i36 i37 i38 i39 i40 i41 i42 i43 i44 i45 i46 i47 i48 i49 : Int) (b0 : Bool) (s1 : List UInt8) (x0 : List V) (o0 : Option Bool) (n0 k : Nat)
    (c0 : decide (i33 < (↑(List.drop (Int.toNat 1) x0).length : Int)) = false) :
    eC k 36 96 61 (loopBody Tryz.f61 0) { tm := [(0, V.agg [vb i1, vb i2, vb i3, vb i4, vb i5, vb i6, vb i7, vb i8, vb i9, vb i10, vb i11, vb i12, vb i13, vb i14, vb i15, vb i16]), (1, V.ptr 28 0), (2, V.ptr 96 0), (3, V.ptr 97 0), (12, V.sl o0 b0 n0 (List.drop (Int.toNat 1) x0)), (13, vi (↑(List.drop (Int.toNat 1) x0).length : Int)), (14, vi i33)], hp := [(28, Ob.var [V.sl o0 b0 n0 x0]), (84, Ob.row false 1 (List.map (fun c => vb (bN c)) s1)), (96, Ob.var [vb i34, vb i35, vb i36, vb i37, vb i38, vb i39, vb i40, vb i41, vb i42, vb i43, vb i44, vb i45, vb i46, vb i47, vb i48, vb i49]), (97, Ob.var [vb 0, vb 0, vb 0, vb 0, vb 0, vb 0, vb 0, vb 0, vb 0, vb 0, vb 0, vb 0, vb 0, vb 0, vb 0, vb 0])], nx := 98 } = some (Exit.exit 0, { tm := [(0, V.agg [vb i1, vb i2, vb i3, vb i4, vb i5, vb i6, vb i7, vb i8, vb i9, vb i10, vb i11, vb i12, vb i13, vb i14, vb i15, vb i16]), (1, V.ptr 28 0), (2, V.ptr 96 0), (3, V.ptr 97 0), (12, V.sl o0 b0 n0 (List.drop (Int.toNat 1) x0)), (13, vi (↑(List.drop (Int.toNat 1) x0).length : Int)), (14, vi i33), (15, V.bool false)], hp := [(28, Ob.var [V.sl o0 b0 n0 x0]), (84, Ob.row false 1 (List.map (fun c => vb (bN c)) s1)), (96, Ob.var [vb i34, vb i35, vb i36, vb i37, vb i38, vb i39, vb i40, vb i41, vb i42, vb i43, vb i44, vb i45, vb i46, vb i47, vb i48, vb i49]), (97, Ob.var [vb 0, vb 0, vb 0, vb 0, vb 0, vb 0, vb 0, vb 0, vb 0, vb 0, vb 0, vb 0, vb 0, vb 0, vb 0, vb 0])], nx := 102 }) :=
  byL (k := k) (d := 36) [Hn.br 15 false] (aI c0 trivial) (by kernel_rfl)
inductive L46_0_R where
  | e0 (i33 : Int) (i34 : Int) (i35 : Int) (i36 : Int) (i37 : Int) (i38 : Int) (i39 : Int) (i40 : Int) (i41 : Int) (i42 : Int) (i43 : Int) (i44 : Int) (i45 : Int) (i46 : Int) (i47 : Int) (i48 : Int) (i49 : Int)
noncomputable def L46_0_end (i1 : Int) (i2 : Int) (i3 : Int) (i4 : Int) (i5 : Int) (i6 : Int) (i7 : Int) (i8 : Int) (i9 : Int) (i10 : Int) (i11 : Int) (i12 : Int) (i13 : Int) (i14 : Int) (i15 : Int) (i16 : Int) (b0 : Bool) (s1 : List UInt8) (x0 : List V) (o0 : Option Bool) (n0 : Nat) : L46_0_R → Exit × St
  | .e0 i33 i34 i35 i36 i37 i38 i39 i40 i41 i42 i43 i44 i45 i46 i47 i48 i49 => (Exit.exit 0, { tm := [(0, V.agg [V.int .u8 i1, V.int .u8 i2, V.int .u8 i3, V.int .u8 i4, V.int .u8 i5, V.int .u8 i6, V.int .u8 i7, V.int .u8 i8, V.int .u8 i9, V.int .u8 i10, V.int .u8 i11, V.int .u8 i12, V.int .u8 i13, V.int .u8 i14, V.int .u8 i15, V.int .u8 i16]), (1, V.ptr 28 0), (2, V.ptr 96 0), (3, V.ptr 97 0), (12, V.sl o0 b0 n0 (List.drop (Int.toNat 1) x0)), (13, V.int .i64 (↑(List.drop (Int.toNat 1) x0).length : Int)), (14, V.int .i64 i33), (15, V.bool false)], hp := [(28, Ob.var [V.sl o0 b0 n0 x0]), (84, Ob.row false 1 (List.map (fun c => V.int .u8 (↑c.toNat : Int)) s1)), (96, Ob.var [V.int .u8 i34, V.int .u8 i35, V.int .u8 i36, V.int .u8 i37, V.int .u8 i38, V.int .u8 i39, V.int .u8 i40, V.int .u8 i41, V.int .u8 i42, V.int .u8 i43, V.int .u8 i44, V.int .u8 i45, V.int .u8 i46, V.int .u8 i47, V.int .u8 i48, V.int .u8 i49]), (97, Ob.var [V.int .u8 0, V.int .u8 0, V.int .u8 0, V.int .u8 0, V.int .u8 0, V.int .u8 0, V.int .u8 0, V.int .u8 0, V.int .u8 0, V.int .u8 0, V.int .u8 0, V.int .u8 0, V.int .u8 0, V.int .u8 0, V.int .u8 0, V.int .u8 0])], nx := 102 })
def L46_0 (k : Nat) (i1 i2 i3 i4 i5 i6 i7 i8 i9 i10 i11 i12 i13 i14 i15 i16 : Int) (b0 : Bool) (s1 : List UInt8) (x0 : List V) (o0 : Option Bool) (n0 : Nat) : Nat → Int → Int → Int → Int → Int → Int → Int → Int → Int → Int → Int → Int → Int → Int → Int → Int → Int → Option L46_0_R
  | 0, _, _, _, _, _, _, _, _, _, _, _, _, _, _, _, _, _ => none
  | f + 1, i33, i34, i35, i36, i37, i38, i39, i40, i41, i42, i43, i44, i45, i46, i47, i48, i49 => (bif decide (i33 < (↑(List.drop (Int.toNat 1) x0).length : Int)) then (guardP (n0 = (1 : Nat)) (((at? (List.drop (Int.toNat 1) x0) (i33)).bind dS).bind fun s3 => ((F63 (k + 1) (i34) (i35) (i36) (i37) (i38) (i39) (i40) (i41) (i42) (i43) (i44) (i45) (i46) (i47) (i48) (i49)).bind fun (i50, i51, i52, i53, i54, i55, i56, i57, i58, i59, i60, i61, i62, i63, i64, i65) => ((F64 (k + 16) (i50) (i51) (i52) (i53) (i54) (i55) (i56) (i57) (i58) (i59) (i60) (i61) (i62) (i63) (i64) (i65)).bind fun (i66, i67, i68, i69, i70, i71, i72, i73, i74, i75, i76, i77, i78, i79, i80, i81) => (bif decide (i33 < IntKind.i64.wrap ((↑x0.length : Int) - 2)) then ((F65 (k + 10) (i66) (i67) (i68) (i69) (i70) (i71) (i72) (i73) (i74) (i75) (i76) (i77) (i78) (i79) (i80) (i81)).bind fun (i82, i83, i84, i85, i86, i87, i88, i89, i90, i91, i92, i93, i94, i95, i96, i97) => ((F62 (k + 16) (i82) (i83) (i84) (i85) (i86) (i87) (i88) (i89) (i90) (i91) (i92) (i93) (i94) (i95) (i96) (i97) (s3)).bind fun (i98, i99, i100, i101, i102, i103, i104, i105, i106, i107, i108, i109, i110, i111, i112, i113) => (L46_0 k i1 i2 i3 i4 i5 i6 i7 i8 i9 i10 i11 i12 i13 i14 i15 i16 b0 s1 x0 o0 n0 f (IntKind.i64.wrap (i33 + 1)) (i98) (i99) (i100) (i101) (i102) (i103) (i104) (i105) (i106) (i107) (i108) (i109) (i110) (i111) (i112) (i113)))) else ((F62 (k + 16) (i66) (i67) (i68) (i69) (i70) (i71) (i72) (i73) (i74) (i75) (i76) (i77) (i78) (i79) (i80) (i81) (s3)).bind fun (i82, i83, i84, i85, i86, i87, i88, i89, i90, i91, i92, i93, i94, i95, i96, i97) => (L46_0 k i1 i2 i3 i4 i5 i6 i7 i8 i9 i10 i11 i12 i13 i14 i15 i16 b0 s1 x0 o0 n0 f (IntKind.i64.wrap (i33 + 1)) (i82) (i83) (i84) (i85) (i86) (i87) (i88) (i89) (i90) (i91) (i92) (i93) (i94) (i95) (i96) (i97)))))))) else (some (L46_0_R.e0 i33 i34 i35 i36 i37 i38 i39 i40 i41 i42 i43 i44 i45 i46 i47 i48 i49)))
theorem L46_0_ok {i1 i2 i3 i4 i5 i6 i7 i8 i9 i10 i11 i12 i13 i14 i15 i16 : Int} {b0 : Bool} {s1 : List UInt8} {x0 : List V} {o0 : Option Bool} {n0 k : Nat} : ∀ {f : Nat} {i33 : Int} {i34 : Int} {i35 : Int} {i36 : Int} {i37 : Int} {i38 : Int} {i39 : Int} {i40 : Int} {i41 : Int} {i42 : Int} {i43 : Int} {i44 : Int} {i45 : Int} {i46 : Int} {i47 : Int} {i48 : Int} {i49 : Int} {r : L46_0_R}, L46_0 k i1 i2 i3 i4 i5 i6 i7 i8 i9 i10 i11 i12 i13 i14 i15 i16 b0 s1 x0 o0 n0 f i33 i34 i35 i36 i37 i38 i39 i40 i41 i42 i43 i44 i45 i46 i47 i48 i49 = some r →
    LoopsN Tryz.prog Tryz.cfg (k + 36) 96 Tryz.f61 (Tryz.cfg.fc 61) 0 [0, 1, 2, 3, 12, 13, 14] f { tm := [(0, V.agg [vb i1, vb i2, vb i3, vb i4, vb i5, vb i6, vb i7, vb i8, vb i9, vb i10, vb i11, vb i12, vb i13, vb i14, vb i15, vb i16]), (1, V.ptr 28 0), (2, V.ptr 96 0), (3, V.ptr 97 0), (12, V.sl o0 b0 n0 (List.drop (Int.toNat 1) x0)), (13, vi (↑(List.drop (Int.toNat 1) x0).length : Int)), (14, vi i33)], hp := [(28, Ob.var [V.sl o0 b0 n0 x0]), (84, Ob.row false 1 (List.map (fun c => vb (bN c)) s1)), (96, Ob.var [vb i34, vb i35, vb i36, vb i37, vb i38, vb i39, vb i40, vb i41, vb i42, vb i43, vb i44, vb i45, vb i46, vb i47, vb i48, vb i49]), (97, Ob.var [vb 0, vb 0, vb 0, vb 0, vb 0, vb 0, vb 0, vb 0, vb 0, vb 0, vb 0, vb 0, vb 0, vb 0, vb 0, vb 0])], nx := 98 } (L46_0_end i1 i2 i3 i4 i5 i6 i7 i8 i9 i10 i11 i12 i13 i14 i15 i16 b0 s1 x0 o0 n0 r) := by
  intro f
  induction f with
  | zero => intro i33 i34 i35 i36 i37 i38 i39 i40 i41 i42 i43 i44 i45 i46 i47 i48 i49 r h; cases h
  | succ f ih =>
    intro i33 i34 i35 i36 i37 i38 i39 i40 i41 i42 i43 i44 i45 i46 i47 i48 i49 r h
    rw [L46_0] at h
    rcases cond_elim h with ⟨e0, h⟩ | ⟨e0, h⟩
    ·
      obtain ⟨e1, h⟩ := guardP_some.1 h
      obtain ⟨s3, e2, h⟩ := bE h
      obtain ⟨⟨i50, i51, i52, i53, i54, i55, i56, i57, i58, i59, i60, i61, i62, i63, i64, i65⟩, e3, h⟩ := bE h
      obtain ⟨⟨i66, i67, i68, i69, i70, i71, i72, i73, i74, i75, i76, i77, i78, i79, i80, i81⟩, e4, h⟩ := bE h
      rcases cond_elim h with ⟨e5, h⟩ | ⟨e5, h⟩
      ·
        obtain ⟨⟨i82, i83, i84, i85, i86, i87, i88, i89, i90, i91, i92, i93, i94, i95, i96, i97⟩, e6, h⟩ := bE h
        obtain ⟨⟨i98, i99, i100, i101, i102, i103, i104, i105, i106, i107, i108, i109, i110, i111, i112, i113⟩, e7, h⟩ := bE h
        exact LoopsN.next (L46_0_b0 i1 i2 i3 i4 i5 i6 i7 i8 i9 i10 i11 i12 i13 i14 i15 i16 i33 i34 i35 i36 i37 i38 i39 i40 i41 i42 i43 i44 i45 i46 i47 i48 i49 i50 i51 i52 i53 i54 i55 i56 i57 i58 i59 i60 i61 i62 i63 i64 i65 i66 i67 i68 i69 i70 i71 i72 i73 i74 i75 i76 i77 i78 i79 i80 i81 i82 i83 i84 i85 i86 i87 i88 i89 i90 i91 i92 i93 i94 i95 i96 i97 i98 i99 i100 i101 i102 i103 i104 i105 i106 i107 i108 i109 i110 i111 i112 i113 b0 s1 s3 x0 o0 n0 k e0 (IdxP.of_at' (at_d dS_ok e2 :) e1) (F63_ok e3) (F64_ok e4) e5 (F65_ok e6) (F62_ok e7)) (L46_0_b0h i1 i2 i3 i4 i5 i6 i7 i8 i9 i10 i11 i12 i13 i14 i15 i16 i33 i98 i99 i100 i101 i102 i103 i104 i105 i106 i107 i108 i109 i110 i111 i112 i113 b0 s1 s3 x0 o0 n0) (ih h)
      ·
        obtain ⟨⟨i82, i83, i84, i85, i86, i87, i88, i89, i90, i91, i92, i93, i94, i95, i96, i97⟩, e6, h⟩ := bE h
        exact LoopsN.next (L46_0_b1 i1 i2 i3 i4 i5 i6 i7 i8 i9 i10 i11 i12 i13 i14 i15 i16 i33 i34 i35 i36 i37 i38 i39 i40 i41 i42 i43 i44 i45 i46 i47 i48 i49 i50 i51 i52 i53 i54 i55 i56 i57 i58 i59 i60 i61 i62 i63 i64 i65 i66 i67 i68 i69 i70 i71 i72 i73 i74 i75 i76 i77 i78 i79 i80 i81 i82 i83 i84 i85 i86 i87 i88 i89 i90 i91 i92 i93 i94 i95 i96 i97 b0 s1 s3 x0 o0 n0 k e0 (IdxP.of_at' (at_d dS_ok e2 :) e1) (F63_ok e3) (F64_ok e4) e5 (F62_ok e6)) (L46_0_b1h i1 i2 i3 i4 i5 i6 i7 i8 i9 i10 i11 i12 i13 i14 i15 i16 i33 i82 i83 i84 i85 i86 i87 i88 i89 i90 i91 i92 i93 i94 i95 i96 i97 b0 s1 s3 x0 o0 n0) (ih h)
    ·
      cases h; exact LoopsN.done (L46_0_b2 i1 i2 i3 i4 i5 i6 i7 i8 i9 i10 i11 i12 i13 i14 i15 i16 i33 i34 i35 i36 i37 i38 i39 i40 i41 i42 i43 i44 i45 i46 i47 i48 i49 b0 s1 x0 o0 n0 k e0) (fun h => by cases h)
theorem P46_0 (i0 : Int) (b0 : Bool) (s0 s1 : List UInt8) (x0 : List V) (o0 : Option Bool) (n0 k : Nat)
    (c0 : cP ((k + 38)) 59 [V.str s0] = some (V.tup [V.sl o0 b0 n0 x0, vi i0]))
    (c1 : (!decide (i0 = 0)) = true) :
    cP ((k + 39)) 46 [V.str s0, V.str s1] = some (V.tup [V.str [], vi i0]) :=
  byF (k := k) (d := 39) [Hn.call 10 (V.tup [V.sl o0 b0 n0 x0, vi i0]), Hn.br 14 true] (aI c0 (aI c1 trivial)) (by kernel_rfl)
theorem P46_1 (i0 : Int) (b0 : Bool) (s0 s1 : List UInt8) (x0 : List V) (o0 : Option Bool) (n0 k : Nat)
    (c0 : cP ((k + 38)) 59 [V.str s0] = some (V.tup [V.sl o0 b0 n0 x0, vi i0]))
    (c1 : (!decide (i0 = 0)) = false)
    (c2 : (!decide ((↑s1.length : Int) = 16)) = true) :
    cP ((k + 39)) 46 [V.str s0, V.str s1] = some (V.tup [V.str [], vi 4]) :=
  byF (k := k) (d := 39) [Hn.call 10 (V.tup [V.sl o0 b0 n0 x0, vi i0]), Hn.br 14 false, Hn.enter, Hn.br 9 true] (aI c0 (aI c1 (aI c2 trivial))) (by kernel_rfl)
theorem P46_2 (i0 i1 i2 i3 i4 i5 i6 i7 i8 i9 i10 i11 i12 i13 i14 i15 i16 i17 i18 i19 i20 i21 i22 i23 i24 i25 i26 i27 i28 i29 i30 i31 i32 i33 i34 i35 i36 i37 i38 i39 i40 i41 i42 i43 i44 i45 i46 i47 i48 i49 : Int) (b0 : Bool) (s0 s1 s2 : List UInt8) (x0 : List V) (o0 : Option Bool) (n0 k : Nat)
    (c0 : cP ((k + 38)) 59 [V.str s0] = some (V.tup [V.sl o0 b0 n0 x0, vi i0]))
    (c1 : (!decide (i0 = 0)) = false)
    (c2 : (!decide ((↑s1.length : Int) = 16)) = false)
    (c3 : GrdW (s1.length ≤ maxLen' ∧ (1 : Nat) = (1 : Nat)) (V.ref (84 : Nat)) [((84 : Nat), Ob.row false (1 : Nat) (List.map (fun c => vb (bN c)) s1))])
    (c4 : ArrP 16 (List.map (fun c => vb (bN c)) s1).length (V.ept 84 0 0))
    (c5 : LdA Tryz.prog 98 1 (List.map (fun c => vb (bN c)) s1) 0 (V.agg [vb i1, vb i2, vb i3, vb i4, vb i5, vb i6, vb i7, vb i8, vb i9, vb i10, vb i11, vb i12, vb i13, vb i14, vb i15, vb i16]))
    (c6 : IdxP x0 0 n0 1 (V.str s2))
    (c7 : cP ((k + 36)) 62 [V.agg [vb i1, vb i2, vb i3, vb i4, vb i5, vb i6, vb i7, vb i8, vb i9, vb i10, vb i11, vb i12, vb i13, vb i14, vb i15, vb i16], V.str s2] = some (V.agg [vb i17, vb i18, vb i19, vb i20, vb i21, vb i22, vb i23, vb i24, vb i25, vb i26, vb i27, vb i28, vb i29, vb i30, vb i31, vb i32]))
    (c8 : SlcP true 1 (V.sl o0 b0 n0 x0) (some (vi 1)) none none (V.sl o0 b0 n0 (List.drop (Int.toNat 1) x0)))
    (c9 : LoopsN Tryz.prog Tryz.cfg (k + 36) 96 Tryz.f61 (Tryz.cfg.fc 61) 0 [0, 1, 2, 3, 12, 13, 14] (k + 36) { tm := [(0, V.agg [vb i1, vb i2, vb i3, vb i4, vb i5, vb i6, vb i7, vb i8, vb i9, vb i10, vb i11, vb i12, vb i13, vb i14, vb i15, vb i16]), (1, V.ptr 28 0), (2, V.ptr 96 0), (3, V.ptr 97 0), (12, V.sl o0 b0 n0 (List.drop (Int.toNat 1) x0)), (13, vi (↑(List.drop (Int.toNat 1) x0).length : Int)), (14, vi 0)], hp := [(28, Ob.var [V.sl o0 b0 n0 x0]), (84, Ob.row false 1 (List.map (fun c => vb (bN c)) s1)), (96, Ob.var [vb i17, vb i18, vb i19, vb i20, vb i21, vb i22, vb i23, vb i24, vb i25, vb i26, vb i27, vb i28, vb i29, vb i30, vb i31, vb i32]), (97, Ob.var [vb 0, vb 0, vb 0, vb 0, vb 0, vb 0, vb 0, vb 0, vb 0, vb 0, vb 0, vb 0, vb 0, vb 0, vb 0, vb 0])], nx := 98 } (Exit.exit 0, { tm := [(0, V.agg [vb i1, vb i2, vb i3, vb i4, vb i5, vb i6, vb i7, vb i8, vb i9, vb i10, vb i11, vb i12, vb i13, vb i14, vb i15, vb i16]), (1, V.ptr 28 0), (2, V.ptr 96 0), (3, V.ptr 97 0), (12, V.sl o0 b0 n0 (List.drop (Int.toNat 1) x0)), (13, vi (↑(List.drop (Int.toNat 1) x0).length : Int)), (14, vi i33), (15, V.bool false)], hp := [(28, Ob.var [V.sl o0 b0 n0 x0]), (84, Ob.row false 1 (List.map (fun c => vb (bN c)) s1)), (96, Ob.var [vb i34, vb i35, vb i36, vb i37, vb i38, vb i39, vb i40, vb i41, vb i42, vb i43, vb i44, vb i45, vb i46, vb i47, vb i48, vb i49]), (97, Ob.var [vb 0, vb 0, vb 0, vb 0, vb 0, vb 0, vb 0, vb 0, vb 0, vb 0, vb 0, vb 0, vb 0, vb 0, vb 0, vb 0])], nx := 102 })) :
    cP ((k + 39)) 46 [V.str s0, V.str s1] = some (V.tup [V.str (List.map Sym.byteOf (1, List.take 16 (List.drop 0 [vb i34, vb i35, vb i36, vb i37, vb i38, vb i39, vb i40, vb i41, vb i42, vb i43, vb i44, vb i45, vb i46, vb i47, vb i48, vb i49])).snd), vi 0]) :=
  byF (k := k) (d := 39) [Hn.call 10 (V.tup [V.sl o0 b0 n0 x0, vi i0]), Hn.br 14 false, Hn.enter, Hn.br 9 false, Hn.op 12 (V.ref 84) [(84, Ob.row false 1 (List.map (fun c => vb (bN c)) s1))], Hn.op 13 (V.ept 84 0 0) [], Hn.op 14 (V.agg [vb i1, vb i2, vb i3, vb i4, vb i5, vb i6, vb i7, vb i8, vb i9, vb i10, vb i11, vb i12, vb i13, vb i14, vb i15, vb i16]) [], Hn.enter, Hn.op 8 ((V.str s2).cpt 0) [], Hn.call 10 (V.agg [vb i17, vb i18, vb i19, vb i20, vb i21, vb i22, vb i23, vb i24, vb i25, vb i26, vb i27, vb i28, vb i29, vb i30, vb i31, vb i32]), Hn.op 12 (V.sl o0 b0 n0 (List.drop (Int.toNat 1) x0)) [], Hn.loop (Exit.exit 0, { tm := [(0, V.agg [vb i1, vb i2, vb i3, vb i4, vb i5, vb i6, vb i7, vb i8, vb i9, vb i10, vb i11, vb i12, vb i13, vb i14, vb i15, vb i16]), (1, V.ptr 28 0), (2, V.ptr 96 0), (3, V.ptr 97 0), (12, V.sl o0 b0 n0 (List.drop (Int.toNat 1) x0)), (13, vi (↑(List.drop (Int.toNat 1) x0).length : Int)), (14, vi i33), (15, V.bool false)], hp := [(28, Ob.var [V.sl o0 b0 n0 x0]), (84, Ob.row false 1 (List.map (fun c => vb (bN c)) s1)), (96, Ob.var [vb i34, vb i35, vb i36, vb i37, vb i38, vb i39, vb i40, vb i41, vb i42, vb i43, vb i44, vb i45, vb i46, vb i47, vb i48, vb i49]), (97, Ob.var [vb 0, vb 0, vb 0, vb 0, vb 0, vb 0, vb 0, vb 0, vb 0, vb 0, vb 0, vb 0, vb 0, vb 0, vb 0, vb 0])], nx := 102 })] (aI c0 (aI c1 (aI c2 (aI c3 (aI c4 (aI c5 (aI c6 (aI c7 (aI c8 (aI c9 trivial)))))))))) (by kernel_rfl)
def F46 (k : Nat) (s0 s1 : List UInt8) : Option (List UInt8 × Int) :=
  ((F59 (k + 20) (s0)).bind fun (o0, b0, n0, x0, i0) => (bif !decide (i0 = 0) then (some (([]), (i0))) else (bif !decide ((↑s1.length : Int) = 16) then (some (([]), (4))) else (guardP (s1.length ≤ maxLen') (guardP ((16 : Nat) ≤ (List.map (fun c => V.int .u8 (↑c.toNat : Int)) s1).length) (((arr? (List.map (fun c => V.int .u8 (↑c.toNat : Int)) s1) (0) 16).bind dAu8u8u8u8u8u8u8u8u8u8u8u8u8u8u8u8Z).bind fun (i1, i2, i3, i4, i5, i6, i7, i8, i9, i10, i11, i12, i13, i14, i15, i16) => (guardP (n0 = (1 : Nat)) (((at? (x0) (0)).bind dS).bind fun s2 => ((F62 (k + 16) (i1) (i2) (i3) (i4) (i5) (i6) (i7) (i8) (i9) (i10) (i11) (i12) (i13) (i14) (i15) (i16) (s2)).bind fun (i17, i18, i19, i20, i21, i22, i23, i24, i25, i26, i27, i28, i29, i30, i31, i32) => (guardP ((0 : Int) ≤ (1 : Int) ∧ (1 : Int) ≤ (↑x0.length : Int)) ((L46_0 k i1 i2 i3 i4 i5 i6 i7 i8 i9 i10 i11 i12 i13 i14 i15 i16 b0 s1 x0 o0 n0 (k + 36) (0) (i17) (i18) (i19) (i20) (i21) (i22) (i23) (i24) (i25) (i26) (i27) (i28) (i29) (i30) (i31) (i32)).bind fun
    | L46_0_R.e0 i33 i34 i35 i36 i37 i38 i39 i40 i41 i42 i43 i44 i45 i46 i47 i48 i49 => (some ((List.map Sym.byteOf (1, List.take 16 (List.drop 0 [V.int .u8 i34, V.int .u8 i35, V.int .u8 i36, V.int .u8 i37, V.int .u8 i38, V.int .u8 i39, V.int .u8 i40, V.int .u8 i41, V.int .u8 i42, V.int .u8 i43, V.int .u8 i44, V.int .u8 i45, V.int .u8 i46, V.int .u8 i47, V.int .u8 i48, V.int .u8 i49])).snd), (0))))))))))))))
theorem F46_ok {s0 s1 : List UInt8} {k : Nat} {r : List UInt8 × Int} (h : F46 k s0 s1 = some r) :
    cP ((k + 39)) 46 [V.str s0, V.str s1] = some (V.tup [V.str r.1, vi r.2]) := by
  unfold F46 at h
  obtain ⟨⟨o0, b0, n0, x0, i0⟩, e0, h⟩ := bE h
  rcases cond_elim h with ⟨e1, h⟩ | ⟨e1, h⟩
  ·
    have h := Option.some.inj h; subst h; exact P46_0 i0 b0 s0 s1 x0 o0 n0 k (F59_ok e0) e1
  ·
    rcases cond_elim h with ⟨e2, h⟩ | ⟨e2, h⟩
    ·
      have h := Option.some.inj h; subst h; exact P46_1 i0 b0 s0 s1 x0 o0 n0 k (F59_ok e0) e1 e2
    ·
      obtain ⟨e3, h⟩ := guardP_some.1 h
      obtain ⟨e4, h⟩ := guardP_some.1 h
      obtain ⟨⟨i1, i2, i3, i4, i5, i6, i7, i8, i9, i10, i11, i12, i13, i14, i15, i16⟩, e5, h⟩ := bE h
      obtain ⟨e6, h⟩ := guardP_some.1 h
      obtain ⟨s2, e7, h⟩ := bE h
      obtain ⟨⟨i17, i18, i19, i20, i21, i22, i23, i24, i25, i26, i27, i28, i29, i30, i31, i32⟩, e8, h⟩ := bE h
      obtain ⟨e9, h⟩ := guardP_some.1 h
      obtain ⟨ee, e10, h⟩ := bE h
      cases ee with
      | e0 i33 i34 i35 i36 i37 i38 i39 i40 i41 i42 i43 i44 i45 i46 i47 i48 i49 =>
        have h := Option.some.inj h; subst h; exact P46_2 i0 i1 i2 i3 i4 i5 i6 i7 i8 i9 i10 i11 i12 i13 i14 i15 i16 i17 i18 i19 i20 i21 i22 i23 i24 i25 i26 i27 i28 i29 i30 i31 i32 i33 i34 i35 i36 i37 i38 i39 i40 i41 i42 i43 i44 i45 i46 i47 i48 i49 b0 s0 s1 s2 x0 o0 n0 k (F59_ok e0) e1 e2 (GrdW.mk ⟨e3, rfl⟩) (ArrP.mk e4) (LdA.mk (arr_d dAu8u8u8u8u8u8u8u8u8u8u8u8u8u8u8u8Z_ok e5 :) (by decide +kernel) rfl (by decide) (by kernel_rfl)) (IdxP.of_at' (at_d dS_ok e7 :) e6) (F62_ok e8) (SlcP.fromS e9 e6) (L46_0_ok e10)
end Go.Proofs
set_option linter.unusedVariables false
set_option maxHeartbeats 0
set_option maxRecDepth 100000
namespace Go.Proofs
open Go Go.Sym
theorem L95_0_b0 (i0 i1 i2 : Int) (s0 : List UInt8) (k : Nat)
    (c0 : decide (i1 < (↑(List.map (fun c => vb (bN c)) (List.take (Int.toNat 8) s0)).length : Int)) = true)
    (c1 : IdxR (List.map (fun c => vb (bN c)) (List.take (Int.toNat 8) s0)).length i1 1 1 (V.ept 0 i1.toNat 0))
    (c2 : LdP Tryz.prog 5 (List.map (fun c => vb (bN c)) (List.take (Int.toNat 8) s0)) i1.toNat 0 (vb i2)) :
    eC k 2 0 95 (loopBody Tryz.f95 0) { tm := [(0, V.str s0), (2, vu 0), (3, vu i0), (8, V.ref 0), (9, vi (↑(List.map (fun c => vb (bN c)) (List.take (Int.toNat 8) s0)).length : Int)), (10, vi i1)], hp := [(0, Ob.row false 1 (List.map (fun c => vb (bN c)) (List.take (Int.toNat 8) s0)))], nx := 1 } = some (Exit.normal, { tm := [(0, V.str s0), (2, vu 0), (3, vu (wU (↑(BitVec.ofInt IntKind.u64.bits (wU (i0 * 2 ^ min (Int.toNat 8) IntKind.u64.bits)) ||| BitVec.ofInt IntKind.u64.bits (wU i2)).toNat : Int))), (5, vb i2), (8, V.ref 0), (9, vi (↑(List.map (fun c => vb (bN c)) (List.take (Int.toNat 8) s0)).length : Int)), (10, vi (wI (i1 + 1))), (11, V.bool true)], hp := [(0, Ob.row false 1 (List.map (fun c => vb (bN c)) (List.take (Int.toNat 8) s0)))], nx := 49 }) :=
  byL (k := k) (d := 2) [Hn.br 11 true, Hn.op 12 (V.ept 0 i1.toNat 0) [], Hn.op 13 (vb i2) []] (aI c0 (aI c1 (aI c2 trivial))) (by kernel_rfl)
theorem L95_0_b0h (i0 i1 i2 : Int) (s0 : List UInt8) : head 0 [0, 2, 3, 8, 9, 10] (Tryz.cfg.fc 95).acc { tm := [(0, V.str s0), (2, vu 0), (3, vu (wU (↑(BitVec.ofInt IntKind.u64.bits (wU (i0 * 2 ^ min (Int.toNat 8) IntKind.u64.bits)) ||| BitVec.ofInt IntKind.u64.bits (wU i2)).toNat : Int))), (5, vb i2), (8, V.ref 0), (9, vi (↑(List.map (fun c => vb (bN c)) (List.take (Int.toNat 8) s0)).length : Int)), (10, vi (wI (i1 + 1))), (11, V.bool true)], hp := [(0, Ob.row false 1 (List.map (fun c => vb (bN c)) (List.take (Int.toNat 8) s0)))], nx := 49 } = { tm := [(0, V.str s0), (2, vu 0), (3, vu (wU (↑(BitVec.ofInt IntKind.u64.bits (wU (i0 * 2 ^ min (Int.toNat 8) IntKind.u64.bits)) ||| BitVec.ofInt IntKind.u64.bits (wU i2)).toNat : Int))), (8, V.ref 0), (9, vi (↑(List.map (fun c => vb (bN c)) (List.take (Int.toNat 8) s0)).length : Int)), (10, vi (wI (i1 + 1)))], hp := [(0, Ob.row false 1 (List.map (fun c => vb (bN c)) (List.take (Int.toNat 8) s0)))], nx := 1 } := by kernel_rfl
theorem L95_0_b1 (i0 i1 : Int) (s0 : List UInt8) (k : Nat)
    (c0 : decide (i1 < (↑(List.map (fun c => vb (bN c)) (List.take (Int.toNat 8) s0)).length : Int)) = false) :
    eC k 2 0 95 (loopBody Tryz.f95 0) { tm := [(0, V.str s0), (2, vu 0), (3, vu i0), (8, V.ref 0), (9, vi (↑(List.map (fun c => vb (bN c)) (List.take (Int.toNat 8) s0)).length : Int)), (10, vi i1)], hp := [(0, Ob.row false 1 (List.map (fun c => vb (bN c)) (List.take (Int.toNat 8) s0)))], nx := 1 } = some (Exit.exit 0, { tm := [(0, V.str s0), (2, vu 0), (3, vu i0), (8, V.ref 0), (9, vi (↑(List.map (fun c => vb (bN c)) (List.take (Int.toNat 8) s0)).length : Int)), (10, vi i1), (11, V.bool false)], hp := [(0, Ob.row false 1 (List.map (fun c => vb (bN c)) (List.take (Int.toNat 8) s0)))], nx := 5 }) :=
  byL (k := k) (d := 2) [Hn.br 11 false] (aI c0 trivial) (by kernel_rfl)
inductive L95_0_R where
  | e0 (i0 : Int) (i1 : Int)
noncomputable def L95_0_end (s0 : List UInt8) : L95_0_R → Exit × St
  | .e0 i0 i1 => (Exit.exit 0, { tm := [(0, V.str s0), (2, V.int .u64 0), (3, V.int .u64 i0), (8, V.ref 0), (9, V.int .i64 (↑(List.map (fun c => V.int .u8 (↑c.toNat : Int)) (List.take (Int.toNat 8) s0)).length : Int)), (10, V.int .i64 i1), (11, V.bool false)], hp := [(0, Ob.row false 1 (List.map (fun c => V.int .u8 (↑c.toNat : Int)) (List.take (Int.toNat 8) s0)))], nx := 5 })
def L95_0 (k : Nat) (s0 : List UInt8) : Nat → Int → Int → Option L95_0_R
  | 0, _, _ => none
  | f + 1, i0, i1 => (bif decide (i1 < (↑(List.map (fun c => V.int .u8 (↑c.toNat : Int)) (List.take (Int.toNat 8) s0)).length : Int)) then (guardP ((0 : Int) ≤ i1 ∧ i1 < (↑(List.map (fun c => V.int .u8 (↑c.toNat : Int)) (List.take (Int.toNat (8 : Int)) s0)).length : Int)) ((((List.map (fun c => V.int .u8 (↑c.toNat : Int)) (List.take (Int.toNat 8) s0))[i1.toNat]?).bind (dI IntKind.u8)).bind fun i2 => (L95_0 k s0 f (IntKind.u64.wrap (↑(BitVec.ofInt IntKind.u64.bits (IntKind.u64.wrap (i0 * 2 ^ min (Int.toNat 8) IntKind.u64.bits)) ||| BitVec.ofInt IntKind.u64.bits (IntKind.u64.wrap i2)).toNat : Int)) (IntKind.i64.wrap (i1 + 1))))) else (some (L95_0_R.e0 i0 i1)))
theorem L95_0_ok {s0 : List UInt8} {k : Nat} : ∀ {f : Nat} {i0 : Int} {i1 : Int} {r : L95_0_R}, L95_0 k s0 f i0 i1 = some r →
    LoopsN Tryz.prog Tryz.cfg (k + 2) 0 Tryz.f95 (Tryz.cfg.fc 95) 0 [0, 2, 3, 8, 9, 10] f { tm := [(0, V.str s0), (2, vu 0), (3, vu i0), (8, V.ref 0), (9, vi (↑(List.map (fun c => vb (bN c)) (List.take (Int.toNat 8) s0)).length : Int)), (10, vi i1)], hp := [(0, Ob.row false 1 (List.map (fun c => vb (bN c)) (List.take (Int.toNat 8) s0)))], nx := 1 } (L95_0_end s0 r) := by
  intro f
  induction f with
  | zero => intro i0 i1 r h; cases h
  | succ f ih =>
    intro i0 i1 r h
    rw [L95_0] at h
    rcases cond_elim h with ⟨e0, h⟩ | ⟨e0, h⟩
    ·
      obtain ⟨e1, h⟩ := guardP_some.1 h
      obtain ⟨i2, e2, h⟩ := bE h
      exact LoopsN.next (L95_0_b0 i0 i1 i2 s0 k e0 (IdxR.mk' e1 rfl) (LdP.mk (get_d dI_ok e2 :) (by kernel_rfl))) (L95_0_b0h i0 i1 i2 s0) (ih h)
    ·
      cases h; exact LoopsN.done (L95_0_b1 i0 i1 s0 k e0) (fun h => by cases h)
theorem P95_0 (i0 i1 : Int) (s0 : List UInt8) (k : Nat)
    (c0 : SlcP false 0 (V.str s0) none (some (vi 8)) none (V.str (List.take (Int.toNat 8) s0)))
    (c1 : GrdW ((List.take (Int.toNat (8 : Int)) s0).length ≤ maxLen' ∧ (1 : Nat) = (1 : Nat)) (V.ref (16 : Nat)) [((16 : Nat), Ob.row false (1 : Nat) (List.map (fun c => vb (bN c)) (List.take (Int.toNat (8 : Int)) s0)))])
    (c2 : LoopsN Tryz.prog Tryz.cfg (k + 2) 0 Tryz.f95 (Tryz.cfg.fc 95) 0 [0, 2, 3, 8, 9, 10] (k + 2) { tm := [(0, V.str s0), (2, vu 0), (3, vu 0), (8, V.ref 0), (9, vi (↑(List.map (fun c => vb (bN c)) (List.take (Int.toNat 8) s0)).length : Int)), (10, vi 0)], hp := [(0, Ob.row false 1 (List.map (fun c => vb (bN c)) (List.take (Int.toNat 8) s0)))], nx := 1 } (Exit.exit 0, { tm := [(0, V.str s0), (2, vu 0), (3, vu i0), (8, V.ref 0), (9, vi (↑(List.map (fun c => vb (bN c)) (List.take (Int.toNat 8) s0)).length : Int)), (10, vi i1), (11, V.bool false)], hp := [(0, Ob.row false 1 (List.map (fun c => vb (bN c)) (List.take (Int.toNat 8) s0)))], nx := 5 })) :
    cP ((k + 3)) 95 [V.str s0] = some (vu i0) :=
  byF (k := k) (d := 3) [Hn.op 7 (V.str (List.take (Int.toNat 8) s0)) [], Hn.op 8 (V.ref 16) [(16, Ob.row false 1 (List.map (fun c => vb (bN c)) (List.take (Int.toNat 8) s0)))], Hn.loop (Exit.exit 0, { tm := [(0, V.str s0), (2, vu 0), (3, vu i0), (8, V.ref 0), (9, vi (↑(List.map (fun c => vb (bN c)) (List.take (Int.toNat 8) s0)).length : Int)), (10, vi i1), (11, V.bool false)], hp := [(0, Ob.row false 1 (List.map (fun c => vb (bN c)) (List.take (Int.toNat 8) s0)))], nx := 5 })] (aI c0 (aI c1 (aI c2 trivial))) (by kernel_rfl)
def F95 (k : Nat) (s0 : List UInt8) : Option (Int) :=
  (guardP ((0 : Int) ≤ (8 : Int) ∧ (8 : Int) ≤ (↑s0.length : Int)) (guardP ((List.take (Int.toNat (8 : Int)) s0).length ≤ maxLen') ((L95_0 k s0 (k + 2) (0) (0)).bind fun
    | L95_0_R.e0 i0 i1 => (some (i0)))))
theorem F95_ok {s0 : List UInt8} {k : Nat} {r : Int} (h : F95 k s0 = some r) :
    cP ((k + 3)) 95 [V.str s0] = some (vu r) := by
  unfold F95 at h
  obtain ⟨e0, h⟩ := guardP_some.1 h
  obtain ⟨e1, h⟩ := guardP_some.1 h
  obtain ⟨ee, e2, h⟩ := bE h
  cases ee with
  | e0 i0 i1 =>
    have h := Option.some.inj h; subst h; exact P95_0 i0 i1 s0 k (SlcP.strUptoS e0) (GrdW.mk ⟨e1, rfl⟩) (L95_0_ok e2)
theorem P72_0 (i0 i1 : Int) (s0 : List UInt8) (k : Nat)
    (c0 : cP ((k + 5)) 95 [V.str s0] = some (vu i0))
    (c1 : SlcP false 0 (V.str s0) (some (vi 8)) none none (V.str (List.drop (Int.toNat 8) s0)))
    (c2 : cP ((k + 5)) 95 [V.str (List.drop (Int.toNat 8) s0)] = some (vu i1)) :
    cP ((k + 6)) 72 [V.str s0] = some (V.agg [vu i0, vu i1]) :=
  byF (k := k) (d := 6) [Hn.call 4 (vu i0), Hn.op 6 (V.str (List.drop (Int.toNat 8) s0)) [], Hn.call 7 (vu i1)] (aI c0 (aI c1 (aI c2 trivial))) (by kernel_rfl)
def F72 (k : Nat) (s0 : List UInt8) : Option (Int × Int) :=
  ((F95 (k + 2) (s0)).bind fun i0 => (guardP ((0 : Int) ≤ (8 : Int) ∧ (8 : Int) ≤ (↑s0.length : Int)) ((F95 (k + 2) (List.drop (Int.toNat 8) s0)).bind fun i1 => (some ((i0), (i1))))))
theorem F72_ok {s0 : List UInt8} {k : Nat} {r : Int × Int} (h : F72 k s0 = some r) :
    cP ((k + 6)) 72 [V.str s0] = some (V.agg [vu r.1, vu r.2]) := by
  unfold F72 at h
  obtain ⟨i0, e0, h⟩ := bE h
  obtain ⟨e1, h⟩ := guardP_some.1 h
  obtain ⟨i1, e2, h⟩ := bE h
  have h := Option.some.inj h; subst h; exact P72_0 i0 i1 s0 k (F95_ok e0) (SlcP.strFromS e1) (F95_ok e2)
theorem P99_0 (i0 i1 : Int) (k : Nat)
    (c0 : decide (wU (↑(BitVec.ofInt IntKind.u64.bits i1 &&& BitVec.ofInt IntKind.u64.bits 1).toNat : Int) = 1) = true) :
    cP ((k + 3)) 99 [V.agg [vu i0, vu i1]] = some (V.agg [vu (wU (↑(BitVec.ofInt IntKind.u64.bits (i0.fdiv (2 ^ min (Int.toNat 1) IntKind.u64.bits)) ^^^ BitVec.ofInt IntKind.u64.bits 16212958658533785600).toNat : Int)), vu (wU (↑(BitVec.ofInt IntKind.u64.bits (wU (i0 * 2 ^ min (Int.toNat 63) IntKind.u64.bits)) ||| BitVec.ofInt IntKind.u64.bits (i1.fdiv (2 ^ min (Int.toNat 1) IntKind.u64.bits))).toNat : Int))]) :=
  byF (k := k) (d := 3) [Hn.br 18 true] (aI c0 trivial) (by kernel_rfl)
theorem P99_1 (i0 i1 : Int) (k : Nat)
    (c0 : decide (wU (↑(BitVec.ofInt IntKind.u64.bits i1 &&& BitVec.ofInt IntKind.u64.bits 1).toNat : Int) = 1) = false) :
    cP ((k + 3)) 99 [V.agg [vu i0, vu i1]] = some (V.agg [vu (i0.fdiv (2 ^ min (Int.toNat 1) IntKind.u64.bits)), vu (wU (↑(BitVec.ofInt IntKind.u64.bits (wU (i0 * 2 ^ min (Int.toNat 63) IntKind.u64.bits)) ||| BitVec.ofInt IntKind.u64.bits (i1.fdiv (2 ^ min (Int.toNat 1) IntKind.u64.bits))).toNat : Int))]) :=
  byF (k := k) (d := 3) [Hn.br 18 false] (aI c0 trivial) (by kernel_rfl)
def F99 (k : Nat) (i0 i1 : Int) : Option (Int × Int) :=
  (bif decide (IntKind.u64.wrap (↑(BitVec.ofInt IntKind.u64.bits i1 &&& BitVec.ofInt IntKind.u64.bits 1).toNat : Int) = 1) then (some ((IntKind.u64.wrap (↑(BitVec.ofInt IntKind.u64.bits (i0.fdiv (2 ^ min (Int.toNat 1) IntKind.u64.bits)) ^^^ BitVec.ofInt IntKind.u64.bits 16212958658533785600).toNat : Int)), (IntKind.u64.wrap (↑(BitVec.ofInt IntKind.u64.bits (IntKind.u64.wrap (i0 * 2 ^ min (Int.toNat 63) IntKind.u64.bits)) ||| BitVec.ofInt IntKind.u64.bits (i1.fdiv (2 ^ min (Int.toNat 1) IntKind.u64.bits))).toNat : Int)))) else (some ((i0.fdiv (2 ^ min (Int.toNat 1) IntKind.u64.bits)), (IntKind.u64.wrap (↑(BitVec.ofInt IntKind.u64.bits (IntKind.u64.wrap (i0 * 2 ^ min (Int.toNat 63) IntKind.u64.bits)) ||| BitVec.ofInt IntKind.u64.bits (i1.fdiv (2 ^ min (Int.toNat 1) IntKind.u64.bits))).toNat : Int)))))
theorem F99_ok {i0 i1 : Int} {k : Nat} {r : Int × Int} (h : F99 k i0 i1 = some r) :
    cP ((k + 3)) 99 [V.agg [vu i0, vu i1]] = some (V.agg [vu r.1, vu r.2]) := by
  unfold F99 at h
  rcases cond_elim h with ⟨e0, h⟩ | ⟨e0, h⟩
  ·
    have h := Option.some.inj h; subst h; exact P99_0 i0 i1 k e0
  ·
    have h := Option.some.inj h; subst h; exact P99_1 i0 i1 k e0
theorem P100_0 (i0 i1 i2 : Int) (k : Nat)
    (c0 : IdxA 2 (i2.fdiv (2 ^ min (Int.toNat 6) IntKind.i64.bits)) 1 (fun d => V.ptr 0 (0 + d)) (V.ptr 0 0))
    (c1 : GrdP ((0 : Int) ≤ wI ((63 : Int) - wI (↑(BitVec.ofInt IntKind.i64.bits i2 &&& BitVec.ofInt IntKind.i64.bits (63 : Int)).toNat : Int))) (vu (i0.fdiv ((2 : Int) ^ min (wI ((63 : Int) - wI (↑(BitVec.ofInt IntKind.i64.bits i2 &&& BitVec.ofInt IntKind.i64.bits (63 : Int)).toNat : Int))).toNat IntKind.u64.bits)))) :
    cP ((k + 3)) 100 [V.agg [vu i0, vu i1], vi i2] = some (V.bool (decide (wU (↑(BitVec.ofInt IntKind.u64.bits (i0.fdiv (2 ^ min (wI (63 - wI (↑(BitVec.ofInt IntKind.i64.bits i2 &&& BitVec.ofInt IntKind.i64.bits 63).toNat : Int))).toNat IntKind.u64.bits)) &&& BitVec.ofInt IntKind.u64.bits 1).toNat : Int) = 1))) :=
  byF (k := k) (d := 3) [Hn.op 7 (V.ptr 0 0) [], Hn.op 12 (vu (i0.fdiv (2 ^ min (wI (63 - wI (↑(BitVec.ofInt IntKind.i64.bits i2 &&& BitVec.ofInt IntKind.i64.bits 63).toNat : Int))).toNat IntKind.u64.bits))) []] (aI c0 (aI c1 trivial)) (by kernel_rfl)
theorem P100_1 (i0 i1 i2 : Int) (k : Nat)
    (c0 : IdxA 2 (i2.fdiv (2 ^ min (Int.toNat 6) IntKind.i64.bits)) 1 (fun d => V.ptr 0 (0 + d)) (V.ptr 0 1))
    (c1 : GrdP ((0 : Int) ≤ wI ((63 : Int) - wI (↑(BitVec.ofInt IntKind.i64.bits i2 &&& BitVec.ofInt IntKind.i64.bits (63 : Int)).toNat : Int))) (vu (i1.fdiv ((2 : Int) ^ min (wI ((63 : Int) - wI (↑(BitVec.ofInt IntKind.i64.bits i2 &&& BitVec.ofInt IntKind.i64.bits (63 : Int)).toNat : Int))).toNat IntKind.u64.bits)))) :
    cP ((k + 3)) 100 [V.agg [vu i0, vu i1], vi i2] = some (V.bool (decide (wU (↑(BitVec.ofInt IntKind.u64.bits (i1.fdiv (2 ^ min (wI (63 - wI (↑(BitVec.ofInt IntKind.i64.bits i2 &&& BitVec.ofInt IntKind.i64.bits 63).toNat : Int))).toNat IntKind.u64.bits)) &&& BitVec.ofInt IntKind.u64.bits 1).toNat : Int) = 1))) :=
  byF (k := k) (d := 3) [Hn.op 7 (V.ptr 0 1) [], Hn.op 12 (vu (i1.fdiv (2 ^ min (wI (63 - wI (↑(BitVec.ofInt IntKind.i64.bits i2 &&& BitVec.ofInt IntKind.i64.bits 63).toNat : Int))).toNat IntKind.u64.bits))) []] (aI c0 (aI c1 trivial)) (by kernel_rfl)
def F100 (k : Nat) (i0 i1 i2 : Int) : Option (Bool) :=
  (bif decide (i2.fdiv (2 ^ min (Int.toNat 6) IntKind.i64.bits) = 0) then (guardP ((0 : Int) ≤ IntKind.i64.wrap ((63 : Int) - IntKind.i64.wrap (↑(BitVec.ofInt IntKind.i64.bits i2 &&& BitVec.ofInt IntKind.i64.bits (63 : Int)).toNat : Int))) (some (decide (IntKind.u64.wrap (↑(BitVec.ofInt IntKind.u64.bits (i0.fdiv (2 ^ min (IntKind.i64.wrap (63 - IntKind.i64.wrap (↑(BitVec.ofInt IntKind.i64.bits i2 &&& BitVec.ofInt IntKind.i64.bits 63).toNat : Int))).toNat IntKind.u64.bits)) &&& BitVec.ofInt IntKind.u64.bits 1).toNat : Int) = 1)))) else (bif decide (i2.fdiv (2 ^ min (Int.toNat 6) IntKind.i64.bits) = 1) then (guardP ((0 : Int) ≤ IntKind.i64.wrap ((63 : Int) - IntKind.i64.wrap (↑(BitVec.ofInt IntKind.i64.bits i2 &&& BitVec.ofInt IntKind.i64.bits (63 : Int)).toNat : Int))) (some (decide (IntKind.u64.wrap (↑(BitVec.ofInt IntKind.u64.bits (i1.fdiv (2 ^ min (IntKind.i64.wrap (63 - IntKind.i64.wrap (↑(BitVec.ofInt IntKind.i64.bits i2 &&& BitVec.ofInt IntKind.i64.bits 63).toNat : Int))).toNat IntKind.u64.bits)) &&& BitVec.ofInt IntKind.u64.bits 1).toNat : Int) = 1)))) else none))
theorem F100_ok {i0 i1 i2 : Int} {k : Nat} {r : Bool} (h : F100 k i0 i1 i2 = some r) :
    cP ((k + 3)) 100 [V.agg [vu i0, vu i1], vi i2] = some (V.bool r) := by
  unfold F100 at h
  rcases cond_elim h with ⟨e0, h⟩ | ⟨e0, h⟩
  ·
    obtain ⟨e1, h⟩ := guardP_some.1 h
    have h := Option.some.inj h; subst h; exact P100_0 i0 i1 i2 k (IdxA.mk 0 e0 (by decide) (by decide) rfl) (GrdP.mk e1)
  ·
    rcases cond_elim h with ⟨e1, h⟩ | ⟨e1, h⟩
    ·
      obtain ⟨e2, h⟩ := guardP_some.1 h
      have h := Option.some.inj h; subst h; exact P100_1 i0 i1 i2 k (IdxA.mk 1 e1 (by decide) (by decide) rfl) (GrdP.mk e2)
    ·
      cases h
theorem L74_0_b0 (i0 i1 i2 i3 i4 i5 i6 i7 i8 : Int) (k : Nat)
    (c0 : decide (0 ≤ i4) = true)
    (c1 : cP ((k + 5)) 99 [V.agg [vu i5, vu i6]] = some (V.agg [vu i7, vu i8]))
    (c2 : cP ((k + 5)) 100 [V.agg [vu i2, vu i3], vi i4] = some (V.bool true)) :
    eC k 5 0 74 (loopBody Tryz.f74 0) { tm := [(0, V.agg [vu i0, vu i1]), (1, V.agg [vu i2, vu i3]), (2, V.ptr 0 0), (3, V.ptr 1 0), (4, V.ptr 2 0), (5, V.ptr 3 0), (6, vi i4)], hp := [(0, Ob.var [vu i0, vu i1]), (1, Ob.var [vu i2, vu i3]), (2, Ob.var [vu 0, vu 0]), (3, Ob.var [vu i5, vu i6])], nx := 4 } = some (Exit.normal, { tm := [(0, V.agg [vu i0, vu i1]), (1, V.agg [vu i2, vu i3]), (2, V.ptr 0 0), (3, V.ptr 1 0), (4, V.ptr 2 0), (5, V.ptr 3 0), (6, vi (wI (i4 - 1))), (8, V.bool true), (15, V.bool true)], hp := [(0, Ob.var [vu i0, vu i1]), (1, Ob.var [vu i2, vu i3]), (2, Ob.var [vu 0, vu 0]), (3, Ob.var [vu (wU (↑(BitVec.ofInt IntKind.u64.bits i7 ^^^ BitVec.ofInt IntKind.u64.bits i0).toNat : Int)), vu (wU (↑(BitVec.ofInt IntKind.u64.bits i8 ^^^ BitVec.ofInt IntKind.u64.bits i1).toNat : Int))])], nx := 96 }) :=
  byL (k := k) (d := 5) [Hn.br 8 true, Hn.call 12 (V.agg [vu i7, vu i8]), Hn.call 15 (V.bool true)] (aI c0 (aI c1 (aI c2 trivial))) (by kernel_rfl)
theorem L74_0_b0h (i0 i1 i2 i3 i4 i7 i8 : Int) : head 0 [0, 1, 2, 3, 4, 5, 6] (Tryz.cfg.fc 74).acc { tm := [(0, V.agg [vu i0, vu i1]), (1, V.agg [vu i2, vu i3]), (2, V.ptr 0 0), (3, V.ptr 1 0), (4, V.ptr 2 0), (5, V.ptr 3 0), (6, vi (wI (i4 - 1))), (8, V.bool true), (15, V.bool true)], hp := [(0, Ob.var [vu i0, vu i1]), (1, Ob.var [vu i2, vu i3]), (2, Ob.var [vu 0, vu 0]), (3, Ob.var [vu (wU (↑(BitVec.ofInt IntKind.u64.bits i7 ^^^ BitVec.ofInt IntKind.u64.bits i0).toNat : Int)), vu (wU (↑(BitVec.ofInt IntKind.u64.bits i8 ^^^ BitVec.ofInt IntKind.u64.bits i1).toNat : Int))])], nx := 96 } = { tm := [(0, V.agg [vu i0, vu i1]), (1, V.agg [vu i2, vu i3]), (2, V.ptr 0 0), (3, V.ptr 1 0), (4, V.ptr 2 0), (5, V.ptr 3 0), (6, vi (wI (i4 - 1)))], hp := [(0, Ob.var [vu i0, vu i1]), (1, Ob.var [vu i2, vu i3]), (2, Ob.var [vu 0, vu 0]), (3, Ob.var [vu (wU (↑(BitVec.ofInt IntKind.u64.bits i7 ^^^ BitVec.ofInt IntKind.u64.bits i0).toNat : Int)), vu (wU (↑(BitVec.ofInt IntKind.u64.bits i8 ^^^ BitVec.ofInt IntKind.u64.bits i1).toNat : Int))])], nx := 4 } := by kernel_rfl
theorem L74_0_b1 (i0 i1 i2 i3 i4 i5 i6 i7 i8 : Int) (k : Nat)
    (c0 : decide (0 ≤ i4) = true)
    (c1 : cP ((k + 5)) 99 [V.agg [vu i5, vu i6]] = some (V.agg [vu i7, vu i8]))
    (c2 : cP ((k + 5)) 100 [V.agg [vu i2, vu i3], vi i4] = some (V.bool false)) :
    eC k 5 0 74 (loopBody Tryz.f74 0) { tm := [(0, V.agg [vu i0, vu i1]), (1, V.agg [vu i2, vu i3]), (2, V.ptr 0 0), (3, V.ptr 1 0), (4, V.ptr 2 0), (5, V.ptr 3 0), (6, vi i4)], hp := [(0, Ob.var [vu i0, vu i1]), (1, Ob.var [vu i2, vu i3]), (2, Ob.var [vu 0, vu 0]), (3, Ob.var [vu i5, vu i6])], nx := 4 } = some (Exit.normal, { tm := [(0, V.agg [vu i0, vu i1]), (1, V.agg [vu i2, vu i3]), (2, V.ptr 0 0), (3, V.ptr 1 0), (4, V.ptr 2 0), (5, V.ptr 3 0), (6, vi (wI (i4 - 1))), (8, V.bool true), (15, V.bool false)], hp := [(0, Ob.var [vu i0, vu i1]), (1, Ob.var [vu i2, vu i3]), (2, Ob.var [vu 0, vu 0]), (3, Ob.var [vu i7, vu i8])], nx := 48 }) :=
  byL (k := k) (d := 5) [Hn.br 8 true, Hn.call 12 (V.agg [vu i7, vu i8]), Hn.call 15 (V.bool false)] (aI c0 (aI c1 (aI c2 trivial))) (by kernel_rfl)
theorem L74_0_b1h (i0 i1 i2 i3 i4 i7 i8 : Int) : head 0 [0, 1, 2, 3, 4, 5, 6] (Tryz.cfg.fc 74).acc { tm := [(0, V.agg [vu i0, vu i1]), (1, V.agg [vu i2, vu i3]), (2, V.ptr 0 0), (3, V.ptr 1 0), (4, V.ptr 2 0), (5, V.ptr 3 0), (6, vi (wI (i4 - 1))), (8, V.bool true), (15, V.bool false)], hp := [(0, Ob.var [vu i0, vu i1]), (1, Ob.var [vu i2, vu i3]), (2, Ob.var [vu 0, vu 0]), (3, Ob.var [vu i7, vu i8])], nx := 48 } = { tm := [(0, V.agg [vu i0, vu i1]), (1, V.agg [vu i2, vu i3]), (2, V.ptr 0 0), (3, V.ptr 1 0), (4, V.ptr 2 0), (5, V.ptr 3 0), (6, vi (wI (i4 - 1)))], hp := [(0, Ob.var [vu i0, vu i1]), (1, Ob.var [vu i2, vu i3]), (2, Ob.var [vu 0, vu 0]), (3, Ob.var [vu i7, vu i8])], nx := 4 } := by kernel_rfl
theorem L74_0_b2 (i0 i1 i2 i3 i4 i5 i6 : Int) (k : Nat)
    (c0 : decide (0 ≤ i4) = false) :
    eC k 5 0 74 (loopBody Tryz.f74 0) { tm := [(0, V.agg [vu i0, vu i1]), (1, V.agg [vu i2, vu i3]), (2, V.ptr 0 0), (3, V.ptr 1 0), (4, V.ptr 2 0), (5, V.ptr 3 0), (6, vi i4)], hp := [(0, Ob.var [vu i0, vu i1]), (1, Ob.var [vu i2, vu i3]), (2, Ob.var [vu 0, vu 0]), (3, Ob.var [vu i5, vu i6])], nx := 4 } = some (Exit.exit 0, { tm := [(0, V.agg [vu i0, vu i1]), (1, V.agg [vu i2, vu i3]), (2, V.ptr 0 0), (3, V.ptr 1 0), (4, V.ptr 2 0), (5, V.ptr 3 0), (6, vi i4), (8, V.bool false)], hp := [(0, Ob.var [vu i0, vu i1]), (1, Ob.var [vu i2, vu i3]), (2, Ob.var [vu 0, vu 0]), (3, Ob.var [vu i5, vu i6])], nx := 12 }) :=
  byL (k := k) (d := 5) [Hn.br 8 false] (aI c0 trivial) (by kernel_rfl)
inductive L74_0_R where
  | e0 (i4 : Int) (i5 : Int) (i6 : Int)
noncomputable def L74_0_end (i0 : Int) (i1 : Int) (i2 : Int) (i3 : Int) : L74_0_R → Exit × St
  | .e0 i4 i5 i6 => (Exit.exit 0, { tm := [(0, V.agg [V.int .u64 i0, V.int .u64 i1]), (1, V.agg [V.int .u64 i2, V.int .u64 i3]), (2, V.ptr 0 0), (3, V.ptr 1 0), (4, V.ptr 2 0), (5, V.ptr 3 0), (6, V.int .i64 i4), (8, V.bool false)], hp := [(0, Ob.var [V.int .u64 i0, V.int .u64 i1]), (1, Ob.var [V.int .u64 i2, V.int .u64 i3]), (2, Ob.var [V.int .u64 0, V.int .u64 0]), (3, Ob.var [V.int .u64 i5, V.int .u64 i6])], nx := 12 })
def L74_0 (k : Nat) (i0 i1 i2 i3 : Int) : Nat → Int → Int → Int → Option L74_0_R
  | 0, _, _, _ => none
  | f + 1, i4, i5, i6 => (bif decide (0 ≤ i4) then ((F99 (k + 2) (i5) (i6)).bind fun (i7, i8) => ((F100 (k + 2) (i2) (i3) (i4)).bind fun b0 => (bif b0 then (L74_0 k i0 i1 i2 i3 f (IntKind.i64.wrap (i4 - 1)) (IntKind.u64.wrap (↑(BitVec.ofInt IntKind.u64.bits i7 ^^^ BitVec.ofInt IntKind.u64.bits i0).toNat : Int)) (IntKind.u64.wrap (↑(BitVec.ofInt IntKind.u64.bits i8 ^^^ BitVec.ofInt IntKind.u64.bits i1).toNat : Int))) else (L74_0 k i0 i1 i2 i3 f (IntKind.i64.wrap (i4 - 1)) (i7) (i8))))) else (some (L74_0_R.e0 i4 i5 i6)))
theorem L74_0_ok {i0 i1 i2 i3 : Int} {k : Nat} : ∀ {f : Nat} {i4 : Int} {i5 : Int} {i6 : Int} {r : L74_0_R}, L74_0 k i0 i1 i2 i3 f i4 i5 i6 = some r →
    LoopsN Tryz.prog Tryz.cfg (k + 5) 0 Tryz.f74 (Tryz.cfg.fc 74) 0 [0, 1, 2, 3, 4, 5, 6] f { tm := [(0, V.agg [vu i0, vu i1]), (1, V.agg [vu i2, vu i3]), (2, V.ptr 0 0), (3, V.ptr 1 0), (4, V.ptr 2 0), (5, V.ptr 3 0), (6, vi i4)], hp := [(0, Ob.var [vu i0, vu i1]), (1, Ob.var [vu i2, vu i3]), (2, Ob.var [vu 0, vu 0]), (3, Ob.var [vu i5, vu i6])], nx := 4 } (L74_0_end i0 i1 i2 i3 r) := by
  intro f
  induction f with
  | zero => intro i4 i5 i6 r h; cases h
  | succ f ih =>
    intro i4 i5 i6 r h
    rw [L74_0] at h
    rcases cond_elim h with ⟨e0, h⟩ | ⟨e0, h⟩
    ·
      obtain ⟨⟨i7, i8⟩, e1, h⟩ := bE h
      obtain ⟨b0, e2, h⟩ := bE h
      rcases cond_elim h with ⟨e3, h⟩ | ⟨e3, h⟩
      ·
        exact LoopsN.next (L74_0_b0 i0 i1 i2 i3 i4 i5 i6 i7 i8 k e0 (F99_ok e1) ((F100_ok e2).trans (by rw [e3]))) (L74_0_b0h i0 i1 i2 i3 i4 i7 i8) (ih h)
      ·
        exact LoopsN.next (L74_0_b1 i0 i1 i2 i3 i4 i5 i6 i7 i8 k e0 (F99_ok e1) ((F100_ok e2).trans (by rw [e3]))) (L74_0_b1h i0 i1 i2 i3 i4 i7 i8) (ih h)
    ·
      cases h; exact LoopsN.done (L74_0_b2 i0 i1 i2 i3 i4 i5 i6 k e0) (fun h => by cases h)
theorem P74_0 (i0 i1 i2 i3 i4 i5 i6 : Int) (k : Nat)
    (c0 : LoopsN Tryz.prog Tryz.cfg (k + 5) 0 Tryz.f74 (Tryz.cfg.fc 74) 0 [0, 1, 2, 3, 4, 5, 6] (k + 5) { tm := [(0, V.agg [vu i0, vu i1]), (1, V.agg [vu i2, vu i3]), (2, V.ptr 0 0), (3, V.ptr 1 0), (4, V.ptr 2 0), (5, V.ptr 3 0), (6, vi 127)], hp := [(0, Ob.var [vu i0, vu i1]), (1, Ob.var [vu i2, vu i3]), (2, Ob.var [vu 0, vu 0]), (3, Ob.var [vu 0, vu 0])], nx := 4 } (Exit.exit 0, { tm := [(0, V.agg [vu i0, vu i1]), (1, V.agg [vu i2, vu i3]), (2, V.ptr 0 0), (3, V.ptr 1 0), (4, V.ptr 2 0), (5, V.ptr 3 0), (6, vi i4), (8, V.bool false)], hp := [(0, Ob.var [vu i0, vu i1]), (1, Ob.var [vu i2, vu i3]), (2, Ob.var [vu 0, vu 0]), (3, Ob.var [vu i5, vu i6])], nx := 12 })) :
    cP ((k + 6)) 74 [V.agg [vu i0, vu i1], V.agg [vu i2, vu i3]] = some (V.agg [vu i5, vu i6]) :=
  byF (k := k) (d := 6) [Hn.loop (Exit.exit 0, { tm := [(0, V.agg [vu i0, vu i1]), (1, V.agg [vu i2, vu i3]), (2, V.ptr 0 0), (3, V.ptr 1 0), (4, V.ptr 2 0), (5, V.ptr 3 0), (6, vi i4), (8, V.bool false)], hp := [(0, Ob.var [vu i0, vu i1]), (1, Ob.var [vu i2, vu i3]), (2, Ob.var [vu 0, vu 0]), (3, Ob.var [vu i5, vu i6])], nx := 12 })] (aI c0 trivial) (by kernel_rfl)
def F74 (k : Nat) (i0 i1 i2 i3 : Int) : Option (Int × Int) :=
  ((L74_0 k i0 i1 i2 i3 (k + 5) (127) (0) (0)).bind fun
    | L74_0_R.e0 i4 i5 i6 => (some ((i5), (i6))))
theorem F74_ok {i0 i1 i2 i3 : Int} {k : Nat} {r : Int × Int} (h : F74 k i0 i1 i2 i3 = some r) :
    cP ((k + 6)) 74 [V.agg [vu i0, vu i1], V.agg [vu i2, vu i3]] = some (V.agg [vu r.1, vu r.2]) := by
  unfold F74 at h
  obtain ⟨ee, e0, h⟩ := bE h
  cases ee with
  | e0 i4 i5 i6 =>
    have h := Option.some.inj h; subst h; exact P74_0 i0 i1 i2 i3 i4 i5 i6 k (L74_0_ok e0)
theorem P98_0 (i0 : Int) (k : Nat) :
    cP ((k + 12)) 98 [vu i0] = some (V.str (List.map Sym.byteOf (1, List.take 8 (List.drop 0 [vb (wB (i0.fdiv (2 ^ min (Int.toNat 56) IntKind.u64.bits))), vb (wB (i0.fdiv (2 ^ min (Int.toNat 48) IntKind.u64.bits))), vb (wB (i0.fdiv (2 ^ min (Int.toNat 40) IntKind.u64.bits))), vb (wB (i0.fdiv (2 ^ min (Int.toNat 32) IntKind.u64.bits))), vb (wB (i0.fdiv (2 ^ min (Int.toNat 24) IntKind.u64.bits))), vb (wB (i0.fdiv (2 ^ min (Int.toNat 16) IntKind.u64.bits))), vb (wB (i0.fdiv (2 ^ min (Int.toNat 8) IntKind.u64.bits))), vb (wB (i0.fdiv (2 ^ min (Int.toNat 0) IntKind.u64.bits)))])).snd)) :=
  byF (k := k) (d := 12) [Hn.rounds] trivial (by kernel_rfl)
def F98 (k : Nat) (i0 : Int) : Option (List UInt8) :=
  (some (List.map Sym.byteOf (1, List.take 8 (List.drop 0 [V.int .u8 (IntKind.u8.wrap (i0.fdiv (2 ^ min (Int.toNat 56) IntKind.u64.bits))), V.int .u8 (IntKind.u8.wrap (i0.fdiv (2 ^ min (Int.toNat 48) IntKind.u64.bits))), V.int .u8 (IntKind.u8.wrap (i0.fdiv (2 ^ min (Int.toNat 40) IntKind.u64.bits))), V.int .u8 (IntKind.u8.wrap (i0.fdiv (2 ^ min (Int.toNat 32) IntKind.u64.bits))), V.int .u8 (IntKind.u8.wrap (i0.fdiv (2 ^ min (Int.toNat 24) IntKind.u64.bits))), V.int .u8 (IntKind.u8.wrap (i0.fdiv (2 ^ min (Int.toNat 16) IntKind.u64.bits))), V.int .u8 (IntKind.u8.wrap (i0.fdiv (2 ^ min (Int.toNat 8) IntKind.u64.bits))), V.int .u8 (IntKind.u8.wrap (i0.fdiv (2 ^ min (Int.toNat 0) IntKind.u64.bits)))])).snd))
theorem F98_ok {i0 : Int} {k : Nat} {r : List UInt8} (h : F98 k i0 = some r) :
    cP ((k + 12)) 98 [vu i0] = some (V.str r) := by
  unfold F98 at h
  have h := Option.some.inj h; subst h; exact P98_0 i0 k
theorem P75_0 (i0 i1 : Int) (s0 s1 : List UInt8) (k : Nat)
    (c0 : cP ((k + 14)) 98 [vu i0] = some (V.str s0))
    (c1 : cP ((k + 14)) 98 [vu i1] = some (V.str s1))
    (c2 : GrdP (s0.length + s1.length ≤ maxText) (V.str (s0 ++ s1))) :
    cP ((k + 15)) 75 [V.agg [vu i0, vu i1]] = some (V.str (s0 ++ s1)) :=
  byF (k := k) (d := 15) [Hn.call 5 (V.str s0), Hn.call 8 (V.str s1), Hn.op 9 (V.str (s0 ++ s1)) []] (aI c0 (aI c1 (aI c2 trivial))) (by kernel_rfl)
def F75 (k : Nat) (i0 i1 : Int) : Option (List UInt8) :=
  ((F98 (k + 2) (i0)).bind fun s0 => ((F98 (k + 2) (i1)).bind fun s1 => (guardP (s0.length + s1.length ≤ maxText) (some (s0 ++ s1)))))
theorem F75_ok {i0 i1 : Int} {k : Nat} {r : List UInt8} (h : F75 k i0 i1 = some r) :
    cP ((k + 15)) 75 [V.agg [vu i0, vu i1]] = some (V.str r) := by
  unfold F75 at h
  obtain ⟨s0, e0, h⟩ := bE h
  obtain ⟨s1, e1, h⟩ := bE h
  obtain ⟨e2, h⟩ := guardP_some.1 h
  have h := Option.some.inj h; subst h; exact P75_0 i0 i1 s0 s1 k (F98_ok e0) (F98_ok e1) (GrdP.mk e2)
end Go.Proofs
set_option linter.unusedVariables false
set_option maxHeartbeats 0
set_option maxRecDepth 100000
namespace Go.Proofs
open Go Go.Sym
theorem L126_0_b0 (i0 i1 i2 : Int) (s0 : List UInt8) (k : Nat)
    (c0 : decide (i2 < 7) = true) :
    eC k 2 0 126 (loopBody Tryz.f126 0) { tm := [(0, V.str s0), (1, vi i0), (4, V.bool false), (5, vi i1), (6, vi i2)], hp := [], nx := 0 } = some (Exit.normal, { tm := [(0, V.str s0), (1, vi i0), (4, V.bool false), (5, vi (wI (i1.tdiv 2))), (6, vi (wI (i2 + 1))), (15, V.bool true)], hp := [], nx := 32 }) :=
  byL (k := k) (d := 2) [Hn.br 15 true] (aI c0 trivial) (by kernel_rfl)
theorem L126_0_b0h (i0 i1 i2 : Int) (s0 : List UInt8) : head 0 [0, 1, 4, 5, 6] (Tryz.cfg.fc 126).acc { tm := [(0, V.str s0), (1, vi i0), (4, V.bool false), (5, vi (wI (i1.tdiv 2))), (6, vi (wI (i2 + 1))), (15, V.bool true)], hp := [], nx := 32 } = { tm := [(0, V.str s0), (1, vi i0), (4, V.bool false), (5, vi (wI (i1.tdiv 2))), (6, vi (wI (i2 + 1)))], hp := [], nx := 0 } := by kernel_rfl
theorem L126_0_b1 (i0 i1 i2 : Int) (s0 : List UInt8) (k : Nat)
    (c0 : decide (i2 < 7) = false) :
    eC k 2 0 126 (loopBody Tryz.f126 0) { tm := [(0, V.str s0), (1, vi i0), (4, V.bool false), (5, vi i1), (6, vi i2)], hp := [], nx := 0 } = some (Exit.exit 0, { tm := [(0, V.str s0), (1, vi i0), (4, V.bool false), (5, vi i1), (6, vi i2), (15, V.bool false)], hp := [], nx := 8 }) :=
  byL (k := k) (d := 2) [Hn.br 15 false] (aI c0 trivial) (by kernel_rfl)
inductive L126_0_R where
  | e0 (i1 : Int) (i2 : Int)
noncomputable def L126_0_end (i0 : Int) (s0 : List UInt8) : L126_0_R → Exit × St
  | .e0 i1 i2 => (Exit.exit 0, { tm := [(0, V.str s0), (1, V.int .i64 i0), (4, V.bool false), (5, V.int .i64 i1), (6, V.int .i64 i2), (15, V.bool false)], hp := [], nx := 8 })
def L126_0 (k : Nat) (i0 : Int) (s0 : List UInt8) : Nat → Int → Int → Option L126_0_R
  | 0, _, _ => none
  | f + 1, i1, i2 => (bif decide (i2 < 7) then (L126_0 k i0 s0 f (IntKind.i64.wrap (i1.tdiv 2)) (IntKind.i64.wrap (i2 + 1))) else (some (L126_0_R.e0 i1 i2)))
theorem L126_0_ok {i0 : Int} {s0 : List UInt8} {k : Nat} : ∀ {f : Nat} {i1 : Int} {i2 : Int} {r : L126_0_R}, L126_0 k i0 s0 f i1 i2 = some r →
    LoopsN Tryz.prog Tryz.cfg (k + 2) 0 Tryz.f126 (Tryz.cfg.fc 126) 0 [0, 1, 4, 5, 6] f { tm := [(0, V.str s0), (1, vi i0), (4, V.bool false), (5, vi i1), (6, vi i2)], hp := [], nx := 0 } (L126_0_end i0 s0 r) := by
  intro f
  induction f with
  | zero => intro i1 i2 r h; cases h
  | succ f ih =>
    intro i1 i2 r h
    rw [L126_0] at h
    rcases cond_elim h with ⟨e0, h⟩ | ⟨e0, h⟩
    ·
      exact LoopsN.next (L126_0_b0 i0 i1 i2 s0 k e0) (L126_0_b0h i0 i1 i2 s0) (ih h)
    ·
      cases h; exact LoopsN.done (L126_0_b1 i0 i1 i2 s0 k e0) (fun h => by cases h)
theorem P126_0 (i0 i1 i2 : Int) (s0 : List UInt8) (u0 : UInt8) (k : Nat)
    (c0 : StrP s0 (wI (i0.tdiv 8)) u0)
    (c1 : LoopsN Tryz.prog Tryz.cfg (k + 2) 0 Tryz.f126 (Tryz.cfg.fc 126) 0 [0, 1, 4, 5, 6] (k + 2) { tm := [(0, V.str s0), (1, vi i0), (4, V.bool false), (5, vi (wI (bN u0))), (6, vi (i0.tmod 8))], hp := [], nx := 0 } (Exit.exit 0, { tm := [(0, V.str s0), (1, vi i0), (4, V.bool false), (5, vi i1), (6, vi i2), (15, V.bool false)], hp := [], nx := 8 })) :
    cP ((k + 3)) 126 [V.str s0, vi i0] = some (V.bool (decide (i1.tmod 2 = 1))) :=
  byF (k := k) (d := 3) [Hn.op 10 (vb (bN u0)) [], Hn.loop (Exit.exit 0, { tm := [(0, V.str s0), (1, vi i0), (4, V.bool false), (5, vi i1), (6, vi i2), (15, V.bool false)], hp := [], nx := 8 })] (aI c0 (aI c1 trivial)) (by kernel_rfl)
def F126 (k : Nat) (s0 : List UInt8) (i0 : Int) : Option (Bool) :=
  ((satB (s0) (IntKind.i64.wrap (i0.tdiv 8))).bind fun u0 => ((L126_0 k i0 s0 (k + 2) (IntKind.i64.wrap (↑u0.toNat : Int)) (i0.tmod 8)).bind fun
    | L126_0_R.e0 i1 i2 => (some (decide (i1.tmod 2 = 1)))))
theorem F126_ok {s0 : List UInt8} {i0 : Int} {k : Nat} {r : Bool} (h : F126 k s0 i0 = some r) :
    cP ((k + 3)) 126 [V.str s0, vi i0] = some (V.bool r) := by
  unfold F126 at h
  obtain ⟨u0, e0, h⟩ := bE h
  obtain ⟨ee, e1, h⟩ := bE h
  cases ee with
  | e0 i1 i2 =>
    have h := Option.some.inj h; subst h; exact P126_0 i0 i1 i2 s0 u0 k (StrP.of_at e0) (L126_0_ok e1)
theorem L108_1_b0 (i0 i1 : Int) (b0 b1 b2 : Bool) (s0 s1 : List UInt8) (x0 : List V) (k : Nat)
    (c0 : decide (i1 < 128) = true)
    (c1 : decide (0 ≤ wI (i0 - i1)) = true)
    (c2 : decide (wI (i0 - i1) < 128) = true)
    (c3 : cP ((k + 5)) 126 [V.str s0, vi i1] = some (V.bool b1))
    (c4 : b1 = true)
    (c5 : cP ((k + 5)) 126 [V.str s1, vi (wI (i0 - i1))] = some (V.bool b2))
    (c6 : b2 = true) :
    eC k 5 0 108 (loopBody Tryz.f108 1) { tm := [(0, V.str s0), (1, V.str s1), (4, V.sl (some true) true 0 []), (5, V.ref 0), (6, vi i0), (7, V.bool b0), (8, vi i1), (11, V.bool true)], hp := [(0, Ob.row false 1 x0)], nx := 1 } = some (Exit.normal, { tm := [(0, V.str s0), (1, V.str s1), (4, V.sl (some true) true 0 []), (5, V.ref 0), (6, vi i0), (7, V.bool !b0), (8, vi (wI (i1 + 1))), (11, V.bool true), (15, V.bool true), (39, V.bool true)], hp := [(0, Ob.row false 1 x0)], nx := 121 }) :=
  byL (k := k) (d := 5) [Hn.br 15 true, Hn.br 22 true, Hn.br 28 true, Hn.call 31 (V.bool b1), Hn.br 33 true, Hn.call 38 (V.bool b2), Hn.br 39 true] (aI c0 (aI c1 (aI c2 (aI c3 (aI c4 (aI c5 (aI c6 trivial))))))) (by kernel_rfl)
theorem L108_1_b0h (i0 i1 : Int) (b0 : Bool) (s0 s1 : List UInt8) (x0 : List V) : head 0 [0, 1, 4, 5, 6, 7, 8, 11] (Tryz.cfg.fc 108).acc { tm := [(0, V.str s0), (1, V.str s1), (4, V.sl (some true) true 0 []), (5, V.ref 0), (6, vi i0), (7, V.bool !b0), (8, vi (wI (i1 + 1))), (11, V.bool true), (15, V.bool true), (39, V.bool true)], hp := [(0, Ob.row false 1 x0)], nx := 121 } = { tm := [(0, V.str s0), (1, V.str s1), (4, V.sl (some true) true 0 []), (5, V.ref 0), (6, vi i0), (7, V.bool !b0), (8, vi (wI (i1 + 1))), (11, V.bool true)], hp := [(0, Ob.row false 1 x0)], nx := 1 } := by kernel_rfl
theorem L108_1_b1 (i0 i1 : Int) (b0 b1 b2 : Bool) (s0 s1 : List UInt8) (x0 : List V) (k : Nat)
    (c0 : decide (i1 < 128) = true)
    (c1 : decide (0 ≤ wI (i0 - i1)) = true)
    (c2 : decide (wI (i0 - i1) < 128) = true)
    (c3 : cP ((k + 5)) 126 [V.str s0, vi i1] = some (V.bool b1))
    (c4 : b1 = true)
    (c5 : cP ((k + 5)) 126 [V.str s1, vi (wI (i0 - i1))] = some (V.bool b2))
    (c6 : b2 = false) :
    eC k 5 0 108 (loopBody Tryz.f108 1) { tm := [(0, V.str s0), (1, V.str s1), (4, V.sl (some true) true 0 []), (5, V.ref 0), (6, vi i0), (7, V.bool b0), (8, vi i1), (11, V.bool true)], hp := [(0, Ob.row false 1 x0)], nx := 1 } = some (Exit.normal, { tm := [(0, V.str s0), (1, V.str s1), (4, V.sl (some true) true 0 []), (5, V.ref 0), (6, vi i0), (7, V.bool b0), (8, vi (wI (i1 + 1))), (11, V.bool true), (15, V.bool true), (39, V.bool false)], hp := [(0, Ob.row false 1 x0)], nx := 109 }) :=
  byL (k := k) (d := 5) [Hn.br 15 true, Hn.br 22 true, Hn.br 28 true, Hn.call 31 (V.bool b1), Hn.br 33 true, Hn.call 38 (V.bool b2), Hn.br 39 false] (aI c0 (aI c1 (aI c2 (aI c3 (aI c4 (aI c5 (aI c6 trivial))))))) (by kernel_rfl)
theorem L108_1_b1h (i0 i1 : Int) (b0 : Bool) (s0 s1 : List UInt8) (x0 : List V) : head 0 [0, 1, 4, 5, 6, 7, 8, 11] (Tryz.cfg.fc 108).acc { tm := [(0, V.str s0), (1, V.str s1), (4, V.sl (some true) true 0 []), (5, V.ref 0), (6, vi i0), (7, V.bool b0), (8, vi (wI (i1 + 1))), (11, V.bool true), (15, V.bool true), (39, V.bool false)], hp := [(0, Ob.row false 1 x0)], nx := 109 } = { tm := [(0, V.str s0), (1, V.str s1), (4, V.sl (some true) true 0 []), (5, V.ref 0), (6, vi i0), (7, V.bool b0), (8, vi (wI (i1 + 1))), (11, V.bool true)], hp := [(0, Ob.row false 1 x0)], nx := 1 } := by kernel_rfl
theorem L108_1_b2 (i0 i1 : Int) (b0 b1 : Bool) (s0 s1 : List UInt8) (x0 : List V) (k : Nat)
    (c0 : decide (i1 < 128) = true)
    (c1 : decide (0 ≤ wI (i0 - i1)) = true)
    (c2 : decide (wI (i0 - i1) < 128) = true)
    (c3 : cP ((k + 5)) 126 [V.str s0, vi i1] = some (V.bool b1))
    (c4 : b1 = false) :
    eC k 5 0 108 (loopBody Tryz.f108 1) { tm := [(0, V.str s0), (1, V.str s1), (4, V.sl (some true) true 0 []), (5, V.ref 0), (6, vi i0), (7, V.bool b0), (8, vi i1), (11, V.bool true)], hp := [(0, Ob.row false 1 x0)], nx := 1 } = some (Exit.normal, { tm := [(0, V.str s0), (1, V.str s1), (4, V.sl (some true) true 0 []), (5, V.ref 0), (6, vi i0), (7, V.bool b0), (8, vi (wI (i1 + 1))), (11, V.bool true), (15, V.bool true), (39, V.bool false)], hp := [(0, Ob.row false 1 x0)], nx := 109 }) :=
  byL (k := k) (d := 5) [Hn.br 15 true, Hn.br 22 true, Hn.br 28 true, Hn.call 31 (V.bool b1), Hn.br 33 false] (aI c0 (aI c1 (aI c2 (aI c3 (aI c4 trivial))))) (by kernel_rfl)
theorem L108_1_b2h (i0 i1 : Int) (b0 : Bool) (s0 s1 : List UInt8) (x0 : List V) : head 0 [0, 1, 4, 5, 6, 7, 8, 11] (Tryz.cfg.fc 108).acc { tm := [(0, V.str s0), (1, V.str s1), (4, V.sl (some true) true 0 []), (5, V.ref 0), (6, vi i0), (7, V.bool b0), (8, vi (wI (i1 + 1))), (11, V.bool true), (15, V.bool true), (39, V.bool false)], hp := [(0, Ob.row false 1 x0)], nx := 109 } = { tm := [(0, V.str s0), (1, V.str s1), (4, V.sl (some true) true 0 []), (5, V.ref 0), (6, vi i0), (7, V.bool b0), (8, vi (wI (i1 + 1))), (11, V.bool true)], hp := [(0, Ob.row false 1 x0)], nx := 1 } := by kernel_rfl
theorem L108_1_b3 (i0 i1 : Int) (b0 : Bool) (s0 s1 : List UInt8) (x0 : List V) (k : Nat)
    (c0 : decide (i1 < 128) = true)
    (c1 : decide (0 ≤ wI (i0 - i1)) = true)
    (c2 : decide (wI (i0 - i1) < 128) = false) :
    eC k 5 0 108 (loopBody Tryz.f108 1) { tm := [(0, V.str s0), (1, V.str s1), (4, V.sl (some true) true 0 []), (5, V.ref 0), (6, vi i0), (7, V.bool b0), (8, vi i1), (11, V.bool true)], hp := [(0, Ob.row false 1 x0)], nx := 1 } = some (Exit.normal, { tm := [(0, V.str s0), (1, V.str s1), (4, V.sl (some true) true 0 []), (5, V.ref 0), (6, vi i0), (7, V.bool b0), (8, vi (wI (i1 + 1))), (11, V.bool true), (15, V.bool true), (39, V.bool false)], hp := [(0, Ob.row false 1 x0)], nx := 109 }) :=
  byL (k := k) (d := 5) [Hn.br 15 true, Hn.br 22 true, Hn.br 28 false] (aI c0 (aI c1 (aI c2 trivial))) (by kernel_rfl)
theorem L108_1_b3h (i0 i1 : Int) (b0 : Bool) (s0 s1 : List UInt8) (x0 : List V) : head 0 [0, 1, 4, 5, 6, 7, 8, 11] (Tryz.cfg.fc 108).acc { tm := [(0, V.str s0), (1, V.str s1), (4, V.sl (some true) true 0 []), (5, V.ref 0), (6, vi i0), (7, V.bool b0), (8, vi (wI (i1 + 1))), (11, V.bool true), (15, V.bool true), (39, V.bool false)], hp := [(0, Ob.row false 1 x0)], nx := 109 } = { tm := [(0, V.str s0), (1, V.str s1), (4, V.sl (some true) true 0 []), (5, V.ref 0), (6, vi i0), (7, V.bool b0), (8, vi (wI (i1 + 1))), (11, V.bool true)], hp := [(0, Ob.row false 1 x0)], nx := 1 } := by kernel_rfl
theorem L108_1_b4 (i0 i1 : Int) (b0 : Bool) (s0 s1 : List UInt8) (x0 : List V) (k : Nat)
    (c0 : decide (i1 < 128) = true)
    (c1 : decide (0 ≤ wI (i0 - i1)) = false) :
    eC k 5 0 108 (loopBody Tryz.f108 1) { tm := [(0, V.str s0), (1, V.str s1), (4, V.sl (some true) true 0 []), (5, V.ref 0), (6, vi i0), (7, V.bool b0), (8, vi i1), (11, V.bool true)], hp := [(0, Ob.row false 1 x0)], nx := 1 } = some (Exit.normal, { tm := [(0, V.str s0), (1, V.str s1), (4, V.sl (some true) true 0 []), (5, V.ref 0), (6, vi i0), (7, V.bool b0), (8, vi (wI (i1 + 1))), (11, V.bool true), (15, V.bool true), (39, V.bool false)], hp := [(0, Ob.row false 1 x0)], nx := 109 }) :=
  byL (k := k) (d := 5) [Hn.br 15 true, Hn.br 22 false] (aI c0 (aI c1 trivial)) (by kernel_rfl)
theorem L108_1_b4h (i0 i1 : Int) (b0 : Bool) (s0 s1 : List UInt8) (x0 : List V) : head 0 [0, 1, 4, 5, 6, 7, 8, 11] (Tryz.cfg.fc 108).acc { tm := [(0, V.str s0), (1, V.str s1), (4, V.sl (some true) true 0 []), (5, V.ref 0), (6, vi i0), (7, V.bool b0), (8, vi (wI (i1 + 1))), (11, V.bool true), (15, V.bool true), (39, V.bool false)], hp := [(0, Ob.row false 1 x0)], nx := 109 } = { tm := [(0, V.str s0), (1, V.str s1), (4, V.sl (some true) true 0 []), (5, V.ref 0), (6, vi i0), (7, V.bool b0), (8, vi (wI (i1 + 1))), (11, V.bool true)], hp := [(0, Ob.row false 1 x0)], nx := 1 } := by kernel_rfl
theorem L108_1_b5 (i0 i1 : Int) (b0 : Bool) (s0 s1 : List UInt8) (x0 : List V) (k : Nat)
    (c0 : decide (i1 < 128) = false) :
    eC k 5 0 108 (loopBody Tryz.f108 1) { tm := [(0, V.str s0), (1, V.str s1), (4, V.sl (some true) true 0 []), (5, V.ref 0), (6, vi i0), (7, V.bool b0), (8, vi i1), (11, V.bool true)], hp := [(0, Ob.row false 1 x0)], nx := 1 } = some (Exit.exit 2, { tm := [(0, V.str s0), (1, V.str s1), (4, V.sl (some true) true 0 []), (5, V.ref 0), (6, vi i0), (7, V.bool b0), (8, vi i1), (11, V.bool true), (15, V.bool false)], hp := [(0, Ob.row false 1 x0)], nx := 9 }) :=
  byL (k := k) (d := 5) [Hn.br 15 false] (aI c0 trivial) (by kernel_rfl)
inductive L108_1_R where
  | e0 (i1 : Int) (b0 : Bool)
noncomputable def L108_1_end (i0 : Int) (s0 : List UInt8) (s1 : List UInt8) (x0 : List V) : L108_1_R → Exit × St
  | .e0 i1 b0 => (Exit.exit 2, { tm := [(0, V.str s0), (1, V.str s1), (4, V.sl (some true) true 0 []), (5, V.ref 0), (6, V.int .i64 i0), (7, V.bool b0), (8, V.int .i64 i1), (11, V.bool true), (15, V.bool false)], hp := [(0, Ob.row false 1 x0)], nx := 9 })
def L108_1 (k : Nat) (i0 : Int) (s0 s1 : List UInt8) (x0 : List V) : Nat → Bool → Int → Option L108_1_R
  | 0, _, _ => none
  | f + 1, b0, i1 => (bif decide (i1 < 128) then (bif decide (0 ≤ IntKind.i64.wrap (i0 - i1)) then (bif decide (IntKind.i64.wrap (i0 - i1) < 128) then ((F126 (k + 2) (s0) (i1)).bind fun b1 => (bif b1 then ((F126 (k + 2) (s1) (IntKind.i64.wrap (i0 - i1))).bind fun b2 => (bif b2 then (L108_1 k i0 s0 s1 x0 f (!b0) (IntKind.i64.wrap (i1 + 1))) else (L108_1 k i0 s0 s1 x0 f (b0) (IntKind.i64.wrap (i1 + 1))))) else (L108_1 k i0 s0 s1 x0 f (b0) (IntKind.i64.wrap (i1 + 1))))) else (L108_1 k i0 s0 s1 x0 f (b0) (IntKind.i64.wrap (i1 + 1)))) else (L108_1 k i0 s0 s1 x0 f (b0) (IntKind.i64.wrap (i1 + 1)))) else (some (L108_1_R.e0 i1 b0)))
theorem L108_1_ok {i0 : Int} {s0 s1 : List UInt8} {x0 : List V} {k : Nat} : ∀ {f : Nat} {b0 : Bool} {i1 : Int} {r : L108_1_R}, L108_1 k i0 s0 s1 x0 f b0 i1 = some r →
    LoopsN Tryz.prog Tryz.cfg (k + 5) 0 Tryz.f108 (Tryz.cfg.fc 108) 1 [0, 1, 4, 5, 6, 7, 8, 11] f { tm := [(0, V.str s0), (1, V.str s1), (4, V.sl (some true) true 0 []), (5, V.ref 0), (6, vi i0), (7, V.bool b0), (8, vi i1), (11, V.bool true)], hp := [(0, Ob.row false 1 x0)], nx := 1 } (L108_1_end i0 s0 s1 x0 r) := by
  intro f
  induction f with
  | zero => intro b0 i1 r h; cases h
  | succ f ih =>
    intro b0 i1 r h
    rw [L108_1] at h
    rcases cond_elim h with ⟨e0, h⟩ | ⟨e0, h⟩
    ·
      rcases cond_elim h with ⟨e1, h⟩ | ⟨e1, h⟩
      ·
        rcases cond_elim h with ⟨e2, h⟩ | ⟨e2, h⟩
        ·
          obtain ⟨b1, e3, h⟩ := bE h
          rcases cond_elim h with ⟨e4, h⟩ | ⟨e4, h⟩
          ·
            obtain ⟨b2, e5, h⟩ := bE h
            rcases cond_elim h with ⟨e6, h⟩ | ⟨e6, h⟩
            ·
              exact LoopsN.next (L108_1_b0 i0 i1 b0 b1 b2 s0 s1 x0 k e0 e1 e2 (F126_ok e3) e4 (F126_ok e5) e6) (L108_1_b0h i0 i1 b0 s0 s1 x0) (ih h)
            ·
              exact LoopsN.next (L108_1_b1 i0 i1 b0 b1 b2 s0 s1 x0 k e0 e1 e2 (F126_ok e3) e4 (F126_ok e5) e6) (L108_1_b1h i0 i1 b0 s0 s1 x0) (ih h)
          ·
            exact LoopsN.next (L108_1_b2 i0 i1 b0 b1 s0 s1 x0 k e0 e1 e2 (F126_ok e3) e4) (L108_1_b2h i0 i1 b0 s0 s1 x0) (ih h)
        ·
          exact LoopsN.next (L108_1_b3 i0 i1 b0 s0 s1 x0 k e0 e1 e2) (L108_1_b3h i0 i1 b0 s0 s1 x0) (ih h)
      ·
        exact LoopsN.next (L108_1_b4 i0 i1 b0 s0 s1 x0 k e0 e1) (L108_1_b4h i0 i1 b0 s0 s1 x0) (ih h)
    ·
      cases h; exact LoopsN.done (L108_1_b5 i0 i1 b0 s0 s1 x0 k e0) (fun h => by cases h)
theorem L108_0_b0 (i0 i1 : Int) (b0 : Bool) (s0 s1 : List UInt8) (x0 : List V) (k : Nat)
    (c0 : decide (i0 < 255) = true)
    (c1 : LoopsN Tryz.prog Tryz.cfg (k + 5) 0 Tryz.f108 (Tryz.cfg.fc 108) 1 [0, 1, 4, 5, 6, 7, 8, 11] (k + 5) { tm := [(0, V.str s0), (1, V.str s1), (4, V.sl (some true) true 0 []), (5, V.ref 0), (6, vi i0), (7, V.bool false), (8, vi 0), (11, V.bool true)], hp := [(0, Ob.row false 1 x0)], nx := 1 } (Exit.exit 2, { tm := [(0, V.str s0), (1, V.str s1), (4, V.sl (some true) true 0 []), (5, V.ref 0), (6, vi i0), (7, V.bool b0), (8, vi i1), (11, V.bool true), (15, V.bool false)], hp := [(0, Ob.row false 1 x0)], nx := 9 }))
    (c2 : GrdW ((1 : Nat) = (1 : Nat) ∧ (0 : Nat) < (1 : Nat) ∧ (1 : Nat) ≤ (64 : Nat) ∧ x0.length + (1 : Nat) ≤ maxLen') (V.ref (21 : Nat)) [((0 : Nat), Ob.dead), ((21 : Nat), Ob.row false (1 : Nat) (x0 ++ [V.bool b0]))]) :
    eC k 5 0 108 (loopBody Tryz.f108 0) { tm := [(0, V.str s0), (1, V.str s1), (4, V.sl (some true) true 0 []), (5, V.ref 0), (6, vi i0)], hp := [(0, Ob.row false 1 x0)], nx := 1 } = some (Exit.normal, { tm := [(0, V.str s0), (1, V.str s1), (4, V.sl (some true) true 0 []), (5, V.ref 21), (6, vi (wI (i0 + 1))), (7, V.bool b0), (8, vi i1), (11, V.bool true), (15, V.bool false)], hp := [(0, Ob.dead), (17, Ob.row false 1 [V.bool b0]), (21, Ob.row false 1 (x0 ++ [V.bool b0]))], nx := 41 }) :=
  byL (k := k) (d := 5) [Hn.br 11 true, Hn.loop (Exit.exit 2, { tm := [(0, V.str s0), (1, V.str s1), (4, V.sl (some true) true 0 []), (5, V.ref 0), (6, vi i0), (7, V.bool b0), (8, vi i1), (11, V.bool true), (15, V.bool false)], hp := [(0, Ob.row false 1 x0)], nx := 9 }), Hn.op 45 (V.ref 21) [(0, Ob.dead), (21, Ob.row false 1 (x0 ++ [V.bool b0]))]] (aI c0 (aI c1 (aI c2 trivial))) (by kernel_rfl)
theorem L108_0_b0h (i0 i1 : Int) (b0 : Bool) (s0 s1 : List UInt8) (x0 : List V) : head 0 [0, 1, 4, 5, 6] (Tryz.cfg.fc 108).acc { tm := [(0, V.str s0), (1, V.str s1), (4, V.sl (some true) true 0 []), (5, V.ref 21), (6, vi (wI (i0 + 1))), (7, V.bool b0), (8, vi i1), (11, V.bool true), (15, V.bool false)], hp := [(0, Ob.dead), (17, Ob.row false 1 [V.bool b0]), (21, Ob.row false 1 (x0 ++ [V.bool b0]))], nx := 41 } = { tm := [(0, V.str s0), (1, V.str s1), (4, V.sl (some true) true 0 []), (5, V.ref 0), (6, vi (wI (i0 + 1)))], hp := [(0, Ob.row false 1 (x0 ++ [V.bool b0]))], nx := 1 } := by kernel_rfl
theorem L108_0_b1 (i0 : Int) (s0 s1 : List UInt8) (x0 : List V) (k : Nat)
    (c0 : decide (i0 < 255) = false) :
    eC k 5 0 108 (loopBody Tryz.f108 0) { tm := [(0, V.str s0), (1, V.str s1), (4, V.sl (some true) true 0 []), (5, V.ref 0), (6, vi i0)], hp := [(0, Ob.row false 1 x0)], nx := 1 } = some (Exit.exit 0, { tm := [(0, V.str s0), (1, V.str s1), (4, V.sl (some true) true 0 []), (5, V.ref 0), (6, vi i0), (11, V.bool false)], hp := [(0, Ob.row false 1 x0)], nx := 9 }) :=
  byL (k := k) (d := 5) [Hn.br 11 false] (aI c0 trivial) (by kernel_rfl)
inductive L108_0_R where
  | e0 (i0 : Int) (x0 : List V)
noncomputable def L108_0_end (s0 : List UInt8) (s1 : List UInt8) : L108_0_R → Exit × St
  | .e0 i0 x0 => (Exit.exit 0, { tm := [(0, V.str s0), (1, V.str s1), (4, V.sl (some true) true 0 []), (5, V.ref 0), (6, V.int .i64 i0), (11, V.bool false)], hp := [(0, Ob.row false 1 x0)], nx := 9 })
def L108_0 (k : Nat) (s0 s1 : List UInt8) : Nat → Int → List V → Option L108_0_R
  | 0, _, _ => none
  | f + 1, i0, x0 => (bif decide (i0 < 255) then ((L108_1 k i0 s0 s1 x0 (k + 5) (false) (0)).bind fun
    | L108_1_R.e0 i1 b0 => (guardP (x0.length + (1 : Nat) ≤ maxLen') (L108_0 k s0 s1 f (IntKind.i64.wrap (i0 + 1)) (x0 ++ [V.bool b0])))) else (some (L108_0_R.e0 i0 x0)))
theorem L108_0_ok {s0 s1 : List UInt8} {k : Nat} : ∀ {f : Nat} {i0 : Int} {x0 : List V} {r : L108_0_R}, L108_0 k s0 s1 f i0 x0 = some r →
    LoopsN Tryz.prog Tryz.cfg (k + 5) 0 Tryz.f108 (Tryz.cfg.fc 108) 0 [0, 1, 4, 5, 6] f { tm := [(0, V.str s0), (1, V.str s1), (4, V.sl (some true) true 0 []), (5, V.ref 0), (6, vi i0)], hp := [(0, Ob.row false 1 x0)], nx := 1 } (L108_0_end s0 s1 r) := by
  intro f
  induction f with
  | zero => intro i0 x0 r h; cases h
  | succ f ih =>
    intro i0 x0 r h
    rw [L108_0] at h
    rcases cond_elim h with ⟨e0, h⟩ | ⟨e0, h⟩
    ·
      obtain ⟨ee, e1, h⟩ := bE h
      cases ee with
      | e0 i1 b0 =>
        obtain ⟨e2, h⟩ := guardP_some.1 h
        exact LoopsN.next (L108_0_b0 i0 i1 b0 s0 s1 x0 k e0 (L108_1_ok e1) (GrdW.mk ⟨rfl, by decide, by decide, e2⟩)) (L108_0_b0h i0 i1 b0 s0 s1 x0) (ih h)
    ·
      cases h; exact LoopsN.done (L108_0_b1 i0 s0 s1 x0 k e0) (fun h => by cases h)
theorem P108_0 (i0 : Int) (s0 s1 : List UInt8) (x0 : List V) (k : Nat)
    (c0 : LoopsN Tryz.prog Tryz.cfg (k + 5) 0 Tryz.f108 (Tryz.cfg.fc 108) 0 [0, 1, 4, 5, 6] (k + 5) { tm := [(0, V.str s0), (1, V.str s1), (4, V.sl (some true) true 0 []), (5, V.ref 0), (6, vi 0)], hp := [(0, Ob.row false 1 [])], nx := 1 } (Exit.exit 0, { tm := [(0, V.str s0), (1, V.str s1), (4, V.sl (some true) true 0 []), (5, V.ref 0), (6, vi i0), (11, V.bool false)], hp := [(0, Ob.row false 1 x0)], nx := 9 })) :
    cP ((k + 6)) 108 [V.str s0, V.str s1] = some (V.sl none false 1 x0) :=
  byF (k := k) (d := 6) [Hn.loop (Exit.exit 0, { tm := [(0, V.str s0), (1, V.str s1), (4, V.sl (some true) true 0 []), (5, V.ref 0), (6, vi i0), (11, V.bool false)], hp := [(0, Ob.row false 1 x0)], nx := 9 })] (aI c0 trivial) (by kernel_rfl)
def F108 (k : Nat) (s0 s1 : List UInt8) : Option (Option Bool × Bool × Nat × List V) :=
  ((L108_0 k s0 s1 (k + 5) (0) ([])).bind fun
    | L108_0_R.e0 i0 x0 => (some ((none), (false), (1), (x0))))
theorem F108_ok {s0 s1 : List UInt8} {k : Nat} {r : Option Bool × Bool × Nat × List V} (h : F108 k s0 s1 = some r) :
    cP ((k + 6)) 108 [V.str s0, V.str s1] = some (V.sl r.1 r.2.1 r.2.2.1 r.2.2.2) := by
  unfold F108 at h
  obtain ⟨ee, e0, h⟩ := bE h
  cases ee with
  | e0 i0 x0 =>
    have h := Option.some.inj h; subst h; exact P108_0 i0 s0 s1 x0 k (L108_0_ok e0)
theorem P109_0 (i0 : Int) (b0 b1 : Bool) (x0 : List V) (o0 : Option Bool) (n0 k : Nat)
    (c0 : GrdV (n0 = (1 : Nat) ∨ x0.isEmpty = true) ((1 : Nat) = (1 : Nat) ∧ (0 : Nat) < (1 : Nat) ∧ (1 : Nat) ≤ (64 : Nat) ∧ (0 : Nat) + x0.length ≤ maxLen') (V.ref (20 : Nat)) [((4 : Nat), Ob.dead), ((20 : Nat), Ob.row false (1 : Nat) x0)])
    (c1 : IdxR x0.length i0 1 1 (V.ept 20 i0.toNat 0))
    (c2 : LdP Tryz.prog 4 x0 i0.toNat 0 (V.bool b1))
    (c3 : IdxR x0.length i0 1 1 (V.ept 20 i0.toNat 0))
    (c4 : GrdW (false = false ∧ (rid (V.bool !b1)).contains (20 : Nat) = false ∧ i0.toNat < x0.length) (V.tup []) [((20 : Nat), Ob.row false (1 : Nat) (x0.set i0.toNat (V.bool !b1)))]) :
    cP ((k + 3)) 109 [V.sl o0 b0 n0 x0, vi i0] = some (V.sl none false 1 (x0.set i0.toNat (V.bool !b1))) :=
  byF (k := k) (d := 3) [Hn.op 9 (V.ref 20) [(4, Ob.dead), (20, Ob.row false 1 x0)], Hn.op 14 (V.ept 20 i0.toNat 0) [], Hn.op 15 (V.bool b1) [], Hn.op 17 (V.ept 20 i0.toNat 0) [], Hn.wr 60 (V.tup []) [(20, Ob.row false 1 (x0.set i0.toNat (V.bool !b1)))]] (aI c0 (aI c1 (aI c2 (aI c3 (aI c4 trivial))))) (by kernel_rfl)
def F109 (k : Nat) (o0 : Option Bool) (b0 : Bool) (n0 : Nat) (x0 : List V) (i0 : Int) : Option (Option Bool × Bool × Nat × List V) :=
  (guardP (n0 = (1 : Nat) ∨ x0.isEmpty = true) (guardP ((0 : Nat) + x0.length ≤ maxLen') (guardP ((0 : Int) ≤ i0 ∧ i0 < (↑x0.length : Int)) ((((x0)[i0.toNat]?).bind dB).bind fun b1 => (guardP (i0.toNat < x0.length) (some ((none), (false), (1), (x0.set i0.toNat (V.bool !b1)))))))))
theorem F109_ok {o0 : Option Bool} {b0 : Bool} {n0 : Nat} {x0 : List V} {i0 : Int} {k : Nat} {r : Option Bool × Bool × Nat × List V} (h : F109 k o0 b0 n0 x0 i0 = some r) :
    cP ((k + 3)) 109 [V.sl o0 b0 n0 x0, vi i0] = some (V.sl r.1 r.2.1 r.2.2.1 r.2.2.2) := by
  unfold F109 at h
  obtain ⟨e0, h⟩ := guardP_some.1 h
  obtain ⟨e1, h⟩ := guardP_some.1 h
  obtain ⟨e2, h⟩ := guardP_some.1 h
  obtain ⟨b1, e3, h⟩ := bE h
  obtain ⟨e4, h⟩ := guardP_some.1 h
  have h := Option.some.inj h; subst h; exact P109_0 i0 b0 b1 x0 o0 n0 k (GrdV.mk e0 ⟨rfl, by decide, by decide, e1⟩) (IdxR.mk' e2 rfl) (LdP.mk (get_d dB_ok e3 :) (by kernel_rfl)) (IdxR.mk' e2 rfl) (GrdW.mk ⟨rfl, rfl, e4⟩)
theorem L110_1_b0 (i0 i1 i2 : Int) (b0 b1 : Bool) (x0 x1 : List V) (o0 : Option Bool) (n0 k : Nat)
    (c0 : decide (i2 < 8) = true)
    (c1 : IdxP x0 (wI (wI (8 * i0) + i2)) n0 1 (V.bool b1))
    (c2 : b1 = true) :
    eC k 2 0 110 (loopBody Tryz.f110 1) { tm := [(0, V.sl o0 b0 n0 x0), (2, V.str []), (3, V.ref 0), (4, vi i0), (5, vi i1), (6, vi i2), (9, V.bool true)], hp := [(0, Ob.row false 1 x1)], nx := 1 } = some (Exit.normal, { tm := [(0, V.sl o0 b0 n0 x0), (2, V.str []), (3, V.ref 0), (4, vi i0), (5, vi (wI (wI (2 * i1) + 1))), (6, vi (wI (i2 + 1))), (9, V.bool true), (13, V.bool true), (24, V.bool true)], hp := [(0, Ob.row false 1 x1)], nx := 73 }) :=
  byL (k := k) (d := 2) [Hn.br 13 true, Hn.op 23 ((V.bool b1).cpt 0) [], Hn.br 24 true] (aI c0 (aI c1 (aI c2 trivial))) (by kernel_rfl)
theorem L110_1_b0h (i0 i1 i2 : Int) (b0 : Bool) (x0 x1 : List V) (o0 : Option Bool) (n0 : Nat) : head 0 [0, 2, 3, 4, 5, 6, 9] (Tryz.cfg.fc 110).acc { tm := [(0, V.sl o0 b0 n0 x0), (2, V.str []), (3, V.ref 0), (4, vi i0), (5, vi (wI (wI (2 * i1) + 1))), (6, vi (wI (i2 + 1))), (9, V.bool true), (13, V.bool true), (24, V.bool true)], hp := [(0, Ob.row false 1 x1)], nx := 73 } = { tm := [(0, V.sl o0 b0 n0 x0), (2, V.str []), (3, V.ref 0), (4, vi i0), (5, vi (wI (wI (2 * i1) + 1))), (6, vi (wI (i2 + 1))), (9, V.bool true)], hp := [(0, Ob.row false 1 x1)], nx := 1 } := by kernel_rfl
theorem L110_1_b1 (i0 i1 i2 : Int) (b0 b1 : Bool) (x0 x1 : List V) (o0 : Option Bool) (n0 k : Nat)
    (c0 : decide (i2 < 8) = true)
    (c1 : IdxP x0 (wI (wI (8 * i0) + i2)) n0 1 (V.bool b1))
    (c2 : b1 = false) :
    eC k 2 0 110 (loopBody Tryz.f110 1) { tm := [(0, V.sl o0 b0 n0 x0), (2, V.str []), (3, V.ref 0), (4, vi i0), (5, vi i1), (6, vi i2), (9, V.bool true)], hp := [(0, Ob.row false 1 x1)], nx := 1 } = some (Exit.normal, { tm := [(0, V.sl o0 b0 n0 x0), (2, V.str []), (3, V.ref 0), (4, vi i0), (5, vi (wI (2 * i1))), (6, vi (wI (i2 + 1))), (9, V.bool true), (13, V.bool true), (24, V.bool false)], hp := [(0, Ob.row false 1 x1)], nx := 61 }) :=
  byL (k := k) (d := 2) [Hn.br 13 true, Hn.op 23 ((V.bool b1).cpt 0) [], Hn.br 24 false] (aI c0 (aI c1 (aI c2 trivial))) (by kernel_rfl)
theorem L110_1_b1h (i0 i1 i2 : Int) (b0 : Bool) (x0 x1 : List V) (o0 : Option Bool) (n0 : Nat) : head 0 [0, 2, 3, 4, 5, 6, 9] (Tryz.cfg.fc 110).acc { tm := [(0, V.sl o0 b0 n0 x0), (2, V.str []), (3, V.ref 0), (4, vi i0), (5, vi (wI (2 * i1))), (6, vi (wI (i2 + 1))), (9, V.bool true), (13, V.bool true), (24, V.bool false)], hp := [(0, Ob.row false 1 x1)], nx := 61 } = { tm := [(0, V.sl o0 b0 n0 x0), (2, V.str []), (3, V.ref 0), (4, vi i0), (5, vi (wI (2 * i1))), (6, vi (wI (i2 + 1))), (9, V.bool true)], hp := [(0, Ob.row false 1 x1)], nx := 1 } := by kernel_rfl
theorem L110_1_b2 (i0 i1 i2 : Int) (b0 : Bool) (x0 x1 : List V) (o0 : Option Bool) (n0 k : Nat)
    (c0 : decide (i2 < 8) = false) :
    eC k 2 0 110 (loopBody Tryz.f110 1) { tm := [(0, V.sl o0 b0 n0 x0), (2, V.str []), (3, V.ref 0), (4, vi i0), (5, vi i1), (6, vi i2), (9, V.bool true)], hp := [(0, Ob.row false 1 x1)], nx := 1 } = some (Exit.exit 2, { tm := [(0, V.sl o0 b0 n0 x0), (2, V.str []), (3, V.ref 0), (4, vi i0), (5, vi i1), (6, vi i2), (9, V.bool true), (13, V.bool false)], hp := [(0, Ob.row false 1 x1)], nx := 9 }) :=
  byL (k := k) (d := 2) [Hn.br 13 false] (aI c0 trivial) (by kernel_rfl)
inductive L110_1_R where
  | e0 (i1 : Int) (i2 : Int)
noncomputable def L110_1_end (i0 : Int) (b0 : Bool) (x0 : List V) (x1 : List V) (o0 : Option Bool) (n0 : Nat) : L110_1_R → Exit × St
  | .e0 i1 i2 => (Exit.exit 2, { tm := [(0, V.sl o0 b0 n0 x0), (2, V.str []), (3, V.ref 0), (4, V.int .i64 i0), (5, V.int .i64 i1), (6, V.int .i64 i2), (9, V.bool true), (13, V.bool false)], hp := [(0, Ob.row false 1 x1)], nx := 9 })
def L110_1 (k : Nat) (i0 : Int) (b0 : Bool) (x0 x1 : List V) (o0 : Option Bool) (n0 : Nat) : Nat → Int → Int → Option L110_1_R
  | 0, _, _ => none
  | f + 1, i1, i2 => (bif decide (i2 < 8) then (guardP (n0 = (1 : Nat)) (((at? (x0) (IntKind.i64.wrap (IntKind.i64.wrap (8 * i0) + i2))).bind dB).bind fun b1 => (bif b1 then (L110_1 k i0 b0 x0 x1 o0 n0 f (IntKind.i64.wrap (IntKind.i64.wrap (2 * i1) + 1)) (IntKind.i64.wrap (i2 + 1))) else (L110_1 k i0 b0 x0 x1 o0 n0 f (IntKind.i64.wrap (2 * i1)) (IntKind.i64.wrap (i2 + 1)))))) else (some (L110_1_R.e0 i1 i2)))
theorem L110_1_ok {i0 : Int} {b0 : Bool} {x0 x1 : List V} {o0 : Option Bool} {n0 k : Nat} : ∀ {f : Nat} {i1 : Int} {i2 : Int} {r : L110_1_R}, L110_1 k i0 b0 x0 x1 o0 n0 f i1 i2 = some r →
    LoopsN Tryz.prog Tryz.cfg (k + 2) 0 Tryz.f110 (Tryz.cfg.fc 110) 1 [0, 2, 3, 4, 5, 6, 9] f { tm := [(0, V.sl o0 b0 n0 x0), (2, V.str []), (3, V.ref 0), (4, vi i0), (5, vi i1), (6, vi i2), (9, V.bool true)], hp := [(0, Ob.row false 1 x1)], nx := 1 } (L110_1_end i0 b0 x0 x1 o0 n0 r) := by
  intro f
  induction f with
  | zero => intro i1 i2 r h; cases h
  | succ f ih =>
    intro i1 i2 r h
    rw [L110_1] at h
    rcases cond_elim h with ⟨e0, h⟩ | ⟨e0, h⟩
    ·
      obtain ⟨e1, h⟩ := guardP_some.1 h
      obtain ⟨b1, e2, h⟩ := bE h
      rcases cond_elim h with ⟨e3, h⟩ | ⟨e3, h⟩
      ·
        exact LoopsN.next (L110_1_b0 i0 i1 i2 b0 b1 x0 x1 o0 n0 k e0 (IdxP.of_at' (at_d dB_ok e2 :) e1) e3) (L110_1_b0h i0 i1 i2 b0 x0 x1 o0 n0) (ih h)
      ·
        exact LoopsN.next (L110_1_b1 i0 i1 i2 b0 b1 x0 x1 o0 n0 k e0 (IdxP.of_at' (at_d dB_ok e2 :) e1) e3) (L110_1_b1h i0 i1 i2 b0 x0 x1 o0 n0) (ih h)
    ·
      cases h; exact LoopsN.done (L110_1_b2 i0 i1 i2 b0 x0 x1 o0 n0 k e0) (fun h => by cases h)
theorem L110_0_b0 (i0 i1 i2 : Int) (b0 : Bool) (x0 x1 : List V) (o0 : Option Bool) (n0 k : Nat)
    (c0 : decide (i0 < 16) = true)
    (c1 : LoopsN Tryz.prog Tryz.cfg (k + 2) 0 Tryz.f110 (Tryz.cfg.fc 110) 1 [0, 2, 3, 4, 5, 6, 9] (k + 2) { tm := [(0, V.sl o0 b0 n0 x0), (2, V.str []), (3, V.ref 0), (4, vi i0), (5, vi 0), (6, vi 0), (9, V.bool true)], hp := [(0, Ob.row false 1 x1)], nx := 1 } (Exit.exit 2, { tm := [(0, V.sl o0 b0 n0 x0), (2, V.str []), (3, V.ref 0), (4, vi i0), (5, vi i1), (6, vi i2), (9, V.bool true), (13, V.bool false)], hp := [(0, Ob.row false 1 x1)], nx := 9 }))
    (c2 : GrdW ((1 : Nat) = (1 : Nat) ∧ (0 : Nat) < (1 : Nat) ∧ (1 : Nat) ≤ (64 : Nat) ∧ x1.length + (1 : Nat) ≤ maxLen') (V.ref (25 : Nat)) [((0 : Nat), Ob.dead), ((25 : Nat), Ob.row false (1 : Nat) (x1 ++ [vb (wB i1)]))]) :
    eC k 2 0 110 (loopBody Tryz.f110 0) { tm := [(0, V.sl o0 b0 n0 x0), (2, V.str []), (3, V.ref 0), (4, vi i0)], hp := [(0, Ob.row false 1 x1)], nx := 1 } = some (Exit.normal, { tm := [(0, V.sl o0 b0 n0 x0), (2, V.str []), (3, V.ref 25), (4, vi (wI (i0 + 1))), (5, vi i1), (6, vi i2), (9, V.bool true), (13, V.bool false)], hp := [(0, Ob.dead), (21, Ob.row false 1 [vb (wB i1)]), (25, Ob.row false 1 (x1 ++ [vb (wB i1)]))], nx := 45 }) :=
  byL (k := k) (d := 2) [Hn.br 9 true, Hn.loop (Exit.exit 2, { tm := [(0, V.sl o0 b0 n0 x0), (2, V.str []), (3, V.ref 0), (4, vi i0), (5, vi i1), (6, vi i2), (9, V.bool true), (13, V.bool false)], hp := [(0, Ob.row false 1 x1)], nx := 9 }), Hn.op 31 (V.ref 25) [(0, Ob.dead), (25, Ob.row false 1 (x1 ++ [vb (wB i1)]))]] (aI c0 (aI c1 (aI c2 trivial))) (by kernel_rfl)
theorem L110_0_b0h (i0 i1 i2 : Int) (b0 : Bool) (x0 x1 : List V) (o0 : Option Bool) (n0 : Nat) : head 0 [0, 2, 3, 4] (Tryz.cfg.fc 110).acc { tm := [(0, V.sl o0 b0 n0 x0), (2, V.str []), (3, V.ref 25), (4, vi (wI (i0 + 1))), (5, vi i1), (6, vi i2), (9, V.bool true), (13, V.bool false)], hp := [(0, Ob.dead), (21, Ob.row false 1 [vb (wB i1)]), (25, Ob.row false 1 (x1 ++ [vb (wB i1)]))], nx := 45 } = { tm := [(0, V.sl o0 b0 n0 x0), (2, V.str []), (3, V.ref 0), (4, vi (wI (i0 + 1)))], hp := [(0, Ob.row false 1 (x1 ++ [vb (wB i1)]))], nx := 1 } := by kernel_rfl
theorem L110_0_b1 (i0 : Int) (b0 : Bool) (x0 x1 : List V) (o0 : Option Bool) (n0 k : Nat)
    (c0 : decide (i0 < 16) = false) :
    eC k 2 0 110 (loopBody Tryz.f110 0) { tm := [(0, V.sl o0 b0 n0 x0), (2, V.str []), (3, V.ref 0), (4, vi i0)], hp := [(0, Ob.row false 1 x1)], nx := 1 } = some (Exit.exit 0, { tm := [(0, V.sl o0 b0 n0 x0), (2, V.str []), (3, V.ref 0), (4, vi i0), (9, V.bool false)], hp := [(0, Ob.row false 1 x1)], nx := 9 }) :=
  byL (k := k) (d := 2) [Hn.br 9 false] (aI c0 trivial) (by kernel_rfl)
inductive L110_0_R where
  | e0 (i0 : Int) (x1 : List V)
noncomputable def L110_0_end (b0 : Bool) (x0 : List V) (o0 : Option Bool) (n0 : Nat) : L110_0_R → Exit × St
  | .e0 i0 x1 => (Exit.exit 0, { tm := [(0, V.sl o0 b0 n0 x0), (2, V.str []), (3, V.ref 0), (4, V.int .i64 i0), (9, V.bool false)], hp := [(0, Ob.row false 1 x1)], nx := 9 })
def L110_0 (k : Nat) (b0 : Bool) (x0 : List V) (o0 : Option Bool) (n0 : Nat) : Nat → Int → List V → Option L110_0_R
  | 0, _, _ => none
  | f + 1, i0, x1 => (bif decide (i0 < 16) then ((L110_1 k i0 b0 x0 x1 o0 n0 (k + 2) (0) (0)).bind fun
    | L110_1_R.e0 i1 i2 => (guardP (x1.length + (1 : Nat) ≤ maxLen') (L110_0 k b0 x0 o0 n0 f (IntKind.i64.wrap (i0 + 1)) (x1 ++ [V.int .u8 (IntKind.u8.wrap i1)])))) else (some (L110_0_R.e0 i0 x1)))
theorem L110_0_ok {b0 : Bool} {x0 : List V} {o0 : Option Bool} {n0 k : Nat} : ∀ {f : Nat} {i0 : Int} {x1 : List V} {r : L110_0_R}, L110_0 k b0 x0 o0 n0 f i0 x1 = some r →
    LoopsN Tryz.prog Tryz.cfg (k + 2) 0 Tryz.f110 (Tryz.cfg.fc 110) 0 [0, 2, 3, 4] f { tm := [(0, V.sl o0 b0 n0 x0), (2, V.str []), (3, V.ref 0), (4, vi i0)], hp := [(0, Ob.row false 1 x1)], nx := 1 } (L110_0_end b0 x0 o0 n0 r) := by
  intro f
  induction f with
  | zero => intro i0 x1 r h; cases h
  | succ f ih =>
    intro i0 x1 r h
    rw [L110_0] at h
    rcases cond_elim h with ⟨e0, h⟩ | ⟨e0, h⟩
    ·
      obtain ⟨ee, e1, h⟩ := bE h
      cases ee with
      | e0 i1 i2 =>
        obtain ⟨e2, h⟩ := guardP_some.1 h
        exact LoopsN.next (L110_0_b0 i0 i1 i2 b0 x0 x1 o0 n0 k e0 (L110_1_ok e1) (GrdW.mk ⟨rfl, by decide, by decide, e2⟩)) (L110_0_b0h i0 i1 i2 b0 x0 x1 o0 n0) (ih h)
    ·
      cases h; exact LoopsN.done (L110_0_b1 i0 b0 x0 x1 o0 n0 k e0) (fun h => by cases h)
theorem P110_0 (i0 : Int) (b0 : Bool) (x0 x1 : List V) (o0 : Option Bool) (n0 k : Nat)
    (c0 : LoopsN Tryz.prog Tryz.cfg (k + 2) 0 Tryz.f110 (Tryz.cfg.fc 110) 0 [0, 2, 3, 4] (k + 2) { tm := [(0, V.sl o0 b0 n0 x0), (2, V.str []), (3, V.ref 0), (4, vi 0)], hp := [(0, Ob.row false 1 [])], nx := 1 } (Exit.exit 0, { tm := [(0, V.sl o0 b0 n0 x0), (2, V.str []), (3, V.ref 0), (4, vi i0), (9, V.bool false)], hp := [(0, Ob.row false 1 x1)], nx := 9 }))
    (c1 : GrdW (((1 : Nat) = (1 : Nat) ∨ x1.isEmpty = true) ∧ x1.all isByte = true) (V.str (List.map Sym.byteOf x1)) []) :
    cP ((k + 3)) 110 [V.sl o0 b0 n0 x0] = some (V.str (List.map Sym.byteOf x1)) :=
  byF (k := k) (d := 3) [Hn.loop (Exit.exit 0, { tm := [(0, V.sl o0 b0 n0 x0), (2, V.str []), (3, V.ref 0), (4, vi i0), (9, V.bool false)], hp := [(0, Ob.row false 1 x1)], nx := 9 }), Hn.op 33 (V.str (List.map Sym.byteOf x1)) []] (aI c0 (aI c1 trivial)) (by kernel_rfl)
def F110 (k : Nat) (o0 : Option Bool) (b0 : Bool) (n0 : Nat) (x0 : List V) : Option (List UInt8) :=
  ((L110_0 k b0 x0 o0 n0 (k + 2) (0) ([])).bind fun
    | L110_0_R.e0 i0 x1 => (guardP (x1.all isByte = true) (some (List.map Sym.byteOf x1))))
theorem F110_ok {o0 : Option Bool} {b0 : Bool} {n0 : Nat} {x0 : List V} {k : Nat} {r : List UInt8} (h : F110 k o0 b0 n0 x0 = some r) :
    cP ((k + 3)) 110 [V.sl o0 b0 n0 x0] = some (V.str r) := by
  unfold F110 at h
  obtain ⟨ee, e0, h⟩ := bE h
  cases ee with
  | e0 i0 x1 =>
    obtain ⟨e1, h⟩ := guardP_some.1 h
    have h := Option.some.inj h; subst h; exact P110_0 i0 b0 x0 x1 o0 n0 k (L110_0_ok e0) (GrdW.mk ⟨(.inl rfl), e1⟩)
theorem L82_0_b0 (i0 : Int) (b1 b2 b3 b4 b5 b6 : Bool) (s0 s1 : List UInt8) (x1 x2 x3 x4 x5 : List V) (o1 o2 o3 o4 o5 : Option Bool) (n1 n2 n3 n4 n5 k : Nat)
    (c0 : decide (128 ≤ i0) = true)
    (c1 : IdxP x1 i0 n1 1 (V.bool b2))
    (c2 : b2 = true)
    (c3 : cP ((k + 8)) 109 [V.sl o1 b1 n1 x1, vi (wI (i0 - 128))] = some (V.sl o2 b3 n2 x2))
    (c4 : cP ((k + 8)) 109 [V.sl o2 b3 n2 x2, vi (wI (i0 - 127))] = some (V.sl o3 b4 n3 x3))
    (c5 : cP ((k + 8)) 109 [V.sl o3 b4 n3 x3, vi (wI (i0 - 126))] = some (V.sl o4 b5 n4 x4))
    (c6 : cP ((k + 8)) 109 [V.sl o4 b5 n4 x4, vi (wI (i0 - 121))] = some (V.sl o5 b6 n5 x5)) :
    eC k 8 0 82 (loopBody Tryz.f82 0) { tm := [(0, V.str s0), (1, V.str s1), (4, V.str []), (5, V.sl o1 b1 n1 x1), (6, vi i0)], hp := [], nx := 0 } = some (Exit.normal, { tm := [(0, V.str s0), (1, V.str s1), (4, V.str []), (5, V.sl o5 b6 n5 x5), (6, vi (wI (i0 - 1))), (11, V.bool true), (17, V.bool true)], hp := [], nx := 92 }) :=
  byL (k := k) (d := 8) [Hn.br 11 true, Hn.op 16 ((V.bool b2).cpt 0) [], Hn.br 17 true, Hn.call 21 (V.sl o2 b3 n2 x2), Hn.call 24 (V.sl o3 b4 n3 x3), Hn.call 27 (V.sl o4 b5 n4 x4), Hn.call 30 (V.sl o5 b6 n5 x5)] (aI c0 (aI c1 (aI c2 (aI c3 (aI c4 (aI c5 (aI c6 trivial))))))) (by kernel_rfl)
theorem L82_0_b0h (i0 : Int) (b6 : Bool) (s0 s1 : List UInt8) (x5 : List V) (o5 : Option Bool) (n5 : Nat) : head 0 [0, 1, 4, 5, 6] (Tryz.cfg.fc 82).acc { tm := [(0, V.str s0), (1, V.str s1), (4, V.str []), (5, V.sl o5 b6 n5 x5), (6, vi (wI (i0 - 1))), (11, V.bool true), (17, V.bool true)], hp := [], nx := 92 } = { tm := [(0, V.str s0), (1, V.str s1), (4, V.str []), (5, V.sl o5 b6 n5 x5), (6, vi (wI (i0 - 1)))], hp := [], nx := 0 } := by kernel_rfl
theorem L82_0_b1 (i0 : Int) (b1 b2 : Bool) (s0 s1 : List UInt8) (x1 : List V) (o1 : Option Bool) (n1 k : Nat)
    (c0 : decide (128 ≤ i0) = true)
    (c1 : IdxP x1 i0 n1 1 (V.bool b2))
    (c2 : b2 = false) :
    eC k 8 0 82 (loopBody Tryz.f82 0) { tm := [(0, V.str s0), (1, V.str s1), (4, V.str []), (5, V.sl o1 b1 n1 x1), (6, vi i0)], hp := [], nx := 0 } = some (Exit.normal, { tm := [(0, V.str s0), (1, V.str s1), (4, V.str []), (5, V.sl o1 b1 n1 x1), (6, vi (wI (i0 - 1))), (11, V.bool true), (17, V.bool false)], hp := [], nx := 36 }) :=
  byL (k := k) (d := 8) [Hn.br 11 true, Hn.op 16 ((V.bool b2).cpt 0) [], Hn.br 17 false] (aI c0 (aI c1 (aI c2 trivial))) (by kernel_rfl)
theorem L82_0_b1h (i0 : Int) (b1 : Bool) (s0 s1 : List UInt8) (x1 : List V) (o1 : Option Bool) (n1 : Nat) : head 0 [0, 1, 4, 5, 6] (Tryz.cfg.fc 82).acc { tm := [(0, V.str s0), (1, V.str s1), (4, V.str []), (5, V.sl o1 b1 n1 x1), (6, vi (wI (i0 - 1))), (11, V.bool true), (17, V.bool false)], hp := [], nx := 36 } = { tm := [(0, V.str s0), (1, V.str s1), (4, V.str []), (5, V.sl o1 b1 n1 x1), (6, vi (wI (i0 - 1)))], hp := [], nx := 0 } := by kernel_rfl
theorem L82_0_b2 (i0 : Int) (b1 : Bool) (s0 s1 : List UInt8) (x1 : List V) (o1 : Option Bool) (n1 k : Nat)
    (c0 : decide (128 ≤ i0) = false) :
    eC k 8 0 82 (loopBody Tryz.f82 0) { tm := [(0, V.str s0), (1, V.str s1), (4, V.str []), (5, V.sl o1 b1 n1 x1), (6, vi i0)], hp := [], nx := 0 } = some (Exit.exit 0, { tm := [(0, V.str s0), (1, V.str s1), (4, V.str []), (5, V.sl o1 b1 n1 x1), (6, vi i0), (11, V.bool false)], hp := [], nx := 8 }) :=
  byL (k := k) (d := 8) [Hn.br 11 false] (aI c0 trivial) (by kernel_rfl)
inductive L82_0_R where
  | e0 (i0 : Int) (b1 : Bool) (x1 : List V) (o1 : Option Bool) (n1 : Nat)
noncomputable def L82_0_end (s0 : List UInt8) (s1 : List UInt8) : L82_0_R → Exit × St
  | .e0 i0 b1 x1 o1 n1 => (Exit.exit 0, { tm := [(0, V.str s0), (1, V.str s1), (4, V.str []), (5, V.sl o1 b1 n1 x1), (6, V.int .i64 i0), (11, V.bool false)], hp := [], nx := 8 })
def L82_0 (k : Nat) (s0 s1 : List UInt8) : Nat → Option Bool → Bool → Nat → List V → Int → Option L82_0_R
  | 0, _, _, _, _, _ => none
  | f + 1, o1, b1, n1, x1, i0 => (bif decide (128 ≤ i0) then (guardP (n1 = (1 : Nat)) (((at? (x1) (i0)).bind dB).bind fun b2 => (bif b2 then ((F109 (k + 5) (o1) (b1) (n1) (x1) (IntKind.i64.wrap (i0 - 128))).bind fun (o2, b3, n2, x2) => ((F109 (k + 5) (o2) (b3) (n2) (x2) (IntKind.i64.wrap (i0 - 127))).bind fun (o3, b4, n3, x3) => ((F109 (k + 5) (o3) (b4) (n3) (x3) (IntKind.i64.wrap (i0 - 126))).bind fun (o4, b5, n4, x4) => ((F109 (k + 5) (o4) (b5) (n4) (x4) (IntKind.i64.wrap (i0 - 121))).bind fun (o5, b6, n5, x5) => (L82_0 k s0 s1 f (o5) (b6) (n5) (x5) (IntKind.i64.wrap (i0 - 1))))))) else (L82_0 k s0 s1 f (o1) (b1) (n1) (x1) (IntKind.i64.wrap (i0 - 1)))))) else (some (L82_0_R.e0 i0 b1 x1 o1 n1)))
theorem L82_0_ok {s0 s1 : List UInt8} {k : Nat} : ∀ {f : Nat} {o1 : Option Bool} {b1 : Bool} {n1 : Nat} {x1 : List V} {i0 : Int} {r : L82_0_R}, L82_0 k s0 s1 f o1 b1 n1 x1 i0 = some r →
    LoopsN Tryz.prog Tryz.cfg (k + 8) 0 Tryz.f82 (Tryz.cfg.fc 82) 0 [0, 1, 4, 5, 6] f { tm := [(0, V.str s0), (1, V.str s1), (4, V.str []), (5, V.sl o1 b1 n1 x1), (6, vi i0)], hp := [], nx := 0 } (L82_0_end s0 s1 r) := by
  intro f
  induction f with
  | zero => intro o1 b1 n1 x1 i0 r h; cases h
  | succ f ih =>
    intro o1 b1 n1 x1 i0 r h
    rw [L82_0] at h
    rcases cond_elim h with ⟨e0, h⟩ | ⟨e0, h⟩
    ·
      obtain ⟨e1, h⟩ := guardP_some.1 h
      obtain ⟨b2, e2, h⟩ := bE h
      rcases cond_elim h with ⟨e3, h⟩ | ⟨e3, h⟩
      ·
        obtain ⟨⟨o2, b3, n2, x2⟩, e4, h⟩ := bE h
        obtain ⟨⟨o3, b4, n3, x3⟩, e5, h⟩ := bE h
        obtain ⟨⟨o4, b5, n4, x4⟩, e6, h⟩ := bE h
        obtain ⟨⟨o5, b6, n5, x5⟩, e7, h⟩ := bE h
        exact LoopsN.next (L82_0_b0 i0 b1 b2 b3 b4 b5 b6 s0 s1 x1 x2 x3 x4 x5 o1 o2 o3 o4 o5 n1 n2 n3 n4 n5 k e0 (IdxP.of_at' (at_d dB_ok e2 :) e1) e3 (F109_ok e4) (F109_ok e5) (F109_ok e6) (F109_ok e7)) (L82_0_b0h i0 b6 s0 s1 x5 o5 n5) (ih h)
      ·
        exact LoopsN.next (L82_0_b1 i0 b1 b2 s0 s1 x1 o1 n1 k e0 (IdxP.of_at' (at_d dB_ok e2 :) e1) e3) (L82_0_b1h i0 b1 s0 s1 x1 o1 n1) (ih h)
    ·
      cases h; exact LoopsN.done (L82_0_b2 i0 b1 s0 s1 x1 o1 n1 k e0) (fun h => by cases h)
theorem P82_0 (i0 : Int) (b0 b1 : Bool) (s0 s1 s2 : List UInt8) (x0 x1 : List V) (o0 o1 : Option Bool) (n0 n1 k : Nat)
    (c0 : cP ((k + 8)) 108 [V.str s0, V.str s1] = some (V.sl o0 b0 n0 x0))
    (c1 : LoopsN Tryz.prog Tryz.cfg (k + 8) 0 Tryz.f82 (Tryz.cfg.fc 82) 0 [0, 1, 4, 5, 6] (k + 8) { tm := [(0, V.str s0), (1, V.str s1), (4, V.str []), (5, V.sl o0 b0 n0 x0), (6, vi 254)], hp := [], nx := 0 } (Exit.exit 0, { tm := [(0, V.str s0), (1, V.str s1), (4, V.str []), (5, V.sl o1 b1 n1 x1), (6, vi i0), (11, V.bool false)], hp := [], nx := 8 }))
    (c2 : SlcP true 1 (V.sl o1 b1 n1 x1) none (some (vi 128)) none (V.sl o1 false n1 (List.take (Int.toNat 128) x1)))
    (c3 : cP ((k + 8)) 110 [V.sl o1 false n1 (List.take (Int.toNat 128) x1)] = some (V.str s2)) :
    cP ((k + 9)) 82 [V.str s0, V.str s1] = some (V.str s2) :=
  byF (k := k) (d := 9) [Hn.call 9 (V.sl o0 b0 n0 x0), Hn.loop (Exit.exit 0, { tm := [(0, V.str s0), (1, V.str s1), (4, V.str []), (5, V.sl o1 b1 n1 x1), (6, vi i0), (11, V.bool false)], hp := [], nx := 8 }), Hn.op 32 (V.sl o1 false n1 (List.take (Int.toNat 128) x1)) [], Hn.call 33 (V.str s2)] (aI c0 (aI c1 (aI c2 (aI c3 trivial)))) (by kernel_rfl)
def F82 (k : Nat) (s0 s1 : List UInt8) : Option (List UInt8) :=
  ((F108 (k + 2) (s0) (s1)).bind fun (o0, b0, n0, x0) => ((L82_0 k s0 s1 (k + 8) (o0) (b0) (n0) (x0) (254)).bind fun
    | L82_0_R.e0 i0 b1 x1 o1 n1 => (guardP (n1 = (1 : Nat)) (guardP ((0 : Int) ≤ (128 : Int) ∧ (128 : Int) ≤ (↑x1.length : Int)) ((F110 (k + 5) (o1) (false) (n1) (List.take (Int.toNat 128) x1)).bind fun s2 => (some (s2)))))))
theorem F82_ok {s0 s1 : List UInt8} {k : Nat} {r : List UInt8} (h : F82 k s0 s1 = some r) :
    cP ((k + 9)) 82 [V.str s0, V.str s1] = some (V.str r) := by
  unfold F82 at h
  obtain ⟨⟨o0, b0, n0, x0⟩, e0, h⟩ := bE h
  obtain ⟨ee, e1, h⟩ := bE h
  cases ee with
  | e0 i0 b1 x1 o1 n1 =>
    obtain ⟨e2, h⟩ := guardP_some.1 h
    obtain ⟨e3, h⟩ := guardP_some.1 h
    obtain ⟨s2, e4, h⟩ := bE h
    have h := Option.some.inj h; subst h; exact P82_0 i0 b0 b1 s0 s1 s2 x0 x1 o0 o1 n0 n1 k (F108_ok e0) (L82_0_ok e1) (SlcP.uptoS e3 e2) (F110_ok e4)
end Go.Proofs
