/-
  What the law ExtentStays answers, checked against the program.
-/
import Derived.Test.YtfjloeemhiffgaaEx11a
set_option linter.unusedVariables false
set_option maxHeartbeats 0
set_option maxRecDepth 100000
namespace Go.Proofs
open Go Go.Sym
theorem P11_35 (i0 i1 i2 i3 i4 i5 i6 i7 i8 i9 : Int) (b0 b1 b2 b3 b4 b5 : Bool) (x0 x1 x2 x3 : List V) (o0 o1 o2 o3 : Option Bool) (n0 n1 n2 n3 k : Nat)
    (c0 : callP (evalFn Try.prog Try.cfg (k + 17)) 35 [V.sl o0 b0 n0 x0] = some (V.sl o1 b1 n1 x1))
    (c1 : callP (evalFn Try.prog Try.cfg (k + 17)) 36 [V.sl o1 b1 n1 x1, V.agg [V.int .u64 i0, V.int .u64 i1], V.int .i64 i2] = some (V.tup [V.sl o2 b2 n2 x2, V.int .i64 i4]))
    (c2 : (!decide (i4 = 0)) = false)
    (c3 : callP (evalFn Try.prog Try.cfg (k + 17)) 36 [V.sl o2 b2 n2 x2, V.agg [V.int .u64 i0, V.int .u64 i1], V.int .i64 i2] = some (V.tup [V.sl o3 b3 n3 x3, V.int .i64 i5]))
    (c4 : callP (evalFn Try.prog Try.cfg (k + 17)) 44 [V.sl o1 b1 n1 x1, V.int .u64 (i3.tmod 576460752303423488)] = some (V.tup [V.int .i64 i6, V.int .i64 i7]))
    (c5 : callP (evalFn Try.prog Try.cfg (k + 17)) 44 [V.sl o2 b2 n2 x2, V.int .u64 (i3.tmod 576460752303423488)] = some (V.tup [V.int .i64 i8, V.int .i64 i9]))
    (c6 : decide (i0 ≤ i3.tmod 576460752303423488) = false)
    (c7 : (!decide (i5 = 0)) = false)
    (c8 : (!decide (i7 = 0)) = false)
    (c9 : (!decide (i9 = 0)) = false)
    (c10 : callP (evalFn Try.prog Try.cfg (k + 17)) 41 [V.sl o3 b3 n3 x3, V.sl o2 b2 n2 x2] = some (V.bool b4))
    (c11 : (!b4) = false)
    (c12 : callP (evalFn Try.prog Try.cfg (k + 17)) 45 [V.sl o2 b2 n2 x2] = some (V.bool b5))
    (c13 : (!b5) = true) :
    callP (evalFn Try.prog Try.cfg (k + 18)) 11 [V.sl o0 b0 n0 x0, V.agg [V.int .u64 i0, V.int .u64 i1], V.int .i64 i2, V.int .u64 i3] = some (V.bool false) :=
  byF (k := k) (d := 18) [Hn.call 26 (V.sl o1 b1 n1 x1), Hn.call 33 (V.tup [V.sl o2 b2 n2 x2, V.int .i64 i4]), Hn.br 37 false, Hn.call 48 (V.tup [V.sl o3 b3 n3 x3, V.int .i64 i5]), Hn.call 54 (V.tup [V.int .i64 i6, V.int .i64 i7]), Hn.call 60 (V.tup [V.int .i64 i8, V.int .i64 i9]), Hn.br 67 false, Hn.br 78 false, Hn.br 82 false, Hn.br 86 false, Hn.call 89 (V.bool b4), Hn.br 92 false, Hn.call 94 (V.bool b5), Hn.br 97 true] (And.intro c0 (And.intro c1 (And.intro c2 (And.intro c3 (And.intro c4 (And.intro c5 (And.intro c6 (And.intro c7 (And.intro c8 (And.intro c9 (And.intro c10 (And.intro c11 (And.intro c12 (And.intro c13 trivial)))))))))))))) (by kernel_rfl)
theorem P11_36 (i0 i1 i2 i3 i4 i5 i6 i7 i8 i9 : Int) (b0 b1 b2 b3 b4 b5 : Bool) (x0 x1 x2 x3 : List V) (o0 o1 o2 o3 : Option Bool) (n0 n1 n2 n3 k : Nat)
    (c0 : callP (evalFn Try.prog Try.cfg (k + 17)) 35 [V.sl o0 b0 n0 x0] = some (V.sl o1 b1 n1 x1))
    (c1 : callP (evalFn Try.prog Try.cfg (k + 17)) 36 [V.sl o1 b1 n1 x1, V.agg [V.int .u64 i0, V.int .u64 i1], V.int .i64 i2] = some (V.tup [V.sl o2 b2 n2 x2, V.int .i64 i4]))
    (c2 : (!decide (i4 = 0)) = false)
    (c3 : callP (evalFn Try.prog Try.cfg (k + 17)) 36 [V.sl o2 b2 n2 x2, V.agg [V.int .u64 i0, V.int .u64 i1], V.int .i64 i2] = some (V.tup [V.sl o3 b3 n3 x3, V.int .i64 i5]))
    (c4 : callP (evalFn Try.prog Try.cfg (k + 17)) 44 [V.sl o1 b1 n1 x1, V.int .u64 (i3.tmod 576460752303423488)] = some (V.tup [V.int .i64 i6, V.int .i64 i7]))
    (c5 : callP (evalFn Try.prog Try.cfg (k + 17)) 44 [V.sl o2 b2 n2 x2, V.int .u64 (i3.tmod 576460752303423488)] = some (V.tup [V.int .i64 i8, V.int .i64 i9]))
    (c6 : decide (i0 ≤ i3.tmod 576460752303423488) = false)
    (c7 : (!decide (i5 = 0)) = false)
    (c8 : (!decide (i7 = 0)) = false)
    (c9 : (!decide (i9 = 0)) = false)
    (c10 : callP (evalFn Try.prog Try.cfg (k + 17)) 41 [V.sl o3 b3 n3 x3, V.sl o2 b2 n2 x2] = some (V.bool b4))
    (c11 : (!b4) = false)
    (c12 : callP (evalFn Try.prog Try.cfg (k + 17)) 45 [V.sl o2 b2 n2 x2] = some (V.bool b5))
    (c13 : (!b5) = false)
    (c14 : (!decide (i8 = i6)) = true) :
    callP (evalFn Try.prog Try.cfg (k + 18)) 11 [V.sl o0 b0 n0 x0, V.agg [V.int .u64 i0, V.int .u64 i1], V.int .i64 i2, V.int .u64 i3] = some (V.bool false) :=
  byF (k := k) (d := 18) [Hn.call 26 (V.sl o1 b1 n1 x1), Hn.call 33 (V.tup [V.sl o2 b2 n2 x2, V.int .i64 i4]), Hn.br 37 false, Hn.call 48 (V.tup [V.sl o3 b3 n3 x3, V.int .i64 i5]), Hn.call 54 (V.tup [V.int .i64 i6, V.int .i64 i7]), Hn.call 60 (V.tup [V.int .i64 i8, V.int .i64 i9]), Hn.br 67 false, Hn.br 78 false, Hn.br 82 false, Hn.br 86 false, Hn.call 89 (V.bool b4), Hn.br 92 false, Hn.call 94 (V.bool b5), Hn.br 97 false, Hn.br 114 true] (And.intro c0 (And.intro c1 (And.intro c2 (And.intro c3 (And.intro c4 (And.intro c5 (And.intro c6 (And.intro c7 (And.intro c8 (And.intro c9 (And.intro c10 (And.intro c11 (And.intro c12 (And.intro c13 (And.intro c14 trivial))))))))))))))) (by kernel_rfl)
theorem P11_37 (i0 i1 i2 i3 i4 i5 i6 i7 i8 i9 : Int) (b0 b1 b2 b3 b4 b5 b6 : Bool) (x0 x1 x2 x3 : List V) (o0 o1 o2 o3 : Option Bool) (n0 n1 n2 n3 k : Nat)
    (c0 : callP (evalFn Try.prog Try.cfg (k + 17)) 35 [V.sl o0 b0 n0 x0] = some (V.sl o1 b1 n1 x1))
    (c1 : callP (evalFn Try.prog Try.cfg (k + 17)) 36 [V.sl o1 b1 n1 x1, V.agg [V.int .u64 i0, V.int .u64 i1], V.int .i64 i2] = some (V.tup [V.sl o2 b2 n2 x2, V.int .i64 i4]))
    (c2 : (!decide (i4 = 0)) = false)
    (c3 : callP (evalFn Try.prog Try.cfg (k + 17)) 36 [V.sl o2 b2 n2 x2, V.agg [V.int .u64 i0, V.int .u64 i1], V.int .i64 i2] = some (V.tup [V.sl o3 b3 n3 x3, V.int .i64 i5]))
    (c4 : callP (evalFn Try.prog Try.cfg (k + 17)) 44 [V.sl o1 b1 n1 x1, V.int .u64 (i3.tmod 576460752303423488)] = some (V.tup [V.int .i64 i6, V.int .i64 i7]))
    (c5 : callP (evalFn Try.prog Try.cfg (k + 17)) 44 [V.sl o2 b2 n2 x2, V.int .u64 (i3.tmod 576460752303423488)] = some (V.tup [V.int .i64 i8, V.int .i64 i9]))
    (c6 : decide (i0 ≤ i3.tmod 576460752303423488) = false)
    (c7 : (!decide (i5 = 0)) = false)
    (c8 : (!decide (i7 = 0)) = false)
    (c9 : (!decide (i9 = 0)) = false)
    (c10 : callP (evalFn Try.prog Try.cfg (k + 17)) 41 [V.sl o3 b3 n3 x3, V.sl o2 b2 n2 x2] = some (V.bool b4))
    (c11 : (!b4) = false)
    (c12 : callP (evalFn Try.prog Try.cfg (k + 17)) 45 [V.sl o2 b2 n2 x2] = some (V.bool b5))
    (c13 : (!b5) = false)
    (c14 : (!decide (i8 = i6)) = false)
    (c15 : callP (evalFn Try.prog Try.cfg (k + 17)) 39 [] = some (V.bool b6))
    (c16 : (!b6) = true) :
    callP (evalFn Try.prog Try.cfg (k + 18)) 11 [V.sl o0 b0 n0 x0, V.agg [V.int .u64 i0, V.int .u64 i1], V.int .i64 i2, V.int .u64 i3] = some (V.bool false) :=
  byF (k := k) (d := 18) [Hn.call 26 (V.sl o1 b1 n1 x1), Hn.call 33 (V.tup [V.sl o2 b2 n2 x2, V.int .i64 i4]), Hn.br 37 false, Hn.call 48 (V.tup [V.sl o3 b3 n3 x3, V.int .i64 i5]), Hn.call 54 (V.tup [V.int .i64 i6, V.int .i64 i7]), Hn.call 60 (V.tup [V.int .i64 i8, V.int .i64 i9]), Hn.br 67 false, Hn.br 78 false, Hn.br 82 false, Hn.br 86 false, Hn.call 89 (V.bool b4), Hn.br 92 false, Hn.call 94 (V.bool b5), Hn.br 97 false, Hn.br 114 false, Hn.call 115 (V.bool b6), Hn.br 117 true] (And.intro c0 (And.intro c1 (And.intro c2 (And.intro c3 (And.intro c4 (And.intro c5 (And.intro c6 (And.intro c7 (And.intro c8 (And.intro c9 (And.intro c10 (And.intro c11 (And.intro c12 (And.intro c13 (And.intro c14 (And.intro c15 (And.intro c16 trivial))))))))))))))))) (by kernel_rfl)
theorem P11_38 (i0 i1 i2 i3 i4 i5 i6 i7 i8 i9 i10 i11 i12 i13 i14 i15 i16 : Int) (b0 b1 b2 b3 b4 b5 b6 b7 b8 : Bool) (x0 x1 x2 x3 x4 x5 : List V) (o0 o1 o2 o3 o4 o5 : Option Bool) (n0 n1 n2 n3 n4 n5 k : Nat)
    (c0 : callP (evalFn Try.prog Try.cfg (k + 17)) 35 [V.sl o0 b0 n0 x0] = some (V.sl o1 b1 n1 x1))
    (c1 : callP (evalFn Try.prog Try.cfg (k + 17)) 36 [V.sl o1 b1 n1 x1, V.agg [V.int .u64 i0, V.int .u64 i1], V.int .i64 i2] = some (V.tup [V.sl o2 b2 n2 x2, V.int .i64 i4]))
    (c2 : (!decide (i4 = 0)) = false)
    (c3 : callP (evalFn Try.prog Try.cfg (k + 17)) 36 [V.sl o2 b2 n2 x2, V.agg [V.int .u64 i0, V.int .u64 i1], V.int .i64 i2] = some (V.tup [V.sl o3 b3 n3 x3, V.int .i64 i5]))
    (c4 : callP (evalFn Try.prog Try.cfg (k + 17)) 44 [V.sl o1 b1 n1 x1, V.int .u64 (i3.tmod 576460752303423488)] = some (V.tup [V.int .i64 i6, V.int .i64 i7]))
    (c5 : callP (evalFn Try.prog Try.cfg (k + 17)) 44 [V.sl o2 b2 n2 x2, V.int .u64 (i3.tmod 576460752303423488)] = some (V.tup [V.int .i64 i8, V.int .i64 i9]))
    (c6 : decide (i0 ≤ i3.tmod 576460752303423488) = false)
    (c7 : (!decide (i5 = 0)) = false)
    (c8 : (!decide (i7 = 0)) = false)
    (c9 : (!decide (i9 = 0)) = false)
    (c10 : callP (evalFn Try.prog Try.cfg (k + 17)) 41 [V.sl o3 b3 n3 x3, V.sl o2 b2 n2 x2] = some (V.bool b4))
    (c11 : (!b4) = false)
    (c12 : callP (evalFn Try.prog Try.cfg (k + 17)) 45 [V.sl o2 b2 n2 x2] = some (V.bool b5))
    (c13 : (!b5) = false)
    (c14 : (!decide (i8 = i6)) = false)
    (c15 : callP (evalFn Try.prog Try.cfg (k + 17)) 39 [] = some (V.bool b6))
    (c16 : (!b6) = false)
    (c17 : callP (evalFn Try.prog Try.cfg (k + 17)) 42 [V.sl o1 b1 n1 x1, V.agg [V.int .u64 i0, V.int .u64 i1]] = some (V.tup [V.sl o4 b7 n4 x4, V.int .i64 i10]))
    (c18 : LoopsN Try.prog Try.cfg (k + 17) 0 Try.f11 (Try.cfg.fc 11) 0 [0, 1, 2, 3, 5, 8, 9, 10, 11, 12, 13, 14, 15, 16, 17, 18, 19, 20, 37, 117, 126, 127, 128] (k + 17) { tm := [(0, V.sl o1 b1 n1 x1), (1, V.agg [V.int .u64 i0, V.int .u64 i1]), (2, V.int .i64 i2), (3, V.int .u64 (i3.tmod 576460752303423488)), (5, V.ptr 0 0), (8, V.bool false), (9, V.sl o2 b2 n2 x2), (10, V.int .i64 i4), (11, V.sl o3 b3 n3 x3), (12, V.int .i64 i5), (13, V.int .i64 i6), (14, V.int .i64 i7), (15, V.int .i64 i8), (16, V.int .i64 i9), (17, V.bool false), (18, V.sl o4 b7 n4 x4), (19, V.int .i64 i10), (20, V.int .u64 i0), (37, V.bool false), (117, V.bool false), (126, V.sl o4 b7 n4 x4), (127, V.int .i64 (↑x4.length : Int)), (128, V.int .i64 0)], hp := [(0, Ob.var [V.int .u64 i0, V.int .u64 i1])], nx := 1 } (Exit.exit 0, { tm := [(0, V.sl o1 b1 n1 x1), (1, V.agg [V.int .u64 i0, V.int .u64 i1]), (2, V.int .i64 i2), (3, V.int .u64 (i3.tmod 576460752303423488)), (5, V.ptr 0 0), (8, V.bool false), (9, V.sl o2 b2 n2 x2), (10, V.int .i64 i4), (11, V.sl o3 b3 n3 x3), (12, V.int .i64 i5), (13, V.int .i64 i6), (14, V.int .i64 i7), (15, V.int .i64 i8), (16, V.int .i64 i9), (17, V.bool false), (18, V.sl o4 b7 n4 x4), (19, V.int .i64 i10), (20, V.int .u64 i11), (37, V.bool false), (117, V.bool false), (126, V.sl o4 b7 n4 x4), (127, V.int .i64 (↑x4.length : Int)), (128, V.int .i64 i12), (129, V.bool false)], hp := [(0, Ob.var [V.int .u64 i0, V.int .u64 i1])], nx := 5 }))
    (c19 : callP (evalFn Try.prog Try.cfg (k + 17)) 42 [V.sl o2 b2 n2 x2, V.agg [V.int .u64 i0, V.int .u64 i1]] = some (V.tup [V.sl o5 b8 n5 x5, V.int .i64 i13]))
    (c20 : decide (i10 = 0) = true)
    (c21 : decide (i13 = 0) = true)
    (c22 : decide (IntKind.u64.wrap (i11 - i0) = i1) = true)
    (c23 : decide ((↑x5.length : Int) = 1) = true)
    (c24 : IdxP x5 0 n5 3 (V.agg [V.int .u64 i14, V.int .u64 i15, V.int .i64 i16])) :
    callP (evalFn Try.prog Try.cfg (k + 18)) 11 [V.sl o0 b0 n0 x0, V.agg [V.int .u64 i0, V.int .u64 i1], V.int .i64 i2, V.int .u64 i3] = some (V.bool (decide (i14 = i0) && (decide (i15 = i1) && (decide (i16 = i2) && true)))) :=
  byF (k := k) (d := 18) [Hn.call 26 (V.sl o1 b1 n1 x1), Hn.call 33 (V.tup [V.sl o2 b2 n2 x2, V.int .i64 i4]), Hn.br 37 false, Hn.call 48 (V.tup [V.sl o3 b3 n3 x3, V.int .i64 i5]), Hn.call 54 (V.tup [V.int .i64 i6, V.int .i64 i7]), Hn.call 60 (V.tup [V.int .i64 i8, V.int .i64 i9]), Hn.br 67 false, Hn.br 78 false, Hn.br 82 false, Hn.br 86 false, Hn.call 89 (V.bool b4), Hn.br 92 false, Hn.call 94 (V.bool b5), Hn.br 97 false, Hn.br 114 false, Hn.call 115 (V.bool b6), Hn.br 117 false, Hn.call 121 (V.tup [V.sl o4 b7 n4 x4, V.int .i64 i10]), Hn.loop (Exit.exit 0, { tm := [(0, V.sl o1 b1 n1 x1), (1, V.agg [V.int .u64 i0, V.int .u64 i1]), (2, V.int .i64 i2), (3, V.int .u64 (i3.tmod 576460752303423488)), (5, V.ptr 0 0), (8, V.bool false), (9, V.sl o2 b2 n2 x2), (10, V.int .i64 i4), (11, V.sl o3 b3 n3 x3), (12, V.int .i64 i5), (13, V.int .i64 i6), (14, V.int .i64 i7), (15, V.int .i64 i8), (16, V.int .i64 i9), (17, V.bool false), (18, V.sl o4 b7 n4 x4), (19, V.int .i64 i10), (20, V.int .u64 i11), (37, V.bool false), (117, V.bool false), (126, V.sl o4 b7 n4 x4), (127, V.int .i64 (↑x4.length : Int)), (128, V.int .i64 i12), (129, V.bool false)], hp := [(0, Ob.var [V.int .u64 i0, V.int .u64 i1])], nx := 5 }), Hn.call 187 (V.tup [V.sl o5 b8 n5 x5, V.int .i64 i13]), Hn.br 192 true, Hn.br 196 true, Hn.br 205 true, Hn.br 210 true, Hn.op 212 ((V.agg [V.int .u64 i14, V.int .u64 i15, V.int .i64 i16]).cpt 0) []] (And.intro c0 (And.intro c1 (And.intro c2 (And.intro c3 (And.intro c4 (And.intro c5 (And.intro c6 (And.intro c7 (And.intro c8 (And.intro c9 (And.intro c10 (And.intro c11 (And.intro c12 (And.intro c13 (And.intro c14 (And.intro c15 (And.intro c16 (And.intro c17 (And.intro c18 (And.intro c19 (And.intro c20 (And.intro c21 (And.intro c22 (And.intro c23 (And.intro c24 trivial))))))))))))))))))))))))) (by kernel_rfl)
theorem P11_39 (i0 i1 i2 i3 i4 i5 i6 i7 i8 i9 i10 i11 i12 i13 : Int) (b0 b1 b2 b3 b4 b5 b6 b7 b8 : Bool) (x0 x1 x2 x3 x4 x5 : List V) (o0 o1 o2 o3 o4 o5 : Option Bool) (n0 n1 n2 n3 n4 n5 k : Nat)
    (c0 : callP (evalFn Try.prog Try.cfg (k + 17)) 35 [V.sl o0 b0 n0 x0] = some (V.sl o1 b1 n1 x1))
    (c1 : callP (evalFn Try.prog Try.cfg (k + 17)) 36 [V.sl o1 b1 n1 x1, V.agg [V.int .u64 i0, V.int .u64 i1], V.int .i64 i2] = some (V.tup [V.sl o2 b2 n2 x2, V.int .i64 i4]))
    (c2 : (!decide (i4 = 0)) = false)
    (c3 : callP (evalFn Try.prog Try.cfg (k + 17)) 36 [V.sl o2 b2 n2 x2, V.agg [V.int .u64 i0, V.int .u64 i1], V.int .i64 i2] = some (V.tup [V.sl o3 b3 n3 x3, V.int .i64 i5]))
    (c4 : callP (evalFn Try.prog Try.cfg (k + 17)) 44 [V.sl o1 b1 n1 x1, V.int .u64 (i3.tmod 576460752303423488)] = some (V.tup [V.int .i64 i6, V.int .i64 i7]))
    (c5 : callP (evalFn Try.prog Try.cfg (k + 17)) 44 [V.sl o2 b2 n2 x2, V.int .u64 (i3.tmod 576460752303423488)] = some (V.tup [V.int .i64 i8, V.int .i64 i9]))
    (c6 : decide (i0 ≤ i3.tmod 576460752303423488) = false)
    (c7 : (!decide (i5 = 0)) = false)
    (c8 : (!decide (i7 = 0)) = false)
    (c9 : (!decide (i9 = 0)) = false)
    (c10 : callP (evalFn Try.prog Try.cfg (k + 17)) 41 [V.sl o3 b3 n3 x3, V.sl o2 b2 n2 x2] = some (V.bool b4))
    (c11 : (!b4) = false)
    (c12 : callP (evalFn Try.prog Try.cfg (k + 17)) 45 [V.sl o2 b2 n2 x2] = some (V.bool b5))
    (c13 : (!b5) = false)
    (c14 : (!decide (i8 = i6)) = false)
    (c15 : callP (evalFn Try.prog Try.cfg (k + 17)) 39 [] = some (V.bool b6))
    (c16 : (!b6) = false)
    (c17 : callP (evalFn Try.prog Try.cfg (k + 17)) 42 [V.sl o1 b1 n1 x1, V.agg [V.int .u64 i0, V.int .u64 i1]] = some (V.tup [V.sl o4 b7 n4 x4, V.int .i64 i10]))
    (c18 : LoopsN Try.prog Try.cfg (k + 17) 0 Try.f11 (Try.cfg.fc 11) 0 [0, 1, 2, 3, 5, 8, 9, 10, 11, 12, 13, 14, 15, 16, 17, 18, 19, 20, 37, 117, 126, 127, 128] (k + 17) { tm := [(0, V.sl o1 b1 n1 x1), (1, V.agg [V.int .u64 i0, V.int .u64 i1]), (2, V.int .i64 i2), (3, V.int .u64 (i3.tmod 576460752303423488)), (5, V.ptr 0 0), (8, V.bool false), (9, V.sl o2 b2 n2 x2), (10, V.int .i64 i4), (11, V.sl o3 b3 n3 x3), (12, V.int .i64 i5), (13, V.int .i64 i6), (14, V.int .i64 i7), (15, V.int .i64 i8), (16, V.int .i64 i9), (17, V.bool false), (18, V.sl o4 b7 n4 x4), (19, V.int .i64 i10), (20, V.int .u64 i0), (37, V.bool false), (117, V.bool false), (126, V.sl o4 b7 n4 x4), (127, V.int .i64 (↑x4.length : Int)), (128, V.int .i64 0)], hp := [(0, Ob.var [V.int .u64 i0, V.int .u64 i1])], nx := 1 } (Exit.exit 0, { tm := [(0, V.sl o1 b1 n1 x1), (1, V.agg [V.int .u64 i0, V.int .u64 i1]), (2, V.int .i64 i2), (3, V.int .u64 (i3.tmod 576460752303423488)), (5, V.ptr 0 0), (8, V.bool false), (9, V.sl o2 b2 n2 x2), (10, V.int .i64 i4), (11, V.sl o3 b3 n3 x3), (12, V.int .i64 i5), (13, V.int .i64 i6), (14, V.int .i64 i7), (15, V.int .i64 i8), (16, V.int .i64 i9), (17, V.bool false), (18, V.sl o4 b7 n4 x4), (19, V.int .i64 i10), (20, V.int .u64 i11), (37, V.bool false), (117, V.bool false), (126, V.sl o4 b7 n4 x4), (127, V.int .i64 (↑x4.length : Int)), (128, V.int .i64 i12), (129, V.bool false)], hp := [(0, Ob.var [V.int .u64 i0, V.int .u64 i1])], nx := 5 }))
    (c19 : callP (evalFn Try.prog Try.cfg (k + 17)) 42 [V.sl o2 b2 n2 x2, V.agg [V.int .u64 i0, V.int .u64 i1]] = some (V.tup [V.sl o5 b8 n5 x5, V.int .i64 i13]))
    (c20 : decide (i10 = 0) = true)
    (c21 : decide (i13 = 0) = true)
    (c22 : decide (IntKind.u64.wrap (i11 - i0) = i1) = true)
    (c23 : decide ((↑x5.length : Int) = 1) = false) :
    callP (evalFn Try.prog Try.cfg (k + 18)) 11 [V.sl o0 b0 n0 x0, V.agg [V.int .u64 i0, V.int .u64 i1], V.int .i64 i2, V.int .u64 i3] = some (V.bool false) :=
  byF (k := k) (d := 18) [Hn.call 26 (V.sl o1 b1 n1 x1), Hn.call 33 (V.tup [V.sl o2 b2 n2 x2, V.int .i64 i4]), Hn.br 37 false, Hn.call 48 (V.tup [V.sl o3 b3 n3 x3, V.int .i64 i5]), Hn.call 54 (V.tup [V.int .i64 i6, V.int .i64 i7]), Hn.call 60 (V.tup [V.int .i64 i8, V.int .i64 i9]), Hn.br 67 false, Hn.br 78 false, Hn.br 82 false, Hn.br 86 false, Hn.call 89 (V.bool b4), Hn.br 92 false, Hn.call 94 (V.bool b5), Hn.br 97 false, Hn.br 114 false, Hn.call 115 (V.bool b6), Hn.br 117 false, Hn.call 121 (V.tup [V.sl o4 b7 n4 x4, V.int .i64 i10]), Hn.loop (Exit.exit 0, { tm := [(0, V.sl o1 b1 n1 x1), (1, V.agg [V.int .u64 i0, V.int .u64 i1]), (2, V.int .i64 i2), (3, V.int .u64 (i3.tmod 576460752303423488)), (5, V.ptr 0 0), (8, V.bool false), (9, V.sl o2 b2 n2 x2), (10, V.int .i64 i4), (11, V.sl o3 b3 n3 x3), (12, V.int .i64 i5), (13, V.int .i64 i6), (14, V.int .i64 i7), (15, V.int .i64 i8), (16, V.int .i64 i9), (17, V.bool false), (18, V.sl o4 b7 n4 x4), (19, V.int .i64 i10), (20, V.int .u64 i11), (37, V.bool false), (117, V.bool false), (126, V.sl o4 b7 n4 x4), (127, V.int .i64 (↑x4.length : Int)), (128, V.int .i64 i12), (129, V.bool false)], hp := [(0, Ob.var [V.int .u64 i0, V.int .u64 i1])], nx := 5 }), Hn.call 187 (V.tup [V.sl o5 b8 n5 x5, V.int .i64 i13]), Hn.br 192 true, Hn.br 196 true, Hn.br 205 true, Hn.br 210 false] (And.intro c0 (And.intro c1 (And.intro c2 (And.intro c3 (And.intro c4 (And.intro c5 (And.intro c6 (And.intro c7 (And.intro c8 (And.intro c9 (And.intro c10 (And.intro c11 (And.intro c12 (And.intro c13 (And.intro c14 (And.intro c15 (And.intro c16 (And.intro c17 (And.intro c18 (And.intro c19 (And.intro c20 (And.intro c21 (And.intro c22 (And.intro c23 trivial)))))))))))))))))))))))) (by kernel_rfl)
theorem P11_40 (i0 i1 i2 i3 i4 i5 i6 i7 i8 i9 i10 i11 i12 i13 : Int) (b0 b1 b2 b3 b4 b5 b6 b7 b8 : Bool) (x0 x1 x2 x3 x4 x5 : List V) (o0 o1 o2 o3 o4 o5 : Option Bool) (n0 n1 n2 n3 n4 n5 k : Nat)
    (c0 : callP (evalFn Try.prog Try.cfg (k + 17)) 35 [V.sl o0 b0 n0 x0] = some (V.sl o1 b1 n1 x1))
    (c1 : callP (evalFn Try.prog Try.cfg (k + 17)) 36 [V.sl o1 b1 n1 x1, V.agg [V.int .u64 i0, V.int .u64 i1], V.int .i64 i2] = some (V.tup [V.sl o2 b2 n2 x2, V.int .i64 i4]))
    (c2 : (!decide (i4 = 0)) = false)
    (c3 : callP (evalFn Try.prog Try.cfg (k + 17)) 36 [V.sl o2 b2 n2 x2, V.agg [V.int .u64 i0, V.int .u64 i1], V.int .i64 i2] = some (V.tup [V.sl o3 b3 n3 x3, V.int .i64 i5]))
    (c4 : callP (evalFn Try.prog Try.cfg (k + 17)) 44 [V.sl o1 b1 n1 x1, V.int .u64 (i3.tmod 576460752303423488)] = some (V.tup [V.int .i64 i6, V.int .i64 i7]))
    (c5 : callP (evalFn Try.prog Try.cfg (k + 17)) 44 [V.sl o2 b2 n2 x2, V.int .u64 (i3.tmod 576460752303423488)] = some (V.tup [V.int .i64 i8, V.int .i64 i9]))
    (c6 : decide (i0 ≤ i3.tmod 576460752303423488) = false)
    (c7 : (!decide (i5 = 0)) = false)
    (c8 : (!decide (i7 = 0)) = false)
    (c9 : (!decide (i9 = 0)) = false)
    (c10 : callP (evalFn Try.prog Try.cfg (k + 17)) 41 [V.sl o3 b3 n3 x3, V.sl o2 b2 n2 x2] = some (V.bool b4))
    (c11 : (!b4) = false)
    (c12 : callP (evalFn Try.prog Try.cfg (k + 17)) 45 [V.sl o2 b2 n2 x2] = some (V.bool b5))
    (c13 : (!b5) = false)
    (c14 : (!decide (i8 = i6)) = false)
    (c15 : callP (evalFn Try.prog Try.cfg (k + 17)) 39 [] = some (V.bool b6))
    (c16 : (!b6) = false)
    (c17 : callP (evalFn Try.prog Try.cfg (k + 17)) 42 [V.sl o1 b1 n1 x1, V.agg [V.int .u64 i0, V.int .u64 i1]] = some (V.tup [V.sl o4 b7 n4 x4, V.int .i64 i10]))
    (c18 : LoopsN Try.prog Try.cfg (k + 17) 0 Try.f11 (Try.cfg.fc 11) 0 [0, 1, 2, 3, 5, 8, 9, 10, 11, 12, 13, 14, 15, 16, 17, 18, 19, 20, 37, 117, 126, 127, 128] (k + 17) { tm := [(0, V.sl o1 b1 n1 x1), (1, V.agg [V.int .u64 i0, V.int .u64 i1]), (2, V.int .i64 i2), (3, V.int .u64 (i3.tmod 576460752303423488)), (5, V.ptr 0 0), (8, V.bool false), (9, V.sl o2 b2 n2 x2), (10, V.int .i64 i4), (11, V.sl o3 b3 n3 x3), (12, V.int .i64 i5), (13, V.int .i64 i6), (14, V.int .i64 i7), (15, V.int .i64 i8), (16, V.int .i64 i9), (17, V.bool false), (18, V.sl o4 b7 n4 x4), (19, V.int .i64 i10), (20, V.int .u64 i0), (37, V.bool false), (117, V.bool false), (126, V.sl o4 b7 n4 x4), (127, V.int .i64 (↑x4.length : Int)), (128, V.int .i64 0)], hp := [(0, Ob.var [V.int .u64 i0, V.int .u64 i1])], nx := 1 } (Exit.exit 0, { tm := [(0, V.sl o1 b1 n1 x1), (1, V.agg [V.int .u64 i0, V.int .u64 i1]), (2, V.int .i64 i2), (3, V.int .u64 (i3.tmod 576460752303423488)), (5, V.ptr 0 0), (8, V.bool false), (9, V.sl o2 b2 n2 x2), (10, V.int .i64 i4), (11, V.sl o3 b3 n3 x3), (12, V.int .i64 i5), (13, V.int .i64 i6), (14, V.int .i64 i7), (15, V.int .i64 i8), (16, V.int .i64 i9), (17, V.bool false), (18, V.sl o4 b7 n4 x4), (19, V.int .i64 i10), (20, V.int .u64 i11), (37, V.bool false), (117, V.bool false), (126, V.sl o4 b7 n4 x4), (127, V.int .i64 (↑x4.length : Int)), (128, V.int .i64 i12), (129, V.bool false)], hp := [(0, Ob.var [V.int .u64 i0, V.int .u64 i1])], nx := 5 }))
    (c19 : callP (evalFn Try.prog Try.cfg (k + 17)) 42 [V.sl o2 b2 n2 x2, V.agg [V.int .u64 i0, V.int .u64 i1]] = some (V.tup [V.sl o5 b8 n5 x5, V.int .i64 i13]))
    (c20 : decide (i10 = 0) = true)
    (c21 : decide (i13 = 0) = true)
    (c22 : decide (IntKind.u64.wrap (i11 - i0) = i1) = false) :
    callP (evalFn Try.prog Try.cfg (k + 18)) 11 [V.sl o0 b0 n0 x0, V.agg [V.int .u64 i0, V.int .u64 i1], V.int .i64 i2, V.int .u64 i3] = some (V.bool false) :=
  byF (k := k) (d := 18) [Hn.call 26 (V.sl o1 b1 n1 x1), Hn.call 33 (V.tup [V.sl o2 b2 n2 x2, V.int .i64 i4]), Hn.br 37 false, Hn.call 48 (V.tup [V.sl o3 b3 n3 x3, V.int .i64 i5]), Hn.call 54 (V.tup [V.int .i64 i6, V.int .i64 i7]), Hn.call 60 (V.tup [V.int .i64 i8, V.int .i64 i9]), Hn.br 67 false, Hn.br 78 false, Hn.br 82 false, Hn.br 86 false, Hn.call 89 (V.bool b4), Hn.br 92 false, Hn.call 94 (V.bool b5), Hn.br 97 false, Hn.br 114 false, Hn.call 115 (V.bool b6), Hn.br 117 false, Hn.call 121 (V.tup [V.sl o4 b7 n4 x4, V.int .i64 i10]), Hn.loop (Exit.exit 0, { tm := [(0, V.sl o1 b1 n1 x1), (1, V.agg [V.int .u64 i0, V.int .u64 i1]), (2, V.int .i64 i2), (3, V.int .u64 (i3.tmod 576460752303423488)), (5, V.ptr 0 0), (8, V.bool false), (9, V.sl o2 b2 n2 x2), (10, V.int .i64 i4), (11, V.sl o3 b3 n3 x3), (12, V.int .i64 i5), (13, V.int .i64 i6), (14, V.int .i64 i7), (15, V.int .i64 i8), (16, V.int .i64 i9), (17, V.bool false), (18, V.sl o4 b7 n4 x4), (19, V.int .i64 i10), (20, V.int .u64 i11), (37, V.bool false), (117, V.bool false), (126, V.sl o4 b7 n4 x4), (127, V.int .i64 (↑x4.length : Int)), (128, V.int .i64 i12), (129, V.bool false)], hp := [(0, Ob.var [V.int .u64 i0, V.int .u64 i1])], nx := 5 }), Hn.call 187 (V.tup [V.sl o5 b8 n5 x5, V.int .i64 i13]), Hn.br 192 true, Hn.br 196 true, Hn.br 205 false] (And.intro c0 (And.intro c1 (And.intro c2 (And.intro c3 (And.intro c4 (And.intro c5 (And.intro c6 (And.intro c7 (And.intro c8 (And.intro c9 (And.intro c10 (And.intro c11 (And.intro c12 (And.intro c13 (And.intro c14 (And.intro c15 (And.intro c16 (And.intro c17 (And.intro c18 (And.intro c19 (And.intro c20 (And.intro c21 (And.intro c22 trivial))))))))))))))))))))))) (by kernel_rfl)
theorem P11_41 (i0 i1 i2 i3 i4 i5 i6 i7 i8 i9 i10 i11 i12 i13 : Int) (b0 b1 b2 b3 b4 b5 b6 b7 b8 : Bool) (x0 x1 x2 x3 x4 x5 : List V) (o0 o1 o2 o3 o4 o5 : Option Bool) (n0 n1 n2 n3 n4 n5 k : Nat)
    (c0 : callP (evalFn Try.prog Try.cfg (k + 17)) 35 [V.sl o0 b0 n0 x0] = some (V.sl o1 b1 n1 x1))
    (c1 : callP (evalFn Try.prog Try.cfg (k + 17)) 36 [V.sl o1 b1 n1 x1, V.agg [V.int .u64 i0, V.int .u64 i1], V.int .i64 i2] = some (V.tup [V.sl o2 b2 n2 x2, V.int .i64 i4]))
    (c2 : (!decide (i4 = 0)) = false)
    (c3 : callP (evalFn Try.prog Try.cfg (k + 17)) 36 [V.sl o2 b2 n2 x2, V.agg [V.int .u64 i0, V.int .u64 i1], V.int .i64 i2] = some (V.tup [V.sl o3 b3 n3 x3, V.int .i64 i5]))
    (c4 : callP (evalFn Try.prog Try.cfg (k + 17)) 44 [V.sl o1 b1 n1 x1, V.int .u64 (i3.tmod 576460752303423488)] = some (V.tup [V.int .i64 i6, V.int .i64 i7]))
    (c5 : callP (evalFn Try.prog Try.cfg (k + 17)) 44 [V.sl o2 b2 n2 x2, V.int .u64 (i3.tmod 576460752303423488)] = some (V.tup [V.int .i64 i8, V.int .i64 i9]))
    (c6 : decide (i0 ≤ i3.tmod 576460752303423488) = false)
    (c7 : (!decide (i5 = 0)) = false)
    (c8 : (!decide (i7 = 0)) = false)
    (c9 : (!decide (i9 = 0)) = false)
    (c10 : callP (evalFn Try.prog Try.cfg (k + 17)) 41 [V.sl o3 b3 n3 x3, V.sl o2 b2 n2 x2] = some (V.bool b4))
    (c11 : (!b4) = false)
    (c12 : callP (evalFn Try.prog Try.cfg (k + 17)) 45 [V.sl o2 b2 n2 x2] = some (V.bool b5))
    (c13 : (!b5) = false)
    (c14 : (!decide (i8 = i6)) = false)
    (c15 : callP (evalFn Try.prog Try.cfg (k + 17)) 39 [] = some (V.bool b6))
    (c16 : (!b6) = false)
    (c17 : callP (evalFn Try.prog Try.cfg (k + 17)) 42 [V.sl o1 b1 n1 x1, V.agg [V.int .u64 i0, V.int .u64 i1]] = some (V.tup [V.sl o4 b7 n4 x4, V.int .i64 i10]))
    (c18 : LoopsN Try.prog Try.cfg (k + 17) 0 Try.f11 (Try.cfg.fc 11) 0 [0, 1, 2, 3, 5, 8, 9, 10, 11, 12, 13, 14, 15, 16, 17, 18, 19, 20, 37, 117, 126, 127, 128] (k + 17) { tm := [(0, V.sl o1 b1 n1 x1), (1, V.agg [V.int .u64 i0, V.int .u64 i1]), (2, V.int .i64 i2), (3, V.int .u64 (i3.tmod 576460752303423488)), (5, V.ptr 0 0), (8, V.bool false), (9, V.sl o2 b2 n2 x2), (10, V.int .i64 i4), (11, V.sl o3 b3 n3 x3), (12, V.int .i64 i5), (13, V.int .i64 i6), (14, V.int .i64 i7), (15, V.int .i64 i8), (16, V.int .i64 i9), (17, V.bool false), (18, V.sl o4 b7 n4 x4), (19, V.int .i64 i10), (20, V.int .u64 i0), (37, V.bool false), (117, V.bool false), (126, V.sl o4 b7 n4 x4), (127, V.int .i64 (↑x4.length : Int)), (128, V.int .i64 0)], hp := [(0, Ob.var [V.int .u64 i0, V.int .u64 i1])], nx := 1 } (Exit.exit 0, { tm := [(0, V.sl o1 b1 n1 x1), (1, V.agg [V.int .u64 i0, V.int .u64 i1]), (2, V.int .i64 i2), (3, V.int .u64 (i3.tmod 576460752303423488)), (5, V.ptr 0 0), (8, V.bool false), (9, V.sl o2 b2 n2 x2), (10, V.int .i64 i4), (11, V.sl o3 b3 n3 x3), (12, V.int .i64 i5), (13, V.int .i64 i6), (14, V.int .i64 i7), (15, V.int .i64 i8), (16, V.int .i64 i9), (17, V.bool false), (18, V.sl o4 b7 n4 x4), (19, V.int .i64 i10), (20, V.int .u64 i11), (37, V.bool false), (117, V.bool false), (126, V.sl o4 b7 n4 x4), (127, V.int .i64 (↑x4.length : Int)), (128, V.int .i64 i12), (129, V.bool false)], hp := [(0, Ob.var [V.int .u64 i0, V.int .u64 i1])], nx := 5 }))
    (c19 : callP (evalFn Try.prog Try.cfg (k + 17)) 42 [V.sl o2 b2 n2 x2, V.agg [V.int .u64 i0, V.int .u64 i1]] = some (V.tup [V.sl o5 b8 n5 x5, V.int .i64 i13]))
    (c20 : decide (i10 = 0) = true)
    (c21 : decide (i13 = 0) = false) :
    callP (evalFn Try.prog Try.cfg (k + 18)) 11 [V.sl o0 b0 n0 x0, V.agg [V.int .u64 i0, V.int .u64 i1], V.int .i64 i2, V.int .u64 i3] = some (V.bool false) :=
  byF (k := k) (d := 18) [Hn.call 26 (V.sl o1 b1 n1 x1), Hn.call 33 (V.tup [V.sl o2 b2 n2 x2, V.int .i64 i4]), Hn.br 37 false, Hn.call 48 (V.tup [V.sl o3 b3 n3 x3, V.int .i64 i5]), Hn.call 54 (V.tup [V.int .i64 i6, V.int .i64 i7]), Hn.call 60 (V.tup [V.int .i64 i8, V.int .i64 i9]), Hn.br 67 false, Hn.br 78 false, Hn.br 82 false, Hn.br 86 false, Hn.call 89 (V.bool b4), Hn.br 92 false, Hn.call 94 (V.bool b5), Hn.br 97 false, Hn.br 114 false, Hn.call 115 (V.bool b6), Hn.br 117 false, Hn.call 121 (V.tup [V.sl o4 b7 n4 x4, V.int .i64 i10]), Hn.loop (Exit.exit 0, { tm := [(0, V.sl o1 b1 n1 x1), (1, V.agg [V.int .u64 i0, V.int .u64 i1]), (2, V.int .i64 i2), (3, V.int .u64 (i3.tmod 576460752303423488)), (5, V.ptr 0 0), (8, V.bool false), (9, V.sl o2 b2 n2 x2), (10, V.int .i64 i4), (11, V.sl o3 b3 n3 x3), (12, V.int .i64 i5), (13, V.int .i64 i6), (14, V.int .i64 i7), (15, V.int .i64 i8), (16, V.int .i64 i9), (17, V.bool false), (18, V.sl o4 b7 n4 x4), (19, V.int .i64 i10), (20, V.int .u64 i11), (37, V.bool false), (117, V.bool false), (126, V.sl o4 b7 n4 x4), (127, V.int .i64 (↑x4.length : Int)), (128, V.int .i64 i12), (129, V.bool false)], hp := [(0, Ob.var [V.int .u64 i0, V.int .u64 i1])], nx := 5 }), Hn.call 187 (V.tup [V.sl o5 b8 n5 x5, V.int .i64 i13]), Hn.br 192 true, Hn.br 196 false] (And.intro c0 (And.intro c1 (And.intro c2 (And.intro c3 (And.intro c4 (And.intro c5 (And.intro c6 (And.intro c7 (And.intro c8 (And.intro c9 (And.intro c10 (And.intro c11 (And.intro c12 (And.intro c13 (And.intro c14 (And.intro c15 (And.intro c16 (And.intro c17 (And.intro c18 (And.intro c19 (And.intro c20 (And.intro c21 trivial)))))))))))))))))))))) (by kernel_rfl)
theorem P11_42 (i0 i1 i2 i3 i4 i5 i6 i7 i8 i9 i10 i11 i12 i13 : Int) (b0 b1 b2 b3 b4 b5 b6 b7 b8 : Bool) (x0 x1 x2 x3 x4 x5 : List V) (o0 o1 o2 o3 o4 o5 : Option Bool) (n0 n1 n2 n3 n4 n5 k : Nat)
    (c0 : callP (evalFn Try.prog Try.cfg (k + 17)) 35 [V.sl o0 b0 n0 x0] = some (V.sl o1 b1 n1 x1))
    (c1 : callP (evalFn Try.prog Try.cfg (k + 17)) 36 [V.sl o1 b1 n1 x1, V.agg [V.int .u64 i0, V.int .u64 i1], V.int .i64 i2] = some (V.tup [V.sl o2 b2 n2 x2, V.int .i64 i4]))
    (c2 : (!decide (i4 = 0)) = false)
    (c3 : callP (evalFn Try.prog Try.cfg (k + 17)) 36 [V.sl o2 b2 n2 x2, V.agg [V.int .u64 i0, V.int .u64 i1], V.int .i64 i2] = some (V.tup [V.sl o3 b3 n3 x3, V.int .i64 i5]))
    (c4 : callP (evalFn Try.prog Try.cfg (k + 17)) 44 [V.sl o1 b1 n1 x1, V.int .u64 (i3.tmod 576460752303423488)] = some (V.tup [V.int .i64 i6, V.int .i64 i7]))
    (c5 : callP (evalFn Try.prog Try.cfg (k + 17)) 44 [V.sl o2 b2 n2 x2, V.int .u64 (i3.tmod 576460752303423488)] = some (V.tup [V.int .i64 i8, V.int .i64 i9]))
    (c6 : decide (i0 ≤ i3.tmod 576460752303423488) = false)
    (c7 : (!decide (i5 = 0)) = false)
    (c8 : (!decide (i7 = 0)) = false)
    (c9 : (!decide (i9 = 0)) = false)
    (c10 : callP (evalFn Try.prog Try.cfg (k + 17)) 41 [V.sl o3 b3 n3 x3, V.sl o2 b2 n2 x2] = some (V.bool b4))
    (c11 : (!b4) = false)
    (c12 : callP (evalFn Try.prog Try.cfg (k + 17)) 45 [V.sl o2 b2 n2 x2] = some (V.bool b5))
    (c13 : (!b5) = false)
    (c14 : (!decide (i8 = i6)) = false)
    (c15 : callP (evalFn Try.prog Try.cfg (k + 17)) 39 [] = some (V.bool b6))
    (c16 : (!b6) = false)
    (c17 : callP (evalFn Try.prog Try.cfg (k + 17)) 42 [V.sl o1 b1 n1 x1, V.agg [V.int .u64 i0, V.int .u64 i1]] = some (V.tup [V.sl o4 b7 n4 x4, V.int .i64 i10]))
    (c18 : LoopsN Try.prog Try.cfg (k + 17) 0 Try.f11 (Try.cfg.fc 11) 0 [0, 1, 2, 3, 5, 8, 9, 10, 11, 12, 13, 14, 15, 16, 17, 18, 19, 20, 37, 117, 126, 127, 128] (k + 17) { tm := [(0, V.sl o1 b1 n1 x1), (1, V.agg [V.int .u64 i0, V.int .u64 i1]), (2, V.int .i64 i2), (3, V.int .u64 (i3.tmod 576460752303423488)), (5, V.ptr 0 0), (8, V.bool false), (9, V.sl o2 b2 n2 x2), (10, V.int .i64 i4), (11, V.sl o3 b3 n3 x3), (12, V.int .i64 i5), (13, V.int .i64 i6), (14, V.int .i64 i7), (15, V.int .i64 i8), (16, V.int .i64 i9), (17, V.bool false), (18, V.sl o4 b7 n4 x4), (19, V.int .i64 i10), (20, V.int .u64 i0), (37, V.bool false), (117, V.bool false), (126, V.sl o4 b7 n4 x4), (127, V.int .i64 (↑x4.length : Int)), (128, V.int .i64 0)], hp := [(0, Ob.var [V.int .u64 i0, V.int .u64 i1])], nx := 1 } (Exit.exit 0, { tm := [(0, V.sl o1 b1 n1 x1), (1, V.agg [V.int .u64 i0, V.int .u64 i1]), (2, V.int .i64 i2), (3, V.int .u64 (i3.tmod 576460752303423488)), (5, V.ptr 0 0), (8, V.bool false), (9, V.sl o2 b2 n2 x2), (10, V.int .i64 i4), (11, V.sl o3 b3 n3 x3), (12, V.int .i64 i5), (13, V.int .i64 i6), (14, V.int .i64 i7), (15, V.int .i64 i8), (16, V.int .i64 i9), (17, V.bool false), (18, V.sl o4 b7 n4 x4), (19, V.int .i64 i10), (20, V.int .u64 i11), (37, V.bool false), (117, V.bool false), (126, V.sl o4 b7 n4 x4), (127, V.int .i64 (↑x4.length : Int)), (128, V.int .i64 i12), (129, V.bool false)], hp := [(0, Ob.var [V.int .u64 i0, V.int .u64 i1])], nx := 5 }))
    (c19 : callP (evalFn Try.prog Try.cfg (k + 17)) 42 [V.sl o2 b2 n2 x2, V.agg [V.int .u64 i0, V.int .u64 i1]] = some (V.tup [V.sl o5 b8 n5 x5, V.int .i64 i13]))
    (c20 : decide (i10 = 0) = false) :
    callP (evalFn Try.prog Try.cfg (k + 18)) 11 [V.sl o0 b0 n0 x0, V.agg [V.int .u64 i0, V.int .u64 i1], V.int .i64 i2, V.int .u64 i3] = some (V.bool false) :=
  byF (k := k) (d := 18) [Hn.call 26 (V.sl o1 b1 n1 x1), Hn.call 33 (V.tup [V.sl o2 b2 n2 x2, V.int .i64 i4]), Hn.br 37 false, Hn.call 48 (V.tup [V.sl o3 b3 n3 x3, V.int .i64 i5]), Hn.call 54 (V.tup [V.int .i64 i6, V.int .i64 i7]), Hn.call 60 (V.tup [V.int .i64 i8, V.int .i64 i9]), Hn.br 67 false, Hn.br 78 false, Hn.br 82 false, Hn.br 86 false, Hn.call 89 (V.bool b4), Hn.br 92 false, Hn.call 94 (V.bool b5), Hn.br 97 false, Hn.br 114 false, Hn.call 115 (V.bool b6), Hn.br 117 false, Hn.call 121 (V.tup [V.sl o4 b7 n4 x4, V.int .i64 i10]), Hn.loop (Exit.exit 0, { tm := [(0, V.sl o1 b1 n1 x1), (1, V.agg [V.int .u64 i0, V.int .u64 i1]), (2, V.int .i64 i2), (3, V.int .u64 (i3.tmod 576460752303423488)), (5, V.ptr 0 0), (8, V.bool false), (9, V.sl o2 b2 n2 x2), (10, V.int .i64 i4), (11, V.sl o3 b3 n3 x3), (12, V.int .i64 i5), (13, V.int .i64 i6), (14, V.int .i64 i7), (15, V.int .i64 i8), (16, V.int .i64 i9), (17, V.bool false), (18, V.sl o4 b7 n4 x4), (19, V.int .i64 i10), (20, V.int .u64 i11), (37, V.bool false), (117, V.bool false), (126, V.sl o4 b7 n4 x4), (127, V.int .i64 (↑x4.length : Int)), (128, V.int .i64 i12), (129, V.bool false)], hp := [(0, Ob.var [V.int .u64 i0, V.int .u64 i1])], nx := 5 }), Hn.call 187 (V.tup [V.sl o5 b8 n5 x5, V.int .i64 i13]), Hn.br 192 false] (And.intro c0 (And.intro c1 (And.intro c2 (And.intro c3 (And.intro c4 (And.intro c5 (And.intro c6 (And.intro c7 (And.intro c8 (And.intro c9 (And.intro c10 (And.intro c11 (And.intro c12 (And.intro c13 (And.intro c14 (And.intro c15 (And.intro c16 (And.intro c17 (And.intro c18 (And.intro c19 (And.intro c20 trivial))))))))))))))))))))) (by kernel_rfl)
theorem P11_43 (i0 i1 i2 i3 i4 i5 i6 i7 i8 i9 i10 i11 i12 i13 i14 i15 : Int) (b0 b1 b2 b3 b4 b5 b6 b7 : Bool) (x0 x1 x2 x3 x4 : List V) (o0 o1 o2 o3 o4 : Option Bool) (n0 n1 n2 n3 n4 k : Nat)
    (c0 : callP (evalFn Try.prog Try.cfg (k + 17)) 35 [V.sl o0 b0 n0 x0] = some (V.sl o1 b1 n1 x1))
    (c1 : callP (evalFn Try.prog Try.cfg (k + 17)) 36 [V.sl o1 b1 n1 x1, V.agg [V.int .u64 i0, V.int .u64 i1], V.int .i64 i2] = some (V.tup [V.sl o2 b2 n2 x2, V.int .i64 i4]))
    (c2 : (!decide (i4 = 0)) = false)
    (c3 : callP (evalFn Try.prog Try.cfg (k + 17)) 36 [V.sl o2 b2 n2 x2, V.agg [V.int .u64 i0, V.int .u64 i1], V.int .i64 i2] = some (V.tup [V.sl o3 b3 n3 x3, V.int .i64 i5]))
    (c4 : callP (evalFn Try.prog Try.cfg (k + 17)) 44 [V.sl o1 b1 n1 x1, V.int .u64 (i3.tmod 576460752303423488)] = some (V.tup [V.int .i64 i6, V.int .i64 i7]))
    (c5 : callP (evalFn Try.prog Try.cfg (k + 17)) 44 [V.sl o2 b2 n2 x2, V.int .u64 (i3.tmod 576460752303423488)] = some (V.tup [V.int .i64 i8, V.int .i64 i9]))
    (c6 : decide (i0 ≤ i3.tmod 576460752303423488) = false)
    (c7 : (!decide (i5 = 0)) = false)
    (c8 : (!decide (i7 = 0)) = false)
    (c9 : (!decide (i9 = 0)) = false)
    (c10 : callP (evalFn Try.prog Try.cfg (k + 17)) 41 [V.sl o3 b3 n3 x3, V.sl o2 b2 n2 x2] = some (V.bool b4))
    (c11 : (!b4) = false)
    (c12 : callP (evalFn Try.prog Try.cfg (k + 17)) 45 [V.sl o2 b2 n2 x2] = some (V.bool b5))
    (c13 : (!b5) = false)
    (c14 : (!decide (i8 = i6)) = false)
    (c15 : callP (evalFn Try.prog Try.cfg (k + 17)) 39 [] = some (V.bool b6))
    (c16 : (!b6) = false)
    (c17 : callP (evalFn Try.prog Try.cfg (k + 17)) 42 [V.sl o1 b1 n1 x1, V.agg [V.int .u64 i0, V.int .u64 i1]] = some (V.tup [V.sl o4 b7 n4 x4, V.int .i64 i10]))
    (c18 : LoopsN Try.prog Try.cfg (k + 17) 0 Try.f11 (Try.cfg.fc 11) 0 [0, 1, 2, 3, 5, 8, 9, 10, 11, 12, 13, 14, 15, 16, 17, 18, 19, 20, 37, 117, 126, 127, 128] (k + 17) { tm := [(0, V.sl o1 b1 n1 x1), (1, V.agg [V.int .u64 i0, V.int .u64 i1]), (2, V.int .i64 i2), (3, V.int .u64 (i3.tmod 576460752303423488)), (5, V.ptr 0 0), (8, V.bool false), (9, V.sl o2 b2 n2 x2), (10, V.int .i64 i4), (11, V.sl o3 b3 n3 x3), (12, V.int .i64 i5), (13, V.int .i64 i6), (14, V.int .i64 i7), (15, V.int .i64 i8), (16, V.int .i64 i9), (17, V.bool false), (18, V.sl o4 b7 n4 x4), (19, V.int .i64 i10), (20, V.int .u64 i0), (37, V.bool false), (117, V.bool false), (126, V.sl o4 b7 n4 x4), (127, V.int .i64 (↑x4.length : Int)), (128, V.int .i64 0)], hp := [(0, Ob.var [V.int .u64 i0, V.int .u64 i1])], nx := 1 } (Exit.ret, { tm := [(0, V.sl o1 b1 n1 x1), (1, V.agg [V.int .u64 i0, V.int .u64 i1]), (2, V.int .i64 i2), (3, V.int .u64 (i3.tmod 576460752303423488)), (5, V.ptr 0 0), (8, V.bool false), (9, V.sl o2 b2 n2 x2), (10, V.int .i64 i4), (11, V.sl o3 b3 n3 x3), (12, V.int .i64 i5), (13, V.int .i64 i6), (14, V.int .i64 i7), (15, V.int .i64 i8), (16, V.int .i64 i9), (17, V.bool false), (18, V.sl o4 b7 n4 x4), (19, V.int .i64 i10), (20, V.int .u64 i11), (21, V.int .i64 i12), (22, V.ptr 17 0), (37, V.bool false), (117, V.bool false), (126, V.sl o4 b7 n4 x4), (127, V.int .i64 (↑x4.length : Int)), (128, V.int .i64 i12), (129, V.bool true), (156, V.bool true)], hp := [(0, Ob.var [V.int .u64 i0, V.int .u64 i1]), (17, Ob.var [V.int .u64 i13, V.int .u64 i14, V.int .i64 i15])], nx := 129 })) :
    callP (evalFn Try.prog Try.cfg (k + 18)) 11 [V.sl o0 b0 n0 x0, V.agg [V.int .u64 i0, V.int .u64 i1], V.int .i64 i2, V.int .u64 i3] = some (V.bool false) :=
  byF (k := k) (d := 18) [Hn.call 26 (V.sl o1 b1 n1 x1), Hn.call 33 (V.tup [V.sl o2 b2 n2 x2, V.int .i64 i4]), Hn.br 37 false, Hn.call 48 (V.tup [V.sl o3 b3 n3 x3, V.int .i64 i5]), Hn.call 54 (V.tup [V.int .i64 i6, V.int .i64 i7]), Hn.call 60 (V.tup [V.int .i64 i8, V.int .i64 i9]), Hn.br 67 false, Hn.br 78 false, Hn.br 82 false, Hn.br 86 false, Hn.call 89 (V.bool b4), Hn.br 92 false, Hn.call 94 (V.bool b5), Hn.br 97 false, Hn.br 114 false, Hn.call 115 (V.bool b6), Hn.br 117 false, Hn.call 121 (V.tup [V.sl o4 b7 n4 x4, V.int .i64 i10]), Hn.loop (Exit.ret, { tm := [(0, V.sl o1 b1 n1 x1), (1, V.agg [V.int .u64 i0, V.int .u64 i1]), (2, V.int .i64 i2), (3, V.int .u64 (i3.tmod 576460752303423488)), (5, V.ptr 0 0), (8, V.bool false), (9, V.sl o2 b2 n2 x2), (10, V.int .i64 i4), (11, V.sl o3 b3 n3 x3), (12, V.int .i64 i5), (13, V.int .i64 i6), (14, V.int .i64 i7), (15, V.int .i64 i8), (16, V.int .i64 i9), (17, V.bool false), (18, V.sl o4 b7 n4 x4), (19, V.int .i64 i10), (20, V.int .u64 i11), (21, V.int .i64 i12), (22, V.ptr 17 0), (37, V.bool false), (117, V.bool false), (126, V.sl o4 b7 n4 x4), (127, V.int .i64 (↑x4.length : Int)), (128, V.int .i64 i12), (129, V.bool true), (156, V.bool true)], hp := [(0, Ob.var [V.int .u64 i0, V.int .u64 i1]), (17, Ob.var [V.int .u64 i13, V.int .u64 i14, V.int .i64 i15])], nx := 129 })] (And.intro c0 (And.intro c1 (And.intro c2 (And.intro c3 (And.intro c4 (And.intro c5 (And.intro c6 (And.intro c7 (And.intro c8 (And.intro c9 (And.intro c10 (And.intro c11 (And.intro c12 (And.intro c13 (And.intro c14 (And.intro c15 (And.intro c16 (And.intro c17 (And.intro c18 trivial))))))))))))))))))) (by kernel_rfl)
theorem P11_44 (i0 i1 i2 i3 i4 i5 i6 i7 i8 i9 i10 i11 i12 i13 i14 i15 : Int) (b0 b1 b2 b3 b4 b5 b6 b7 : Bool) (x0 x1 x2 x3 x4 : List V) (o0 o1 o2 o3 o4 : Option Bool) (n0 n1 n2 n3 n4 k : Nat)
    (c0 : callP (evalFn Try.prog Try.cfg (k + 17)) 35 [V.sl o0 b0 n0 x0] = some (V.sl o1 b1 n1 x1))
    (c1 : callP (evalFn Try.prog Try.cfg (k + 17)) 36 [V.sl o1 b1 n1 x1, V.agg [V.int .u64 i0, V.int .u64 i1], V.int .i64 i2] = some (V.tup [V.sl o2 b2 n2 x2, V.int .i64 i4]))
    (c2 : (!decide (i4 = 0)) = false)
    (c3 : callP (evalFn Try.prog Try.cfg (k + 17)) 36 [V.sl o2 b2 n2 x2, V.agg [V.int .u64 i0, V.int .u64 i1], V.int .i64 i2] = some (V.tup [V.sl o3 b3 n3 x3, V.int .i64 i5]))
    (c4 : callP (evalFn Try.prog Try.cfg (k + 17)) 44 [V.sl o1 b1 n1 x1, V.int .u64 (i3.tmod 576460752303423488)] = some (V.tup [V.int .i64 i6, V.int .i64 i7]))
    (c5 : callP (evalFn Try.prog Try.cfg (k + 17)) 44 [V.sl o2 b2 n2 x2, V.int .u64 (i3.tmod 576460752303423488)] = some (V.tup [V.int .i64 i8, V.int .i64 i9]))
    (c6 : decide (i0 ≤ i3.tmod 576460752303423488) = false)
    (c7 : (!decide (i5 = 0)) = false)
    (c8 : (!decide (i7 = 0)) = false)
    (c9 : (!decide (i9 = 0)) = false)
    (c10 : callP (evalFn Try.prog Try.cfg (k + 17)) 41 [V.sl o3 b3 n3 x3, V.sl o2 b2 n2 x2] = some (V.bool b4))
    (c11 : (!b4) = false)
    (c12 : callP (evalFn Try.prog Try.cfg (k + 17)) 45 [V.sl o2 b2 n2 x2] = some (V.bool b5))
    (c13 : (!b5) = false)
    (c14 : (!decide (i8 = i6)) = false)
    (c15 : callP (evalFn Try.prog Try.cfg (k + 17)) 39 [] = some (V.bool b6))
    (c16 : (!b6) = false)
    (c17 : callP (evalFn Try.prog Try.cfg (k + 17)) 42 [V.sl o1 b1 n1 x1, V.agg [V.int .u64 i0, V.int .u64 i1]] = some (V.tup [V.sl o4 b7 n4 x4, V.int .i64 i10]))
    (c18 : LoopsN Try.prog Try.cfg (k + 17) 0 Try.f11 (Try.cfg.fc 11) 0 [0, 1, 2, 3, 5, 8, 9, 10, 11, 12, 13, 14, 15, 16, 17, 18, 19, 20, 37, 117, 126, 127, 128] (k + 17) { tm := [(0, V.sl o1 b1 n1 x1), (1, V.agg [V.int .u64 i0, V.int .u64 i1]), (2, V.int .i64 i2), (3, V.int .u64 (i3.tmod 576460752303423488)), (5, V.ptr 0 0), (8, V.bool false), (9, V.sl o2 b2 n2 x2), (10, V.int .i64 i4), (11, V.sl o3 b3 n3 x3), (12, V.int .i64 i5), (13, V.int .i64 i6), (14, V.int .i64 i7), (15, V.int .i64 i8), (16, V.int .i64 i9), (17, V.bool false), (18, V.sl o4 b7 n4 x4), (19, V.int .i64 i10), (20, V.int .u64 i0), (37, V.bool false), (117, V.bool false), (126, V.sl o4 b7 n4 x4), (127, V.int .i64 (↑x4.length : Int)), (128, V.int .i64 0)], hp := [(0, Ob.var [V.int .u64 i0, V.int .u64 i1])], nx := 1 } (Exit.ret, { tm := [(0, V.sl o1 b1 n1 x1), (1, V.agg [V.int .u64 i0, V.int .u64 i1]), (2, V.int .i64 i2), (3, V.int .u64 (i3.tmod 576460752303423488)), (5, V.ptr 0 0), (8, V.bool false), (9, V.sl o2 b2 n2 x2), (10, V.int .i64 i4), (11, V.sl o3 b3 n3 x3), (12, V.int .i64 i5), (13, V.int .i64 i6), (14, V.int .i64 i7), (15, V.int .i64 i8), (16, V.int .i64 i9), (17, V.bool false), (18, V.sl o4 b7 n4 x4), (19, V.int .i64 i10), (20, V.int .u64 i11), (21, V.int .i64 i12), (22, V.ptr 17 0), (37, V.bool false), (117, V.bool false), (126, V.sl o4 b7 n4 x4), (127, V.int .i64 (↑x4.length : Int)), (128, V.int .i64 i12), (129, V.bool true), (156, V.bool true)], hp := [(0, Ob.var [V.int .u64 i0, V.int .u64 i1]), (17, Ob.var [V.int .u64 i13, V.int .u64 i14, V.int .i64 i15])], nx := 129 })) :
    callP (evalFn Try.prog Try.cfg (k + 18)) 11 [V.sl o0 b0 n0 x0, V.agg [V.int .u64 i0, V.int .u64 i1], V.int .i64 i2, V.int .u64 i3] = some (V.bool false) :=
  byF (k := k) (d := 18) [Hn.call 26 (V.sl o1 b1 n1 x1), Hn.call 33 (V.tup [V.sl o2 b2 n2 x2, V.int .i64 i4]), Hn.br 37 false, Hn.call 48 (V.tup [V.sl o3 b3 n3 x3, V.int .i64 i5]), Hn.call 54 (V.tup [V.int .i64 i6, V.int .i64 i7]), Hn.call 60 (V.tup [V.int .i64 i8, V.int .i64 i9]), Hn.br 67 false, Hn.br 78 false, Hn.br 82 false, Hn.br 86 false, Hn.call 89 (V.bool b4), Hn.br 92 false, Hn.call 94 (V.bool b5), Hn.br 97 false, Hn.br 114 false, Hn.call 115 (V.bool b6), Hn.br 117 false, Hn.call 121 (V.tup [V.sl o4 b7 n4 x4, V.int .i64 i10]), Hn.loop (Exit.ret, { tm := [(0, V.sl o1 b1 n1 x1), (1, V.agg [V.int .u64 i0, V.int .u64 i1]), (2, V.int .i64 i2), (3, V.int .u64 (i3.tmod 576460752303423488)), (5, V.ptr 0 0), (8, V.bool false), (9, V.sl o2 b2 n2 x2), (10, V.int .i64 i4), (11, V.sl o3 b3 n3 x3), (12, V.int .i64 i5), (13, V.int .i64 i6), (14, V.int .i64 i7), (15, V.int .i64 i8), (16, V.int .i64 i9), (17, V.bool false), (18, V.sl o4 b7 n4 x4), (19, V.int .i64 i10), (20, V.int .u64 i11), (21, V.int .i64 i12), (22, V.ptr 17 0), (37, V.bool false), (117, V.bool false), (126, V.sl o4 b7 n4 x4), (127, V.int .i64 (↑x4.length : Int)), (128, V.int .i64 i12), (129, V.bool true), (156, V.bool true)], hp := [(0, Ob.var [V.int .u64 i0, V.int .u64 i1]), (17, Ob.var [V.int .u64 i13, V.int .u64 i14, V.int .i64 i15])], nx := 129 })] (And.intro c0 (And.intro c1 (And.intro c2 (And.intro c3 (And.intro c4 (And.intro c5 (And.intro c6 (And.intro c7 (And.intro c8 (And.intro c9 (And.intro c10 (And.intro c11 (And.intro c12 (And.intro c13 (And.intro c14 (And.intro c15 (And.intro c16 (And.intro c17 (And.intro c18 trivial))))))))))))))))))) (by kernel_rfl)
theorem P11_45 (i0 i1 i2 i3 i4 i5 i6 i7 i8 i9 i10 i11 i12 i13 i14 i15 : Int) (b0 b1 b2 b3 b4 b5 b6 b7 : Bool) (x0 x1 x2 x3 x4 : List V) (o0 o1 o2 o3 o4 : Option Bool) (n0 n1 n2 n3 n4 k : Nat)
    (c0 : callP (evalFn Try.prog Try.cfg (k + 17)) 35 [V.sl o0 b0 n0 x0] = some (V.sl o1 b1 n1 x1))
    (c1 : callP (evalFn Try.prog Try.cfg (k + 17)) 36 [V.sl o1 b1 n1 x1, V.agg [V.int .u64 i0, V.int .u64 i1], V.int .i64 i2] = some (V.tup [V.sl o2 b2 n2 x2, V.int .i64 i4]))
    (c2 : (!decide (i4 = 0)) = false)
    (c3 : callP (evalFn Try.prog Try.cfg (k + 17)) 36 [V.sl o2 b2 n2 x2, V.agg [V.int .u64 i0, V.int .u64 i1], V.int .i64 i2] = some (V.tup [V.sl o3 b3 n3 x3, V.int .i64 i5]))
    (c4 : callP (evalFn Try.prog Try.cfg (k + 17)) 44 [V.sl o1 b1 n1 x1, V.int .u64 (i3.tmod 576460752303423488)] = some (V.tup [V.int .i64 i6, V.int .i64 i7]))
    (c5 : callP (evalFn Try.prog Try.cfg (k + 17)) 44 [V.sl o2 b2 n2 x2, V.int .u64 (i3.tmod 576460752303423488)] = some (V.tup [V.int .i64 i8, V.int .i64 i9]))
    (c6 : decide (i0 ≤ i3.tmod 576460752303423488) = false)
    (c7 : (!decide (i5 = 0)) = false)
    (c8 : (!decide (i7 = 0)) = false)
    (c9 : (!decide (i9 = 0)) = false)
    (c10 : callP (evalFn Try.prog Try.cfg (k + 17)) 41 [V.sl o3 b3 n3 x3, V.sl o2 b2 n2 x2] = some (V.bool b4))
    (c11 : (!b4) = false)
    (c12 : callP (evalFn Try.prog Try.cfg (k + 17)) 45 [V.sl o2 b2 n2 x2] = some (V.bool b5))
    (c13 : (!b5) = false)
    (c14 : (!decide (i8 = i6)) = false)
    (c15 : callP (evalFn Try.prog Try.cfg (k + 17)) 39 [] = some (V.bool b6))
    (c16 : (!b6) = false)
    (c17 : callP (evalFn Try.prog Try.cfg (k + 17)) 42 [V.sl o1 b1 n1 x1, V.agg [V.int .u64 i0, V.int .u64 i1]] = some (V.tup [V.sl o4 b7 n4 x4, V.int .i64 i10]))
    (c18 : LoopsN Try.prog Try.cfg (k + 17) 0 Try.f11 (Try.cfg.fc 11) 0 [0, 1, 2, 3, 5, 8, 9, 10, 11, 12, 13, 14, 15, 16, 17, 18, 19, 20, 37, 117, 126, 127, 128] (k + 17) { tm := [(0, V.sl o1 b1 n1 x1), (1, V.agg [V.int .u64 i0, V.int .u64 i1]), (2, V.int .i64 i2), (3, V.int .u64 (i3.tmod 576460752303423488)), (5, V.ptr 0 0), (8, V.bool false), (9, V.sl o2 b2 n2 x2), (10, V.int .i64 i4), (11, V.sl o3 b3 n3 x3), (12, V.int .i64 i5), (13, V.int .i64 i6), (14, V.int .i64 i7), (15, V.int .i64 i8), (16, V.int .i64 i9), (17, V.bool false), (18, V.sl o4 b7 n4 x4), (19, V.int .i64 i10), (20, V.int .u64 i0), (37, V.bool false), (117, V.bool false), (126, V.sl o4 b7 n4 x4), (127, V.int .i64 (↑x4.length : Int)), (128, V.int .i64 0)], hp := [(0, Ob.var [V.int .u64 i0, V.int .u64 i1])], nx := 1 } (Exit.ret, { tm := [(0, V.sl o1 b1 n1 x1), (1, V.agg [V.int .u64 i0, V.int .u64 i1]), (2, V.int .i64 i2), (3, V.int .u64 (i3.tmod 576460752303423488)), (5, V.ptr 0 0), (8, V.bool false), (9, V.sl o2 b2 n2 x2), (10, V.int .i64 i4), (11, V.sl o3 b3 n3 x3), (12, V.int .i64 i5), (13, V.int .i64 i6), (14, V.int .i64 i7), (15, V.int .i64 i8), (16, V.int .i64 i9), (17, V.bool false), (18, V.sl o4 b7 n4 x4), (19, V.int .i64 i10), (20, V.int .u64 i11), (21, V.int .i64 i12), (22, V.ptr 17 0), (37, V.bool false), (117, V.bool false), (126, V.sl o4 b7 n4 x4), (127, V.int .i64 (↑x4.length : Int)), (128, V.int .i64 i12), (129, V.bool true), (156, V.bool true)], hp := [(0, Ob.var [V.int .u64 i0, V.int .u64 i1]), (17, Ob.var [V.int .u64 i13, V.int .u64 i14, V.int .i64 i15])], nx := 129 })) :
    callP (evalFn Try.prog Try.cfg (k + 18)) 11 [V.sl o0 b0 n0 x0, V.agg [V.int .u64 i0, V.int .u64 i1], V.int .i64 i2, V.int .u64 i3] = some (V.bool false) :=
  byF (k := k) (d := 18) [Hn.call 26 (V.sl o1 b1 n1 x1), Hn.call 33 (V.tup [V.sl o2 b2 n2 x2, V.int .i64 i4]), Hn.br 37 false, Hn.call 48 (V.tup [V.sl o3 b3 n3 x3, V.int .i64 i5]), Hn.call 54 (V.tup [V.int .i64 i6, V.int .i64 i7]), Hn.call 60 (V.tup [V.int .i64 i8, V.int .i64 i9]), Hn.br 67 false, Hn.br 78 false, Hn.br 82 false, Hn.br 86 false, Hn.call 89 (V.bool b4), Hn.br 92 false, Hn.call 94 (V.bool b5), Hn.br 97 false, Hn.br 114 false, Hn.call 115 (V.bool b6), Hn.br 117 false, Hn.call 121 (V.tup [V.sl o4 b7 n4 x4, V.int .i64 i10]), Hn.loop (Exit.ret, { tm := [(0, V.sl o1 b1 n1 x1), (1, V.agg [V.int .u64 i0, V.int .u64 i1]), (2, V.int .i64 i2), (3, V.int .u64 (i3.tmod 576460752303423488)), (5, V.ptr 0 0), (8, V.bool false), (9, V.sl o2 b2 n2 x2), (10, V.int .i64 i4), (11, V.sl o3 b3 n3 x3), (12, V.int .i64 i5), (13, V.int .i64 i6), (14, V.int .i64 i7), (15, V.int .i64 i8), (16, V.int .i64 i9), (17, V.bool false), (18, V.sl o4 b7 n4 x4), (19, V.int .i64 i10), (20, V.int .u64 i11), (21, V.int .i64 i12), (22, V.ptr 17 0), (37, V.bool false), (117, V.bool false), (126, V.sl o4 b7 n4 x4), (127, V.int .i64 (↑x4.length : Int)), (128, V.int .i64 i12), (129, V.bool true), (156, V.bool true)], hp := [(0, Ob.var [V.int .u64 i0, V.int .u64 i1]), (17, Ob.var [V.int .u64 i13, V.int .u64 i14, V.int .i64 i15])], nx := 129 })] (And.intro c0 (And.intro c1 (And.intro c2 (And.intro c3 (And.intro c4 (And.intro c5 (And.intro c6 (And.intro c7 (And.intro c8 (And.intro c9 (And.intro c10 (And.intro c11 (And.intro c12 (And.intro c13 (And.intro c14 (And.intro c15 (And.intro c16 (And.intro c17 (And.intro c18 trivial))))))))))))))))))) (by kernel_rfl)
def F11 (k : Nat) (o0 : Option Bool) (b0 : Bool) (n0 : Nat) (x0 : List V) (i0 i1 i2 i3 : Int) : Option (Bool) :=
  ((F35 (k + 14) (o0) (b0) (n0) (x0)).bind fun (o1, b1, n1, x1) => ((F36 (k + 5) (o1) (b1) (n1) (x1) (i0) (i1) (i2)).bind fun (o2, b2, n2, x2, i4) => (bif !decide (i4 = 0) then ((F39 (k + 2)).bind fun b3 => (bif b3 then (some (decide ((↑x2.length : Int) = 0))) else (some (false)))) else ((F36 (k + 5) (o2) (b2) (n2) (x2) (i0) (i1) (i2)).bind fun (o3, b3, n3, x3, i5) => ((F44 (k + 8) (o1) (b1) (n1) (x1) (i3.tmod 576460752303423488)).bind fun (i6, i7) => ((F44 (k + 8) (o2) (b2) (n2) (x2) (i3.tmod 576460752303423488)).bind fun (i8, i9) => (bif decide (i0 ≤ i3.tmod 576460752303423488) then (bif !decide (i5 = 0) then (some (false)) else (bif !decide (i7 = 0) then (some (false)) else (bif !decide (i9 = 0) then (some (false)) else ((F41 (k + 14) (o3) (b3) (n3) (x3) (o2) (b2) (n2) (x2)).bind fun b4 => (bif !b4 then (some (false)) else ((F45 (k + 11) (o2) (b2) (n2) (x2)).bind fun b5 => (bif !b5 then (some (false)) else (bif decide (IntKind.u64.wrap (i3.tmod 576460752303423488 - i0) < i1) then (bif !decide (i8 = i2) then (some (false)) else ((F39 (k + 2)).bind fun b6 => (bif !b6 then (some (false)) else ((F42 (k + 5) (o1) (b1) (n1) (x1) (i0) (i1)).bind fun (o4, b7, n4, x4, i10) => ((L11_26 k i0 i1 i2 i3 i4 i5 i6 i7 i8 i9 i10 b1 b2 b3 b7 x1 x2 x3 x4 o1 o2 o3 o4 n1 n2 n3 n4 (k + 17) (i0) (0)).bind fun
    | L11_26_R.e0 i11 i12 i13 i14 i15 => (some (false))
    | L11_26_R.e1 i11 i12 i13 i14 i15 => (some (false))
    | L11_26_R.e2 i11 i12 i13 i14 i15 => (some (false))
    | L11_26_R.e3 i11 i12 i13 i14 i15 => (some (false))
    | L11_26_R.e4 i11 i12 i13 i14 i15 => (some (false))
    | L11_26_R.e5 i11 i12 => ((F42 (k + 5) (o2) (b2) (n2) (x2) (i0) (i1)).bind fun (o5, b8, n5, x5, i13) => (bif decide (i10 = 0) then (bif decide (i13 = 0) then (bif decide (IntKind.u64.wrap (i11 - i0) = i1) then (bif decide ((↑x5.length : Int) = 1) then (guardP (n5 = (3 : Nat)) (((at? (x5) (0)).bind dAu64u64i64Z).bind fun (i14, i15, i16) => (some (decide (i14 = i0) && (decide (i15 = i1) && (decide (i16 = i2) && true)))))) else (some (false))) else (some (false))) else (some (false))) else (some (false))))))))) else (bif !decide (i8 = i6) then (some (false)) else ((F39 (k + 2)).bind fun b6 => (bif !b6 then (some (false)) else ((F42 (k + 5) (o1) (b1) (n1) (x1) (i0) (i1)).bind fun (o4, b7, n4, x4, i10) => ((L11_26 k i0 i1 i2 i3 i4 i5 i6 i7 i8 i9 i10 b1 b2 b3 b7 x1 x2 x3 x4 o1 o2 o3 o4 n1 n2 n3 n4 (k + 17) (i0) (0)).bind fun
    | L11_26_R.e0 i11 i12 i13 i14 i15 => (some (false))
    | L11_26_R.e1 i11 i12 i13 i14 i15 => (some (false))
    | L11_26_R.e2 i11 i12 i13 i14 i15 => (some (false))
    | L11_26_R.e3 i11 i12 i13 i14 i15 => (some (false))
    | L11_26_R.e4 i11 i12 i13 i14 i15 => (some (false))
    | L11_26_R.e5 i11 i12 => ((F42 (k + 5) (o2) (b2) (n2) (x2) (i0) (i1)).bind fun (o5, b8, n5, x5, i13) => (bif decide (i10 = 0) then (bif decide (i13 = 0) then (bif decide (IntKind.u64.wrap (i11 - i0) = i1) then (bif decide ((↑x5.length : Int) = 1) then (guardP (n5 = (3 : Nat)) (((at? (x5) (0)).bind dAu64u64i64Z).bind fun (i14, i15, i16) => (some (decide (i14 = i0) && (decide (i15 = i1) && (decide (i16 = i2) && true)))))) else (some (false))) else (some (false))) else (some (false))) else (some (false))))))))))))))))) else (bif !decide (i5 = 0) then (some (false)) else (bif !decide (i7 = 0) then (some (false)) else (bif !decide (i9 = 0) then (some (false)) else ((F41 (k + 14) (o3) (b3) (n3) (x3) (o2) (b2) (n2) (x2)).bind fun b4 => (bif !b4 then (some (false)) else ((F45 (k + 11) (o2) (b2) (n2) (x2)).bind fun b5 => (bif !b5 then (some (false)) else (bif !decide (i8 = i6) then (some (false)) else ((F39 (k + 2)).bind fun b6 => (bif !b6 then (some (false)) else ((F42 (k + 5) (o1) (b1) (n1) (x1) (i0) (i1)).bind fun (o4, b7, n4, x4, i10) => ((L11_27 k i0 i1 i2 i3 i4 i5 i6 i7 i8 i9 i10 b1 b2 b3 b7 x1 x2 x3 x4 o1 o2 o3 o4 n1 n2 n3 n4 (k + 17) (i0) (0)).bind fun
    | L11_27_R.e0 i11 i12 i13 i14 i15 => (some (false))
    | L11_27_R.e1 i11 i12 i13 i14 i15 => (some (false))
    | L11_27_R.e2 i11 i12 i13 i14 i15 => (some (false))
    | L11_27_R.e3 i11 i12 => ((F42 (k + 5) (o2) (b2) (n2) (x2) (i0) (i1)).bind fun (o5, b8, n5, x5, i13) => (bif decide (i10 = 0) then (bif decide (i13 = 0) then (bif decide (IntKind.u64.wrap (i11 - i0) = i1) then (bif decide ((↑x5.length : Int) = 1) then (guardP (n5 = (3 : Nat)) (((at? (x5) (0)).bind dAu64u64i64Z).bind fun (i14, i15, i16) => (some (decide (i14 = i0) && (decide (i15 = i1) && (decide (i16 = i2) && true)))))) else (some (false))) else (some (false))) else (some (false))) else (some (false)))))))))))))))))))))))
theorem F11_ok {o0 : Option Bool} {b0 : Bool} {n0 : Nat} {x0 : List V} {i0 : Int} {i1 : Int} {i2 : Int} {i3 : Int} {k : Nat} {r : Bool} (h : F11 k o0 b0 n0 x0 i0 i1 i2 i3 = some r) :
    callP (evalFn Try.prog Try.cfg (k + 18)) 11 [V.sl o0 b0 n0 x0, V.agg [V.int .u64 i0, V.int .u64 i1], V.int .i64 i2, V.int .u64 i3] = some (V.bool r) := by
  unfold F11 at h
  obtain ⟨⟨o1, b1, n1, x1⟩, e0, h⟩ := Option.bind_eq_some_iff.1 h
  obtain ⟨⟨o2, b2, n2, x2, i4⟩, e1, h⟩ := Option.bind_eq_some_iff.1 h
  rcases cond_elim h with ⟨e2, h⟩ | ⟨e2, h⟩
  ·
    obtain ⟨b3, e3, h⟩ := Option.bind_eq_some_iff.1 h
    rcases cond_elim h with ⟨e4, h⟩ | ⟨e4, h⟩
    ·
      have h := Option.some.inj h; subst h; exact P11_0 i0 i1 i2 i3 i4 b0 b1 b2 b3 x0 x1 x2 o0 o1 o2 n0 n1 n2 k (F35_ok e0) (F36_ok e1) e2 (F39_ok e3) e4
    ·
      have h := Option.some.inj h; subst h; exact P11_1 i0 i1 i2 i3 i4 b0 b1 b2 b3 x0 x1 x2 o0 o1 o2 n0 n1 n2 k (F35_ok e0) (F36_ok e1) e2 (F39_ok e3) e4
  ·
    obtain ⟨⟨o3, b3, n3, x3, i5⟩, e3, h⟩ := Option.bind_eq_some_iff.1 h
    obtain ⟨⟨i6, i7⟩, e4, h⟩ := Option.bind_eq_some_iff.1 h
    obtain ⟨⟨i8, i9⟩, e5, h⟩ := Option.bind_eq_some_iff.1 h
    rcases cond_elim h with ⟨e6, h⟩ | ⟨e6, h⟩
    ·
      rcases cond_elim h with ⟨e7, h⟩ | ⟨e7, h⟩
      ·
        have h := Option.some.inj h; subst h; exact P11_2 i0 i1 i2 i3 i4 i5 i6 i7 i8 i9 b0 b1 b2 b3 x0 x1 x2 x3 o0 o1 o2 o3 n0 n1 n2 n3 k (F35_ok e0) (F36_ok e1) e2 (F36_ok e3) (F44_ok e4) (F44_ok e5) e6 e7
      ·
        rcases cond_elim h with ⟨e8, h⟩ | ⟨e8, h⟩
        ·
          have h := Option.some.inj h; subst h; exact P11_3 i0 i1 i2 i3 i4 i5 i6 i7 i8 i9 b0 b1 b2 b3 x0 x1 x2 x3 o0 o1 o2 o3 n0 n1 n2 n3 k (F35_ok e0) (F36_ok e1) e2 (F36_ok e3) (F44_ok e4) (F44_ok e5) e6 e7 e8
        ·
          rcases cond_elim h with ⟨e9, h⟩ | ⟨e9, h⟩
          ·
            have h := Option.some.inj h; subst h; exact P11_4 i0 i1 i2 i3 i4 i5 i6 i7 i8 i9 b0 b1 b2 b3 x0 x1 x2 x3 o0 o1 o2 o3 n0 n1 n2 n3 k (F35_ok e0) (F36_ok e1) e2 (F36_ok e3) (F44_ok e4) (F44_ok e5) e6 e7 e8 e9
          ·
            obtain ⟨b4, e10, h⟩ := Option.bind_eq_some_iff.1 h
            rcases cond_elim h with ⟨e11, h⟩ | ⟨e11, h⟩
            ·
              have h := Option.some.inj h; subst h; exact P11_5 i0 i1 i2 i3 i4 i5 i6 i7 i8 i9 b0 b1 b2 b3 b4 x0 x1 x2 x3 o0 o1 o2 o3 n0 n1 n2 n3 k (F35_ok e0) (F36_ok e1) e2 (F36_ok e3) (F44_ok e4) (F44_ok e5) e6 e7 e8 e9 (F41_ok e10) e11
            ·
              obtain ⟨b5, e12, h⟩ := Option.bind_eq_some_iff.1 h
              rcases cond_elim h with ⟨e13, h⟩ | ⟨e13, h⟩
              ·
                have h := Option.some.inj h; subst h; exact P11_6 i0 i1 i2 i3 i4 i5 i6 i7 i8 i9 b0 b1 b2 b3 b4 b5 x0 x1 x2 x3 o0 o1 o2 o3 n0 n1 n2 n3 k (F35_ok e0) (F36_ok e1) e2 (F36_ok e3) (F44_ok e4) (F44_ok e5) e6 e7 e8 e9 (F41_ok e10) e11 (F45_ok e12) e13
              ·
                rcases cond_elim h with ⟨e14, h⟩ | ⟨e14, h⟩
                ·
                  rcases cond_elim h with ⟨e15, h⟩ | ⟨e15, h⟩
                  ·
                    have h := Option.some.inj h; subst h; exact P11_7 i0 i1 i2 i3 i4 i5 i6 i7 i8 i9 b0 b1 b2 b3 b4 b5 x0 x1 x2 x3 o0 o1 o2 o3 n0 n1 n2 n3 k (F35_ok e0) (F36_ok e1) e2 (F36_ok e3) (F44_ok e4) (F44_ok e5) e6 e7 e8 e9 (F41_ok e10) e11 (F45_ok e12) e13 e14 e15
                  ·
                    obtain ⟨b6, e16, h⟩ := Option.bind_eq_some_iff.1 h
                    rcases cond_elim h with ⟨e17, h⟩ | ⟨e17, h⟩
                    ·
                      have h := Option.some.inj h; subst h; exact P11_8 i0 i1 i2 i3 i4 i5 i6 i7 i8 i9 b0 b1 b2 b3 b4 b5 b6 x0 x1 x2 x3 o0 o1 o2 o3 n0 n1 n2 n3 k (F35_ok e0) (F36_ok e1) e2 (F36_ok e3) (F44_ok e4) (F44_ok e5) e6 e7 e8 e9 (F41_ok e10) e11 (F45_ok e12) e13 e14 e15 e14 (F39_ok e16) e17
                    ·
                      obtain ⟨⟨o4, b7, n4, x4, i10⟩, e18, h⟩ := Option.bind_eq_some_iff.1 h
                      obtain ⟨ee, e19, h⟩ := Option.bind_eq_some_iff.1 h
                      cases ee with
                      | e0 i11 i12 i13 i14 i15 =>
                        have h := Option.some.inj h; subst h; exact P11_18 i0 i1 i2 i3 i4 i5 i6 i7 i8 i9 i10 i11 i12 i13 i14 i15 b0 b1 b2 b3 b4 b5 b6 b7 x0 x1 x2 x3 x4 o0 o1 o2 o3 o4 n0 n1 n2 n3 n4 k (F35_ok e0) (F36_ok e1) e2 (F36_ok e3) (F44_ok e4) (F44_ok e5) e6 e7 e8 e9 (F41_ok e10) e11 (F45_ok e12) e13 e14 e15 e14 (F39_ok e16) e17 (F42_ok e18) (L11_26_ok e19)
                      | e1 i11 i12 i13 i14 i15 =>
                        have h := Option.some.inj h; subst h; exact P11_17 i0 i1 i2 i3 i4 i5 i6 i7 i8 i9 i10 i11 i12 i13 i14 i15 b0 b1 b2 b3 b4 b5 b6 b7 x0 x1 x2 x3 x4 o0 o1 o2 o3 o4 n0 n1 n2 n3 n4 k (F35_ok e0) (F36_ok e1) e2 (F36_ok e3) (F44_ok e4) (F44_ok e5) e6 e7 e8 e9 (F41_ok e10) e11 (F45_ok e12) e13 e14 e15 e14 (F39_ok e16) e17 (F42_ok e18) (L11_26_ok e19)
                      | e2 i11 i12 i13 i14 i15 =>
                        have h := Option.some.inj h; subst h; exact P11_16 i0 i1 i2 i3 i4 i5 i6 i7 i8 i9 i10 i11 i12 i13 i14 i15 b0 b1 b2 b3 b4 b5 b6 b7 x0 x1 x2 x3 x4 o0 o1 o2 o3 o4 n0 n1 n2 n3 n4 k (F35_ok e0) (F36_ok e1) e2 (F36_ok e3) (F44_ok e4) (F44_ok e5) e6 e7 e8 e9 (F41_ok e10) e11 (F45_ok e12) e13 e14 e15 e14 (F39_ok e16) e17 (F42_ok e18) (L11_26_ok e19)
                      | e3 i11 i12 i13 i14 i15 =>
                        have h := Option.some.inj h; subst h; exact P11_15 i0 i1 i2 i3 i4 i5 i6 i7 i8 i9 i10 i11 i12 i13 i14 i15 b0 b1 b2 b3 b4 b5 b6 b7 x0 x1 x2 x3 x4 o0 o1 o2 o3 o4 n0 n1 n2 n3 n4 k (F35_ok e0) (F36_ok e1) e2 (F36_ok e3) (F44_ok e4) (F44_ok e5) e6 e7 e8 e9 (F41_ok e10) e11 (F45_ok e12) e13 e14 e15 e14 (F39_ok e16) e17 (F42_ok e18) (L11_26_ok e19)
                      | e4 i11 i12 i13 i14 i15 =>
                        have h := Option.some.inj h; subst h; exact P11_14 i0 i1 i2 i3 i4 i5 i6 i7 i8 i9 i10 i11 i12 i13 i14 i15 b0 b1 b2 b3 b4 b5 b6 b7 x0 x1 x2 x3 x4 o0 o1 o2 o3 o4 n0 n1 n2 n3 n4 k (F35_ok e0) (F36_ok e1) e2 (F36_ok e3) (F44_ok e4) (F44_ok e5) e6 e7 e8 e9 (F41_ok e10) e11 (F45_ok e12) e13 e14 e15 e14 (F39_ok e16) e17 (F42_ok e18) (L11_26_ok e19)
                      | e5 i11 i12 =>
                        obtain ⟨⟨o5, b8, n5, x5, i13⟩, e20, h⟩ := Option.bind_eq_some_iff.1 h
                        rcases cond_elim h with ⟨e21, h⟩ | ⟨e21, h⟩
                        ·
                          rcases cond_elim h with ⟨e22, h⟩ | ⟨e22, h⟩
                          ·
                            rcases cond_elim h with ⟨e23, h⟩ | ⟨e23, h⟩
                            ·
                              rcases cond_elim h with ⟨e24, h⟩ | ⟨e24, h⟩
                              ·
                                obtain ⟨e25, h⟩ := guardP_some.1 h
                                obtain ⟨⟨i14, i15, i16⟩, e26, h⟩ := Option.bind_eq_some_iff.1 h
                                have h := Option.some.inj h; subst h; exact P11_9 i0 i1 i2 i3 i4 i5 i6 i7 i8 i9 i10 i11 i12 i13 i14 i15 i16 b0 b1 b2 b3 b4 b5 b6 b7 b8 x0 x1 x2 x3 x4 x5 o0 o1 o2 o3 o4 o5 n0 n1 n2 n3 n4 n5 k (F35_ok e0) (F36_ok e1) e2 (F36_ok e3) (F44_ok e4) (F44_ok e5) e6 e7 e8 e9 (F41_ok e10) e11 (F45_ok e12) e13 e14 e15 e14 (F39_ok e16) e17 (F42_ok e18) (L11_26_ok e19) (F42_ok e20) e21 e22 e23 e24 (IdxP.of_at' (at_d dAu64u64i64Z_ok e26 :) e25)
                              ·
                                have h := Option.some.inj h; subst h; exact P11_10 i0 i1 i2 i3 i4 i5 i6 i7 i8 i9 i10 i11 i12 i13 b0 b1 b2 b3 b4 b5 b6 b7 b8 x0 x1 x2 x3 x4 x5 o0 o1 o2 o3 o4 o5 n0 n1 n2 n3 n4 n5 k (F35_ok e0) (F36_ok e1) e2 (F36_ok e3) (F44_ok e4) (F44_ok e5) e6 e7 e8 e9 (F41_ok e10) e11 (F45_ok e12) e13 e14 e15 e14 (F39_ok e16) e17 (F42_ok e18) (L11_26_ok e19) (F42_ok e20) e21 e22 e23 e24
                            ·
                              have h := Option.some.inj h; subst h; exact P11_11 i0 i1 i2 i3 i4 i5 i6 i7 i8 i9 i10 i11 i12 i13 b0 b1 b2 b3 b4 b5 b6 b7 b8 x0 x1 x2 x3 x4 x5 o0 o1 o2 o3 o4 o5 n0 n1 n2 n3 n4 n5 k (F35_ok e0) (F36_ok e1) e2 (F36_ok e3) (F44_ok e4) (F44_ok e5) e6 e7 e8 e9 (F41_ok e10) e11 (F45_ok e12) e13 e14 e15 e14 (F39_ok e16) e17 (F42_ok e18) (L11_26_ok e19) (F42_ok e20) e21 e22 e23
                          ·
                            have h := Option.some.inj h; subst h; exact P11_12 i0 i1 i2 i3 i4 i5 i6 i7 i8 i9 i10 i11 i12 i13 b0 b1 b2 b3 b4 b5 b6 b7 b8 x0 x1 x2 x3 x4 x5 o0 o1 o2 o3 o4 o5 n0 n1 n2 n3 n4 n5 k (F35_ok e0) (F36_ok e1) e2 (F36_ok e3) (F44_ok e4) (F44_ok e5) e6 e7 e8 e9 (F41_ok e10) e11 (F45_ok e12) e13 e14 e15 e14 (F39_ok e16) e17 (F42_ok e18) (L11_26_ok e19) (F42_ok e20) e21 e22
                        ·
                          have h := Option.some.inj h; subst h; exact P11_13 i0 i1 i2 i3 i4 i5 i6 i7 i8 i9 i10 i11 i12 i13 b0 b1 b2 b3 b4 b5 b6 b7 b8 x0 x1 x2 x3 x4 x5 o0 o1 o2 o3 o4 o5 n0 n1 n2 n3 n4 n5 k (F35_ok e0) (F36_ok e1) e2 (F36_ok e3) (F44_ok e4) (F44_ok e5) e6 e7 e8 e9 (F41_ok e10) e11 (F45_ok e12) e13 e14 e15 e14 (F39_ok e16) e17 (F42_ok e18) (L11_26_ok e19) (F42_ok e20) e21
                ·
                  rcases cond_elim h with ⟨e15, h⟩ | ⟨e15, h⟩
                  ·
                    have h := Option.some.inj h; subst h; exact P11_19 i0 i1 i2 i3 i4 i5 i6 i7 i8 i9 b0 b1 b2 b3 b4 b5 x0 x1 x2 x3 o0 o1 o2 o3 n0 n1 n2 n3 k (F35_ok e0) (F36_ok e1) e2 (F36_ok e3) (F44_ok e4) (F44_ok e5) e6 e7 e8 e9 (F41_ok e10) e11 (F45_ok e12) e13 e14 e14 e15
                  ·
                    obtain ⟨b6, e16, h⟩ := Option.bind_eq_some_iff.1 h
                    rcases cond_elim h with ⟨e17, h⟩ | ⟨e17, h⟩
                    ·
                      have h := Option.some.inj h; subst h; exact P11_20 i0 i1 i2 i3 i4 i5 i6 i7 i8 i9 b0 b1 b2 b3 b4 b5 b6 x0 x1 x2 x3 o0 o1 o2 o3 n0 n1 n2 n3 k (F35_ok e0) (F36_ok e1) e2 (F36_ok e3) (F44_ok e4) (F44_ok e5) e6 e7 e8 e9 (F41_ok e10) e11 (F45_ok e12) e13 e14 e14 e15 (F39_ok e16) e17
                    ·
                      obtain ⟨⟨o4, b7, n4, x4, i10⟩, e18, h⟩ := Option.bind_eq_some_iff.1 h
                      obtain ⟨ee, e19, h⟩ := Option.bind_eq_some_iff.1 h
                      cases ee with
                      | e0 i11 i12 i13 i14 i15 =>
                        have h := Option.some.inj h; subst h; exact P11_30 i0 i1 i2 i3 i4 i5 i6 i7 i8 i9 i10 i11 i12 i13 i14 i15 b0 b1 b2 b3 b4 b5 b6 b7 x0 x1 x2 x3 x4 o0 o1 o2 o3 o4 n0 n1 n2 n3 n4 k (F35_ok e0) (F36_ok e1) e2 (F36_ok e3) (F44_ok e4) (F44_ok e5) e6 e7 e8 e9 (F41_ok e10) e11 (F45_ok e12) e13 e14 e14 e15 (F39_ok e16) e17 (F42_ok e18) (L11_26_ok e19)
                      | e1 i11 i12 i13 i14 i15 =>
                        have h := Option.some.inj h; subst h; exact P11_29 i0 i1 i2 i3 i4 i5 i6 i7 i8 i9 i10 i11 i12 i13 i14 i15 b0 b1 b2 b3 b4 b5 b6 b7 x0 x1 x2 x3 x4 o0 o1 o2 o3 o4 n0 n1 n2 n3 n4 k (F35_ok e0) (F36_ok e1) e2 (F36_ok e3) (F44_ok e4) (F44_ok e5) e6 e7 e8 e9 (F41_ok e10) e11 (F45_ok e12) e13 e14 e14 e15 (F39_ok e16) e17 (F42_ok e18) (L11_26_ok e19)
                      | e2 i11 i12 i13 i14 i15 =>
                        have h := Option.some.inj h; subst h; exact P11_28 i0 i1 i2 i3 i4 i5 i6 i7 i8 i9 i10 i11 i12 i13 i14 i15 b0 b1 b2 b3 b4 b5 b6 b7 x0 x1 x2 x3 x4 o0 o1 o2 o3 o4 n0 n1 n2 n3 n4 k (F35_ok e0) (F36_ok e1) e2 (F36_ok e3) (F44_ok e4) (F44_ok e5) e6 e7 e8 e9 (F41_ok e10) e11 (F45_ok e12) e13 e14 e14 e15 (F39_ok e16) e17 (F42_ok e18) (L11_26_ok e19)
                      | e3 i11 i12 i13 i14 i15 =>
                        have h := Option.some.inj h; subst h; exact P11_27 i0 i1 i2 i3 i4 i5 i6 i7 i8 i9 i10 i11 i12 i13 i14 i15 b0 b1 b2 b3 b4 b5 b6 b7 x0 x1 x2 x3 x4 o0 o1 o2 o3 o4 n0 n1 n2 n3 n4 k (F35_ok e0) (F36_ok e1) e2 (F36_ok e3) (F44_ok e4) (F44_ok e5) e6 e7 e8 e9 (F41_ok e10) e11 (F45_ok e12) e13 e14 e14 e15 (F39_ok e16) e17 (F42_ok e18) (L11_26_ok e19)
                      | e4 i11 i12 i13 i14 i15 =>
                        have h := Option.some.inj h; subst h; exact P11_26 i0 i1 i2 i3 i4 i5 i6 i7 i8 i9 i10 i11 i12 i13 i14 i15 b0 b1 b2 b3 b4 b5 b6 b7 x0 x1 x2 x3 x4 o0 o1 o2 o3 o4 n0 n1 n2 n3 n4 k (F35_ok e0) (F36_ok e1) e2 (F36_ok e3) (F44_ok e4) (F44_ok e5) e6 e7 e8 e9 (F41_ok e10) e11 (F45_ok e12) e13 e14 e14 e15 (F39_ok e16) e17 (F42_ok e18) (L11_26_ok e19)
                      | e5 i11 i12 =>
                        obtain ⟨⟨o5, b8, n5, x5, i13⟩, e20, h⟩ := Option.bind_eq_some_iff.1 h
                        rcases cond_elim h with ⟨e21, h⟩ | ⟨e21, h⟩
                        ·
                          rcases cond_elim h with ⟨e22, h⟩ | ⟨e22, h⟩
                          ·
                            rcases cond_elim h with ⟨e23, h⟩ | ⟨e23, h⟩
                            ·
                              rcases cond_elim h with ⟨e24, h⟩ | ⟨e24, h⟩
                              ·
                                obtain ⟨e25, h⟩ := guardP_some.1 h
                                obtain ⟨⟨i14, i15, i16⟩, e26, h⟩ := Option.bind_eq_some_iff.1 h
                                have h := Option.some.inj h; subst h; exact P11_21 i0 i1 i2 i3 i4 i5 i6 i7 i8 i9 i10 i11 i12 i13 i14 i15 i16 b0 b1 b2 b3 b4 b5 b6 b7 b8 x0 x1 x2 x3 x4 x5 o0 o1 o2 o3 o4 o5 n0 n1 n2 n3 n4 n5 k (F35_ok e0) (F36_ok e1) e2 (F36_ok e3) (F44_ok e4) (F44_ok e5) e6 e7 e8 e9 (F41_ok e10) e11 (F45_ok e12) e13 e14 e14 e15 (F39_ok e16) e17 (F42_ok e18) (L11_26_ok e19) (F42_ok e20) e21 e22 e23 e24 (IdxP.of_at' (at_d dAu64u64i64Z_ok e26 :) e25)
                              ·
                                have h := Option.some.inj h; subst h; exact P11_22 i0 i1 i2 i3 i4 i5 i6 i7 i8 i9 i10 i11 i12 i13 b0 b1 b2 b3 b4 b5 b6 b7 b8 x0 x1 x2 x3 x4 x5 o0 o1 o2 o3 o4 o5 n0 n1 n2 n3 n4 n5 k (F35_ok e0) (F36_ok e1) e2 (F36_ok e3) (F44_ok e4) (F44_ok e5) e6 e7 e8 e9 (F41_ok e10) e11 (F45_ok e12) e13 e14 e14 e15 (F39_ok e16) e17 (F42_ok e18) (L11_26_ok e19) (F42_ok e20) e21 e22 e23 e24
                            ·
                              have h := Option.some.inj h; subst h; exact P11_23 i0 i1 i2 i3 i4 i5 i6 i7 i8 i9 i10 i11 i12 i13 b0 b1 b2 b3 b4 b5 b6 b7 b8 x0 x1 x2 x3 x4 x5 o0 o1 o2 o3 o4 o5 n0 n1 n2 n3 n4 n5 k (F35_ok e0) (F36_ok e1) e2 (F36_ok e3) (F44_ok e4) (F44_ok e5) e6 e7 e8 e9 (F41_ok e10) e11 (F45_ok e12) e13 e14 e14 e15 (F39_ok e16) e17 (F42_ok e18) (L11_26_ok e19) (F42_ok e20) e21 e22 e23
                          ·
                            have h := Option.some.inj h; subst h; exact P11_24 i0 i1 i2 i3 i4 i5 i6 i7 i8 i9 i10 i11 i12 i13 b0 b1 b2 b3 b4 b5 b6 b7 b8 x0 x1 x2 x3 x4 x5 o0 o1 o2 o3 o4 o5 n0 n1 n2 n3 n4 n5 k (F35_ok e0) (F36_ok e1) e2 (F36_ok e3) (F44_ok e4) (F44_ok e5) e6 e7 e8 e9 (F41_ok e10) e11 (F45_ok e12) e13 e14 e14 e15 (F39_ok e16) e17 (F42_ok e18) (L11_26_ok e19) (F42_ok e20) e21 e22
                        ·
                          have h := Option.some.inj h; subst h; exact P11_25 i0 i1 i2 i3 i4 i5 i6 i7 i8 i9 i10 i11 i12 i13 b0 b1 b2 b3 b4 b5 b6 b7 b8 x0 x1 x2 x3 x4 x5 o0 o1 o2 o3 o4 o5 n0 n1 n2 n3 n4 n5 k (F35_ok e0) (F36_ok e1) e2 (F36_ok e3) (F44_ok e4) (F44_ok e5) e6 e7 e8 e9 (F41_ok e10) e11 (F45_ok e12) e13 e14 e14 e15 (F39_ok e16) e17 (F42_ok e18) (L11_26_ok e19) (F42_ok e20) e21
    ·
      rcases cond_elim h with ⟨e7, h⟩ | ⟨e7, h⟩
      ·
        have h := Option.some.inj h; subst h; exact P11_31 i0 i1 i2 i3 i4 i5 i6 i7 i8 i9 b0 b1 b2 b3 x0 x1 x2 x3 o0 o1 o2 o3 n0 n1 n2 n3 k (F35_ok e0) (F36_ok e1) e2 (F36_ok e3) (F44_ok e4) (F44_ok e5) e6 e7
      ·
        rcases cond_elim h with ⟨e8, h⟩ | ⟨e8, h⟩
        ·
          have h := Option.some.inj h; subst h; exact P11_32 i0 i1 i2 i3 i4 i5 i6 i7 i8 i9 b0 b1 b2 b3 x0 x1 x2 x3 o0 o1 o2 o3 n0 n1 n2 n3 k (F35_ok e0) (F36_ok e1) e2 (F36_ok e3) (F44_ok e4) (F44_ok e5) e6 e7 e8
        ·
          rcases cond_elim h with ⟨e9, h⟩ | ⟨e9, h⟩
          ·
            have h := Option.some.inj h; subst h; exact P11_33 i0 i1 i2 i3 i4 i5 i6 i7 i8 i9 b0 b1 b2 b3 x0 x1 x2 x3 o0 o1 o2 o3 n0 n1 n2 n3 k (F35_ok e0) (F36_ok e1) e2 (F36_ok e3) (F44_ok e4) (F44_ok e5) e6 e7 e8 e9
          ·
            obtain ⟨b4, e10, h⟩ := Option.bind_eq_some_iff.1 h
            rcases cond_elim h with ⟨e11, h⟩ | ⟨e11, h⟩
            ·
              have h := Option.some.inj h; subst h; exact P11_34 i0 i1 i2 i3 i4 i5 i6 i7 i8 i9 b0 b1 b2 b3 b4 x0 x1 x2 x3 o0 o1 o2 o3 n0 n1 n2 n3 k (F35_ok e0) (F36_ok e1) e2 (F36_ok e3) (F44_ok e4) (F44_ok e5) e6 e7 e8 e9 (F41_ok e10) e11
            ·
              obtain ⟨b5, e12, h⟩ := Option.bind_eq_some_iff.1 h
              rcases cond_elim h with ⟨e13, h⟩ | ⟨e13, h⟩
              ·
                have h := Option.some.inj h; subst h; exact P11_35 i0 i1 i2 i3 i4 i5 i6 i7 i8 i9 b0 b1 b2 b3 b4 b5 x0 x1 x2 x3 o0 o1 o2 o3 n0 n1 n2 n3 k (F35_ok e0) (F36_ok e1) e2 (F36_ok e3) (F44_ok e4) (F44_ok e5) e6 e7 e8 e9 (F41_ok e10) e11 (F45_ok e12) e13
              ·
                rcases cond_elim h with ⟨e14, h⟩ | ⟨e14, h⟩
                ·
                  have h := Option.some.inj h; subst h; exact P11_36 i0 i1 i2 i3 i4 i5 i6 i7 i8 i9 b0 b1 b2 b3 b4 b5 x0 x1 x2 x3 o0 o1 o2 o3 n0 n1 n2 n3 k (F35_ok e0) (F36_ok e1) e2 (F36_ok e3) (F44_ok e4) (F44_ok e5) e6 e7 e8 e9 (F41_ok e10) e11 (F45_ok e12) e13 e14
                ·
                  obtain ⟨b6, e15, h⟩ := Option.bind_eq_some_iff.1 h
                  rcases cond_elim h with ⟨e16, h⟩ | ⟨e16, h⟩
                  ·
                    have h := Option.some.inj h; subst h; exact P11_37 i0 i1 i2 i3 i4 i5 i6 i7 i8 i9 b0 b1 b2 b3 b4 b5 b6 x0 x1 x2 x3 o0 o1 o2 o3 n0 n1 n2 n3 k (F35_ok e0) (F36_ok e1) e2 (F36_ok e3) (F44_ok e4) (F44_ok e5) e6 e7 e8 e9 (F41_ok e10) e11 (F45_ok e12) e13 e14 (F39_ok e15) e16
                  ·
                    obtain ⟨⟨o4, b7, n4, x4, i10⟩, e17, h⟩ := Option.bind_eq_some_iff.1 h
                    obtain ⟨ee, e18, h⟩ := Option.bind_eq_some_iff.1 h
                    cases ee with
                    | e0 i11 i12 i13 i14 i15 =>
                      have h := Option.some.inj h; subst h; exact P11_45 i0 i1 i2 i3 i4 i5 i6 i7 i8 i9 i10 i11 i12 i13 i14 i15 b0 b1 b2 b3 b4 b5 b6 b7 x0 x1 x2 x3 x4 o0 o1 o2 o3 o4 n0 n1 n2 n3 n4 k (F35_ok e0) (F36_ok e1) e2 (F36_ok e3) (F44_ok e4) (F44_ok e5) e6 e7 e8 e9 (F41_ok e10) e11 (F45_ok e12) e13 e14 (F39_ok e15) e16 (F42_ok e17) (L11_27_ok e18)
                    | e1 i11 i12 i13 i14 i15 =>
                      have h := Option.some.inj h; subst h; exact P11_44 i0 i1 i2 i3 i4 i5 i6 i7 i8 i9 i10 i11 i12 i13 i14 i15 b0 b1 b2 b3 b4 b5 b6 b7 x0 x1 x2 x3 x4 o0 o1 o2 o3 o4 n0 n1 n2 n3 n4 k (F35_ok e0) (F36_ok e1) e2 (F36_ok e3) (F44_ok e4) (F44_ok e5) e6 e7 e8 e9 (F41_ok e10) e11 (F45_ok e12) e13 e14 (F39_ok e15) e16 (F42_ok e17) (L11_27_ok e18)
                    | e2 i11 i12 i13 i14 i15 =>
                      have h := Option.some.inj h; subst h; exact P11_43 i0 i1 i2 i3 i4 i5 i6 i7 i8 i9 i10 i11 i12 i13 i14 i15 b0 b1 b2 b3 b4 b5 b6 b7 x0 x1 x2 x3 x4 o0 o1 o2 o3 o4 n0 n1 n2 n3 n4 k (F35_ok e0) (F36_ok e1) e2 (F36_ok e3) (F44_ok e4) (F44_ok e5) e6 e7 e8 e9 (F41_ok e10) e11 (F45_ok e12) e13 e14 (F39_ok e15) e16 (F42_ok e17) (L11_27_ok e18)
                    | e3 i11 i12 =>
                      obtain ⟨⟨o5, b8, n5, x5, i13⟩, e19, h⟩ := Option.bind_eq_some_iff.1 h
                      rcases cond_elim h with ⟨e20, h⟩ | ⟨e20, h⟩
                      ·
                        rcases cond_elim h with ⟨e21, h⟩ | ⟨e21, h⟩
                        ·
                          rcases cond_elim h with ⟨e22, h⟩ | ⟨e22, h⟩
                          ·
                            rcases cond_elim h with ⟨e23, h⟩ | ⟨e23, h⟩
                            ·
                              obtain ⟨e24, h⟩ := guardP_some.1 h
                              obtain ⟨⟨i14, i15, i16⟩, e25, h⟩ := Option.bind_eq_some_iff.1 h
                              have h := Option.some.inj h; subst h; exact P11_38 i0 i1 i2 i3 i4 i5 i6 i7 i8 i9 i10 i11 i12 i13 i14 i15 i16 b0 b1 b2 b3 b4 b5 b6 b7 b8 x0 x1 x2 x3 x4 x5 o0 o1 o2 o3 o4 o5 n0 n1 n2 n3 n4 n5 k (F35_ok e0) (F36_ok e1) e2 (F36_ok e3) (F44_ok e4) (F44_ok e5) e6 e7 e8 e9 (F41_ok e10) e11 (F45_ok e12) e13 e14 (F39_ok e15) e16 (F42_ok e17) (L11_27_ok e18) (F42_ok e19) e20 e21 e22 e23 (IdxP.of_at' (at_d dAu64u64i64Z_ok e25 :) e24)
                            ·
                              have h := Option.some.inj h; subst h; exact P11_39 i0 i1 i2 i3 i4 i5 i6 i7 i8 i9 i10 i11 i12 i13 b0 b1 b2 b3 b4 b5 b6 b7 b8 x0 x1 x2 x3 x4 x5 o0 o1 o2 o3 o4 o5 n0 n1 n2 n3 n4 n5 k (F35_ok e0) (F36_ok e1) e2 (F36_ok e3) (F44_ok e4) (F44_ok e5) e6 e7 e8 e9 (F41_ok e10) e11 (F45_ok e12) e13 e14 (F39_ok e15) e16 (F42_ok e17) (L11_27_ok e18) (F42_ok e19) e20 e21 e22 e23
                          ·
                            have h := Option.some.inj h; subst h; exact P11_40 i0 i1 i2 i3 i4 i5 i6 i7 i8 i9 i10 i11 i12 i13 b0 b1 b2 b3 b4 b5 b6 b7 b8 x0 x1 x2 x3 x4 x5 o0 o1 o2 o3 o4 o5 n0 n1 n2 n3 n4 n5 k (F35_ok e0) (F36_ok e1) e2 (F36_ok e3) (F44_ok e4) (F44_ok e5) e6 e7 e8 e9 (F41_ok e10) e11 (F45_ok e12) e13 e14 (F39_ok e15) e16 (F42_ok e17) (L11_27_ok e18) (F42_ok e19) e20 e21 e22
                        ·
                          have h := Option.some.inj h; subst h; exact P11_41 i0 i1 i2 i3 i4 i5 i6 i7 i8 i9 i10 i11 i12 i13 b0 b1 b2 b3 b4 b5 b6 b7 b8 x0 x1 x2 x3 x4 x5 o0 o1 o2 o3 o4 o5 n0 n1 n2 n3 n4 n5 k (F35_ok e0) (F36_ok e1) e2 (F36_ok e3) (F44_ok e4) (F44_ok e5) e6 e7 e8 e9 (F41_ok e10) e11 (F45_ok e12) e13 e14 (F39_ok e15) e16 (F42_ok e17) (L11_27_ok e18) (F42_ok e19) e20 e21
                      ·
                        have h := Option.some.inj h; subst h; exact P11_42 i0 i1 i2 i3 i4 i5 i6 i7 i8 i9 i10 i11 i12 i13 b0 b1 b2 b3 b4 b5 b6 b7 b8 x0 x1 x2 x3 x4 x5 o0 o1 o2 o3 o4 o5 n0 n1 n2 n3 n4 n5 k (F35_ok e0) (F36_ok e1) e2 (F36_ok e3) (F44_ok e4) (F44_ok e5) e6 e7 e8 e9 (F41_ok e10) e11 (F45_ok e12) e13 e14 (F39_ok e15) e16 (F42_ok e17) (L11_27_ok e18) (F42_ok e19) e20
end Go.Proofs
