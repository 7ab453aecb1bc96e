/- What the walk asks of the program's types. -/
import Derived.Test.YtbhchajlebhkgaaMgC
import Derived.Test.YtbhchajlebhkgaaProg
namespace Go.Proofs.Ytbhchajlebhkgaa.AX
open Go Go.RowKit
set_option linter.unusedSimpArgs false
@[simp] theorem sizeT_0 : sizeT Try.prog 0 = some 1 := by kernel_rfl
@[simp] theorem aggT_0 : aggT Try.prog 0 = some false := by kernel_rfl
@[simp] theorem elemT_0 : elemT Try.prog 0 = none := by kernel_rfl
@[simp] theorem arrT_0 : arrT Try.prog 0 = none := by kernel_rfl
@[simp] theorem isInt_0 : isInt Try.prog 0 = none := by kernel_rfl
@[simp] theorem isStr_0 : isStr Try.prog 0 = false := by kernel_rfl
@[simp] theorem isBl_0 : isBl Try.prog 0 = false := by kernel_rfl
@[simp] theorem isPtr_0 : isPtr Try.prog 0 = false := by kernel_rfl
@[simp] theorem isIfc_0 : isIfc Try.prog 0 = some false := by kernel_rfl
@[simp] theorem bytesT_0 : bytesT Try.prog 0 = some 0 := by kernel_rfl
@[simp] theorem placesT_0 : placesT Try.prog 0 = none := by kernel_rfl
@[simp] theorem under_0 : (Try.prog.underlying 0).isSome = true := by kernel_rfl
@[simp] theorem gty_0 : Try.prog.eqGuardType Try.prog.depth 0 = false := by kernel_rfl
@[simp] theorem sizeT_1 : sizeT Try.prog 1 = some 1 := by kernel_rfl
@[simp] theorem aggT_1 : aggT Try.prog 1 = some false := by kernel_rfl
@[simp] theorem elemT_1 : elemT Try.prog 1 = none := by kernel_rfl
@[simp] theorem arrT_1 : arrT Try.prog 1 = none := by kernel_rfl
@[simp] theorem isInt_1 : isInt Try.prog 1 = none := by kernel_rfl
@[simp] theorem isStr_1 : isStr Try.prog 1 = false := by kernel_rfl
@[simp] theorem isBl_1 : isBl Try.prog 1 = false := by kernel_rfl
@[simp] theorem isPtr_1 : isPtr Try.prog 1 = false := by kernel_rfl
@[simp] theorem isIfc_1 : isIfc Try.prog 1 = some false := by kernel_rfl
@[simp] theorem bytesT_1 : bytesT Try.prog 1 = some 8 := by kernel_rfl
@[simp] theorem zeroVal_1 : zeroVal Try.prog 1 = some V.nilf := by kernel_rfl
@[simp] theorem placesT_1 : placesT Try.prog 1 = none := by kernel_rfl
@[simp] theorem under_1 : (Try.prog.underlying 1).isSome = true := by kernel_rfl
@[simp] theorem gty_1 : Try.prog.eqGuardType Try.prog.depth 1 = false := by kernel_rfl
@[simp] theorem sizeT_3 : sizeT Try.prog 3 = some 1 := by kernel_rfl
@[simp] theorem aggT_3 : aggT Try.prog 3 = some false := by kernel_rfl
@[simp] theorem elemT_3 : elemT Try.prog 3 = none := by kernel_rfl
@[simp] theorem arrT_3 : arrT Try.prog 3 = none := by kernel_rfl
@[simp] theorem isInt_3 : isInt Try.prog 3 = some IntKind.i64 := by kernel_rfl
@[simp] theorem isStr_3 : isStr Try.prog 3 = false := by kernel_rfl
@[simp] theorem isBl_3 : isBl Try.prog 3 = false := by kernel_rfl
@[simp] theorem isPtr_3 : isPtr Try.prog 3 = false := by kernel_rfl
@[simp] theorem isIfc_3 : isIfc Try.prog 3 = some false := by kernel_rfl
@[simp] theorem bytesT_3 : bytesT Try.prog 3 = some 8 := by kernel_rfl
@[simp] theorem zeroVal_3 : zeroVal Try.prog 3 = some (V.int IntKind.i64 (0)) := by kernel_rfl
@[simp] theorem placesT_3 : placesT Try.prog 3 = none := by kernel_rfl
@[simp] theorem under_3 : (Try.prog.underlying 3).isSome = true := by kernel_rfl
@[simp] theorem gty_3 : Try.prog.eqGuardType Try.prog.depth 3 = false := by kernel_rfl
@[simp] theorem sizeT_4 : sizeT Try.prog 4 = some 1 := by kernel_rfl
@[simp] theorem aggT_4 : aggT Try.prog 4 = some false := by kernel_rfl
@[simp] theorem elemT_4 : elemT Try.prog 4 = none := by kernel_rfl
@[simp] theorem arrT_4 : arrT Try.prog 4 = none := by kernel_rfl
@[simp] theorem isInt_4 : isInt Try.prog 4 = none := by kernel_rfl
@[simp] theorem isStr_4 : isStr Try.prog 4 = false := by kernel_rfl
@[simp] theorem isBl_4 : isBl Try.prog 4 = true := by kernel_rfl
@[simp] theorem isPtr_4 : isPtr Try.prog 4 = false := by kernel_rfl
@[simp] theorem isIfc_4 : isIfc Try.prog 4 = some false := by kernel_rfl
@[simp] theorem bytesT_4 : bytesT Try.prog 4 = some 1 := by kernel_rfl
@[simp] theorem zeroVal_4 : zeroVal Try.prog 4 = some (V.bool false) := by kernel_rfl
@[simp] theorem placesT_4 : placesT Try.prog 4 = none := by kernel_rfl
@[simp] theorem under_4 : (Try.prog.underlying 4).isSome = true := by kernel_rfl
@[simp] theorem gty_4 : Try.prog.eqGuardType Try.prog.depth 4 = false := by kernel_rfl
@[simp] theorem sizeT_5 : sizeT Try.prog 5 = some 1 := by kernel_rfl
@[simp] theorem aggT_5 : aggT Try.prog 5 = some false := by kernel_rfl
@[simp] theorem elemT_5 : elemT Try.prog 5 = none := by kernel_rfl
@[simp] theorem arrT_5 : arrT Try.prog 5 = none := by kernel_rfl
@[simp] theorem isInt_5 : isInt Try.prog 5 = some IntKind.u8 := by kernel_rfl
@[simp] theorem isStr_5 : isStr Try.prog 5 = false := by kernel_rfl
@[simp] theorem isBl_5 : isBl Try.prog 5 = false := by kernel_rfl
@[simp] theorem isPtr_5 : isPtr Try.prog 5 = false := by kernel_rfl
@[simp] theorem isIfc_5 : isIfc Try.prog 5 = some false := by kernel_rfl
@[simp] theorem bytesT_5 : bytesT Try.prog 5 = some 1 := by kernel_rfl
@[simp] theorem zeroVal_5 : zeroVal Try.prog 5 = some (V.int IntKind.u8 (0)) := by kernel_rfl
@[simp] theorem placesT_5 : placesT Try.prog 5 = none := by kernel_rfl
@[simp] theorem under_5 : (Try.prog.underlying 5).isSome = true := by kernel_rfl
@[simp] theorem gty_5 : Try.prog.eqGuardType Try.prog.depth 5 = false := by kernel_rfl
@[simp] theorem sizeT_9 : sizeT Try.prog 9 = some 1 := by kernel_rfl
@[simp] theorem aggT_9 : aggT Try.prog 9 = some false := by kernel_rfl
@[simp] theorem elemT_9 : elemT Try.prog 9 = none := by kernel_rfl
@[simp] theorem arrT_9 : arrT Try.prog 9 = none := by kernel_rfl
@[simp] theorem isInt_9 : isInt Try.prog 9 = none := by kernel_rfl
@[simp] theorem isStr_9 : isStr Try.prog 9 = true := by kernel_rfl
@[simp] theorem isBl_9 : isBl Try.prog 9 = false := by kernel_rfl
@[simp] theorem isPtr_9 : isPtr Try.prog 9 = false := by kernel_rfl
@[simp] theorem isIfc_9 : isIfc Try.prog 9 = some false := by kernel_rfl
@[simp] theorem bytesT_9 : bytesT Try.prog 9 = some 16 := by kernel_rfl
@[simp] theorem zeroVal_9 : zeroVal Try.prog 9 = some (V.str ByteArray.empty) := by kernel_rfl
@[simp] theorem placesT_9 : placesT Try.prog 9 = none := by kernel_rfl
@[simp] theorem under_9 : (Try.prog.underlying 9).isSome = true := by kernel_rfl
@[simp] theorem gty_9 : Try.prog.eqGuardType Try.prog.depth 9 = false := by kernel_rfl
@[simp] theorem sizeT_22 : sizeT Try.prog 22 = some 1 := by kernel_rfl
@[simp] theorem aggT_22 : aggT Try.prog 22 = some false := by kernel_rfl
@[simp] theorem elemT_22 : elemT Try.prog 22 = some 43 := by kernel_rfl
@[simp] theorem arrT_22 : arrT Try.prog 22 = none := by kernel_rfl
@[simp] theorem isInt_22 : isInt Try.prog 22 = none := by kernel_rfl
@[simp] theorem isStr_22 : isStr Try.prog 22 = false := by kernel_rfl
@[simp] theorem isBl_22 : isBl Try.prog 22 = false := by kernel_rfl
@[simp] theorem isPtr_22 : isPtr Try.prog 22 = false := by kernel_rfl
@[simp] theorem isIfc_22 : isIfc Try.prog 22 = some false := by kernel_rfl
@[simp] theorem bytesT_22 : bytesT Try.prog 22 = some 24 := by kernel_rfl
@[simp] theorem zeroVal_22 : zeroVal Try.prog 22 = some V.nl := by kernel_rfl
@[simp] theorem placesT_22 : placesT Try.prog 22 = none := by kernel_rfl
@[simp] theorem under_22 : (Try.prog.underlying 22).isSome = true := by kernel_rfl
@[simp] theorem gty_22 : Try.prog.eqGuardType Try.prog.depth 22 = false := by kernel_rfl
@[simp] theorem sizeT_23 : sizeT Try.prog 23 = some 1 := by kernel_rfl
@[simp] theorem aggT_23 : aggT Try.prog 23 = some false := by kernel_rfl
@[simp] theorem elemT_23 : elemT Try.prog 23 = none := by kernel_rfl
@[simp] theorem arrT_23 : arrT Try.prog 23 = none := by kernel_rfl
@[simp] theorem isInt_23 : isInt Try.prog 23 = none := by kernel_rfl
@[simp] theorem isStr_23 : isStr Try.prog 23 = false := by kernel_rfl
@[simp] theorem isBl_23 : isBl Try.prog 23 = false := by kernel_rfl
@[simp] theorem isPtr_23 : isPtr Try.prog 23 = true := by kernel_rfl
@[simp] theorem isIfc_23 : isIfc Try.prog 23 = some false := by kernel_rfl
@[simp] theorem bytesT_23 : bytesT Try.prog 23 = some 8 := by kernel_rfl
@[simp] theorem zeroVal_23 : zeroVal Try.prog 23 = some V.nilp := by kernel_rfl
@[simp] theorem placesT_23 : placesT Try.prog 23 = none := by kernel_rfl
@[simp] theorem under_23 : (Try.prog.underlying 23).isSome = true := by kernel_rfl
@[simp] theorem gty_23 : Try.prog.eqGuardType Try.prog.depth 23 = false := by kernel_rfl
@[simp] theorem sizeT_27 : sizeT Try.prog 27 = some 2 := by kernel_rfl
@[simp] theorem aggT_27 : aggT Try.prog 27 = some true := by kernel_rfl
@[simp] theorem elemT_27 : elemT Try.prog 27 = none := by kernel_rfl
@[simp] theorem arrT_27 : arrT Try.prog 27 = none := by kernel_rfl
@[simp] theorem isInt_27 : isInt Try.prog 27 = none := by kernel_rfl
@[simp] theorem isStr_27 : isStr Try.prog 27 = false := by kernel_rfl
@[simp] theorem isBl_27 : isBl Try.prog 27 = false := by kernel_rfl
@[simp] theorem isPtr_27 : isPtr Try.prog 27 = false := by kernel_rfl
@[simp] theorem isIfc_27 : isIfc Try.prog 27 = some false := by kernel_rfl
@[simp] theorem bytesT_27 : bytesT Try.prog 27 = some 16 := by kernel_rfl
@[simp] theorem zeroVal_27 : zeroVal Try.prog 27 = some (V.agg [V.int IntKind.i64 (0), V.int IntKind.i64 (0)]) := by kernel_rfl
@[simp] theorem placesT_27 : placesT Try.prog 27 = some [(0, 1), (1, 1)] := by kernel_rfl
@[simp] theorem under_27 : (Try.prog.underlying 27).isSome = true := by kernel_rfl
@[simp] theorem gty_27 : Try.prog.eqGuardType Try.prog.depth 27 = false := by kernel_rfl
@[simp] theorem fldT_27_0 : fldT Try.prog 27 0 = some (0, 3) := by kernel_rfl
@[simp] theorem fldT_27_1 : fldT Try.prog 27 1 = some (1, 3) := by kernel_rfl
@[simp] theorem eqT_27 (xs ys : List V) (hx : xs.length = 2) (hy : ys.length = 2) : eqT Try.prog 40 27 xs ys = eqK ([LK.i IntKind.i64, LK.i IntKind.i64]) xs ys := eqT_shape 40 27 _ (by kernel_rfl) xs ys hx hy
@[simp] theorem sizeT_29 : sizeT Try.prog 29 = some 2 := by kernel_rfl
@[simp] theorem aggT_29 : aggT Try.prog 29 = some true := by kernel_rfl
@[simp] theorem elemT_29 : elemT Try.prog 29 = none := by kernel_rfl
@[simp] theorem arrT_29 : arrT Try.prog 29 = none := by kernel_rfl
@[simp] theorem isInt_29 : isInt Try.prog 29 = none := by kernel_rfl
@[simp] theorem isStr_29 : isStr Try.prog 29 = false := by kernel_rfl
@[simp] theorem isBl_29 : isBl Try.prog 29 = false := by kernel_rfl
@[simp] theorem isPtr_29 : isPtr Try.prog 29 = false := by kernel_rfl
@[simp] theorem isIfc_29 : isIfc Try.prog 29 = some false := by kernel_rfl
@[simp] theorem bytesT_29 : bytesT Try.prog 29 = some 16 := by kernel_rfl
@[simp] theorem zeroVal_29 : zeroVal Try.prog 29 = some (V.agg [V.int IntKind.i64 (0), V.int IntKind.i64 (0)]) := by kernel_rfl
@[simp] theorem placesT_29 : placesT Try.prog 29 = some [(0, 1), (1, 1)] := by kernel_rfl
@[simp] theorem under_29 : (Try.prog.underlying 29).isSome = true := by kernel_rfl
@[simp] theorem gty_29 : Try.prog.eqGuardType Try.prog.depth 29 = false := by kernel_rfl
@[simp] theorem fldT_29_0 : fldT Try.prog 29 0 = some (0, 3) := by kernel_rfl
@[simp] theorem fldT_29_1 : fldT Try.prog 29 1 = some (1, 3) := by kernel_rfl
@[simp] theorem eqT_29 (xs ys : List V) (hx : xs.length = 2) (hy : ys.length = 2) : eqT Try.prog 40 29 xs ys = eqK ([LK.i IntKind.i64, LK.i IntKind.i64]) xs ys := eqT_shape 40 29 _ (by kernel_rfl) xs ys hx hy
@[simp] theorem sizeT_31 : sizeT Try.prog 31 = some 2 := by kernel_rfl
@[simp] theorem aggT_31 : aggT Try.prog 31 = some true := by kernel_rfl
@[simp] theorem elemT_31 : elemT Try.prog 31 = none := by kernel_rfl
@[simp] theorem arrT_31 : arrT Try.prog 31 = none := by kernel_rfl
@[simp] theorem isInt_31 : isInt Try.prog 31 = none := by kernel_rfl
@[simp] theorem isStr_31 : isStr Try.prog 31 = false := by kernel_rfl
@[simp] theorem isBl_31 : isBl Try.prog 31 = false := by kernel_rfl
@[simp] theorem isPtr_31 : isPtr Try.prog 31 = false := by kernel_rfl
@[simp] theorem isIfc_31 : isIfc Try.prog 31 = some false := by kernel_rfl
@[simp] theorem bytesT_31 : bytesT Try.prog 31 = some 16 := by kernel_rfl
@[simp] theorem zeroVal_31 : zeroVal Try.prog 31 = some (V.agg [V.int IntKind.i64 (0), V.int IntKind.i64 (0)]) := by kernel_rfl
@[simp] theorem placesT_31 : placesT Try.prog 31 = some [(0, 1), (1, 1)] := by kernel_rfl
@[simp] theorem under_31 : (Try.prog.underlying 31).isSome = true := by kernel_rfl
@[simp] theorem gty_31 : Try.prog.eqGuardType Try.prog.depth 31 = false := by kernel_rfl
@[simp] theorem fldT_31_0 : fldT Try.prog 31 0 = some (0, 3) := by kernel_rfl
@[simp] theorem fldT_31_1 : fldT Try.prog 31 1 = some (1, 3) := by kernel_rfl
@[simp] theorem eqT_31 (xs ys : List V) (hx : xs.length = 2) (hy : ys.length = 2) : eqT Try.prog 40 31 xs ys = eqK ([LK.i IntKind.i64, LK.i IntKind.i64]) xs ys := eqT_shape 40 31 _ (by kernel_rfl) xs ys hx hy
@[simp] theorem sizeT_33 : sizeT Try.prog 33 = some 2 := by kernel_rfl
@[simp] theorem aggT_33 : aggT Try.prog 33 = some true := by kernel_rfl
@[simp] theorem elemT_33 : elemT Try.prog 33 = none := by kernel_rfl
@[simp] theorem arrT_33 : arrT Try.prog 33 = none := by kernel_rfl
@[simp] theorem isInt_33 : isInt Try.prog 33 = none := by kernel_rfl
@[simp] theorem isStr_33 : isStr Try.prog 33 = false := by kernel_rfl
@[simp] theorem isBl_33 : isBl Try.prog 33 = false := by kernel_rfl
@[simp] theorem isPtr_33 : isPtr Try.prog 33 = false := by kernel_rfl
@[simp] theorem isIfc_33 : isIfc Try.prog 33 = some false := by kernel_rfl
@[simp] theorem bytesT_33 : bytesT Try.prog 33 = some 16 := by kernel_rfl
@[simp] theorem zeroVal_33 : zeroVal Try.prog 33 = some (V.agg [V.int IntKind.i64 (0), V.int IntKind.i64 (0)]) := by kernel_rfl
@[simp] theorem placesT_33 : placesT Try.prog 33 = some [(0, 1), (1, 1)] := by kernel_rfl
@[simp] theorem under_33 : (Try.prog.underlying 33).isSome = true := by kernel_rfl
@[simp] theorem gty_33 : Try.prog.eqGuardType Try.prog.depth 33 = false := by kernel_rfl
@[simp] theorem fldT_33_0 : fldT Try.prog 33 0 = some (0, 3) := by kernel_rfl
@[simp] theorem fldT_33_1 : fldT Try.prog 33 1 = some (1, 3) := by kernel_rfl
@[simp] theorem eqT_33 (xs ys : List V) (hx : xs.length = 2) (hy : ys.length = 2) : eqT Try.prog 40 33 xs ys = eqK ([LK.i IntKind.i64, LK.i IntKind.i64]) xs ys := eqT_shape 40 33 _ (by kernel_rfl) xs ys hx hy
@[simp] theorem sizeT_34 : sizeT Try.prog 34 = some 1 := by kernel_rfl
@[simp] theorem aggT_34 : aggT Try.prog 34 = some false := by kernel_rfl
@[simp] theorem elemT_34 : elemT Try.prog 34 = some 78 := by kernel_rfl
@[simp] theorem arrT_34 : arrT Try.prog 34 = none := by kernel_rfl
@[simp] theorem isInt_34 : isInt Try.prog 34 = none := by kernel_rfl
@[simp] theorem isStr_34 : isStr Try.prog 34 = false := by kernel_rfl
@[simp] theorem isBl_34 : isBl Try.prog 34 = false := by kernel_rfl
@[simp] theorem isPtr_34 : isPtr Try.prog 34 = false := by kernel_rfl
@[simp] theorem isIfc_34 : isIfc Try.prog 34 = some false := by kernel_rfl
@[simp] theorem bytesT_34 : bytesT Try.prog 34 = some 24 := by kernel_rfl
@[simp] theorem zeroVal_34 : zeroVal Try.prog 34 = some V.nl := by kernel_rfl
@[simp] theorem placesT_34 : placesT Try.prog 34 = none := by kernel_rfl
@[simp] theorem under_34 : (Try.prog.underlying 34).isSome = true := by kernel_rfl
@[simp] theorem gty_34 : Try.prog.eqGuardType Try.prog.depth 34 = false := by kernel_rfl
@[simp] theorem sizeT_35 : sizeT Try.prog 35 = some 1 := by kernel_rfl
@[simp] theorem aggT_35 : aggT Try.prog 35 = some false := by kernel_rfl
@[simp] theorem elemT_35 : elemT Try.prog 35 = some 80 := by kernel_rfl
@[simp] theorem arrT_35 : arrT Try.prog 35 = none := by kernel_rfl
@[simp] theorem isInt_35 : isInt Try.prog 35 = none := by kernel_rfl
@[simp] theorem isStr_35 : isStr Try.prog 35 = false := by kernel_rfl
@[simp] theorem isBl_35 : isBl Try.prog 35 = false := by kernel_rfl
@[simp] theorem isPtr_35 : isPtr Try.prog 35 = false := by kernel_rfl
@[simp] theorem isIfc_35 : isIfc Try.prog 35 = some false := by kernel_rfl
@[simp] theorem bytesT_35 : bytesT Try.prog 35 = some 24 := by kernel_rfl
@[simp] theorem zeroVal_35 : zeroVal Try.prog 35 = some V.nl := by kernel_rfl
@[simp] theorem placesT_35 : placesT Try.prog 35 = none := by kernel_rfl
@[simp] theorem under_35 : (Try.prog.underlying 35).isSome = true := by kernel_rfl
@[simp] theorem gty_35 : Try.prog.eqGuardType Try.prog.depth 35 = false := by kernel_rfl
@[simp] theorem sizeT_37 : sizeT Try.prog 37 = some 9 := by kernel_rfl
@[simp] theorem aggT_37 : aggT Try.prog 37 = some true := by kernel_rfl
@[simp] theorem elemT_37 : elemT Try.prog 37 = none := by kernel_rfl
@[simp] theorem arrT_37 : arrT Try.prog 37 = none := by kernel_rfl
@[simp] theorem isInt_37 : isInt Try.prog 37 = none := by kernel_rfl
@[simp] theorem isStr_37 : isStr Try.prog 37 = false := by kernel_rfl
@[simp] theorem isBl_37 : isBl Try.prog 37 = false := by kernel_rfl
@[simp] theorem isPtr_37 : isPtr Try.prog 37 = false := by kernel_rfl
@[simp] theorem isIfc_37 : isIfc Try.prog 37 = some false := by kernel_rfl
@[simp] theorem bytesT_37 : bytesT Try.prog 37 = some 104 := by kernel_rfl
@[simp] theorem zeroVal_37 : zeroVal Try.prog 37 = some (V.agg [V.int IntKind.i64 (0), V.int IntKind.i64 (0), V.int IntKind.i64 (0), V.int IntKind.i64 (0), V.int IntKind.i64 (0), V.int IntKind.i64 (0), V.nl, V.nl, V.bool false]) := by kernel_rfl
@[simp] theorem placesT_37 : placesT Try.prog 37 = some [(0, 1), (1, 2), (3, 2), (5, 1), (6, 1), (7, 1), (8, 1)] := by kernel_rfl
@[simp] theorem under_37 : (Try.prog.underlying 37).isSome = true := by kernel_rfl
@[simp] theorem gty_37 : Try.prog.eqGuardType Try.prog.depth 37 = false := by kernel_rfl
@[simp] theorem fldT_37_0 : fldT Try.prog 37 0 = some (0, 3) := by kernel_rfl
@[simp] theorem fldT_37_1 : fldT Try.prog 37 1 = some (1, 31) := by kernel_rfl
@[simp] theorem fldT_37_2 : fldT Try.prog 37 2 = some (3, 33) := by kernel_rfl
@[simp] theorem fldT_37_3 : fldT Try.prog 37 3 = some (5, 3) := by kernel_rfl
@[simp] theorem fldT_37_4 : fldT Try.prog 37 4 = some (6, 34) := by kernel_rfl
@[simp] theorem fldT_37_5 : fldT Try.prog 37 5 = some (7, 35) := by kernel_rfl
@[simp] theorem fldT_37_6 : fldT Try.prog 37 6 = some (8, 4) := by kernel_rfl
@[simp] theorem sizeT_39 : sizeT Try.prog 39 = some 7 := by kernel_rfl
@[simp] theorem aggT_39 : aggT Try.prog 39 = some true := by kernel_rfl
@[simp] theorem elemT_39 : elemT Try.prog 39 = none := by kernel_rfl
@[simp] theorem arrT_39 : arrT Try.prog 39 = some (7, 3) := by kernel_rfl
@[simp] theorem isInt_39 : isInt Try.prog 39 = none := by kernel_rfl
@[simp] theorem isStr_39 : isStr Try.prog 39 = false := by kernel_rfl
@[simp] theorem isBl_39 : isBl Try.prog 39 = false := by kernel_rfl
@[simp] theorem isPtr_39 : isPtr Try.prog 39 = false := by kernel_rfl
@[simp] theorem isIfc_39 : isIfc Try.prog 39 = some false := by kernel_rfl
@[simp] theorem bytesT_39 : bytesT Try.prog 39 = some 56 := by kernel_rfl
@[simp] theorem zeroVal_39 : zeroVal Try.prog 39 = some (V.agg [V.int IntKind.i64 (0), V.int IntKind.i64 (0), V.int IntKind.i64 (0), V.int IntKind.i64 (0), V.int IntKind.i64 (0), V.int IntKind.i64 (0), V.int IntKind.i64 (0)]) := by kernel_rfl
@[simp] theorem placesT_39 : placesT Try.prog 39 = none := by kernel_rfl
@[simp] theorem under_39 : (Try.prog.underlying 39).isSome = true := by kernel_rfl
@[simp] theorem gty_39 : Try.prog.eqGuardType Try.prog.depth 39 = false := by kernel_rfl
@[simp] theorem eqT_39 (xs ys : List V) (hx : xs.length = 7) (hy : ys.length = 7) : eqT Try.prog 40 39 xs ys = eqK ([LK.i IntKind.i64, LK.i IntKind.i64, LK.i IntKind.i64, LK.i IntKind.i64, LK.i IntKind.i64, LK.i IntKind.i64, LK.i IntKind.i64]) xs ys := eqT_shape 40 39 _ (by kernel_rfl) xs ys hx hy
@[simp] theorem sizeT_41 : sizeT Try.prog 41 = some 25 := by kernel_rfl
@[simp] theorem aggT_41 : aggT Try.prog 41 = some true := by kernel_rfl
@[simp] theorem elemT_41 : elemT Try.prog 41 = none := by kernel_rfl
@[simp] theorem arrT_41 : arrT Try.prog 41 = none := by kernel_rfl
@[simp] theorem isInt_41 : isInt Try.prog 41 = none := by kernel_rfl
@[simp] theorem isStr_41 : isStr Try.prog 41 = false := by kernel_rfl
@[simp] theorem isBl_41 : isBl Try.prog 41 = false := by kernel_rfl
@[simp] theorem isPtr_41 : isPtr Try.prog 41 = false := by kernel_rfl
@[simp] theorem isIfc_41 : isIfc Try.prog 41 = some false := by kernel_rfl
@[simp] theorem bytesT_41 : bytesT Try.prog 41 = some 232 := by kernel_rfl
@[simp] theorem zeroVal_41 : zeroVal Try.prog 41 = some (V.agg [V.int IntKind.i64 (0), V.int IntKind.i64 (0), V.int IntKind.i64 (0), V.int IntKind.i64 (0), V.int IntKind.i64 (0), V.int IntKind.i64 (0), V.int IntKind.i64 (0), V.int IntKind.i64 (0), V.int IntKind.i64 (0), V.int IntKind.i64 (0), V.int IntKind.i64 (0), V.int IntKind.i64 (0), V.int IntKind.i64 (0), V.nl, V.nl, V.bool false, V.int IntKind.i64 (0), V.int IntKind.i64 (0), V.int IntKind.i64 (0), V.int IntKind.i64 (0), V.int IntKind.i64 (0), V.int IntKind.i64 (0), V.int IntKind.i64 (0), V.int IntKind.i64 (0), V.bool false]) := by kernel_rfl
@[simp] theorem placesT_41 : placesT Try.prog 41 = some [(0, 2), (2, 1), (3, 2), (5, 2), (7, 9), (16, 1), (17, 7), (24, 1)] := by kernel_rfl
@[simp] theorem under_41 : (Try.prog.underlying 41).isSome = true := by kernel_rfl
@[simp] theorem gty_41 : Try.prog.eqGuardType Try.prog.depth 41 = false := by kernel_rfl
@[simp] theorem fldT_41_0 : fldT Try.prog 41 0 = some (0, 29) := by kernel_rfl
@[simp] theorem fldT_41_1 : fldT Try.prog 41 1 = some (2, 3) := by kernel_rfl
@[simp] theorem fldT_41_2 : fldT Try.prog 41 2 = some (3, 27) := by kernel_rfl
@[simp] theorem fldT_41_3 : fldT Try.prog 41 3 = some (5, 27) := by kernel_rfl
@[simp] theorem fldT_41_4 : fldT Try.prog 41 4 = some (7, 37) := by kernel_rfl
@[simp] theorem fldT_41_5 : fldT Try.prog 41 5 = some (16, 3) := by kernel_rfl
@[simp] theorem fldT_41_6 : fldT Try.prog 41 6 = some (17, 39) := by kernel_rfl
@[simp] theorem fldT_41_7 : fldT Try.prog 41 7 = some (24, 4) := by kernel_rfl
@[simp] theorem sizeT_43 : sizeT Try.prog 43 = some 30 := by kernel_rfl
@[simp] theorem aggT_43 : aggT Try.prog 43 = some true := by kernel_rfl
@[simp] theorem elemT_43 : elemT Try.prog 43 = none := by kernel_rfl
@[simp] theorem arrT_43 : arrT Try.prog 43 = none := by kernel_rfl
@[simp] theorem isInt_43 : isInt Try.prog 43 = none := by kernel_rfl
@[simp] theorem isStr_43 : isStr Try.prog 43 = false := by kernel_rfl
@[simp] theorem isBl_43 : isBl Try.prog 43 = false := by kernel_rfl
@[simp] theorem isPtr_43 : isPtr Try.prog 43 = false := by kernel_rfl
@[simp] theorem isIfc_43 : isIfc Try.prog 43 = some false := by kernel_rfl
@[simp] theorem bytesT_43 : bytesT Try.prog 43 = some 272 := by kernel_rfl
@[simp] theorem zeroVal_43 : zeroVal Try.prog 43 = some (V.agg [V.int IntKind.i64 (0), V.int IntKind.i64 (0), V.int IntKind.i64 (0), V.int IntKind.i64 (0), V.int IntKind.i64 (0), V.int IntKind.i64 (0), V.int IntKind.i64 (0), V.int IntKind.i64 (0), V.int IntKind.i64 (0), V.int IntKind.i64 (0), V.int IntKind.i64 (0), V.int IntKind.i64 (0), V.int IntKind.i64 (0), V.int IntKind.i64 (0), V.int IntKind.i64 (0), V.int IntKind.i64 (0), V.int IntKind.i64 (0), V.int IntKind.i64 (0), V.nl, V.nl, V.bool false, V.int IntKind.i64 (0), V.int IntKind.i64 (0), V.int IntKind.i64 (0), V.int IntKind.i64 (0), V.int IntKind.i64 (0), V.int IntKind.i64 (0), V.int IntKind.i64 (0), V.int IntKind.i64 (0), V.bool false]) := by kernel_rfl
@[simp] theorem placesT_43 : placesT Try.prog 43 = some [(0, 1), (1, 1), (2, 1), (3, 2), (5, 25)] := by kernel_rfl
@[simp] theorem under_43 : (Try.prog.underlying 43).isSome = true := by kernel_rfl
@[simp] theorem gty_43 : Try.prog.eqGuardType Try.prog.depth 43 = false := by kernel_rfl
@[simp] theorem fldT_43_0 : fldT Try.prog 43 0 = some (0, 3) := by kernel_rfl
@[simp] theorem fldT_43_1 : fldT Try.prog 43 1 = some (1, 3) := by kernel_rfl
@[simp] theorem fldT_43_2 : fldT Try.prog 43 2 = some (2, 3) := by kernel_rfl
@[simp] theorem fldT_43_3 : fldT Try.prog 43 3 = some (3, 27) := by kernel_rfl
@[simp] theorem fldT_43_4 : fldT Try.prog 43 4 = some (5, 41) := by kernel_rfl
@[simp] theorem sizeT_45 : sizeT Try.prog 45 = some 1 := by kernel_rfl
@[simp] theorem aggT_45 : aggT Try.prog 45 = some false := by kernel_rfl
@[simp] theorem elemT_45 : elemT Try.prog 45 = none := by kernel_rfl
@[simp] theorem arrT_45 : arrT Try.prog 45 = none := by kernel_rfl
@[simp] theorem isInt_45 : isInt Try.prog 45 = some IntKind.i64 := by kernel_rfl
@[simp] theorem isStr_45 : isStr Try.prog 45 = false := by kernel_rfl
@[simp] theorem isBl_45 : isBl Try.prog 45 = false := by kernel_rfl
@[simp] theorem isPtr_45 : isPtr Try.prog 45 = false := by kernel_rfl
@[simp] theorem isIfc_45 : isIfc Try.prog 45 = some false := by kernel_rfl
@[simp] theorem bytesT_45 : bytesT Try.prog 45 = some 8 := by kernel_rfl
@[simp] theorem zeroVal_45 : zeroVal Try.prog 45 = some (V.int IntKind.i64 (0)) := by kernel_rfl
@[simp] theorem placesT_45 : placesT Try.prog 45 = none := by kernel_rfl
@[simp] theorem under_45 : (Try.prog.underlying 45).isSome = true := by kernel_rfl
@[simp] theorem gty_45 : Try.prog.eqGuardType Try.prog.depth 45 = false := by kernel_rfl
@[simp] theorem sizeT_54 : sizeT Try.prog 54 = some 32 := by kernel_rfl
@[simp] theorem aggT_54 : aggT Try.prog 54 = some true := by kernel_rfl
@[simp] theorem elemT_54 : elemT Try.prog 54 = none := by kernel_rfl
@[simp] theorem arrT_54 : arrT Try.prog 54 = none := by kernel_rfl
@[simp] theorem isInt_54 : isInt Try.prog 54 = none := by kernel_rfl
@[simp] theorem isStr_54 : isStr Try.prog 54 = false := by kernel_rfl
@[simp] theorem isBl_54 : isBl Try.prog 54 = false := by kernel_rfl
@[simp] theorem isPtr_54 : isPtr Try.prog 54 = false := by kernel_rfl
@[simp] theorem isIfc_54 : isIfc Try.prog 54 = some false := by kernel_rfl
@[simp] theorem bytesT_54 : bytesT Try.prog 54 = some 288 := by kernel_rfl
@[simp] theorem zeroVal_54 : zeroVal Try.prog 54 = some (V.agg [V.int IntKind.i64 (0), V.int IntKind.i64 (0), V.int IntKind.i64 (0), V.int IntKind.i64 (0), V.int IntKind.i64 (0), V.int IntKind.i64 (0), V.int IntKind.i64 (0), V.int IntKind.i64 (0), V.int IntKind.i64 (0), V.int IntKind.i64 (0), V.int IntKind.i64 (0), V.int IntKind.i64 (0), V.int IntKind.i64 (0), V.int IntKind.i64 (0), V.int IntKind.i64 (0), V.int IntKind.i64 (0), V.int IntKind.i64 (0), V.int IntKind.i64 (0), V.int IntKind.i64 (0), V.int IntKind.i64 (0), V.nl, V.nl, V.bool false, V.int IntKind.i64 (0), V.int IntKind.i64 (0), V.int IntKind.i64 (0), V.int IntKind.i64 (0), V.int IntKind.i64 (0), V.int IntKind.i64 (0), V.int IntKind.i64 (0), V.int IntKind.i64 (0), V.bool false]) := by kernel_rfl
@[simp] theorem placesT_54 : placesT Try.prog 54 = some [(0, 1), (1, 1), (2, 30)] := by kernel_rfl
@[simp] theorem under_54 : (Try.prog.underlying 54).isSome = true := by kernel_rfl
@[simp] theorem gty_54 : Try.prog.eqGuardType Try.prog.depth 54 = false := by kernel_rfl
@[simp] theorem fldT_54_0 : fldT Try.prog 54 0 = some (0, 3) := by kernel_rfl
@[simp] theorem fldT_54_1 : fldT Try.prog 54 1 = some (1, 3) := by kernel_rfl
@[simp] theorem fldT_54_2 : fldT Try.prog 54 2 = some (2, 43) := by kernel_rfl
@[simp] theorem sizeT_55 : sizeT Try.prog 55 = some 1 := by kernel_rfl
@[simp] theorem aggT_55 : aggT Try.prog 55 = some false := by kernel_rfl
@[simp] theorem elemT_55 : elemT Try.prog 55 = some 54 := by kernel_rfl
@[simp] theorem arrT_55 : arrT Try.prog 55 = none := by kernel_rfl
@[simp] theorem isInt_55 : isInt Try.prog 55 = none := by kernel_rfl
@[simp] theorem isStr_55 : isStr Try.prog 55 = false := by kernel_rfl
@[simp] theorem isBl_55 : isBl Try.prog 55 = false := by kernel_rfl
@[simp] theorem isPtr_55 : isPtr Try.prog 55 = false := by kernel_rfl
@[simp] theorem isIfc_55 : isIfc Try.prog 55 = some false := by kernel_rfl
@[simp] theorem bytesT_55 : bytesT Try.prog 55 = some 24 := by kernel_rfl
@[simp] theorem zeroVal_55 : zeroVal Try.prog 55 = some V.nl := by kernel_rfl
@[simp] theorem placesT_55 : placesT Try.prog 55 = none := by kernel_rfl
@[simp] theorem under_55 : (Try.prog.underlying 55).isSome = true := by kernel_rfl
@[simp] theorem gty_55 : Try.prog.eqGuardType Try.prog.depth 55 = false := by kernel_rfl
@[simp] theorem sizeT_59 : sizeT Try.prog 59 = some 5 := by kernel_rfl
@[simp] theorem aggT_59 : aggT Try.prog 59 = some true := by kernel_rfl
@[simp] theorem elemT_59 : elemT Try.prog 59 = none := by kernel_rfl
@[simp] theorem arrT_59 : arrT Try.prog 59 = none := by kernel_rfl
@[simp] theorem isInt_59 : isInt Try.prog 59 = none := by kernel_rfl
@[simp] theorem isStr_59 : isStr Try.prog 59 = false := by kernel_rfl
@[simp] theorem isBl_59 : isBl Try.prog 59 = false := by kernel_rfl
@[simp] theorem isPtr_59 : isPtr Try.prog 59 = false := by kernel_rfl
@[simp] theorem isIfc_59 : isIfc Try.prog 59 = some false := by kernel_rfl
@[simp] theorem bytesT_59 : bytesT Try.prog 59 = some 56 := by kernel_rfl
@[simp] theorem zeroVal_59 : zeroVal Try.prog 59 = some (V.agg [V.int IntKind.i64 (0), V.nl, V.int IntKind.i64 (0), V.int IntKind.i64 (0), V.int IntKind.i64 (0)]) := by kernel_rfl
@[simp] theorem placesT_59 : placesT Try.prog 59 = some [(0, 1), (1, 1), (2, 1), (3, 1), (4, 1)] := by kernel_rfl
@[simp] theorem under_59 : (Try.prog.underlying 59).isSome = true := by kernel_rfl
@[simp] theorem gty_59 : Try.prog.eqGuardType Try.prog.depth 59 = false := by kernel_rfl
@[simp] theorem fldT_59_0 : fldT Try.prog 59 0 = some (0, 3) := by kernel_rfl
@[simp] theorem fldT_59_1 : fldT Try.prog 59 1 = some (1, 22) := by kernel_rfl
@[simp] theorem fldT_59_2 : fldT Try.prog 59 2 = some (2, 3) := by kernel_rfl
@[simp] theorem fldT_59_3 : fldT Try.prog 59 3 = some (3, 3) := by kernel_rfl
@[simp] theorem fldT_59_4 : fldT Try.prog 59 4 = some (4, 3) := by kernel_rfl
@[simp] theorem sizeT_66 : sizeT Try.prog 66 = some 3 := by kernel_rfl
@[simp] theorem aggT_66 : aggT Try.prog 66 = some true := by kernel_rfl
@[simp] theorem elemT_66 : elemT Try.prog 66 = none := by kernel_rfl
@[simp] theorem arrT_66 : arrT Try.prog 66 = none := by kernel_rfl
@[simp] theorem isInt_66 : isInt Try.prog 66 = none := by kernel_rfl
@[simp] theorem isStr_66 : isStr Try.prog 66 = false := by kernel_rfl
@[simp] theorem isBl_66 : isBl Try.prog 66 = false := by kernel_rfl
@[simp] theorem isPtr_66 : isPtr Try.prog 66 = false := by kernel_rfl
@[simp] theorem isIfc_66 : isIfc Try.prog 66 = some false := by kernel_rfl
@[simp] theorem bytesT_66 : bytesT Try.prog 66 = some 24 := by kernel_rfl
@[simp] theorem zeroVal_66 : zeroVal Try.prog 66 = some (V.agg [V.int IntKind.i64 (0), V.int IntKind.i64 (0), V.int IntKind.i64 (0)]) := by kernel_rfl
@[simp] theorem placesT_66 : placesT Try.prog 66 = some [(0, 1), (1, 1), (2, 1)] := by kernel_rfl
@[simp] theorem under_66 : (Try.prog.underlying 66).isSome = true := by kernel_rfl
@[simp] theorem gty_66 : Try.prog.eqGuardType Try.prog.depth 66 = false := by kernel_rfl
@[simp] theorem fldT_66_0 : fldT Try.prog 66 0 = some (0, 3) := by kernel_rfl
@[simp] theorem fldT_66_1 : fldT Try.prog 66 1 = some (1, 3) := by kernel_rfl
@[simp] theorem fldT_66_2 : fldT Try.prog 66 2 = some (2, 3) := by kernel_rfl
@[simp] theorem eqT_66 (xs ys : List V) (hx : xs.length = 3) (hy : ys.length = 3) : eqT Try.prog 40 66 xs ys = eqK ([LK.i IntKind.i64, LK.i IntKind.i64, LK.i IntKind.i64]) xs ys := eqT_shape 40 66 _ (by kernel_rfl) xs ys hx hy
@[simp] theorem sizeT_72 : sizeT Try.prog 72 = some 3 := by kernel_rfl
@[simp] theorem aggT_72 : aggT Try.prog 72 = some true := by kernel_rfl
@[simp] theorem elemT_72 : elemT Try.prog 72 = none := by kernel_rfl
@[simp] theorem arrT_72 : arrT Try.prog 72 = none := by kernel_rfl
@[simp] theorem isInt_72 : isInt Try.prog 72 = none := by kernel_rfl
@[simp] theorem isStr_72 : isStr Try.prog 72 = false := by kernel_rfl
@[simp] theorem isBl_72 : isBl Try.prog 72 = false := by kernel_rfl
@[simp] theorem isPtr_72 : isPtr Try.prog 72 = false := by kernel_rfl
@[simp] theorem isIfc_72 : isIfc Try.prog 72 = some false := by kernel_rfl
@[simp] theorem bytesT_72 : bytesT Try.prog 72 = some 24 := by kernel_rfl
@[simp] theorem zeroVal_72 : zeroVal Try.prog 72 = some (V.agg [V.int IntKind.i64 (0), V.int IntKind.i64 (0), V.int IntKind.i64 (0)]) := by kernel_rfl
@[simp] theorem placesT_72 : placesT Try.prog 72 = some [(0, 3)] := by kernel_rfl
@[simp] theorem under_72 : (Try.prog.underlying 72).isSome = true := by kernel_rfl
@[simp] theorem gty_72 : Try.prog.eqGuardType Try.prog.depth 72 = false := by kernel_rfl
@[simp] theorem fldT_72_0 : fldT Try.prog 72 0 = some (0, 66) := by kernel_rfl
@[simp] theorem eqT_72 (xs ys : List V) (hx : xs.length = 3) (hy : ys.length = 3) : eqT Try.prog 40 72 xs ys = eqK ([LK.i IntKind.i64, LK.i IntKind.i64, LK.i IntKind.i64]) xs ys := eqT_shape 40 72 _ (by kernel_rfl) xs ys hx hy
@[simp] theorem sizeT_74 : sizeT Try.prog 74 = some 5 := by kernel_rfl
@[simp] theorem aggT_74 : aggT Try.prog 74 = some true := by kernel_rfl
@[simp] theorem elemT_74 : elemT Try.prog 74 = none := by kernel_rfl
@[simp] theorem arrT_74 : arrT Try.prog 74 = none := by kernel_rfl
@[simp] theorem isInt_74 : isInt Try.prog 74 = none := by kernel_rfl
@[simp] theorem isStr_74 : isStr Try.prog 74 = false := by kernel_rfl
@[simp] theorem isBl_74 : isBl Try.prog 74 = false := by kernel_rfl
@[simp] theorem isPtr_74 : isPtr Try.prog 74 = false := by kernel_rfl
@[simp] theorem isIfc_74 : isIfc Try.prog 74 = some false := by kernel_rfl
@[simp] theorem bytesT_74 : bytesT Try.prog 74 = some 56 := by kernel_rfl
@[simp] theorem zeroVal_74 : zeroVal Try.prog 74 = some (V.agg [V.int IntKind.i64 (0), V.int IntKind.i64 (0), V.int IntKind.i64 (0), V.nl, V.int IntKind.i64 (0)]) := by kernel_rfl
@[simp] theorem placesT_74 : placesT Try.prog 74 = some [(0, 3), (3, 1), (4, 1)] := by kernel_rfl
@[simp] theorem under_74 : (Try.prog.underlying 74).isSome = true := by kernel_rfl
@[simp] theorem gty_74 : Try.prog.eqGuardType Try.prog.depth 74 = false := by kernel_rfl
@[simp] theorem fldT_74_0 : fldT Try.prog 74 0 = some (0, 72) := by kernel_rfl
@[simp] theorem fldT_74_1 : fldT Try.prog 74 1 = some (3, 22) := by kernel_rfl
@[simp] theorem fldT_74_2 : fldT Try.prog 74 2 = some (4, 3) := by kernel_rfl
@[simp] theorem sizeT_76 : sizeT Try.prog 76 = some 1 := by kernel_rfl
@[simp] theorem aggT_76 : aggT Try.prog 76 = some false := by kernel_rfl
@[simp] theorem elemT_76 : elemT Try.prog 76 = some 37 := by kernel_rfl
@[simp] theorem arrT_76 : arrT Try.prog 76 = none := by kernel_rfl
@[simp] theorem isInt_76 : isInt Try.prog 76 = none := by kernel_rfl
@[simp] theorem isStr_76 : isStr Try.prog 76 = false := by kernel_rfl
@[simp] theorem isBl_76 : isBl Try.prog 76 = false := by kernel_rfl
@[simp] theorem isPtr_76 : isPtr Try.prog 76 = false := by kernel_rfl
@[simp] theorem isIfc_76 : isIfc Try.prog 76 = some false := by kernel_rfl
@[simp] theorem bytesT_76 : bytesT Try.prog 76 = some 24 := by kernel_rfl
@[simp] theorem zeroVal_76 : zeroVal Try.prog 76 = some V.nl := by kernel_rfl
@[simp] theorem placesT_76 : placesT Try.prog 76 = none := by kernel_rfl
@[simp] theorem under_76 : (Try.prog.underlying 76).isSome = true := by kernel_rfl
@[simp] theorem gty_76 : Try.prog.eqGuardType Try.prog.depth 76 = false := by kernel_rfl
@[simp] theorem sizeT_78 : sizeT Try.prog 78 = some 3 := by kernel_rfl
@[simp] theorem aggT_78 : aggT Try.prog 78 = some true := by kernel_rfl
@[simp] theorem elemT_78 : elemT Try.prog 78 = none := by kernel_rfl
@[simp] theorem arrT_78 : arrT Try.prog 78 = none := by kernel_rfl
@[simp] theorem isInt_78 : isInt Try.prog 78 = none := by kernel_rfl
@[simp] theorem isStr_78 : isStr Try.prog 78 = false := by kernel_rfl
@[simp] theorem isBl_78 : isBl Try.prog 78 = false := by kernel_rfl
@[simp] theorem isPtr_78 : isPtr Try.prog 78 = false := by kernel_rfl
@[simp] theorem isIfc_78 : isIfc Try.prog 78 = some false := by kernel_rfl
@[simp] theorem bytesT_78 : bytesT Try.prog 78 = some 32 := by kernel_rfl
@[simp] theorem zeroVal_78 : zeroVal Try.prog 78 = some (V.agg [V.str ByteArray.empty, V.int IntKind.i64 (0), V.int IntKind.i64 (0)]) := by kernel_rfl
@[simp] theorem placesT_78 : placesT Try.prog 78 = some [(0, 1), (1, 2)] := by kernel_rfl
@[simp] theorem under_78 : (Try.prog.underlying 78).isSome = true := by kernel_rfl
@[simp] theorem gty_78 : Try.prog.eqGuardType Try.prog.depth 78 = false := by kernel_rfl
@[simp] theorem fldT_78_0 : fldT Try.prog 78 0 = some (0, 9) := by kernel_rfl
@[simp] theorem fldT_78_1 : fldT Try.prog 78 1 = some (1, 33) := by kernel_rfl
@[simp] theorem eqT_78 (xs ys : List V) (hx : xs.length = 3) (hy : ys.length = 3) : eqT Try.prog 40 78 xs ys = eqK ([LK.s, LK.i IntKind.i64, LK.i IntKind.i64]) xs ys := eqT_shape 40 78 _ (by kernel_rfl) xs ys hx hy
@[simp] theorem sizeT_80 : sizeT Try.prog 80 = some 2 := by kernel_rfl
@[simp] theorem aggT_80 : aggT Try.prog 80 = some true := by kernel_rfl
@[simp] theorem elemT_80 : elemT Try.prog 80 = none := by kernel_rfl
@[simp] theorem arrT_80 : arrT Try.prog 80 = none := by kernel_rfl
@[simp] theorem isInt_80 : isInt Try.prog 80 = none := by kernel_rfl
@[simp] theorem isStr_80 : isStr Try.prog 80 = false := by kernel_rfl
@[simp] theorem isBl_80 : isBl Try.prog 80 = false := by kernel_rfl
@[simp] theorem isPtr_80 : isPtr Try.prog 80 = false := by kernel_rfl
@[simp] theorem isIfc_80 : isIfc Try.prog 80 = some false := by kernel_rfl
@[simp] theorem bytesT_80 : bytesT Try.prog 80 = some 32 := by kernel_rfl
@[simp] theorem zeroVal_80 : zeroVal Try.prog 80 = some (V.agg [V.str ByteArray.empty, V.str ByteArray.empty]) := by kernel_rfl
@[simp] theorem placesT_80 : placesT Try.prog 80 = some [(0, 1), (1, 1)] := by kernel_rfl
@[simp] theorem under_80 : (Try.prog.underlying 80).isSome = true := by kernel_rfl
@[simp] theorem gty_80 : Try.prog.eqGuardType Try.prog.depth 80 = false := by kernel_rfl
@[simp] theorem fldT_80_0 : fldT Try.prog 80 0 = some (0, 9) := by kernel_rfl
@[simp] theorem fldT_80_1 : fldT Try.prog 80 1 = some (1, 9) := by kernel_rfl
@[simp] theorem eqT_80 (xs ys : List V) (hx : xs.length = 2) (hy : ys.length = 2) : eqT Try.prog 40 80 xs ys = eqK ([LK.s, LK.s]) xs ys := eqT_shape 40 80 _ (by kernel_rfl) xs ys hx hy
@[simp] theorem sizeT_98 : sizeT Try.prog 98 = some 1 := by kernel_rfl
@[simp] theorem aggT_98 : aggT Try.prog 98 = some false := by kernel_rfl
@[simp] theorem elemT_98 : elemT Try.prog 98 = none := by kernel_rfl
@[simp] theorem arrT_98 : arrT Try.prog 98 = none := by kernel_rfl
@[simp] theorem isInt_98 : isInt Try.prog 98 = none := by kernel_rfl
@[simp] theorem isStr_98 : isStr Try.prog 98 = false := by kernel_rfl
@[simp] theorem isBl_98 : isBl Try.prog 98 = false := by kernel_rfl
@[simp] theorem isPtr_98 : isPtr Try.prog 98 = true := by kernel_rfl
@[simp] theorem isIfc_98 : isIfc Try.prog 98 = some false := by kernel_rfl
@[simp] theorem bytesT_98 : bytesT Try.prog 98 = some 8 := by kernel_rfl
@[simp] theorem zeroVal_98 : zeroVal Try.prog 98 = some V.nilp := by kernel_rfl
@[simp] theorem placesT_98 : placesT Try.prog 98 = none := by kernel_rfl
@[simp] theorem under_98 : (Try.prog.underlying 98).isSome = true := by kernel_rfl
@[simp] theorem gty_98 : Try.prog.eqGuardType Try.prog.depth 98 = false := by kernel_rfl
@[simp] theorem sizeT_104 : sizeT Try.prog 104 = some 1 := by kernel_rfl
@[simp] theorem aggT_104 : aggT Try.prog 104 = some false := by kernel_rfl
@[simp] theorem elemT_104 : elemT Try.prog 104 = some 9 := by kernel_rfl
@[simp] theorem arrT_104 : arrT Try.prog 104 = none := by kernel_rfl
@[simp] theorem isInt_104 : isInt Try.prog 104 = none := by kernel_rfl
@[simp] theorem isStr_104 : isStr Try.prog 104 = false := by kernel_rfl
@[simp] theorem isBl_104 : isBl Try.prog 104 = false := by kernel_rfl
@[simp] theorem isPtr_104 : isPtr Try.prog 104 = false := by kernel_rfl
@[simp] theorem isIfc_104 : isIfc Try.prog 104 = some false := by kernel_rfl
@[simp] theorem bytesT_104 : bytesT Try.prog 104 = some 24 := by kernel_rfl
@[simp] theorem zeroVal_104 : zeroVal Try.prog 104 = some V.nl := by kernel_rfl
@[simp] theorem placesT_104 : placesT Try.prog 104 = none := by kernel_rfl
@[simp] theorem under_104 : (Try.prog.underlying 104).isSome = true := by kernel_rfl
@[simp] theorem gty_104 : Try.prog.eqGuardType Try.prog.depth 104 = false := by kernel_rfl
@[simp] theorem mixed : Try.prog.follows .mixedOrders = true := by kernel_rfl
theorem dOk : DrawsOk Try.prog (drawsP Try.prog) := drawsP_ok mixed
end Go.Proofs.Ytbhchajlebhkgaa.AX
