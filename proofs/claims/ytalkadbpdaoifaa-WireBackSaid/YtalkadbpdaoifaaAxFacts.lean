/- What the walk asks of the program's types. -/
import Derived.Test.YtalkadbpdaoifaaMgC
import Derived.Test.YtalkadbpdaoifaaProg
namespace Go.Proofs.Ytalkadbpdaoifaa.AX
open Go Go.RowKit
set_option linter.unusedSimpArgs false
@[simp] theorem sizeT_0 : sizeT Try.prog 0 = some 1 := by kernel_rfl
@[simp] theorem aggT_0 : aggT Try.prog 0 = some false := by kernel_rfl
@[simp] theorem elemT_0 : elemT Try.prog 0 = none := by kernel_rfl
@[simp] theorem arrT_0 : arrT Try.prog 0 = none := by kernel_rfl
@[simp] theorem isInt_0 : isInt Try.prog 0 = none := by kernel_rfl
@[simp] theorem isStr_0 : isStr Try.prog 0 = false := by kernel_rfl
@[simp] theorem isBl_0 : isBl Try.prog 0 = false := by kernel_rfl
@[simp] theorem isPtr_0 : isPtr Try.prog 0 = false := by kernel_rfl
@[simp] theorem mapT_0 : mapT Try.prog 0 = none := by kernel_rfl
@[simp] theorem pairK_0 : pairK Try.prog 0 = false := by kernel_rfl
@[simp] theorem isIfc_0 : isIfc Try.prog 0 = some false := by kernel_rfl
@[simp] theorem bytesT_0 : bytesT Try.prog 0 = some 0 := by kernel_rfl
@[simp] theorem placesT_0 : placesT Try.prog 0 = none := by kernel_rfl
@[simp] theorem under_0 : (Try.prog.underlying 0).isSome = true := by kernel_rfl
@[simp] theorem gty_0 : Try.prog.eqGuardType Try.prog.depth 0 = false := by kernel_rfl
@[simp] theorem sizeT_1 : sizeT Try.prog 1 = some 1 := by kernel_rfl
@[simp] theorem aggT_1 : aggT Try.prog 1 = some false := by kernel_rfl
@[simp] theorem elemT_1 : elemT Try.prog 1 = none := by kernel_rfl
@[simp] theorem arrT_1 : arrT Try.prog 1 = none := by kernel_rfl
@[simp] theorem isInt_1 : isInt Try.prog 1 = none := by kernel_rfl
@[simp] theorem isStr_1 : isStr Try.prog 1 = false := by kernel_rfl
@[simp] theorem isBl_1 : isBl Try.prog 1 = false := by kernel_rfl
@[simp] theorem isPtr_1 : isPtr Try.prog 1 = false := by kernel_rfl
@[simp] theorem mapT_1 : mapT Try.prog 1 = none := by kernel_rfl
@[simp] theorem pairK_1 : pairK Try.prog 1 = false := by kernel_rfl
@[simp] theorem isIfc_1 : isIfc Try.prog 1 = some false := by kernel_rfl
@[simp] theorem bytesT_1 : bytesT Try.prog 1 = some 8 := by kernel_rfl
@[simp] theorem zeroVal_1 : zeroVal Try.prog 1 = some V.nilf := by kernel_rfl
@[simp] theorem placesT_1 : placesT Try.prog 1 = none := by kernel_rfl
@[simp] theorem under_1 : (Try.prog.underlying 1).isSome = true := by kernel_rfl
@[simp] theorem gty_1 : Try.prog.eqGuardType Try.prog.depth 1 = false := by kernel_rfl
@[simp] theorem sizeT_2 : sizeT Try.prog 2 = some 1 := by kernel_rfl
@[simp] theorem aggT_2 : aggT Try.prog 2 = some false := by kernel_rfl
@[simp] theorem elemT_2 : elemT Try.prog 2 = none := by kernel_rfl
@[simp] theorem arrT_2 : arrT Try.prog 2 = none := by kernel_rfl
@[simp] theorem isInt_2 : isInt Try.prog 2 = some IntKind.i64 := by kernel_rfl
@[simp] theorem isStr_2 : isStr Try.prog 2 = false := by kernel_rfl
@[simp] theorem isBl_2 : isBl Try.prog 2 = false := by kernel_rfl
@[simp] theorem isPtr_2 : isPtr Try.prog 2 = false := by kernel_rfl
@[simp] theorem mapT_2 : mapT Try.prog 2 = none := by kernel_rfl
@[simp] theorem pairK_2 : pairK Try.prog 2 = false := by kernel_rfl
@[simp] theorem isIfc_2 : isIfc Try.prog 2 = some false := by kernel_rfl
@[simp] theorem bytesT_2 : bytesT Try.prog 2 = some 8 := by kernel_rfl
@[simp] theorem zeroVal_2 : zeroVal Try.prog 2 = some (V.int IntKind.i64 (0)) := by kernel_rfl
@[simp] theorem placesT_2 : placesT Try.prog 2 = none := by kernel_rfl
@[simp] theorem under_2 : (Try.prog.underlying 2).isSome = true := by kernel_rfl
@[simp] theorem gty_2 : Try.prog.eqGuardType Try.prog.depth 2 = false := by kernel_rfl
@[simp] theorem sizeT_3 : sizeT Try.prog 3 = some 1 := by kernel_rfl
@[simp] theorem aggT_3 : aggT Try.prog 3 = some false := by kernel_rfl
@[simp] theorem elemT_3 : elemT Try.prog 3 = none := by kernel_rfl
@[simp] theorem arrT_3 : arrT Try.prog 3 = none := by kernel_rfl
@[simp] theorem isInt_3 : isInt Try.prog 3 = some IntKind.i64 := by kernel_rfl
@[simp] theorem isStr_3 : isStr Try.prog 3 = false := by kernel_rfl
@[simp] theorem isBl_3 : isBl Try.prog 3 = false := by kernel_rfl
@[simp] theorem isPtr_3 : isPtr Try.prog 3 = false := by kernel_rfl
@[simp] theorem mapT_3 : mapT Try.prog 3 = none := by kernel_rfl
@[simp] theorem pairK_3 : pairK Try.prog 3 = false := by kernel_rfl
@[simp] theorem isIfc_3 : isIfc Try.prog 3 = some false := by kernel_rfl
@[simp] theorem bytesT_3 : bytesT Try.prog 3 = some 8 := by kernel_rfl
@[simp] theorem zeroVal_3 : zeroVal Try.prog 3 = some (V.int IntKind.i64 (0)) := by kernel_rfl
@[simp] theorem placesT_3 : placesT Try.prog 3 = none := by kernel_rfl
@[simp] theorem under_3 : (Try.prog.underlying 3).isSome = true := by kernel_rfl
@[simp] theorem gty_3 : Try.prog.eqGuardType Try.prog.depth 3 = false := by kernel_rfl
@[simp] theorem sizeT_4 : sizeT Try.prog 4 = some 1 := by kernel_rfl
@[simp] theorem aggT_4 : aggT Try.prog 4 = some false := by kernel_rfl
@[simp] theorem elemT_4 : elemT Try.prog 4 = none := by kernel_rfl
@[simp] theorem arrT_4 : arrT Try.prog 4 = none := by kernel_rfl
@[simp] theorem isInt_4 : isInt Try.prog 4 = none := by kernel_rfl
@[simp] theorem isStr_4 : isStr Try.prog 4 = false := by kernel_rfl
@[simp] theorem isBl_4 : isBl Try.prog 4 = true := by kernel_rfl
@[simp] theorem isPtr_4 : isPtr Try.prog 4 = false := by kernel_rfl
@[simp] theorem mapT_4 : mapT Try.prog 4 = none := by kernel_rfl
@[simp] theorem pairK_4 : pairK Try.prog 4 = false := by kernel_rfl
@[simp] theorem isIfc_4 : isIfc Try.prog 4 = some false := by kernel_rfl
@[simp] theorem bytesT_4 : bytesT Try.prog 4 = some 1 := by kernel_rfl
@[simp] theorem zeroVal_4 : zeroVal Try.prog 4 = some (V.bool false) := by kernel_rfl
@[simp] theorem placesT_4 : placesT Try.prog 4 = none := by kernel_rfl
@[simp] theorem under_4 : (Try.prog.underlying 4).isSome = true := by kernel_rfl
@[simp] theorem gty_4 : Try.prog.eqGuardType Try.prog.depth 4 = false := by kernel_rfl
@[simp] theorem sizeT_5 : sizeT Try.prog 5 = some 1 := by kernel_rfl
@[simp] theorem aggT_5 : aggT Try.prog 5 = some false := by kernel_rfl
@[simp] theorem elemT_5 : elemT Try.prog 5 = none := by kernel_rfl
@[simp] theorem arrT_5 : arrT Try.prog 5 = none := by kernel_rfl
@[simp] theorem isInt_5 : isInt Try.prog 5 = some IntKind.u8 := by kernel_rfl
@[simp] theorem isStr_5 : isStr Try.prog 5 = false := by kernel_rfl
@[simp] theorem isBl_5 : isBl Try.prog 5 = false := by kernel_rfl
@[simp] theorem isPtr_5 : isPtr Try.prog 5 = false := by kernel_rfl
@[simp] theorem mapT_5 : mapT Try.prog 5 = none := by kernel_rfl
@[simp] theorem pairK_5 : pairK Try.prog 5 = false := by kernel_rfl
@[simp] theorem isIfc_5 : isIfc Try.prog 5 = some false := by kernel_rfl
@[simp] theorem bytesT_5 : bytesT Try.prog 5 = some 1 := by kernel_rfl
@[simp] theorem zeroVal_5 : zeroVal Try.prog 5 = some (V.int IntKind.u8 (0)) := by kernel_rfl
@[simp] theorem placesT_5 : placesT Try.prog 5 = none := by kernel_rfl
@[simp] theorem under_5 : (Try.prog.underlying 5).isSome = true := by kernel_rfl
@[simp] theorem gty_5 : Try.prog.eqGuardType Try.prog.depth 5 = false := by kernel_rfl
@[simp] theorem sizeT_6 : sizeT Try.prog 6 = some 1 := by kernel_rfl
@[simp] theorem aggT_6 : aggT Try.prog 6 = some false := by kernel_rfl
@[simp] theorem elemT_6 : elemT Try.prog 6 = none := by kernel_rfl
@[simp] theorem arrT_6 : arrT Try.prog 6 = none := by kernel_rfl
@[simp] theorem isInt_6 : isInt Try.prog 6 = some IntKind.u8 := by kernel_rfl
@[simp] theorem isStr_6 : isStr Try.prog 6 = false := by kernel_rfl
@[simp] theorem isBl_6 : isBl Try.prog 6 = false := by kernel_rfl
@[simp] theorem isPtr_6 : isPtr Try.prog 6 = false := by kernel_rfl
@[simp] theorem mapT_6 : mapT Try.prog 6 = none := by kernel_rfl
@[simp] theorem pairK_6 : pairK Try.prog 6 = false := by kernel_rfl
@[simp] theorem isIfc_6 : isIfc Try.prog 6 = some false := by kernel_rfl
@[simp] theorem bytesT_6 : bytesT Try.prog 6 = some 1 := by kernel_rfl
@[simp] theorem zeroVal_6 : zeroVal Try.prog 6 = some (V.int IntKind.u8 (0)) := by kernel_rfl
@[simp] theorem placesT_6 : placesT Try.prog 6 = none := by kernel_rfl
@[simp] theorem under_6 : (Try.prog.underlying 6).isSome = true := by kernel_rfl
@[simp] theorem gty_6 : Try.prog.eqGuardType Try.prog.depth 6 = false := by kernel_rfl
@[simp] theorem sizeT_7 : sizeT Try.prog 7 = some 4 := by kernel_rfl
@[simp] theorem aggT_7 : aggT Try.prog 7 = some true := by kernel_rfl
@[simp] theorem elemT_7 : elemT Try.prog 7 = none := by kernel_rfl
@[simp] theorem arrT_7 : arrT Try.prog 7 = none := by kernel_rfl
@[simp] theorem isInt_7 : isInt Try.prog 7 = none := by kernel_rfl
@[simp] theorem isStr_7 : isStr Try.prog 7 = false := by kernel_rfl
@[simp] theorem isBl_7 : isBl Try.prog 7 = false := by kernel_rfl
@[simp] theorem isPtr_7 : isPtr Try.prog 7 = false := by kernel_rfl
@[simp] theorem mapT_7 : mapT Try.prog 7 = none := by kernel_rfl
@[simp] theorem pairK_7 : pairK Try.prog 7 = false := by kernel_rfl
@[simp] theorem isIfc_7 : isIfc Try.prog 7 = some false := by kernel_rfl
@[simp] theorem bytesT_7 : bytesT Try.prog 7 = some 24 := by kernel_rfl
@[simp] theorem zeroVal_7 : zeroVal Try.prog 7 = some (V.agg [V.int IntKind.i64 (0), V.int IntKind.i64 (0), V.bool false, V.int IntKind.u8 (0)]) := by kernel_rfl
@[simp] theorem placesT_7 : placesT Try.prog 7 = some [(0, 1), (1, 1), (2, 1), (3, 1)] := by kernel_rfl
@[simp] theorem under_7 : (Try.prog.underlying 7).isSome = true := by kernel_rfl
@[simp] theorem gty_7 : Try.prog.eqGuardType Try.prog.depth 7 = false := by kernel_rfl
@[simp] theorem fldT_7_0 : fldT Try.prog 7 0 = some (0, 2) := by kernel_rfl
@[simp] theorem fldT_7_1 : fldT Try.prog 7 1 = some (1, 3) := by kernel_rfl
@[simp] theorem fldT_7_2 : fldT Try.prog 7 2 = some (2, 4) := by kernel_rfl
@[simp] theorem fldT_7_3 : fldT Try.prog 7 3 = some (3, 6) := by kernel_rfl
@[simp] theorem eqT_7 (xs ys : List V) (hx : xs.length = 4) (hy : ys.length = 4) : eqT Try.prog 40 7 xs ys = eqK ([LK.i IntKind.i64, LK.i IntKind.i64, LK.b, LK.i IntKind.u8]) xs ys := eqT_shape 40 7 _ (by kernel_rfl) xs ys hx hy
@[simp] theorem sizeT_8 : sizeT Try.prog 8 = some 4 := by kernel_rfl
@[simp] theorem aggT_8 : aggT Try.prog 8 = some true := by kernel_rfl
@[simp] theorem elemT_8 : elemT Try.prog 8 = none := by kernel_rfl
@[simp] theorem arrT_8 : arrT Try.prog 8 = none := by kernel_rfl
@[simp] theorem isInt_8 : isInt Try.prog 8 = none := by kernel_rfl
@[simp] theorem isStr_8 : isStr Try.prog 8 = false := by kernel_rfl
@[simp] theorem isBl_8 : isBl Try.prog 8 = false := by kernel_rfl
@[simp] theorem isPtr_8 : isPtr Try.prog 8 = false := by kernel_rfl
@[simp] theorem mapT_8 : mapT Try.prog 8 = none := by kernel_rfl
@[simp] theorem pairK_8 : pairK Try.prog 8 = false := by kernel_rfl
@[simp] theorem isIfc_8 : isIfc Try.prog 8 = some false := by kernel_rfl
@[simp] theorem bytesT_8 : bytesT Try.prog 8 = some 24 := by kernel_rfl
@[simp] theorem zeroVal_8 : zeroVal Try.prog 8 = some (V.agg [V.int IntKind.i64 (0), V.int IntKind.i64 (0), V.bool false, V.int IntKind.u8 (0)]) := by kernel_rfl
@[simp] theorem placesT_8 : placesT Try.prog 8 = some [(0, 1), (1, 1), (2, 1), (3, 1)] := by kernel_rfl
@[simp] theorem under_8 : (Try.prog.underlying 8).isSome = true := by kernel_rfl
@[simp] theorem gty_8 : Try.prog.eqGuardType Try.prog.depth 8 = false := by kernel_rfl
@[simp] theorem fldT_8_0 : fldT Try.prog 8 0 = some (0, 2) := by kernel_rfl
@[simp] theorem fldT_8_1 : fldT Try.prog 8 1 = some (1, 3) := by kernel_rfl
@[simp] theorem fldT_8_2 : fldT Try.prog 8 2 = some (2, 4) := by kernel_rfl
@[simp] theorem fldT_8_3 : fldT Try.prog 8 3 = some (3, 6) := by kernel_rfl
@[simp] theorem eqT_8 (xs ys : List V) (hx : xs.length = 4) (hy : ys.length = 4) : eqT Try.prog 40 8 xs ys = eqK ([LK.i IntKind.i64, LK.i IntKind.i64, LK.b, LK.i IntKind.u8]) xs ys := eqT_shape 40 8 _ (by kernel_rfl) xs ys hx hy
@[simp] theorem sizeT_9 : sizeT Try.prog 9 = some 1 := by kernel_rfl
@[simp] theorem aggT_9 : aggT Try.prog 9 = some false := by kernel_rfl
@[simp] theorem elemT_9 : elemT Try.prog 9 = none := by kernel_rfl
@[simp] theorem arrT_9 : arrT Try.prog 9 = none := by kernel_rfl
@[simp] theorem isInt_9 : isInt Try.prog 9 = none := by kernel_rfl
@[simp] theorem isStr_9 : isStr Try.prog 9 = true := by kernel_rfl
@[simp] theorem isBl_9 : isBl Try.prog 9 = false := by kernel_rfl
@[simp] theorem isPtr_9 : isPtr Try.prog 9 = false := by kernel_rfl
@[simp] theorem mapT_9 : mapT Try.prog 9 = none := by kernel_rfl
@[simp] theorem pairK_9 : pairK Try.prog 9 = false := by kernel_rfl
@[simp] theorem isIfc_9 : isIfc Try.prog 9 = some false := by kernel_rfl
@[simp] theorem bytesT_9 : bytesT Try.prog 9 = some 16 := by kernel_rfl
@[simp] theorem zeroVal_9 : zeroVal Try.prog 9 = some (V.str ByteArray.empty) := by kernel_rfl
@[simp] theorem placesT_9 : placesT Try.prog 9 = none := by kernel_rfl
@[simp] theorem under_9 : (Try.prog.underlying 9).isSome = true := by kernel_rfl
@[simp] theorem gty_9 : Try.prog.eqGuardType Try.prog.depth 9 = false := by kernel_rfl
@[simp] theorem sizeT_10 : sizeT Try.prog 10 = some 1 := by kernel_rfl
@[simp] theorem aggT_10 : aggT Try.prog 10 = some false := by kernel_rfl
@[simp] theorem elemT_10 : elemT Try.prog 10 = none := by kernel_rfl
@[simp] theorem arrT_10 : arrT Try.prog 10 = none := by kernel_rfl
@[simp] theorem isInt_10 : isInt Try.prog 10 = none := by kernel_rfl
@[simp] theorem isStr_10 : isStr Try.prog 10 = true := by kernel_rfl
@[simp] theorem isBl_10 : isBl Try.prog 10 = false := by kernel_rfl
@[simp] theorem isPtr_10 : isPtr Try.prog 10 = false := by kernel_rfl
@[simp] theorem mapT_10 : mapT Try.prog 10 = none := by kernel_rfl
@[simp] theorem pairK_10 : pairK Try.prog 10 = false := by kernel_rfl
@[simp] theorem isIfc_10 : isIfc Try.prog 10 = some false := by kernel_rfl
@[simp] theorem bytesT_10 : bytesT Try.prog 10 = some 16 := by kernel_rfl
@[simp] theorem zeroVal_10 : zeroVal Try.prog 10 = some (V.str ByteArray.empty) := by kernel_rfl
@[simp] theorem placesT_10 : placesT Try.prog 10 = none := by kernel_rfl
@[simp] theorem under_10 : (Try.prog.underlying 10).isSome = true := by kernel_rfl
@[simp] theorem gty_10 : Try.prog.eqGuardType Try.prog.depth 10 = false := by kernel_rfl
@[simp] theorem sizeT_20 : sizeT Try.prog 20 = some 1 := by kernel_rfl
@[simp] theorem aggT_20 : aggT Try.prog 20 = some false := by kernel_rfl
@[simp] theorem elemT_20 : elemT Try.prog 20 = none := by kernel_rfl
@[simp] theorem arrT_20 : arrT Try.prog 20 = none := by kernel_rfl
@[simp] theorem isInt_20 : isInt Try.prog 20 = none := by kernel_rfl
@[simp] theorem isStr_20 : isStr Try.prog 20 = false := by kernel_rfl
@[simp] theorem isBl_20 : isBl Try.prog 20 = false := by kernel_rfl
@[simp] theorem isPtr_20 : isPtr Try.prog 20 = false := by kernel_rfl
@[simp] theorem mapT_20 : mapT Try.prog 20 = none := by kernel_rfl
@[simp] theorem pairK_20 : pairK Try.prog 20 = false := by kernel_rfl
@[simp] theorem isIfc_20 : isIfc Try.prog 20 = some true := by kernel_rfl
@[simp] theorem bytesT_20 : bytesT Try.prog 20 = some 16 := by kernel_rfl
@[simp] theorem zeroVal_20 : zeroVal Try.prog 20 = some V.nili := by kernel_rfl
@[simp] theorem placesT_20 : placesT Try.prog 20 = none := by kernel_rfl
@[simp] theorem under_20 : (Try.prog.underlying 20).isSome = true := by kernel_rfl
@[simp] theorem gty_20 : Try.prog.eqGuardType Try.prog.depth 20 = false := by kernel_rfl
@[simp] theorem sizeT_23 : sizeT Try.prog 23 = some 2 := by kernel_rfl
@[simp] theorem aggT_23 : aggT Try.prog 23 = some true := by kernel_rfl
@[simp] theorem elemT_23 : elemT Try.prog 23 = none := by kernel_rfl
@[simp] theorem arrT_23 : arrT Try.prog 23 = none := by kernel_rfl
@[simp] theorem isInt_23 : isInt Try.prog 23 = none := by kernel_rfl
@[simp] theorem isStr_23 : isStr Try.prog 23 = false := by kernel_rfl
@[simp] theorem isBl_23 : isBl Try.prog 23 = false := by kernel_rfl
@[simp] theorem isPtr_23 : isPtr Try.prog 23 = false := by kernel_rfl
@[simp] theorem mapT_23 : mapT Try.prog 23 = none := by kernel_rfl
@[simp] theorem pairK_23 : pairK Try.prog 23 = true := by kernel_rfl
@[simp] theorem isIfc_23 : isIfc Try.prog 23 = some false := by kernel_rfl
@[simp] theorem bytesT_23 : bytesT Try.prog 23 = some 16 := by kernel_rfl
@[simp] theorem zeroVal_23 : zeroVal Try.prog 23 = some (V.agg [V.int IntKind.i64 (0), V.int IntKind.i64 (0)]) := by kernel_rfl
@[simp] theorem placesT_23 : placesT Try.prog 23 = some [(0, 1), (1, 1)] := by kernel_rfl
@[simp] theorem under_23 : (Try.prog.underlying 23).isSome = true := by kernel_rfl
@[simp] theorem gty_23 : Try.prog.eqGuardType Try.prog.depth 23 = false := by kernel_rfl
@[simp] theorem fldT_23_0 : fldT Try.prog 23 0 = some (0, 3) := by kernel_rfl
@[simp] theorem fldT_23_1 : fldT Try.prog 23 1 = some (1, 3) := by kernel_rfl
@[simp] theorem eqT_23 (xs ys : List V) (hx : xs.length = 2) (hy : ys.length = 2) : eqT Try.prog 40 23 xs ys = eqK ([LK.i IntKind.i64, LK.i IntKind.i64]) xs ys := eqT_shape 40 23 _ (by kernel_rfl) xs ys hx hy
@[simp] theorem sizeT_25 : sizeT Try.prog 25 = some 2 := by kernel_rfl
@[simp] theorem aggT_25 : aggT Try.prog 25 = some true := by kernel_rfl
@[simp] theorem elemT_25 : elemT Try.prog 25 = none := by kernel_rfl
@[simp] theorem arrT_25 : arrT Try.prog 25 = none := by kernel_rfl
@[simp] theorem isInt_25 : isInt Try.prog 25 = none := by kernel_rfl
@[simp] theorem isStr_25 : isStr Try.prog 25 = false := by kernel_rfl
@[simp] theorem isBl_25 : isBl Try.prog 25 = false := by kernel_rfl
@[simp] theorem isPtr_25 : isPtr Try.prog 25 = false := by kernel_rfl
@[simp] theorem mapT_25 : mapT Try.prog 25 = none := by kernel_rfl
@[simp] theorem pairK_25 : pairK Try.prog 25 = true := by kernel_rfl
@[simp] theorem isIfc_25 : isIfc Try.prog 25 = some false := by kernel_rfl
@[simp] theorem bytesT_25 : bytesT Try.prog 25 = some 16 := by kernel_rfl
@[simp] theorem zeroVal_25 : zeroVal Try.prog 25 = some (V.agg [V.int IntKind.i64 (0), V.int IntKind.i64 (0)]) := by kernel_rfl
@[simp] theorem placesT_25 : placesT Try.prog 25 = some [(0, 1), (1, 1)] := by kernel_rfl
@[simp] theorem under_25 : (Try.prog.underlying 25).isSome = true := by kernel_rfl
@[simp] theorem gty_25 : Try.prog.eqGuardType Try.prog.depth 25 = false := by kernel_rfl
@[simp] theorem fldT_25_0 : fldT Try.prog 25 0 = some (0, 3) := by kernel_rfl
@[simp] theorem fldT_25_1 : fldT Try.prog 25 1 = some (1, 3) := by kernel_rfl
@[simp] theorem eqT_25 (xs ys : List V) (hx : xs.length = 2) (hy : ys.length = 2) : eqT Try.prog 40 25 xs ys = eqK ([LK.i IntKind.i64, LK.i IntKind.i64]) xs ys := eqT_shape 40 25 _ (by kernel_rfl) xs ys hx hy
@[simp] theorem sizeT_27 : sizeT Try.prog 27 = some 2 := by kernel_rfl
@[simp] theorem aggT_27 : aggT Try.prog 27 = some true := by kernel_rfl
@[simp] theorem elemT_27 : elemT Try.prog 27 = none := by kernel_rfl
@[simp] theorem arrT_27 : arrT Try.prog 27 = none := by kernel_rfl
@[simp] theorem isInt_27 : isInt Try.prog 27 = none := by kernel_rfl
@[simp] theorem isStr_27 : isStr Try.prog 27 = false := by kernel_rfl
@[simp] theorem isBl_27 : isBl Try.prog 27 = false := by kernel_rfl
@[simp] theorem isPtr_27 : isPtr Try.prog 27 = false := by kernel_rfl
@[simp] theorem mapT_27 : mapT Try.prog 27 = none := by kernel_rfl
@[simp] theorem pairK_27 : pairK Try.prog 27 = true := by kernel_rfl
@[simp] theorem isIfc_27 : isIfc Try.prog 27 = some false := by kernel_rfl
@[simp] theorem bytesT_27 : bytesT Try.prog 27 = some 16 := by kernel_rfl
@[simp] theorem zeroVal_27 : zeroVal Try.prog 27 = some (V.agg [V.int IntKind.i64 (0), V.int IntKind.i64 (0)]) := by kernel_rfl
@[simp] theorem placesT_27 : placesT Try.prog 27 = some [(0, 1), (1, 1)] := by kernel_rfl
@[simp] theorem under_27 : (Try.prog.underlying 27).isSome = true := by kernel_rfl
@[simp] theorem gty_27 : Try.prog.eqGuardType Try.prog.depth 27 = false := by kernel_rfl
@[simp] theorem fldT_27_0 : fldT Try.prog 27 0 = some (0, 3) := by kernel_rfl
@[simp] theorem fldT_27_1 : fldT Try.prog 27 1 = some (1, 3) := by kernel_rfl
@[simp] theorem eqT_27 (xs ys : List V) (hx : xs.length = 2) (hy : ys.length = 2) : eqT Try.prog 40 27 xs ys = eqK ([LK.i IntKind.i64, LK.i IntKind.i64]) xs ys := eqT_shape 40 27 _ (by kernel_rfl) xs ys hx hy
@[simp] theorem sizeT_29 : sizeT Try.prog 29 = some 2 := by kernel_rfl
@[simp] theorem aggT_29 : aggT Try.prog 29 = some true := by kernel_rfl
@[simp] theorem elemT_29 : elemT Try.prog 29 = none := by kernel_rfl
@[simp] theorem arrT_29 : arrT Try.prog 29 = none := by kernel_rfl
@[simp] theorem isInt_29 : isInt Try.prog 29 = none := by kernel_rfl
@[simp] theorem isStr_29 : isStr Try.prog 29 = false := by kernel_rfl
@[simp] theorem isBl_29 : isBl Try.prog 29 = false := by kernel_rfl
@[simp] theorem isPtr_29 : isPtr Try.prog 29 = false := by kernel_rfl
@[simp] theorem mapT_29 : mapT Try.prog 29 = none := by kernel_rfl
@[simp] theorem pairK_29 : pairK Try.prog 29 = true := by kernel_rfl
@[simp] theorem isIfc_29 : isIfc Try.prog 29 = some false := by kernel_rfl
@[simp] theorem bytesT_29 : bytesT Try.prog 29 = some 16 := by kernel_rfl
@[simp] theorem zeroVal_29 : zeroVal Try.prog 29 = some (V.agg [V.int IntKind.i64 (0), V.int IntKind.i64 (0)]) := by kernel_rfl
@[simp] theorem placesT_29 : placesT Try.prog 29 = some [(0, 1), (1, 1)] := by kernel_rfl
@[simp] theorem under_29 : (Try.prog.underlying 29).isSome = true := by kernel_rfl
@[simp] theorem gty_29 : Try.prog.eqGuardType Try.prog.depth 29 = false := by kernel_rfl
@[simp] theorem fldT_29_0 : fldT Try.prog 29 0 = some (0, 3) := by kernel_rfl
@[simp] theorem fldT_29_1 : fldT Try.prog 29 1 = some (1, 3) := by kernel_rfl
@[simp] theorem eqT_29 (xs ys : List V) (hx : xs.length = 2) (hy : ys.length = 2) : eqT Try.prog 40 29 xs ys = eqK ([LK.i IntKind.i64, LK.i IntKind.i64]) xs ys := eqT_shape 40 29 _ (by kernel_rfl) xs ys hx hy
@[simp] theorem sizeT_30 : sizeT Try.prog 30 = some 1 := by kernel_rfl
@[simp] theorem aggT_30 : aggT Try.prog 30 = some false := by kernel_rfl
@[simp] theorem elemT_30 : elemT Try.prog 30 = some 74 := by kernel_rfl
@[simp] theorem arrT_30 : arrT Try.prog 30 = none := by kernel_rfl
@[simp] theorem isInt_30 : isInt Try.prog 30 = none := by kernel_rfl
@[simp] theorem isStr_30 : isStr Try.prog 30 = false := by kernel_rfl
@[simp] theorem isBl_30 : isBl Try.prog 30 = false := by kernel_rfl
@[simp] theorem isPtr_30 : isPtr Try.prog 30 = false := by kernel_rfl
@[simp] theorem mapT_30 : mapT Try.prog 30 = none := by kernel_rfl
@[simp] theorem pairK_30 : pairK Try.prog 30 = false := by kernel_rfl
@[simp] theorem isIfc_30 : isIfc Try.prog 30 = some false := by kernel_rfl
@[simp] theorem bytesT_30 : bytesT Try.prog 30 = some 24 := by kernel_rfl
@[simp] theorem zeroVal_30 : zeroVal Try.prog 30 = some V.nl := by kernel_rfl
@[simp] theorem placesT_30 : placesT Try.prog 30 = none := by kernel_rfl
@[simp] theorem under_30 : (Try.prog.underlying 30).isSome = true := by kernel_rfl
@[simp] theorem gty_30 : Try.prog.eqGuardType Try.prog.depth 30 = false := by kernel_rfl
@[simp] theorem sizeT_31 : sizeT Try.prog 31 = some 1 := by kernel_rfl
@[simp] theorem aggT_31 : aggT Try.prog 31 = some false := by kernel_rfl
@[simp] theorem elemT_31 : elemT Try.prog 31 = some 76 := by kernel_rfl
@[simp] theorem arrT_31 : arrT Try.prog 31 = none := by kernel_rfl
@[simp] theorem isInt_31 : isInt Try.prog 31 = none := by kernel_rfl
@[simp] theorem isStr_31 : isStr Try.prog 31 = false := by kernel_rfl
@[simp] theorem isBl_31 : isBl Try.prog 31 = false := by kernel_rfl
@[simp] theorem isPtr_31 : isPtr Try.prog 31 = false := by kernel_rfl
@[simp] theorem mapT_31 : mapT Try.prog 31 = none := by kernel_rfl
@[simp] theorem pairK_31 : pairK Try.prog 31 = false := by kernel_rfl
@[simp] theorem isIfc_31 : isIfc Try.prog 31 = some false := by kernel_rfl
@[simp] theorem bytesT_31 : bytesT Try.prog 31 = some 24 := by kernel_rfl
@[simp] theorem zeroVal_31 : zeroVal Try.prog 31 = some V.nl := by kernel_rfl
@[simp] theorem placesT_31 : placesT Try.prog 31 = none := by kernel_rfl
@[simp] theorem under_31 : (Try.prog.underlying 31).isSome = true := by kernel_rfl
@[simp] theorem gty_31 : Try.prog.eqGuardType Try.prog.depth 31 = false := by kernel_rfl
@[simp] theorem sizeT_33 : sizeT Try.prog 33 = some 9 := by kernel_rfl
@[simp] theorem aggT_33 : aggT Try.prog 33 = some true := by kernel_rfl
@[simp] theorem elemT_33 : elemT Try.prog 33 = none := by kernel_rfl
@[simp] theorem arrT_33 : arrT Try.prog 33 = none := by kernel_rfl
@[simp] theorem isInt_33 : isInt Try.prog 33 = none := by kernel_rfl
@[simp] theorem isStr_33 : isStr Try.prog 33 = false := by kernel_rfl
@[simp] theorem isBl_33 : isBl Try.prog 33 = false := by kernel_rfl
@[simp] theorem isPtr_33 : isPtr Try.prog 33 = false := by kernel_rfl
@[simp] theorem mapT_33 : mapT Try.prog 33 = none := by kernel_rfl
@[simp] theorem pairK_33 : pairK Try.prog 33 = false := by kernel_rfl
@[simp] theorem isIfc_33 : isIfc Try.prog 33 = some false := by kernel_rfl
@[simp] theorem bytesT_33 : bytesT Try.prog 33 = some 104 := by kernel_rfl
@[simp] theorem zeroVal_33 : zeroVal Try.prog 33 = some (V.agg [V.int IntKind.i64 (0), V.int IntKind.i64 (0), V.int IntKind.i64 (0), V.int IntKind.i64 (0), V.int IntKind.i64 (0), V.int IntKind.i64 (0), V.nl, V.nl, V.bool false]) := by kernel_rfl
@[simp] theorem placesT_33 : placesT Try.prog 33 = some [(0, 1), (1, 2), (3, 2), (5, 1), (6, 1), (7, 1), (8, 1)] := by kernel_rfl
@[simp] theorem under_33 : (Try.prog.underlying 33).isSome = true := by kernel_rfl
@[simp] theorem gty_33 : Try.prog.eqGuardType Try.prog.depth 33 = false := by kernel_rfl
@[simp] theorem fldT_33_0 : fldT Try.prog 33 0 = some (0, 3) := by kernel_rfl
@[simp] theorem fldT_33_1 : fldT Try.prog 33 1 = some (1, 27) := by kernel_rfl
@[simp] theorem fldT_33_2 : fldT Try.prog 33 2 = some (3, 29) := by kernel_rfl
@[simp] theorem fldT_33_3 : fldT Try.prog 33 3 = some (5, 3) := by kernel_rfl
@[simp] theorem fldT_33_4 : fldT Try.prog 33 4 = some (6, 30) := by kernel_rfl
@[simp] theorem fldT_33_5 : fldT Try.prog 33 5 = some (7, 31) := by kernel_rfl
@[simp] theorem fldT_33_6 : fldT Try.prog 33 6 = some (8, 4) := by kernel_rfl
@[simp] theorem sizeT_35 : sizeT Try.prog 35 = some 7 := by kernel_rfl
@[simp] theorem aggT_35 : aggT Try.prog 35 = some true := by kernel_rfl
@[simp] theorem elemT_35 : elemT Try.prog 35 = none := by kernel_rfl
@[simp] theorem arrT_35 : arrT Try.prog 35 = some (7, 3) := by kernel_rfl
@[simp] theorem isInt_35 : isInt Try.prog 35 = none := by kernel_rfl
@[simp] theorem isStr_35 : isStr Try.prog 35 = false := by kernel_rfl
@[simp] theorem isBl_35 : isBl Try.prog 35 = false := by kernel_rfl
@[simp] theorem isPtr_35 : isPtr Try.prog 35 = false := by kernel_rfl
@[simp] theorem mapT_35 : mapT Try.prog 35 = none := by kernel_rfl
@[simp] theorem pairK_35 : pairK Try.prog 35 = false := by kernel_rfl
@[simp] theorem isIfc_35 : isIfc Try.prog 35 = some false := by kernel_rfl
@[simp] theorem bytesT_35 : bytesT Try.prog 35 = some 56 := by kernel_rfl
@[simp] theorem zeroVal_35 : zeroVal Try.prog 35 = some (V.agg [V.int IntKind.i64 (0), V.int IntKind.i64 (0), V.int IntKind.i64 (0), V.int IntKind.i64 (0), V.int IntKind.i64 (0), V.int IntKind.i64 (0), V.int IntKind.i64 (0)]) := by kernel_rfl
@[simp] theorem placesT_35 : placesT Try.prog 35 = none := by kernel_rfl
@[simp] theorem under_35 : (Try.prog.underlying 35).isSome = true := by kernel_rfl
@[simp] theorem gty_35 : Try.prog.eqGuardType Try.prog.depth 35 = false := by kernel_rfl
@[simp] theorem eqT_35 (xs ys : List V) (hx : xs.length = 7) (hy : ys.length = 7) : eqT Try.prog 40 35 xs ys = eqK ([LK.i IntKind.i64, LK.i IntKind.i64, LK.i IntKind.i64, LK.i IntKind.i64, LK.i IntKind.i64, LK.i IntKind.i64, LK.i IntKind.i64]) xs ys := eqT_shape 40 35 _ (by kernel_rfl) xs ys hx hy
@[simp] theorem sizeT_37 : sizeT Try.prog 37 = some 25 := by kernel_rfl
@[simp] theorem aggT_37 : aggT Try.prog 37 = some true := by kernel_rfl
@[simp] theorem elemT_37 : elemT Try.prog 37 = none := by kernel_rfl
@[simp] theorem arrT_37 : arrT Try.prog 37 = none := by kernel_rfl
@[simp] theorem isInt_37 : isInt Try.prog 37 = none := by kernel_rfl
@[simp] theorem isStr_37 : isStr Try.prog 37 = false := by kernel_rfl
@[simp] theorem isBl_37 : isBl Try.prog 37 = false := by kernel_rfl
@[simp] theorem isPtr_37 : isPtr Try.prog 37 = false := by kernel_rfl
@[simp] theorem mapT_37 : mapT Try.prog 37 = none := by kernel_rfl
@[simp] theorem pairK_37 : pairK Try.prog 37 = false := by kernel_rfl
@[simp] theorem isIfc_37 : isIfc Try.prog 37 = some false := by kernel_rfl
@[simp] theorem bytesT_37 : bytesT Try.prog 37 = some 232 := by kernel_rfl
@[simp] theorem zeroVal_37 : zeroVal Try.prog 37 = some (V.agg [V.int IntKind.i64 (0), V.int IntKind.i64 (0), V.int IntKind.i64 (0), V.int IntKind.i64 (0), V.int IntKind.i64 (0), V.int IntKind.i64 (0), V.int IntKind.i64 (0), V.int IntKind.i64 (0), V.int IntKind.i64 (0), V.int IntKind.i64 (0), V.int IntKind.i64 (0), V.int IntKind.i64 (0), V.int IntKind.i64 (0), V.nl, V.nl, V.bool false, V.int IntKind.i64 (0), V.int IntKind.i64 (0), V.int IntKind.i64 (0), V.int IntKind.i64 (0), V.int IntKind.i64 (0), V.int IntKind.i64 (0), V.int IntKind.i64 (0), V.int IntKind.i64 (0), V.bool false]) := by kernel_rfl
@[simp] theorem placesT_37 : placesT Try.prog 37 = some [(0, 2), (2, 1), (3, 2), (5, 2), (7, 9), (16, 1), (17, 7), (24, 1)] := by kernel_rfl
@[simp] theorem under_37 : (Try.prog.underlying 37).isSome = true := by kernel_rfl
@[simp] theorem gty_37 : Try.prog.eqGuardType Try.prog.depth 37 = false := by kernel_rfl
@[simp] theorem fldT_37_0 : fldT Try.prog 37 0 = some (0, 23) := by kernel_rfl
@[simp] theorem fldT_37_1 : fldT Try.prog 37 1 = some (2, 3) := by kernel_rfl
@[simp] theorem fldT_37_2 : fldT Try.prog 37 2 = some (3, 25) := by kernel_rfl
@[simp] theorem fldT_37_3 : fldT Try.prog 37 3 = some (5, 25) := by kernel_rfl
@[simp] theorem fldT_37_4 : fldT Try.prog 37 4 = some (7, 33) := by kernel_rfl
@[simp] theorem fldT_37_5 : fldT Try.prog 37 5 = some (16, 3) := by kernel_rfl
@[simp] theorem fldT_37_6 : fldT Try.prog 37 6 = some (17, 35) := by kernel_rfl
@[simp] theorem fldT_37_7 : fldT Try.prog 37 7 = some (24, 4) := by kernel_rfl
@[simp] theorem sizeT_39 : sizeT Try.prog 39 = some 30 := by kernel_rfl
@[simp] theorem aggT_39 : aggT Try.prog 39 = some true := by kernel_rfl
@[simp] theorem elemT_39 : elemT Try.prog 39 = none := by kernel_rfl
@[simp] theorem arrT_39 : arrT Try.prog 39 = none := by kernel_rfl
@[simp] theorem isInt_39 : isInt Try.prog 39 = none := by kernel_rfl
@[simp] theorem isStr_39 : isStr Try.prog 39 = false := by kernel_rfl
@[simp] theorem isBl_39 : isBl Try.prog 39 = false := by kernel_rfl
@[simp] theorem isPtr_39 : isPtr Try.prog 39 = false := by kernel_rfl
@[simp] theorem mapT_39 : mapT Try.prog 39 = none := by kernel_rfl
@[simp] theorem pairK_39 : pairK Try.prog 39 = false := by kernel_rfl
@[simp] theorem isIfc_39 : isIfc Try.prog 39 = some false := by kernel_rfl
@[simp] theorem bytesT_39 : bytesT Try.prog 39 = some 272 := by kernel_rfl
@[simp] theorem zeroVal_39 : zeroVal Try.prog 39 = some (V.agg [V.int IntKind.i64 (0), V.int IntKind.i64 (0), V.int IntKind.i64 (0), V.int IntKind.i64 (0), V.int IntKind.i64 (0), V.int IntKind.i64 (0), V.int IntKind.i64 (0), V.int IntKind.i64 (0), V.int IntKind.i64 (0), V.int IntKind.i64 (0), V.int IntKind.i64 (0), V.int IntKind.i64 (0), V.int IntKind.i64 (0), V.int IntKind.i64 (0), V.int IntKind.i64 (0), V.int IntKind.i64 (0), V.int IntKind.i64 (0), V.int IntKind.i64 (0), V.nl, V.nl, V.bool false, V.int IntKind.i64 (0), V.int IntKind.i64 (0), V.int IntKind.i64 (0), V.int IntKind.i64 (0), V.int IntKind.i64 (0), V.int IntKind.i64 (0), V.int IntKind.i64 (0), V.int IntKind.i64 (0), V.bool false]) := by kernel_rfl
@[simp] theorem placesT_39 : placesT Try.prog 39 = some [(0, 1), (1, 1), (2, 1), (3, 2), (5, 25)] := by kernel_rfl
@[simp] theorem under_39 : (Try.prog.underlying 39).isSome = true := by kernel_rfl
@[simp] theorem gty_39 : Try.prog.eqGuardType Try.prog.depth 39 = false := by kernel_rfl
@[simp] theorem fldT_39_0 : fldT Try.prog 39 0 = some (0, 3) := by kernel_rfl
@[simp] theorem fldT_39_1 : fldT Try.prog 39 1 = some (1, 3) := by kernel_rfl
@[simp] theorem fldT_39_2 : fldT Try.prog 39 2 = some (2, 3) := by kernel_rfl
@[simp] theorem fldT_39_3 : fldT Try.prog 39 3 = some (3, 25) := by kernel_rfl
@[simp] theorem fldT_39_4 : fldT Try.prog 39 4 = some (5, 37) := by kernel_rfl
@[simp] theorem sizeT_46 : sizeT Try.prog 46 = some 1 := by kernel_rfl
@[simp] theorem aggT_46 : aggT Try.prog 46 = some false := by kernel_rfl
@[simp] theorem elemT_46 : elemT Try.prog 46 = some 5 := by kernel_rfl
@[simp] theorem arrT_46 : arrT Try.prog 46 = none := by kernel_rfl
@[simp] theorem isInt_46 : isInt Try.prog 46 = none := by kernel_rfl
@[simp] theorem isStr_46 : isStr Try.prog 46 = false := by kernel_rfl
@[simp] theorem isBl_46 : isBl Try.prog 46 = false := by kernel_rfl
@[simp] theorem isPtr_46 : isPtr Try.prog 46 = false := by kernel_rfl
@[simp] theorem mapT_46 : mapT Try.prog 46 = none := by kernel_rfl
@[simp] theorem pairK_46 : pairK Try.prog 46 = false := by kernel_rfl
@[simp] theorem isIfc_46 : isIfc Try.prog 46 = some false := by kernel_rfl
@[simp] theorem bytesT_46 : bytesT Try.prog 46 = some 24 := by kernel_rfl
@[simp] theorem zeroVal_46 : zeroVal Try.prog 46 = some V.nl := by kernel_rfl
@[simp] theorem placesT_46 : placesT Try.prog 46 = none := by kernel_rfl
@[simp] theorem under_46 : (Try.prog.underlying 46).isSome = true := by kernel_rfl
@[simp] theorem gty_46 : Try.prog.eqGuardType Try.prog.depth 46 = false := by kernel_rfl
@[simp] theorem sizeT_47 : sizeT Try.prog 47 = some 1 := by kernel_rfl
@[simp] theorem aggT_47 : aggT Try.prog 47 = some false := by kernel_rfl
@[simp] theorem elemT_47 : elemT Try.prog 47 = none := by kernel_rfl
@[simp] theorem arrT_47 : arrT Try.prog 47 = none := by kernel_rfl
@[simp] theorem isInt_47 : isInt Try.prog 47 = some IntKind.i64 := by kernel_rfl
@[simp] theorem isStr_47 : isStr Try.prog 47 = false := by kernel_rfl
@[simp] theorem isBl_47 : isBl Try.prog 47 = false := by kernel_rfl
@[simp] theorem isPtr_47 : isPtr Try.prog 47 = false := by kernel_rfl
@[simp] theorem mapT_47 : mapT Try.prog 47 = none := by kernel_rfl
@[simp] theorem pairK_47 : pairK Try.prog 47 = false := by kernel_rfl
@[simp] theorem isIfc_47 : isIfc Try.prog 47 = some false := by kernel_rfl
@[simp] theorem bytesT_47 : bytesT Try.prog 47 = some 8 := by kernel_rfl
@[simp] theorem zeroVal_47 : zeroVal Try.prog 47 = some (V.int IntKind.i64 (0)) := by kernel_rfl
@[simp] theorem placesT_47 : placesT Try.prog 47 = none := by kernel_rfl
@[simp] theorem under_47 : (Try.prog.underlying 47).isSome = true := by kernel_rfl
@[simp] theorem gty_47 : Try.prog.eqGuardType Try.prog.depth 47 = false := by kernel_rfl
@[simp] theorem sizeT_67 : sizeT Try.prog 67 = some 65 := by kernel_rfl
@[simp] theorem aggT_67 : aggT Try.prog 67 = some true := by kernel_rfl
@[simp] theorem elemT_67 : elemT Try.prog 67 = none := by kernel_rfl
@[simp] theorem arrT_67 : arrT Try.prog 67 = none := by kernel_rfl
@[simp] theorem isInt_67 : isInt Try.prog 67 = none := by kernel_rfl
@[simp] theorem isStr_67 : isStr Try.prog 67 = false := by kernel_rfl
@[simp] theorem isBl_67 : isBl Try.prog 67 = false := by kernel_rfl
@[simp] theorem isPtr_67 : isPtr Try.prog 67 = false := by kernel_rfl
@[simp] theorem mapT_67 : mapT Try.prog 67 = none := by kernel_rfl
@[simp] theorem pairK_67 : pairK Try.prog 67 = false := by kernel_rfl
@[simp] theorem isIfc_67 : isIfc Try.prog 67 = some false := by kernel_rfl
@[simp] theorem bytesT_67 : bytesT Try.prog 67 = some 616 := by kernel_rfl
@[simp] theorem zeroVal_67 : zeroVal Try.prog 67 = some (V.agg [V.int IntKind.i64 (0), V.int IntKind.i64 (0), V.int IntKind.i64 (0), V.int IntKind.i64 (0), V.int IntKind.i64 (0), V.int IntKind.i64 (0), V.int IntKind.i64 (0), V.nl, V.nl, V.bool false, V.int IntKind.i64 (0), V.int IntKind.i64 (0), V.int IntKind.i64 (0), V.int IntKind.i64 (0), V.int IntKind.i64 (0), V.int IntKind.i64 (0), V.int IntKind.i64 (0), V.int IntKind.i64 (0), V.int IntKind.i64 (0), V.int IntKind.i64 (0), V.int IntKind.i64 (0), V.int IntKind.i64 (0), V.int IntKind.i64 (0), V.nl, V.nl, V.bool false, V.int IntKind.i64 (0), V.int IntKind.i64 (0), V.int IntKind.i64 (0), V.int IntKind.i64 (0), V.int IntKind.i64 (0), V.int IntKind.i64 (0), V.int IntKind.i64 (0), V.int IntKind.i64 (0), V.bool false, V.int IntKind.i64 (0), V.int IntKind.i64 (0), V.int IntKind.i64 (0), V.int IntKind.i64 (0), V.int IntKind.i64 (0), V.int IntKind.i64 (0), V.int IntKind.i64 (0), V.int IntKind.i64 (0), V.int IntKind.i64 (0), V.int IntKind.i64 (0), V.int IntKind.i64 (0), V.int IntKind.i64 (0), V.int IntKind.i64 (0), V.int IntKind.i64 (0), V.int IntKind.i64 (0), V.int IntKind.i64 (0), V.int IntKind.i64 (0), V.int IntKind.i64 (0), V.nl, V.nl, V.bool false, V.int IntKind.i64 (0), V.int IntKind.i64 (0), V.int IntKind.i64 (0), V.int IntKind.i64 (0), V.int IntKind.i64 (0), V.int IntKind.i64 (0), V.int IntKind.i64 (0), V.int IntKind.i64 (0), V.bool false]) := by kernel_rfl
@[simp] theorem placesT_67 : placesT Try.prog 67 = some [(0, 1), (1, 9), (10, 25), (35, 30)] := by kernel_rfl
@[simp] theorem under_67 : (Try.prog.underlying 67).isSome = true := by kernel_rfl
@[simp] theorem gty_67 : Try.prog.eqGuardType Try.prog.depth 67 = false := by kernel_rfl
@[simp] theorem fldT_67_0 : fldT Try.prog 67 0 = some (0, 3) := by kernel_rfl
@[simp] theorem fldT_67_1 : fldT Try.prog 67 1 = some (1, 33) := by kernel_rfl
@[simp] theorem fldT_67_2 : fldT Try.prog 67 2 = some (10, 37) := by kernel_rfl
@[simp] theorem fldT_67_3 : fldT Try.prog 67 3 = some (35, 39) := by kernel_rfl
@[simp] theorem sizeT_72 : sizeT Try.prog 72 = some 1 := by kernel_rfl
@[simp] theorem aggT_72 : aggT Try.prog 72 = some false := by kernel_rfl
@[simp] theorem elemT_72 : elemT Try.prog 72 = some 33 := by kernel_rfl
@[simp] theorem arrT_72 : arrT Try.prog 72 = none := by kernel_rfl
@[simp] theorem isInt_72 : isInt Try.prog 72 = none := by kernel_rfl
@[simp] theorem isStr_72 : isStr Try.prog 72 = false := by kernel_rfl
@[simp] theorem isBl_72 : isBl Try.prog 72 = false := by kernel_rfl
@[simp] theorem isPtr_72 : isPtr Try.prog 72 = false := by kernel_rfl
@[simp] theorem mapT_72 : mapT Try.prog 72 = none := by kernel_rfl
@[simp] theorem pairK_72 : pairK Try.prog 72 = false := by kernel_rfl
@[simp] theorem isIfc_72 : isIfc Try.prog 72 = some false := by kernel_rfl
@[simp] theorem bytesT_72 : bytesT Try.prog 72 = some 24 := by kernel_rfl
@[simp] theorem zeroVal_72 : zeroVal Try.prog 72 = some V.nl := by kernel_rfl
@[simp] theorem placesT_72 : placesT Try.prog 72 = none := by kernel_rfl
@[simp] theorem under_72 : (Try.prog.underlying 72).isSome = true := by kernel_rfl
@[simp] theorem gty_72 : Try.prog.eqGuardType Try.prog.depth 72 = false := by kernel_rfl
@[simp] theorem sizeT_74 : sizeT Try.prog 74 = some 3 := by kernel_rfl
@[simp] theorem aggT_74 : aggT Try.prog 74 = some true := by kernel_rfl
@[simp] theorem elemT_74 : elemT Try.prog 74 = none := by kernel_rfl
@[simp] theorem arrT_74 : arrT Try.prog 74 = none := by kernel_rfl
@[simp] theorem isInt_74 : isInt Try.prog 74 = none := by kernel_rfl
@[simp] theorem isStr_74 : isStr Try.prog 74 = false := by kernel_rfl
@[simp] theorem isBl_74 : isBl Try.prog 74 = false := by kernel_rfl
@[simp] theorem isPtr_74 : isPtr Try.prog 74 = false := by kernel_rfl
@[simp] theorem mapT_74 : mapT Try.prog 74 = none := by kernel_rfl
@[simp] theorem pairK_74 : pairK Try.prog 74 = false := by kernel_rfl
@[simp] theorem isIfc_74 : isIfc Try.prog 74 = some false := by kernel_rfl
@[simp] theorem bytesT_74 : bytesT Try.prog 74 = some 32 := by kernel_rfl
@[simp] theorem zeroVal_74 : zeroVal Try.prog 74 = some (V.agg [V.str ByteArray.empty, V.int IntKind.i64 (0), V.int IntKind.i64 (0)]) := by kernel_rfl
@[simp] theorem placesT_74 : placesT Try.prog 74 = some [(0, 1), (1, 2)] := by kernel_rfl
@[simp] theorem under_74 : (Try.prog.underlying 74).isSome = true := by kernel_rfl
@[simp] theorem gty_74 : Try.prog.eqGuardType Try.prog.depth 74 = false := by kernel_rfl
@[simp] theorem fldT_74_0 : fldT Try.prog 74 0 = some (0, 9) := by kernel_rfl
@[simp] theorem fldT_74_1 : fldT Try.prog 74 1 = some (1, 29) := by kernel_rfl
@[simp] theorem eqT_74 (xs ys : List V) (hx : xs.length = 3) (hy : ys.length = 3) : eqT Try.prog 40 74 xs ys = eqK ([LK.s, LK.i IntKind.i64, LK.i IntKind.i64]) xs ys := eqT_shape 40 74 _ (by kernel_rfl) xs ys hx hy
@[simp] theorem sizeT_76 : sizeT Try.prog 76 = some 2 := by kernel_rfl
@[simp] theorem aggT_76 : aggT Try.prog 76 = some true := by kernel_rfl
@[simp] theorem elemT_76 : elemT Try.prog 76 = none := by kernel_rfl
@[simp] theorem arrT_76 : arrT Try.prog 76 = none := by kernel_rfl
@[simp] theorem isInt_76 : isInt Try.prog 76 = none := by kernel_rfl
@[simp] theorem isStr_76 : isStr Try.prog 76 = false := by kernel_rfl
@[simp] theorem isBl_76 : isBl Try.prog 76 = false := by kernel_rfl
@[simp] theorem isPtr_76 : isPtr Try.prog 76 = false := by kernel_rfl
@[simp] theorem mapT_76 : mapT Try.prog 76 = none := by kernel_rfl
@[simp] theorem pairK_76 : pairK Try.prog 76 = false := by kernel_rfl
@[simp] theorem isIfc_76 : isIfc Try.prog 76 = some false := by kernel_rfl
@[simp] theorem bytesT_76 : bytesT Try.prog 76 = some 32 := by kernel_rfl
@[simp] theorem zeroVal_76 : zeroVal Try.prog 76 = some (V.agg [V.str ByteArray.empty, V.str ByteArray.empty]) := by kernel_rfl
@[simp] theorem placesT_76 : placesT Try.prog 76 = some [(0, 1), (1, 1)] := by kernel_rfl
@[simp] theorem under_76 : (Try.prog.underlying 76).isSome = true := by kernel_rfl
@[simp] theorem gty_76 : Try.prog.eqGuardType Try.prog.depth 76 = false := by kernel_rfl
@[simp] theorem fldT_76_0 : fldT Try.prog 76 0 = some (0, 9) := by kernel_rfl
@[simp] theorem fldT_76_1 : fldT Try.prog 76 1 = some (1, 9) := by kernel_rfl
@[simp] theorem eqT_76 (xs ys : List V) (hx : xs.length = 2) (hy : ys.length = 2) : eqT Try.prog 40 76 xs ys = eqK ([LK.s, LK.s]) xs ys := eqT_shape 40 76 _ (by kernel_rfl) xs ys hx hy
@[simp] theorem sizeT_89 : sizeT Try.prog 89 = some 1 := by kernel_rfl
@[simp] theorem aggT_89 : aggT Try.prog 89 = some false := by kernel_rfl
@[simp] theorem elemT_89 : elemT Try.prog 89 = some 9 := by kernel_rfl
@[simp] theorem arrT_89 : arrT Try.prog 89 = none := by kernel_rfl
@[simp] theorem isInt_89 : isInt Try.prog 89 = none := by kernel_rfl
@[simp] theorem isStr_89 : isStr Try.prog 89 = false := by kernel_rfl
@[simp] theorem isBl_89 : isBl Try.prog 89 = false := by kernel_rfl
@[simp] theorem isPtr_89 : isPtr Try.prog 89 = false := by kernel_rfl
@[simp] theorem mapT_89 : mapT Try.prog 89 = none := by kernel_rfl
@[simp] theorem pairK_89 : pairK Try.prog 89 = false := by kernel_rfl
@[simp] theorem isIfc_89 : isIfc Try.prog 89 = some false := by kernel_rfl
@[simp] theorem bytesT_89 : bytesT Try.prog 89 = some 24 := by kernel_rfl
@[simp] theorem zeroVal_89 : zeroVal Try.prog 89 = some V.nl := by kernel_rfl
@[simp] theorem placesT_89 : placesT Try.prog 89 = none := by kernel_rfl
@[simp] theorem under_89 : (Try.prog.underlying 89).isSome = true := by kernel_rfl
@[simp] theorem gty_89 : Try.prog.eqGuardType Try.prog.depth 89 = false := by kernel_rfl
@[simp] theorem sizeT_93 : sizeT Try.prog 93 = some 1 := by kernel_rfl
@[simp] theorem aggT_93 : aggT Try.prog 93 = some false := by kernel_rfl
@[simp] theorem elemT_93 : elemT Try.prog 93 = some 3 := by kernel_rfl
@[simp] theorem arrT_93 : arrT Try.prog 93 = none := by kernel_rfl
@[simp] theorem isInt_93 : isInt Try.prog 93 = none := by kernel_rfl
@[simp] theorem isStr_93 : isStr Try.prog 93 = false := by kernel_rfl
@[simp] theorem isBl_93 : isBl Try.prog 93 = false := by kernel_rfl
@[simp] theorem isPtr_93 : isPtr Try.prog 93 = false := by kernel_rfl
@[simp] theorem mapT_93 : mapT Try.prog 93 = none := by kernel_rfl
@[simp] theorem pairK_93 : pairK Try.prog 93 = false := by kernel_rfl
@[simp] theorem isIfc_93 : isIfc Try.prog 93 = some false := by kernel_rfl
@[simp] theorem bytesT_93 : bytesT Try.prog 93 = some 24 := by kernel_rfl
@[simp] theorem zeroVal_93 : zeroVal Try.prog 93 = some V.nl := by kernel_rfl
@[simp] theorem placesT_93 : placesT Try.prog 93 = none := by kernel_rfl
@[simp] theorem under_93 : (Try.prog.underlying 93).isSome = true := by kernel_rfl
@[simp] theorem gty_93 : Try.prog.eqGuardType Try.prog.depth 93 = false := by kernel_rfl
@[simp] theorem sizeT_96 : sizeT Try.prog 96 = some 1 := by kernel_rfl
@[simp] theorem aggT_96 : aggT Try.prog 96 = some false := by kernel_rfl
@[simp] theorem elemT_96 : elemT Try.prog 96 = none := by kernel_rfl
@[simp] theorem arrT_96 : arrT Try.prog 96 = none := by kernel_rfl
@[simp] theorem isInt_96 : isInt Try.prog 96 = none := by kernel_rfl
@[simp] theorem isStr_96 : isStr Try.prog 96 = false := by kernel_rfl
@[simp] theorem isBl_96 : isBl Try.prog 96 = false := by kernel_rfl
@[simp] theorem isPtr_96 : isPtr Try.prog 96 = true := by kernel_rfl
@[simp] theorem mapT_96 : mapT Try.prog 96 = none := by kernel_rfl
@[simp] theorem pairK_96 : pairK Try.prog 96 = false := by kernel_rfl
@[simp] theorem isIfc_96 : isIfc Try.prog 96 = some false := by kernel_rfl
@[simp] theorem bytesT_96 : bytesT Try.prog 96 = some 8 := by kernel_rfl
@[simp] theorem zeroVal_96 : zeroVal Try.prog 96 = some V.nilp := by kernel_rfl
@[simp] theorem placesT_96 : placesT Try.prog 96 = none := by kernel_rfl
@[simp] theorem under_96 : (Try.prog.underlying 96).isSome = true := by kernel_rfl
@[simp] theorem gty_96 : Try.prog.eqGuardType Try.prog.depth 96 = false := by kernel_rfl
@[simp] theorem sizeT_98 : sizeT Try.prog 98 = some 2 := by kernel_rfl
@[simp] theorem aggT_98 : aggT Try.prog 98 = some true := by kernel_rfl
@[simp] theorem elemT_98 : elemT Try.prog 98 = none := by kernel_rfl
@[simp] theorem arrT_98 : arrT Try.prog 98 = none := by kernel_rfl
@[simp] theorem isInt_98 : isInt Try.prog 98 = none := by kernel_rfl
@[simp] theorem isStr_98 : isStr Try.prog 98 = false := by kernel_rfl
@[simp] theorem isBl_98 : isBl Try.prog 98 = false := by kernel_rfl
@[simp] theorem isPtr_98 : isPtr Try.prog 98 = false := by kernel_rfl
@[simp] theorem mapT_98 : mapT Try.prog 98 = none := by kernel_rfl
@[simp] theorem pairK_98 : pairK Try.prog 98 = false := by kernel_rfl
@[simp] theorem isIfc_98 : isIfc Try.prog 98 = some false := by kernel_rfl
@[simp] theorem bytesT_98 : bytesT Try.prog 98 = some 32 := by kernel_rfl
@[simp] theorem zeroVal_98 : zeroVal Try.prog 98 = some (V.agg [V.nl, V.int IntKind.i64 (0)]) := by kernel_rfl
@[simp] theorem placesT_98 : placesT Try.prog 98 = some [(0, 1), (1, 1)] := by kernel_rfl
@[simp] theorem under_98 : (Try.prog.underlying 98).isSome = true := by kernel_rfl
@[simp] theorem gty_98 : Try.prog.eqGuardType Try.prog.depth 98 = false := by kernel_rfl
@[simp] theorem fldT_98_0 : fldT Try.prog 98 0 = some (0, 46) := by kernel_rfl
@[simp] theorem fldT_98_1 : fldT Try.prog 98 1 = some (1, 47) := by kernel_rfl
@[simp] theorem sizeT_105 : sizeT Try.prog 105 = some 2 := by kernel_rfl
@[simp] theorem aggT_105 : aggT Try.prog 105 = some true := by kernel_rfl
@[simp] theorem elemT_105 : elemT Try.prog 105 = none := by kernel_rfl
@[simp] theorem arrT_105 : arrT Try.prog 105 = none := by kernel_rfl
@[simp] theorem isInt_105 : isInt Try.prog 105 = none := by kernel_rfl
@[simp] theorem isStr_105 : isStr Try.prog 105 = false := by kernel_rfl
@[simp] theorem isBl_105 : isBl Try.prog 105 = false := by kernel_rfl
@[simp] theorem isPtr_105 : isPtr Try.prog 105 = false := by kernel_rfl
@[simp] theorem mapT_105 : mapT Try.prog 105 = none := by kernel_rfl
@[simp] theorem pairK_105 : pairK Try.prog 105 = false := by kernel_rfl
@[simp] theorem isIfc_105 : isIfc Try.prog 105 = some false := by kernel_rfl
@[simp] theorem bytesT_105 : bytesT Try.prog 105 = some 32 := by kernel_rfl
@[simp] theorem zeroVal_105 : zeroVal Try.prog 105 = some (V.agg [V.nl, V.int IntKind.i64 (0)]) := by kernel_rfl
@[simp] theorem placesT_105 : placesT Try.prog 105 = some [(0, 1), (1, 1)] := by kernel_rfl
@[simp] theorem under_105 : (Try.prog.underlying 105).isSome = true := by kernel_rfl
@[simp] theorem gty_105 : Try.prog.eqGuardType Try.prog.depth 105 = false := by kernel_rfl
@[simp] theorem fldT_105_0 : fldT Try.prog 105 0 = some (0, 46) := by kernel_rfl
@[simp] theorem fldT_105_1 : fldT Try.prog 105 1 = some (1, 47) := by kernel_rfl
@[simp] theorem sizeT_130 : sizeT Try.prog 130 = some 1 := by kernel_rfl
@[simp] theorem aggT_130 : aggT Try.prog 130 = some false := by kernel_rfl
@[simp] theorem elemT_130 : elemT Try.prog 130 = none := by kernel_rfl
@[simp] theorem arrT_130 : arrT Try.prog 130 = none := by kernel_rfl
@[simp] theorem isInt_130 : isInt Try.prog 130 = none := by kernel_rfl
@[simp] theorem isStr_130 : isStr Try.prog 130 = false := by kernel_rfl
@[simp] theorem isBl_130 : isBl Try.prog 130 = false := by kernel_rfl
@[simp] theorem isPtr_130 : isPtr Try.prog 130 = true := by kernel_rfl
@[simp] theorem mapT_130 : mapT Try.prog 130 = none := by kernel_rfl
@[simp] theorem pairK_130 : pairK Try.prog 130 = false := by kernel_rfl
@[simp] theorem isIfc_130 : isIfc Try.prog 130 = some false := by kernel_rfl
@[simp] theorem bytesT_130 : bytesT Try.prog 130 = some 8 := by kernel_rfl
@[simp] theorem zeroVal_130 : zeroVal Try.prog 130 = some V.nilp := by kernel_rfl
@[simp] theorem placesT_130 : placesT Try.prog 130 = none := by kernel_rfl
@[simp] theorem under_130 : (Try.prog.underlying 130).isSome = true := by kernel_rfl
@[simp] theorem gty_130 : Try.prog.eqGuardType Try.prog.depth 130 = false := by kernel_rfl
@[simp] theorem sizeT_137 : sizeT Try.prog 137 = some 1 := by kernel_rfl
@[simp] theorem aggT_137 : aggT Try.prog 137 = some false := by kernel_rfl
@[simp] theorem elemT_137 : elemT Try.prog 137 = some 130 := by kernel_rfl
@[simp] theorem arrT_137 : arrT Try.prog 137 = none := by kernel_rfl
@[simp] theorem isInt_137 : isInt Try.prog 137 = none := by kernel_rfl
@[simp] theorem isStr_137 : isStr Try.prog 137 = false := by kernel_rfl
@[simp] theorem isBl_137 : isBl Try.prog 137 = false := by kernel_rfl
@[simp] theorem isPtr_137 : isPtr Try.prog 137 = false := by kernel_rfl
@[simp] theorem mapT_137 : mapT Try.prog 137 = none := by kernel_rfl
@[simp] theorem pairK_137 : pairK Try.prog 137 = false := by kernel_rfl
@[simp] theorem isIfc_137 : isIfc Try.prog 137 = some false := by kernel_rfl
@[simp] theorem bytesT_137 : bytesT Try.prog 137 = some 24 := by kernel_rfl
@[simp] theorem zeroVal_137 : zeroVal Try.prog 137 = some V.nl := by kernel_rfl
@[simp] theorem placesT_137 : placesT Try.prog 137 = none := by kernel_rfl
@[simp] theorem under_137 : (Try.prog.underlying 137).isSome = true := by kernel_rfl
@[simp] theorem gty_137 : Try.prog.eqGuardType Try.prog.depth 137 = false := by kernel_rfl
@[simp] theorem mixed : Try.prog.follows .mixedOrders = true := by kernel_rfl
theorem dOk : DrawsOk Try.prog (drawsP Try.prog) := drawsP_ok mixed
end Go.Proofs.Ytalkadbpdaoifaa.AX
