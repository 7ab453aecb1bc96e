/- What the walk asks of the program's types. -/
import Derived.Test.YtnchceblpogpmaaMgC
import Derived.Test.YtnchceblpogpmaaProg
namespace Go.Proofs.Ytnchceblpogpmaa.AX
open Go Go.RowKit
set_option linter.unusedSimpArgs false
@[simp] theorem sizeT_0 : sizeT Try.prog 0 = some 1 := by kernel_rfl
@[simp] theorem aggT_0 : aggT Try.prog 0 = some false := by kernel_rfl
@[simp] theorem elemT_0 : elemT Try.prog 0 = none := by kernel_rfl
@[simp] theorem arrT_0 : arrT Try.prog 0 = none := by kernel_rfl
@[simp] theorem isInt_0 : isInt Try.prog 0 = none := by kernel_rfl
@[simp] theorem isStr_0 : isStr Try.prog 0 = false := by kernel_rfl
@[simp] theorem isBl_0 : isBl Try.prog 0 = false := by kernel_rfl
@[simp] theorem isPtr_0 : isPtr Try.prog 0 = false := by kernel_rfl
@[simp] theorem mapT_0 : mapT Try.prog 0 = none := by kernel_rfl
@[simp] theorem isIfc_0 : isIfc Try.prog 0 = some false := by kernel_rfl
@[simp] theorem bytesT_0 : bytesT Try.prog 0 = some 0 := by kernel_rfl
@[simp] theorem placesT_0 : placesT Try.prog 0 = none := by kernel_rfl
@[simp] theorem under_0 : (Try.prog.underlying 0).isSome = true := by kernel_rfl
@[simp] theorem gty_0 : Try.prog.eqGuardType Try.prog.depth 0 = false := by kernel_rfl
@[simp] theorem sizeT_1 : sizeT Try.prog 1 = some 1 := by kernel_rfl
@[simp] theorem aggT_1 : aggT Try.prog 1 = some false := by kernel_rfl
@[simp] theorem elemT_1 : elemT Try.prog 1 = none := by kernel_rfl
@[simp] theorem arrT_1 : arrT Try.prog 1 = none := by kernel_rfl
@[simp] theorem isInt_1 : isInt Try.prog 1 = none := by kernel_rfl
@[simp] theorem isStr_1 : isStr Try.prog 1 = false := by kernel_rfl
@[simp] theorem isBl_1 : isBl Try.prog 1 = false := by kernel_rfl
@[simp] theorem isPtr_1 : isPtr Try.prog 1 = false := by kernel_rfl
@[simp] theorem mapT_1 : mapT Try.prog 1 = none := by kernel_rfl
@[simp] theorem isIfc_1 : isIfc Try.prog 1 = some false := by kernel_rfl
@[simp] theorem bytesT_1 : bytesT Try.prog 1 = some 8 := by kernel_rfl
@[simp] theorem zeroVal_1 : zeroVal Try.prog 1 = some V.nilf := by kernel_rfl
@[simp] theorem placesT_1 : placesT Try.prog 1 = none := by kernel_rfl
@[simp] theorem under_1 : (Try.prog.underlying 1).isSome = true := by kernel_rfl
@[simp] theorem gty_1 : Try.prog.eqGuardType Try.prog.depth 1 = false := by kernel_rfl
@[simp] theorem sizeT_2 : sizeT Try.prog 2 = some 1 := by kernel_rfl
@[simp] theorem aggT_2 : aggT Try.prog 2 = some false := by kernel_rfl
@[simp] theorem elemT_2 : elemT Try.prog 2 = none := by kernel_rfl
@[simp] theorem arrT_2 : arrT Try.prog 2 = none := by kernel_rfl
@[simp] theorem isInt_2 : isInt Try.prog 2 = some IntKind.i64 := by kernel_rfl
@[simp] theorem isStr_2 : isStr Try.prog 2 = false := by kernel_rfl
@[simp] theorem isBl_2 : isBl Try.prog 2 = false := by kernel_rfl
@[simp] theorem isPtr_2 : isPtr Try.prog 2 = false := by kernel_rfl
@[simp] theorem mapT_2 : mapT Try.prog 2 = none := by kernel_rfl
@[simp] theorem isIfc_2 : isIfc Try.prog 2 = some false := by kernel_rfl
@[simp] theorem bytesT_2 : bytesT Try.prog 2 = some 8 := by kernel_rfl
@[simp] theorem zeroVal_2 : zeroVal Try.prog 2 = some (V.int IntKind.i64 (0)) := by kernel_rfl
@[simp] theorem placesT_2 : placesT Try.prog 2 = none := by kernel_rfl
@[simp] theorem under_2 : (Try.prog.underlying 2).isSome = true := by kernel_rfl
@[simp] theorem gty_2 : Try.prog.eqGuardType Try.prog.depth 2 = false := by kernel_rfl
@[simp] theorem sizeT_3 : sizeT Try.prog 3 = some 1 := by kernel_rfl
@[simp] theorem aggT_3 : aggT Try.prog 3 = some false := by kernel_rfl
@[simp] theorem elemT_3 : elemT Try.prog 3 = none := by kernel_rfl
@[simp] theorem arrT_3 : arrT Try.prog 3 = none := by kernel_rfl
@[simp] theorem isInt_3 : isInt Try.prog 3 = some IntKind.i64 := by kernel_rfl
@[simp] theorem isStr_3 : isStr Try.prog 3 = false := by kernel_rfl
@[simp] theorem isBl_3 : isBl Try.prog 3 = false := by kernel_rfl
@[simp] theorem isPtr_3 : isPtr Try.prog 3 = false := by kernel_rfl
@[simp] theorem mapT_3 : mapT Try.prog 3 = none := by kernel_rfl
@[simp] theorem isIfc_3 : isIfc Try.prog 3 = some false := by kernel_rfl
@[simp] theorem bytesT_3 : bytesT Try.prog 3 = some 8 := by kernel_rfl
@[simp] theorem zeroVal_3 : zeroVal Try.prog 3 = some (V.int IntKind.i64 (0)) := by kernel_rfl
@[simp] theorem placesT_3 : placesT Try.prog 3 = none := by kernel_rfl
@[simp] theorem under_3 : (Try.prog.underlying 3).isSome = true := by kernel_rfl
@[simp] theorem gty_3 : Try.prog.eqGuardType Try.prog.depth 3 = false := by kernel_rfl
@[simp] theorem sizeT_4 : sizeT Try.prog 4 = some 1 := by kernel_rfl
@[simp] theorem aggT_4 : aggT Try.prog 4 = some false := by kernel_rfl
@[simp] theorem elemT_4 : elemT Try.prog 4 = none := by kernel_rfl
@[simp] theorem arrT_4 : arrT Try.prog 4 = none := by kernel_rfl
@[simp] theorem isInt_4 : isInt Try.prog 4 = none := by kernel_rfl
@[simp] theorem isStr_4 : isStr Try.prog 4 = false := by kernel_rfl
@[simp] theorem isBl_4 : isBl Try.prog 4 = true := by kernel_rfl
@[simp] theorem isPtr_4 : isPtr Try.prog 4 = false := by kernel_rfl
@[simp] theorem mapT_4 : mapT Try.prog 4 = none := by kernel_rfl
@[simp] theorem isIfc_4 : isIfc Try.prog 4 = some false := by kernel_rfl
@[simp] theorem bytesT_4 : bytesT Try.prog 4 = some 1 := by kernel_rfl
@[simp] theorem zeroVal_4 : zeroVal Try.prog 4 = some (V.bool false) := by kernel_rfl
@[simp] theorem placesT_4 : placesT Try.prog 4 = none := by kernel_rfl
@[simp] theorem under_4 : (Try.prog.underlying 4).isSome = true := by kernel_rfl
@[simp] theorem gty_4 : Try.prog.eqGuardType Try.prog.depth 4 = false := by kernel_rfl
@[simp] theorem sizeT_5 : sizeT Try.prog 5 = some 1 := by kernel_rfl
@[simp] theorem aggT_5 : aggT Try.prog 5 = some false := by kernel_rfl
@[simp] theorem elemT_5 : elemT Try.prog 5 = none := by kernel_rfl
@[simp] theorem arrT_5 : arrT Try.prog 5 = none := by kernel_rfl
@[simp] theorem isInt_5 : isInt Try.prog 5 = some IntKind.u8 := by kernel_rfl
@[simp] theorem isStr_5 : isStr Try.prog 5 = false := by kernel_rfl
@[simp] theorem isBl_5 : isBl Try.prog 5 = false := by kernel_rfl
@[simp] theorem isPtr_5 : isPtr Try.prog 5 = false := by kernel_rfl
@[simp] theorem mapT_5 : mapT Try.prog 5 = none := by kernel_rfl
@[simp] theorem isIfc_5 : isIfc Try.prog 5 = some false := by kernel_rfl
@[simp] theorem bytesT_5 : bytesT Try.prog 5 = some 1 := by kernel_rfl
@[simp] theorem zeroVal_5 : zeroVal Try.prog 5 = some (V.int IntKind.u8 (0)) := by kernel_rfl
@[simp] theorem placesT_5 : placesT Try.prog 5 = none := by kernel_rfl
@[simp] theorem under_5 : (Try.prog.underlying 5).isSome = true := by kernel_rfl
@[simp] theorem gty_5 : Try.prog.eqGuardType Try.prog.depth 5 = false := by kernel_rfl
@[simp] theorem sizeT_9 : sizeT Try.prog 9 = some 1 := by kernel_rfl
@[simp] theorem aggT_9 : aggT Try.prog 9 = some false := by kernel_rfl
@[simp] theorem elemT_9 : elemT Try.prog 9 = none := by kernel_rfl
@[simp] theorem arrT_9 : arrT Try.prog 9 = none := by kernel_rfl
@[simp] theorem isInt_9 : isInt Try.prog 9 = none := by kernel_rfl
@[simp] theorem isStr_9 : isStr Try.prog 9 = true := by kernel_rfl
@[simp] theorem isBl_9 : isBl Try.prog 9 = false := by kernel_rfl
@[simp] theorem isPtr_9 : isPtr Try.prog 9 = false := by kernel_rfl
@[simp] theorem mapT_9 : mapT Try.prog 9 = none := by kernel_rfl
@[simp] theorem isIfc_9 : isIfc Try.prog 9 = some false := by kernel_rfl
@[simp] theorem bytesT_9 : bytesT Try.prog 9 = some 16 := by kernel_rfl
@[simp] theorem zeroVal_9 : zeroVal Try.prog 9 = some (V.str ByteArray.empty) := by kernel_rfl
@[simp] theorem placesT_9 : placesT Try.prog 9 = none := by kernel_rfl
@[simp] theorem under_9 : (Try.prog.underlying 9).isSome = true := by kernel_rfl
@[simp] theorem gty_9 : Try.prog.eqGuardType Try.prog.depth 9 = false := by kernel_rfl
@[simp] theorem sizeT_23 : sizeT Try.prog 23 = some 2 := by kernel_rfl
@[simp] theorem aggT_23 : aggT Try.prog 23 = some true := by kernel_rfl
@[simp] theorem elemT_23 : elemT Try.prog 23 = none := by kernel_rfl
@[simp] theorem arrT_23 : arrT Try.prog 23 = none := by kernel_rfl
@[simp] theorem isInt_23 : isInt Try.prog 23 = none := by kernel_rfl
@[simp] theorem isStr_23 : isStr Try.prog 23 = false := by kernel_rfl
@[simp] theorem isBl_23 : isBl Try.prog 23 = false := by kernel_rfl
@[simp] theorem isPtr_23 : isPtr Try.prog 23 = false := by kernel_rfl
@[simp] theorem mapT_23 : mapT Try.prog 23 = none := by kernel_rfl
@[simp] theorem isIfc_23 : isIfc Try.prog 23 = some false := by kernel_rfl
@[simp] theorem bytesT_23 : bytesT Try.prog 23 = some 16 := by kernel_rfl
@[simp] theorem zeroVal_23 : zeroVal Try.prog 23 = some (V.agg [V.int IntKind.i64 (0), V.int IntKind.i64 (0)]) := by kernel_rfl
@[simp] theorem placesT_23 : placesT Try.prog 23 = some [(0, 1), (1, 1)] := by kernel_rfl
@[simp] theorem under_23 : (Try.prog.underlying 23).isSome = true := by kernel_rfl
@[simp] theorem gty_23 : Try.prog.eqGuardType Try.prog.depth 23 = false := by kernel_rfl
@[simp] theorem fldT_23_0 : fldT Try.prog 23 0 = some (0, 3) := by kernel_rfl
@[simp] theorem fldT_23_1 : fldT Try.prog 23 1 = some (1, 3) := by kernel_rfl
@[simp] theorem eqT_23 (xs ys : List V) (hx : xs.length = 2) (hy : ys.length = 2) : eqT Try.prog 40 23 xs ys = eqK ([LK.i IntKind.i64, LK.i IntKind.i64]) xs ys := eqT_shape 40 23 _ (by kernel_rfl) xs ys hx hy
@[simp] theorem sizeT_24 : sizeT Try.prog 24 = some 1 := by kernel_rfl
@[simp] theorem aggT_24 : aggT Try.prog 24 = some false := by kernel_rfl
@[simp] theorem elemT_24 : elemT Try.prog 24 = some 56 := by kernel_rfl
@[simp] theorem arrT_24 : arrT Try.prog 24 = none := by kernel_rfl
@[simp] theorem isInt_24 : isInt Try.prog 24 = none := by kernel_rfl
@[simp] theorem isStr_24 : isStr Try.prog 24 = false := by kernel_rfl
@[simp] theorem isBl_24 : isBl Try.prog 24 = false := by kernel_rfl
@[simp] theorem isPtr_24 : isPtr Try.prog 24 = false := by kernel_rfl
@[simp] theorem mapT_24 : mapT Try.prog 24 = none := by kernel_rfl
@[simp] theorem isIfc_24 : isIfc Try.prog 24 = some false := by kernel_rfl
@[simp] theorem bytesT_24 : bytesT Try.prog 24 = some 24 := by kernel_rfl
@[simp] theorem zeroVal_24 : zeroVal Try.prog 24 = some V.nl := by kernel_rfl
@[simp] theorem placesT_24 : placesT Try.prog 24 = none := by kernel_rfl
@[simp] theorem under_24 : (Try.prog.underlying 24).isSome = true := by kernel_rfl
@[simp] theorem gty_24 : Try.prog.eqGuardType Try.prog.depth 24 = false := by kernel_rfl
@[simp] theorem sizeT_28 : sizeT Try.prog 28 = some 2 := by kernel_rfl
@[simp] theorem aggT_28 : aggT Try.prog 28 = some true := by kernel_rfl
@[simp] theorem elemT_28 : elemT Try.prog 28 = none := by kernel_rfl
@[simp] theorem arrT_28 : arrT Try.prog 28 = none := by kernel_rfl
@[simp] theorem isInt_28 : isInt Try.prog 28 = none := by kernel_rfl
@[simp] theorem isStr_28 : isStr Try.prog 28 = false := by kernel_rfl
@[simp] theorem isBl_28 : isBl Try.prog 28 = false := by kernel_rfl
@[simp] theorem isPtr_28 : isPtr Try.prog 28 = false := by kernel_rfl
@[simp] theorem mapT_28 : mapT Try.prog 28 = none := by kernel_rfl
@[simp] theorem isIfc_28 : isIfc Try.prog 28 = some false := by kernel_rfl
@[simp] theorem bytesT_28 : bytesT Try.prog 28 = some 16 := by kernel_rfl
@[simp] theorem zeroVal_28 : zeroVal Try.prog 28 = some (V.agg [V.int IntKind.i64 (0), V.int IntKind.i64 (0)]) := by kernel_rfl
@[simp] theorem placesT_28 : placesT Try.prog 28 = some [(0, 1), (1, 1)] := by kernel_rfl
@[simp] theorem under_28 : (Try.prog.underlying 28).isSome = true := by kernel_rfl
@[simp] theorem gty_28 : Try.prog.eqGuardType Try.prog.depth 28 = false := by kernel_rfl
@[simp] theorem fldT_28_0 : fldT Try.prog 28 0 = some (0, 3) := by kernel_rfl
@[simp] theorem fldT_28_1 : fldT Try.prog 28 1 = some (1, 3) := by kernel_rfl
@[simp] theorem eqT_28 (xs ys : List V) (hx : xs.length = 2) (hy : ys.length = 2) : eqT Try.prog 40 28 xs ys = eqK ([LK.i IntKind.i64, LK.i IntKind.i64]) xs ys := eqT_shape 40 28 _ (by kernel_rfl) xs ys hx hy
@[simp] theorem sizeT_30 : sizeT Try.prog 30 = some 2 := by kernel_rfl
@[simp] theorem aggT_30 : aggT Try.prog 30 = some true := by kernel_rfl
@[simp] theorem elemT_30 : elemT Try.prog 30 = none := by kernel_rfl
@[simp] theorem arrT_30 : arrT Try.prog 30 = none := by kernel_rfl
@[simp] theorem isInt_30 : isInt Try.prog 30 = none := by kernel_rfl
@[simp] theorem isStr_30 : isStr Try.prog 30 = false := by kernel_rfl
@[simp] theorem isBl_30 : isBl Try.prog 30 = false := by kernel_rfl
@[simp] theorem isPtr_30 : isPtr Try.prog 30 = false := by kernel_rfl
@[simp] theorem mapT_30 : mapT Try.prog 30 = none := by kernel_rfl
@[simp] theorem isIfc_30 : isIfc Try.prog 30 = some false := by kernel_rfl
@[simp] theorem bytesT_30 : bytesT Try.prog 30 = some 16 := by kernel_rfl
@[simp] theorem zeroVal_30 : zeroVal Try.prog 30 = some (V.agg [V.int IntKind.i64 (0), V.int IntKind.i64 (0)]) := by kernel_rfl
@[simp] theorem placesT_30 : placesT Try.prog 30 = some [(0, 1), (1, 1)] := by kernel_rfl
@[simp] theorem under_30 : (Try.prog.underlying 30).isSome = true := by kernel_rfl
@[simp] theorem gty_30 : Try.prog.eqGuardType Try.prog.depth 30 = false := by kernel_rfl
@[simp] theorem fldT_30_0 : fldT Try.prog 30 0 = some (0, 3) := by kernel_rfl
@[simp] theorem fldT_30_1 : fldT Try.prog 30 1 = some (1, 3) := by kernel_rfl
@[simp] theorem eqT_30 (xs ys : List V) (hx : xs.length = 2) (hy : ys.length = 2) : eqT Try.prog 40 30 xs ys = eqK ([LK.i IntKind.i64, LK.i IntKind.i64]) xs ys := eqT_shape 40 30 _ (by kernel_rfl) xs ys hx hy
@[simp] theorem sizeT_32 : sizeT Try.prog 32 = some 2 := by kernel_rfl
@[simp] theorem aggT_32 : aggT Try.prog 32 = some true := by kernel_rfl
@[simp] theorem elemT_32 : elemT Try.prog 32 = none := by kernel_rfl
@[simp] theorem arrT_32 : arrT Try.prog 32 = none := by kernel_rfl
@[simp] theorem isInt_32 : isInt Try.prog 32 = none := by kernel_rfl
@[simp] theorem isStr_32 : isStr Try.prog 32 = false := by kernel_rfl
@[simp] theorem isBl_32 : isBl Try.prog 32 = false := by kernel_rfl
@[simp] theorem isPtr_32 : isPtr Try.prog 32 = false := by kernel_rfl
@[simp] theorem mapT_32 : mapT Try.prog 32 = none := by kernel_rfl
@[simp] theorem isIfc_32 : isIfc Try.prog 32 = some false := by kernel_rfl
@[simp] theorem bytesT_32 : bytesT Try.prog 32 = some 16 := by kernel_rfl
@[simp] theorem zeroVal_32 : zeroVal Try.prog 32 = some (V.agg [V.int IntKind.i64 (0), V.int IntKind.i64 (0)]) := by kernel_rfl
@[simp] theorem placesT_32 : placesT Try.prog 32 = some [(0, 1), (1, 1)] := by kernel_rfl
@[simp] theorem under_32 : (Try.prog.underlying 32).isSome = true := by kernel_rfl
@[simp] theorem gty_32 : Try.prog.eqGuardType Try.prog.depth 32 = false := by kernel_rfl
@[simp] theorem fldT_32_0 : fldT Try.prog 32 0 = some (0, 3) := by kernel_rfl
@[simp] theorem fldT_32_1 : fldT Try.prog 32 1 = some (1, 3) := by kernel_rfl
@[simp] theorem eqT_32 (xs ys : List V) (hx : xs.length = 2) (hy : ys.length = 2) : eqT Try.prog 40 32 xs ys = eqK ([LK.i IntKind.i64, LK.i IntKind.i64]) xs ys := eqT_shape 40 32 _ (by kernel_rfl) xs ys hx hy
@[simp] theorem sizeT_33 : sizeT Try.prog 33 = some 1 := by kernel_rfl
@[simp] theorem aggT_33 : aggT Try.prog 33 = some false := by kernel_rfl
@[simp] theorem elemT_33 : elemT Try.prog 33 = some 80 := by kernel_rfl
@[simp] theorem arrT_33 : arrT Try.prog 33 = none := by kernel_rfl
@[simp] theorem isInt_33 : isInt Try.prog 33 = none := by kernel_rfl
@[simp] theorem isStr_33 : isStr Try.prog 33 = false := by kernel_rfl
@[simp] theorem isBl_33 : isBl Try.prog 33 = false := by kernel_rfl
@[simp] theorem isPtr_33 : isPtr Try.prog 33 = false := by kernel_rfl
@[simp] theorem mapT_33 : mapT Try.prog 33 = none := by kernel_rfl
@[simp] theorem isIfc_33 : isIfc Try.prog 33 = some false := by kernel_rfl
@[simp] theorem bytesT_33 : bytesT Try.prog 33 = some 24 := by kernel_rfl
@[simp] theorem zeroVal_33 : zeroVal Try.prog 33 = some V.nl := by kernel_rfl
@[simp] theorem placesT_33 : placesT Try.prog 33 = none := by kernel_rfl
@[simp] theorem under_33 : (Try.prog.underlying 33).isSome = true := by kernel_rfl
@[simp] theorem gty_33 : Try.prog.eqGuardType Try.prog.depth 33 = false := by kernel_rfl
@[simp] theorem sizeT_34 : sizeT Try.prog 34 = some 1 := by kernel_rfl
@[simp] theorem aggT_34 : aggT Try.prog 34 = some false := by kernel_rfl
@[simp] theorem elemT_34 : elemT Try.prog 34 = some 82 := by kernel_rfl
@[simp] theorem arrT_34 : arrT Try.prog 34 = none := by kernel_rfl
@[simp] theorem isInt_34 : isInt Try.prog 34 = none := by kernel_rfl
@[simp] theorem isStr_34 : isStr Try.prog 34 = false := by kernel_rfl
@[simp] theorem isBl_34 : isBl Try.prog 34 = false := by kernel_rfl
@[simp] theorem isPtr_34 : isPtr Try.prog 34 = false := by kernel_rfl
@[simp] theorem mapT_34 : mapT Try.prog 34 = none := by kernel_rfl
@[simp] theorem isIfc_34 : isIfc Try.prog 34 = some false := by kernel_rfl
@[simp] theorem bytesT_34 : bytesT Try.prog 34 = some 24 := by kernel_rfl
@[simp] theorem zeroVal_34 : zeroVal Try.prog 34 = some V.nl := by kernel_rfl
@[simp] theorem placesT_34 : placesT Try.prog 34 = none := by kernel_rfl
@[simp] theorem under_34 : (Try.prog.underlying 34).isSome = true := by kernel_rfl
@[simp] theorem gty_34 : Try.prog.eqGuardType Try.prog.depth 34 = false := by kernel_rfl
@[simp] theorem sizeT_36 : sizeT Try.prog 36 = some 9 := by kernel_rfl
@[simp] theorem aggT_36 : aggT Try.prog 36 = some true := by kernel_rfl
@[simp] theorem elemT_36 : elemT Try.prog 36 = none := by kernel_rfl
@[simp] theorem arrT_36 : arrT Try.prog 36 = none := by kernel_rfl
@[simp] theorem isInt_36 : isInt Try.prog 36 = none := by kernel_rfl
@[simp] theorem isStr_36 : isStr Try.prog 36 = false := by kernel_rfl
@[simp] theorem isBl_36 : isBl Try.prog 36 = false := by kernel_rfl
@[simp] theorem isPtr_36 : isPtr Try.prog 36 = false := by kernel_rfl
@[simp] theorem mapT_36 : mapT Try.prog 36 = none := by kernel_rfl
@[simp] theorem isIfc_36 : isIfc Try.prog 36 = some false := by kernel_rfl
@[simp] theorem bytesT_36 : bytesT Try.prog 36 = some 104 := by kernel_rfl
@[simp] theorem zeroVal_36 : zeroVal Try.prog 36 = some (V.agg [V.int IntKind.i64 (0), V.int IntKind.i64 (0), V.int IntKind.i64 (0), V.int IntKind.i64 (0), V.int IntKind.i64 (0), V.int IntKind.i64 (0), V.nl, V.nl, V.bool false]) := by kernel_rfl
@[simp] theorem placesT_36 : placesT Try.prog 36 = some [(0, 1), (1, 2), (3, 2), (5, 1), (6, 1), (7, 1), (8, 1)] := by kernel_rfl
@[simp] theorem under_36 : (Try.prog.underlying 36).isSome = true := by kernel_rfl
@[simp] theorem gty_36 : Try.prog.eqGuardType Try.prog.depth 36 = false := by kernel_rfl
@[simp] theorem fldT_36_0 : fldT Try.prog 36 0 = some (0, 3) := by kernel_rfl
@[simp] theorem fldT_36_1 : fldT Try.prog 36 1 = some (1, 30) := by kernel_rfl
@[simp] theorem fldT_36_2 : fldT Try.prog 36 2 = some (3, 32) := by kernel_rfl
@[simp] theorem fldT_36_3 : fldT Try.prog 36 3 = some (5, 3) := by kernel_rfl
@[simp] theorem fldT_36_4 : fldT Try.prog 36 4 = some (6, 33) := by kernel_rfl
@[simp] theorem fldT_36_5 : fldT Try.prog 36 5 = some (7, 34) := by kernel_rfl
@[simp] theorem fldT_36_6 : fldT Try.prog 36 6 = some (8, 4) := by kernel_rfl
@[simp] theorem sizeT_38 : sizeT Try.prog 38 = some 7 := by kernel_rfl
@[simp] theorem aggT_38 : aggT Try.prog 38 = some true := by kernel_rfl
@[simp] theorem elemT_38 : elemT Try.prog 38 = none := by kernel_rfl
@[simp] theorem arrT_38 : arrT Try.prog 38 = some (7, 3) := by kernel_rfl
@[simp] theorem isInt_38 : isInt Try.prog 38 = none := by kernel_rfl
@[simp] theorem isStr_38 : isStr Try.prog 38 = false := by kernel_rfl
@[simp] theorem isBl_38 : isBl Try.prog 38 = false := by kernel_rfl
@[simp] theorem isPtr_38 : isPtr Try.prog 38 = false := by kernel_rfl
@[simp] theorem mapT_38 : mapT Try.prog 38 = none := by kernel_rfl
@[simp] theorem isIfc_38 : isIfc Try.prog 38 = some false := by kernel_rfl
@[simp] theorem bytesT_38 : bytesT Try.prog 38 = some 56 := by kernel_rfl
@[simp] theorem zeroVal_38 : zeroVal Try.prog 38 = some (V.agg [V.int IntKind.i64 (0), V.int IntKind.i64 (0), V.int IntKind.i64 (0), V.int IntKind.i64 (0), V.int IntKind.i64 (0), V.int IntKind.i64 (0), V.int IntKind.i64 (0)]) := by kernel_rfl
@[simp] theorem placesT_38 : placesT Try.prog 38 = none := by kernel_rfl
@[simp] theorem under_38 : (Try.prog.underlying 38).isSome = true := by kernel_rfl
@[simp] theorem gty_38 : Try.prog.eqGuardType Try.prog.depth 38 = false := by kernel_rfl
@[simp] theorem eqT_38 (xs ys : List V) (hx : xs.length = 7) (hy : ys.length = 7) : eqT Try.prog 40 38 xs ys = eqK ([LK.i IntKind.i64, LK.i IntKind.i64, LK.i IntKind.i64, LK.i IntKind.i64, LK.i IntKind.i64, LK.i IntKind.i64, LK.i IntKind.i64]) xs ys := eqT_shape 40 38 _ (by kernel_rfl) xs ys hx hy
@[simp] theorem sizeT_40 : sizeT Try.prog 40 = some 25 := by kernel_rfl
@[simp] theorem aggT_40 : aggT Try.prog 40 = some true := by kernel_rfl
@[simp] theorem elemT_40 : elemT Try.prog 40 = none := by kernel_rfl
@[simp] theorem arrT_40 : arrT Try.prog 40 = none := by kernel_rfl
@[simp] theorem isInt_40 : isInt Try.prog 40 = none := by kernel_rfl
@[simp] theorem isStr_40 : isStr Try.prog 40 = false := by kernel_rfl
@[simp] theorem isBl_40 : isBl Try.prog 40 = false := by kernel_rfl
@[simp] theorem isPtr_40 : isPtr Try.prog 40 = false := by kernel_rfl
@[simp] theorem mapT_40 : mapT Try.prog 40 = none := by kernel_rfl
@[simp] theorem isIfc_40 : isIfc Try.prog 40 = some false := by kernel_rfl
@[simp] theorem bytesT_40 : bytesT Try.prog 40 = some 232 := by kernel_rfl
@[simp] theorem zeroVal_40 : zeroVal Try.prog 40 = some (V.agg [V.int IntKind.i64 (0), V.int IntKind.i64 (0), V.int IntKind.i64 (0), V.int IntKind.i64 (0), V.int IntKind.i64 (0), V.int IntKind.i64 (0), V.int IntKind.i64 (0), V.int IntKind.i64 (0), V.int IntKind.i64 (0), V.int IntKind.i64 (0), V.int IntKind.i64 (0), V.int IntKind.i64 (0), V.int IntKind.i64 (0), V.nl, V.nl, V.bool false, V.int IntKind.i64 (0), V.int IntKind.i64 (0), V.int IntKind.i64 (0), V.int IntKind.i64 (0), V.int IntKind.i64 (0), V.int IntKind.i64 (0), V.int IntKind.i64 (0), V.int IntKind.i64 (0), V.bool false]) := by kernel_rfl
@[simp] theorem placesT_40 : placesT Try.prog 40 = some [(0, 2), (2, 1), (3, 2), (5, 2), (7, 9), (16, 1), (17, 7), (24, 1)] := by kernel_rfl
@[simp] theorem under_40 : (Try.prog.underlying 40).isSome = true := by kernel_rfl
@[simp] theorem gty_40 : Try.prog.eqGuardType Try.prog.depth 40 = false := by kernel_rfl
@[simp] theorem fldT_40_0 : fldT Try.prog 40 0 = some (0, 23) := by kernel_rfl
@[simp] theorem fldT_40_1 : fldT Try.prog 40 1 = some (2, 3) := by kernel_rfl
@[simp] theorem fldT_40_2 : fldT Try.prog 40 2 = some (3, 28) := by kernel_rfl
@[simp] theorem fldT_40_3 : fldT Try.prog 40 3 = some (5, 28) := by kernel_rfl
@[simp] theorem fldT_40_4 : fldT Try.prog 40 4 = some (7, 36) := by kernel_rfl
@[simp] theorem fldT_40_5 : fldT Try.prog 40 5 = some (16, 3) := by kernel_rfl
@[simp] theorem fldT_40_6 : fldT Try.prog 40 6 = some (17, 38) := by kernel_rfl
@[simp] theorem fldT_40_7 : fldT Try.prog 40 7 = some (24, 4) := by kernel_rfl
@[simp] theorem sizeT_41 : sizeT Try.prog 41 = some 1 := by kernel_rfl
@[simp] theorem aggT_41 : aggT Try.prog 41 = some false := by kernel_rfl
@[simp] theorem elemT_41 : elemT Try.prog 41 = none := by kernel_rfl
@[simp] theorem arrT_41 : arrT Try.prog 41 = none := by kernel_rfl
@[simp] theorem isInt_41 : isInt Try.prog 41 = some IntKind.i64 := by kernel_rfl
@[simp] theorem isStr_41 : isStr Try.prog 41 = false := by kernel_rfl
@[simp] theorem isBl_41 : isBl Try.prog 41 = false := by kernel_rfl
@[simp] theorem isPtr_41 : isPtr Try.prog 41 = false := by kernel_rfl
@[simp] theorem mapT_41 : mapT Try.prog 41 = none := by kernel_rfl
@[simp] theorem isIfc_41 : isIfc Try.prog 41 = some false := by kernel_rfl
@[simp] theorem bytesT_41 : bytesT Try.prog 41 = some 8 := by kernel_rfl
@[simp] theorem zeroVal_41 : zeroVal Try.prog 41 = some (V.int IntKind.i64 (0)) := by kernel_rfl
@[simp] theorem placesT_41 : placesT Try.prog 41 = none := by kernel_rfl
@[simp] theorem under_41 : (Try.prog.underlying 41).isSome = true := by kernel_rfl
@[simp] theorem gty_41 : Try.prog.eqGuardType Try.prog.depth 41 = false := by kernel_rfl
@[simp] theorem sizeT_44 : sizeT Try.prog 44 = some 1 := by kernel_rfl
@[simp] theorem aggT_44 : aggT Try.prog 44 = some false := by kernel_rfl
@[simp] theorem elemT_44 : elemT Try.prog 44 = some 63 := by kernel_rfl
@[simp] theorem arrT_44 : arrT Try.prog 44 = none := by kernel_rfl
@[simp] theorem isInt_44 : isInt Try.prog 44 = none := by kernel_rfl
@[simp] theorem isStr_44 : isStr Try.prog 44 = false := by kernel_rfl
@[simp] theorem isBl_44 : isBl Try.prog 44 = false := by kernel_rfl
@[simp] theorem isPtr_44 : isPtr Try.prog 44 = false := by kernel_rfl
@[simp] theorem mapT_44 : mapT Try.prog 44 = none := by kernel_rfl
@[simp] theorem isIfc_44 : isIfc Try.prog 44 = some false := by kernel_rfl
@[simp] theorem bytesT_44 : bytesT Try.prog 44 = some 24 := by kernel_rfl
@[simp] theorem zeroVal_44 : zeroVal Try.prog 44 = some V.nl := by kernel_rfl
@[simp] theorem placesT_44 : placesT Try.prog 44 = none := by kernel_rfl
@[simp] theorem under_44 : (Try.prog.underlying 44).isSome = true := by kernel_rfl
@[simp] theorem gty_44 : Try.prog.eqGuardType Try.prog.depth 44 = false := by kernel_rfl
@[simp] theorem sizeT_56 : sizeT Try.prog 56 = some 26 := by kernel_rfl
@[simp] theorem aggT_56 : aggT Try.prog 56 = some true := by kernel_rfl
@[simp] theorem elemT_56 : elemT Try.prog 56 = none := by kernel_rfl
@[simp] theorem arrT_56 : arrT Try.prog 56 = none := by kernel_rfl
@[simp] theorem isInt_56 : isInt Try.prog 56 = none := by kernel_rfl
@[simp] theorem isStr_56 : isStr Try.prog 56 = false := by kernel_rfl
@[simp] theorem isBl_56 : isBl Try.prog 56 = false := by kernel_rfl
@[simp] theorem isPtr_56 : isPtr Try.prog 56 = false := by kernel_rfl
@[simp] theorem mapT_56 : mapT Try.prog 56 = none := by kernel_rfl
@[simp] theorem isIfc_56 : isIfc Try.prog 56 = some false := by kernel_rfl
@[simp] theorem bytesT_56 : bytesT Try.prog 56 = some 240 := by kernel_rfl
@[simp] theorem zeroVal_56 : zeroVal Try.prog 56 = some (V.agg [V.int IntKind.i64 (0), V.int IntKind.i64 (0), V.int IntKind.i64 (0), V.int IntKind.i64 (0), V.int IntKind.i64 (0), V.int IntKind.i64 (0), V.int IntKind.i64 (0), V.int IntKind.i64 (0), V.int IntKind.i64 (0), V.int IntKind.i64 (0), V.int IntKind.i64 (0), V.int IntKind.i64 (0), V.int IntKind.i64 (0), V.int IntKind.i64 (0), V.nl, V.nl, V.bool false, V.int IntKind.i64 (0), V.int IntKind.i64 (0), V.int IntKind.i64 (0), V.int IntKind.i64 (0), V.int IntKind.i64 (0), V.int IntKind.i64 (0), V.int IntKind.i64 (0), V.int IntKind.i64 (0), V.bool false]) := by kernel_rfl
@[simp] theorem placesT_56 : placesT Try.prog 56 = some [(0, 1), (1, 25)] := by kernel_rfl
@[simp] theorem under_56 : (Try.prog.underlying 56).isSome = true := by kernel_rfl
@[simp] theorem gty_56 : Try.prog.eqGuardType Try.prog.depth 56 = false := by kernel_rfl
@[simp] theorem fldT_56_0 : fldT Try.prog 56 0 = some (0, 3) := by kernel_rfl
@[simp] theorem fldT_56_1 : fldT Try.prog 56 1 = some (1, 40) := by kernel_rfl
@[simp] theorem sizeT_58 : sizeT Try.prog 58 = some 1 := by kernel_rfl
@[simp] theorem aggT_58 : aggT Try.prog 58 = some false := by kernel_rfl
@[simp] theorem elemT_58 : elemT Try.prog 58 = some 40 := by kernel_rfl
@[simp] theorem arrT_58 : arrT Try.prog 58 = none := by kernel_rfl
@[simp] theorem isInt_58 : isInt Try.prog 58 = none := by kernel_rfl
@[simp] theorem isStr_58 : isStr Try.prog 58 = false := by kernel_rfl
@[simp] theorem isBl_58 : isBl Try.prog 58 = false := by kernel_rfl
@[simp] theorem isPtr_58 : isPtr Try.prog 58 = false := by kernel_rfl
@[simp] theorem mapT_58 : mapT Try.prog 58 = none := by kernel_rfl
@[simp] theorem isIfc_58 : isIfc Try.prog 58 = some false := by kernel_rfl
@[simp] theorem bytesT_58 : bytesT Try.prog 58 = some 24 := by kernel_rfl
@[simp] theorem zeroVal_58 : zeroVal Try.prog 58 = some V.nl := by kernel_rfl
@[simp] theorem placesT_58 : placesT Try.prog 58 = none := by kernel_rfl
@[simp] theorem under_58 : (Try.prog.underlying 58).isSome = true := by kernel_rfl
@[simp] theorem gty_58 : Try.prog.eqGuardType Try.prog.depth 58 = false := by kernel_rfl
@[simp] theorem sizeT_63 : sizeT Try.prog 63 = some 26 := by kernel_rfl
@[simp] theorem aggT_63 : aggT Try.prog 63 = some true := by kernel_rfl
@[simp] theorem elemT_63 : elemT Try.prog 63 = none := by kernel_rfl
@[simp] theorem arrT_63 : arrT Try.prog 63 = none := by kernel_rfl
@[simp] theorem isInt_63 : isInt Try.prog 63 = none := by kernel_rfl
@[simp] theorem isStr_63 : isStr Try.prog 63 = false := by kernel_rfl
@[simp] theorem isBl_63 : isBl Try.prog 63 = false := by kernel_rfl
@[simp] theorem isPtr_63 : isPtr Try.prog 63 = false := by kernel_rfl
@[simp] theorem mapT_63 : mapT Try.prog 63 = none := by kernel_rfl
@[simp] theorem isIfc_63 : isIfc Try.prog 63 = some false := by kernel_rfl
@[simp] theorem bytesT_63 : bytesT Try.prog 63 = some 240 := by kernel_rfl
@[simp] theorem zeroVal_63 : zeroVal Try.prog 63 = some (V.agg [V.int IntKind.i64 (0), V.int IntKind.i64 (0), V.int IntKind.i64 (0), V.int IntKind.i64 (0), V.int IntKind.i64 (0), V.int IntKind.i64 (0), V.int IntKind.i64 (0), V.int IntKind.i64 (0), V.int IntKind.i64 (0), V.int IntKind.i64 (0), V.int IntKind.i64 (0), V.int IntKind.i64 (0), V.int IntKind.i64 (0), V.int IntKind.i64 (0), V.nl, V.nl, V.bool false, V.int IntKind.i64 (0), V.int IntKind.i64 (0), V.int IntKind.i64 (0), V.int IntKind.i64 (0), V.int IntKind.i64 (0), V.int IntKind.i64 (0), V.int IntKind.i64 (0), V.int IntKind.i64 (0), V.bool false]) := by kernel_rfl
@[simp] theorem placesT_63 : placesT Try.prog 63 = some [(0, 1), (1, 25)] := by kernel_rfl
@[simp] theorem under_63 : (Try.prog.underlying 63).isSome = true := by kernel_rfl
@[simp] theorem gty_63 : Try.prog.eqGuardType Try.prog.depth 63 = false := by kernel_rfl
@[simp] theorem fldT_63_0 : fldT Try.prog 63 0 = some (0, 3) := by kernel_rfl
@[simp] theorem fldT_63_1 : fldT Try.prog 63 1 = some (1, 40) := by kernel_rfl
@[simp] theorem sizeT_64 : sizeT Try.prog 64 = some 1 := by kernel_rfl
@[simp] theorem aggT_64 : aggT Try.prog 64 = some false := by kernel_rfl
@[simp] theorem elemT_64 : elemT Try.prog 64 = none := by kernel_rfl
@[simp] theorem arrT_64 : arrT Try.prog 64 = none := by kernel_rfl
@[simp] theorem isInt_64 : isInt Try.prog 64 = none := by kernel_rfl
@[simp] theorem isStr_64 : isStr Try.prog 64 = false := by kernel_rfl
@[simp] theorem isBl_64 : isBl Try.prog 64 = false := by kernel_rfl
@[simp] theorem isPtr_64 : isPtr Try.prog 64 = false := by kernel_rfl
@[simp] theorem mapT_64 : mapT Try.prog 64 = some (3, 3) := by kernel_rfl
@[simp] theorem isIfc_64 : isIfc Try.prog 64 = some false := by kernel_rfl
@[simp] theorem bytesT_64 : bytesT Try.prog 64 = some 8 := by kernel_rfl
@[simp] theorem zeroVal_64 : zeroVal Try.prog 64 = some V.nilm := by kernel_rfl
@[simp] theorem placesT_64 : placesT Try.prog 64 = none := by kernel_rfl
@[simp] theorem under_64 : (Try.prog.underlying 64).isSome = true := by kernel_rfl
@[simp] theorem gty_64 : Try.prog.eqGuardType Try.prog.depth 64 = false := by kernel_rfl
@[simp] theorem sizeT_68 : sizeT Try.prog 68 = some 1 := by kernel_rfl
@[simp] theorem aggT_68 : aggT Try.prog 68 = some false := by kernel_rfl
@[simp] theorem elemT_68 : elemT Try.prog 68 = none := by kernel_rfl
@[simp] theorem arrT_68 : arrT Try.prog 68 = none := by kernel_rfl
@[simp] theorem isInt_68 : isInt Try.prog 68 = none := by kernel_rfl
@[simp] theorem isStr_68 : isStr Try.prog 68 = false := by kernel_rfl
@[simp] theorem isBl_68 : isBl Try.prog 68 = false := by kernel_rfl
@[simp] theorem isPtr_68 : isPtr Try.prog 68 = false := by kernel_rfl
@[simp] theorem mapT_68 : mapT Try.prog 68 = none := by kernel_rfl
@[simp] theorem isIfc_68 : isIfc Try.prog 68 = some false := by kernel_rfl
@[simp] theorem bytesT_68 : bytesT Try.prog 68 = some 8 := by kernel_rfl
@[simp] theorem zeroVal_68 : zeroVal Try.prog 68 = some V.nilf := by kernel_rfl
@[simp] theorem placesT_68 : placesT Try.prog 68 = none := by kernel_rfl
@[simp] theorem under_68 : (Try.prog.underlying 68).isSome = true := by kernel_rfl
@[simp] theorem gty_68 : Try.prog.eqGuardType Try.prog.depth 68 = false := by kernel_rfl
@[simp] theorem sizeT_78 : sizeT Try.prog 78 = some 1 := by kernel_rfl
@[simp] theorem aggT_78 : aggT Try.prog 78 = some false := by kernel_rfl
@[simp] theorem elemT_78 : elemT Try.prog 78 = some 36 := by kernel_rfl
@[simp] theorem arrT_78 : arrT Try.prog 78 = none := by kernel_rfl
@[simp] theorem isInt_78 : isInt Try.prog 78 = none := by kernel_rfl
@[simp] theorem isStr_78 : isStr Try.prog 78 = false := by kernel_rfl
@[simp] theorem isBl_78 : isBl Try.prog 78 = false := by kernel_rfl
@[simp] theorem isPtr_78 : isPtr Try.prog 78 = false := by kernel_rfl
@[simp] theorem mapT_78 : mapT Try.prog 78 = none := by kernel_rfl
@[simp] theorem isIfc_78 : isIfc Try.prog 78 = some false := by kernel_rfl
@[simp] theorem bytesT_78 : bytesT Try.prog 78 = some 24 := by kernel_rfl
@[simp] theorem zeroVal_78 : zeroVal Try.prog 78 = some V.nl := by kernel_rfl
@[simp] theorem placesT_78 : placesT Try.prog 78 = none := by kernel_rfl
@[simp] theorem under_78 : (Try.prog.underlying 78).isSome = true := by kernel_rfl
@[simp] theorem gty_78 : Try.prog.eqGuardType Try.prog.depth 78 = false := by kernel_rfl
@[simp] theorem sizeT_80 : sizeT Try.prog 80 = some 3 := by kernel_rfl
@[simp] theorem aggT_80 : aggT Try.prog 80 = some true := by kernel_rfl
@[simp] theorem elemT_80 : elemT Try.prog 80 = none := by kernel_rfl
@[simp] theorem arrT_80 : arrT Try.prog 80 = none := by kernel_rfl
@[simp] theorem isInt_80 : isInt Try.prog 80 = none := by kernel_rfl
@[simp] theorem isStr_80 : isStr Try.prog 80 = false := by kernel_rfl
@[simp] theorem isBl_80 : isBl Try.prog 80 = false := by kernel_rfl
@[simp] theorem isPtr_80 : isPtr Try.prog 80 = false := by kernel_rfl
@[simp] theorem mapT_80 : mapT Try.prog 80 = none := by kernel_rfl
@[simp] theorem isIfc_80 : isIfc Try.prog 80 = some false := by kernel_rfl
@[simp] theorem bytesT_80 : bytesT Try.prog 80 = some 32 := by kernel_rfl
@[simp] theorem zeroVal_80 : zeroVal Try.prog 80 = some (V.agg [V.str ByteArray.empty, V.int IntKind.i64 (0), V.int IntKind.i64 (0)]) := by kernel_rfl
@[simp] theorem placesT_80 : placesT Try.prog 80 = some [(0, 1), (1, 2)] := by kernel_rfl
@[simp] theorem under_80 : (Try.prog.underlying 80).isSome = true := by kernel_rfl
@[simp] theorem gty_80 : Try.prog.eqGuardType Try.prog.depth 80 = false := by kernel_rfl
@[simp] theorem fldT_80_0 : fldT Try.prog 80 0 = some (0, 9) := by kernel_rfl
@[simp] theorem fldT_80_1 : fldT Try.prog 80 1 = some (1, 32) := by kernel_rfl
@[simp] theorem eqT_80 (xs ys : List V) (hx : xs.length = 3) (hy : ys.length = 3) : eqT Try.prog 40 80 xs ys = eqK ([LK.s, LK.i IntKind.i64, LK.i IntKind.i64]) xs ys := eqT_shape 40 80 _ (by kernel_rfl) xs ys hx hy
@[simp] theorem sizeT_82 : sizeT Try.prog 82 = some 2 := by kernel_rfl
@[simp] theorem aggT_82 : aggT Try.prog 82 = some true := by kernel_rfl
@[simp] theorem elemT_82 : elemT Try.prog 82 = none := by kernel_rfl
@[simp] theorem arrT_82 : arrT Try.prog 82 = none := by kernel_rfl
@[simp] theorem isInt_82 : isInt Try.prog 82 = none := by kernel_rfl
@[simp] theorem isStr_82 : isStr Try.prog 82 = false := by kernel_rfl
@[simp] theorem isBl_82 : isBl Try.prog 82 = false := by kernel_rfl
@[simp] theorem isPtr_82 : isPtr Try.prog 82 = false := by kernel_rfl
@[simp] theorem mapT_82 : mapT Try.prog 82 = none := by kernel_rfl
@[simp] theorem isIfc_82 : isIfc Try.prog 82 = some false := by kernel_rfl
@[simp] theorem bytesT_82 : bytesT Try.prog 82 = some 32 := by kernel_rfl
@[simp] theorem zeroVal_82 : zeroVal Try.prog 82 = some (V.agg [V.str ByteArray.empty, V.str ByteArray.empty]) := by kernel_rfl
@[simp] theorem placesT_82 : placesT Try.prog 82 = some [(0, 1), (1, 1)] := by kernel_rfl
@[simp] theorem under_82 : (Try.prog.underlying 82).isSome = true := by kernel_rfl
@[simp] theorem gty_82 : Try.prog.eqGuardType Try.prog.depth 82 = false := by kernel_rfl
@[simp] theorem fldT_82_0 : fldT Try.prog 82 0 = some (0, 9) := by kernel_rfl
@[simp] theorem fldT_82_1 : fldT Try.prog 82 1 = some (1, 9) := by kernel_rfl
@[simp] theorem eqT_82 (xs ys : List V) (hx : xs.length = 2) (hy : ys.length = 2) : eqT Try.prog 40 82 xs ys = eqK ([LK.s, LK.s]) xs ys := eqT_shape 40 82 _ (by kernel_rfl) xs ys hx hy
@[simp] theorem sizeT_86 : sizeT Try.prog 86 = some 1 := by kernel_rfl
@[simp] theorem aggT_86 : aggT Try.prog 86 = some false := by kernel_rfl
@[simp] theorem elemT_86 : elemT Try.prog 86 = none := by kernel_rfl
@[simp] theorem arrT_86 : arrT Try.prog 86 = none := by kernel_rfl
@[simp] theorem isInt_86 : isInt Try.prog 86 = some IntKind.u64 := by kernel_rfl
@[simp] theorem isStr_86 : isStr Try.prog 86 = false := by kernel_rfl
@[simp] theorem isBl_86 : isBl Try.prog 86 = false := by kernel_rfl
@[simp] theorem isPtr_86 : isPtr Try.prog 86 = false := by kernel_rfl
@[simp] theorem mapT_86 : mapT Try.prog 86 = none := by kernel_rfl
@[simp] theorem isIfc_86 : isIfc Try.prog 86 = some false := by kernel_rfl
@[simp] theorem bytesT_86 : bytesT Try.prog 86 = some 8 := by kernel_rfl
@[simp] theorem zeroVal_86 : zeroVal Try.prog 86 = some (V.int IntKind.u64 (0)) := by kernel_rfl
@[simp] theorem placesT_86 : placesT Try.prog 86 = none := by kernel_rfl
@[simp] theorem under_86 : (Try.prog.underlying 86).isSome = true := by kernel_rfl
@[simp] theorem gty_86 : Try.prog.eqGuardType Try.prog.depth 86 = false := by kernel_rfl
@[simp] theorem sizeT_93 : sizeT Try.prog 93 = some 1 := by kernel_rfl
@[simp] theorem aggT_93 : aggT Try.prog 93 = some false := by kernel_rfl
@[simp] theorem elemT_93 : elemT Try.prog 93 = some 9 := by kernel_rfl
@[simp] theorem arrT_93 : arrT Try.prog 93 = none := by kernel_rfl
@[simp] theorem isInt_93 : isInt Try.prog 93 = none := by kernel_rfl
@[simp] theorem isStr_93 : isStr Try.prog 93 = false := by kernel_rfl
@[simp] theorem isBl_93 : isBl Try.prog 93 = false := by kernel_rfl
@[simp] theorem isPtr_93 : isPtr Try.prog 93 = false := by kernel_rfl
@[simp] theorem mapT_93 : mapT Try.prog 93 = none := by kernel_rfl
@[simp] theorem isIfc_93 : isIfc Try.prog 93 = some false := by kernel_rfl
@[simp] theorem bytesT_93 : bytesT Try.prog 93 = some 24 := by kernel_rfl
@[simp] theorem zeroVal_93 : zeroVal Try.prog 93 = some V.nl := by kernel_rfl
@[simp] theorem placesT_93 : placesT Try.prog 93 = none := by kernel_rfl
@[simp] theorem under_93 : (Try.prog.underlying 93).isSome = true := by kernel_rfl
@[simp] theorem gty_93 : Try.prog.eqGuardType Try.prog.depth 93 = false := by kernel_rfl
@[simp] theorem sizeT_96 : sizeT Try.prog 96 = some 3 := by kernel_rfl
@[simp] theorem aggT_96 : aggT Try.prog 96 = some true := by kernel_rfl
@[simp] theorem elemT_96 : elemT Try.prog 96 = none := by kernel_rfl
@[simp] theorem arrT_96 : arrT Try.prog 96 = some (3, 3) := by kernel_rfl
@[simp] theorem isInt_96 : isInt Try.prog 96 = none := by kernel_rfl
@[simp] theorem isStr_96 : isStr Try.prog 96 = false := by kernel_rfl
@[simp] theorem isBl_96 : isBl Try.prog 96 = false := by kernel_rfl
@[simp] theorem isPtr_96 : isPtr Try.prog 96 = false := by kernel_rfl
@[simp] theorem mapT_96 : mapT Try.prog 96 = none := by kernel_rfl
@[simp] theorem isIfc_96 : isIfc Try.prog 96 = some false := by kernel_rfl
@[simp] theorem bytesT_96 : bytesT Try.prog 96 = some 24 := by kernel_rfl
@[simp] theorem zeroVal_96 : zeroVal Try.prog 96 = some (V.agg [V.int IntKind.i64 (0), V.int IntKind.i64 (0), V.int IntKind.i64 (0)]) := by kernel_rfl
@[simp] theorem placesT_96 : placesT Try.prog 96 = none := by kernel_rfl
@[simp] theorem under_96 : (Try.prog.underlying 96).isSome = true := by kernel_rfl
@[simp] theorem gty_96 : Try.prog.eqGuardType Try.prog.depth 96 = false := by kernel_rfl
@[simp] theorem eqT_96 (xs ys : List V) (hx : xs.length = 3) (hy : ys.length = 3) : eqT Try.prog 40 96 xs ys = eqK ([LK.i IntKind.i64, LK.i IntKind.i64, LK.i IntKind.i64]) xs ys := eqT_shape 40 96 _ (by kernel_rfl) xs ys hx hy
@[simp] theorem mixed : Try.prog.follows .mixedOrders = true := by kernel_rfl
theorem dOk : DrawsOk Try.prog (drawsP Try.prog) := drawsP_ok mixed
end Go.Proofs.Ytnchceblpogpmaa.AX
