/- What the walk asks of the program's types. -/
import Derived.Test.YtnldlkkcdgdkgaaMgC
import Derived.Test.YtnldlkkcdgdkgaaProg
namespace Go.Proofs.Ytnldlkkcdgdkgaa.AX
open Go Go.RowKit
set_option linter.unusedSimpArgs false
@[simp] theorem sizeT_0 : sizeT Try.prog 0 = some 1 := by kernel_rfl
@[simp] theorem aggT_0 : aggT Try.prog 0 = some false := by kernel_rfl
@[simp] theorem elemT_0 : elemT Try.prog 0 = none := by kernel_rfl
@[simp] theorem arrT_0 : arrT Try.prog 0 = none := by kernel_rfl
@[simp] theorem isInt_0 : isInt Try.prog 0 = none := by kernel_rfl
@[simp] theorem isStr_0 : isStr Try.prog 0 = false := by kernel_rfl
@[simp] theorem isBl_0 : isBl Try.prog 0 = false := by kernel_rfl
@[simp] theorem isPtr_0 : isPtr Try.prog 0 = false := by kernel_rfl
@[simp] theorem mapT_0 : mapT Try.prog 0 = none := by kernel_rfl
@[simp] theorem pairK_0 : pairK Try.prog 0 = false := by kernel_rfl
@[simp] theorem isIfc_0 : isIfc Try.prog 0 = some false := by kernel_rfl
@[simp] theorem bytesT_0 : bytesT Try.prog 0 = some 0 := by kernel_rfl
@[simp] theorem placesT_0 : placesT Try.prog 0 = none := by kernel_rfl
@[simp] theorem under_0 : (Try.prog.underlying 0).isSome = true := by kernel_rfl
@[simp] theorem gty_0 : Try.prog.eqGuardType Try.prog.depth 0 = false := by kernel_rfl
@[simp] theorem sizeT_1 : sizeT Try.prog 1 = some 1 := by kernel_rfl
@[simp] theorem aggT_1 : aggT Try.prog 1 = some false := by kernel_rfl
@[simp] theorem elemT_1 : elemT Try.prog 1 = none := by kernel_rfl
@[simp] theorem arrT_1 : arrT Try.prog 1 = none := by kernel_rfl
@[simp] theorem isInt_1 : isInt Try.prog 1 = none := by kernel_rfl
@[simp] theorem isStr_1 : isStr Try.prog 1 = false := by kernel_rfl
@[simp] theorem isBl_1 : isBl Try.prog 1 = false := by kernel_rfl
@[simp] theorem isPtr_1 : isPtr Try.prog 1 = false := by kernel_rfl
@[simp] theorem mapT_1 : mapT Try.prog 1 = none := by kernel_rfl
@[simp] theorem pairK_1 : pairK Try.prog 1 = false := by kernel_rfl
@[simp] theorem isIfc_1 : isIfc Try.prog 1 = some false := by kernel_rfl
@[simp] theorem bytesT_1 : bytesT Try.prog 1 = some 8 := by kernel_rfl
@[simp] theorem zeroVal_1 : zeroVal Try.prog 1 = some V.nilf := by kernel_rfl
@[simp] theorem placesT_1 : placesT Try.prog 1 = none := by kernel_rfl
@[simp] theorem under_1 : (Try.prog.underlying 1).isSome = true := by kernel_rfl
@[simp] theorem gty_1 : Try.prog.eqGuardType Try.prog.depth 1 = false := by kernel_rfl
@[simp] theorem sizeT_2 : sizeT Try.prog 2 = some 1 := by kernel_rfl
@[simp] theorem aggT_2 : aggT Try.prog 2 = some false := by kernel_rfl
@[simp] theorem elemT_2 : elemT Try.prog 2 = none := by kernel_rfl
@[simp] theorem arrT_2 : arrT Try.prog 2 = none := by kernel_rfl
@[simp] theorem isInt_2 : isInt Try.prog 2 = some IntKind.i64 := by kernel_rfl
@[simp] theorem isStr_2 : isStr Try.prog 2 = false := by kernel_rfl
@[simp] theorem isBl_2 : isBl Try.prog 2 = false := by kernel_rfl
@[simp] theorem isPtr_2 : isPtr Try.prog 2 = false := by kernel_rfl
@[simp] theorem mapT_2 : mapT Try.prog 2 = none := by kernel_rfl
@[simp] theorem pairK_2 : pairK Try.prog 2 = false := by kernel_rfl
@[simp] theorem isIfc_2 : isIfc Try.prog 2 = some false := by kernel_rfl
@[simp] theorem bytesT_2 : bytesT Try.prog 2 = some 8 := by kernel_rfl
@[simp] theorem zeroVal_2 : zeroVal Try.prog 2 = some (V.int IntKind.i64 (0)) := by kernel_rfl
@[simp] theorem placesT_2 : placesT Try.prog 2 = none := by kernel_rfl
@[simp] theorem under_2 : (Try.prog.underlying 2).isSome = true := by kernel_rfl
@[simp] theorem gty_2 : Try.prog.eqGuardType Try.prog.depth 2 = false := by kernel_rfl
@[simp] theorem sizeT_3 : sizeT Try.prog 3 = some 1 := by kernel_rfl
@[simp] theorem aggT_3 : aggT Try.prog 3 = some false := by kernel_rfl
@[simp] theorem elemT_3 : elemT Try.prog 3 = none := by kernel_rfl
@[simp] theorem arrT_3 : arrT Try.prog 3 = none := by kernel_rfl
@[simp] theorem isInt_3 : isInt Try.prog 3 = some IntKind.i64 := by kernel_rfl
@[simp] theorem isStr_3 : isStr Try.prog 3 = false := by kernel_rfl
@[simp] theorem isBl_3 : isBl Try.prog 3 = false := by kernel_rfl
@[simp] theorem isPtr_3 : isPtr Try.prog 3 = false := by kernel_rfl
@[simp] theorem mapT_3 : mapT Try.prog 3 = none := by kernel_rfl
@[simp] theorem pairK_3 : pairK Try.prog 3 = false := by kernel_rfl
@[simp] theorem isIfc_3 : isIfc Try.prog 3 = some false := by kernel_rfl
@[simp] theorem bytesT_3 : bytesT Try.prog 3 = some 8 := by kernel_rfl
@[simp] theorem zeroVal_3 : zeroVal Try.prog 3 = some (V.int IntKind.i64 (0)) := by kernel_rfl
@[simp] theorem placesT_3 : placesT Try.prog 3 = none := by kernel_rfl
@[simp] theorem under_3 : (Try.prog.underlying 3).isSome = true := by kernel_rfl
@[simp] theorem gty_3 : Try.prog.eqGuardType Try.prog.depth 3 = false := by kernel_rfl
@[simp] theorem sizeT_4 : sizeT Try.prog 4 = some 1 := by kernel_rfl
@[simp] theorem aggT_4 : aggT Try.prog 4 = some false := by kernel_rfl
@[simp] theorem elemT_4 : elemT Try.prog 4 = none := by kernel_rfl
@[simp] theorem arrT_4 : arrT Try.prog 4 = none := by kernel_rfl
@[simp] theorem isInt_4 : isInt Try.prog 4 = none := by kernel_rfl
@[simp] theorem isStr_4 : isStr Try.prog 4 = false := by kernel_rfl
@[simp] theorem isBl_4 : isBl Try.prog 4 = true := by kernel_rfl
@[simp] theorem isPtr_4 : isPtr Try.prog 4 = false := by kernel_rfl
@[simp] theorem mapT_4 : mapT Try.prog 4 = none := by kernel_rfl
@[simp] theorem pairK_4 : pairK Try.prog 4 = false := by kernel_rfl
@[simp] theorem isIfc_4 : isIfc Try.prog 4 = some false := by kernel_rfl
@[simp] theorem bytesT_4 : bytesT Try.prog 4 = some 1 := by kernel_rfl
@[simp] theorem zeroVal_4 : zeroVal Try.prog 4 = some (V.bool false) := by kernel_rfl
@[simp] theorem placesT_4 : placesT Try.prog 4 = none := by kernel_rfl
@[simp] theorem under_4 : (Try.prog.underlying 4).isSome = true := by kernel_rfl
@[simp] theorem gty_4 : Try.prog.eqGuardType Try.prog.depth 4 = false := by kernel_rfl
@[simp] theorem sizeT_5 : sizeT Try.prog 5 = some 1 := by kernel_rfl
@[simp] theorem aggT_5 : aggT Try.prog 5 = some false := by kernel_rfl
@[simp] theorem elemT_5 : elemT Try.prog 5 = none := by kernel_rfl
@[simp] theorem arrT_5 : arrT Try.prog 5 = none := by kernel_rfl
@[simp] theorem isInt_5 : isInt Try.prog 5 = some IntKind.u8 := by kernel_rfl
@[simp] theorem isStr_5 : isStr Try.prog 5 = false := by kernel_rfl
@[simp] theorem isBl_5 : isBl Try.prog 5 = false := by kernel_rfl
@[simp] theorem isPtr_5 : isPtr Try.prog 5 = false := by kernel_rfl
@[simp] theorem mapT_5 : mapT Try.prog 5 = none := by kernel_rfl
@[simp] theorem pairK_5 : pairK Try.prog 5 = false := by kernel_rfl
@[simp] theorem isIfc_5 : isIfc Try.prog 5 = some false := by kernel_rfl
@[simp] theorem bytesT_5 : bytesT Try.prog 5 = some 1 := by kernel_rfl
@[simp] theorem zeroVal_5 : zeroVal Try.prog 5 = some (V.int IntKind.u8 (0)) := by kernel_rfl
@[simp] theorem placesT_5 : placesT Try.prog 5 = none := by kernel_rfl
@[simp] theorem under_5 : (Try.prog.underlying 5).isSome = true := by kernel_rfl
@[simp] theorem gty_5 : Try.prog.eqGuardType Try.prog.depth 5 = false := by kernel_rfl
@[simp] theorem sizeT_9 : sizeT Try.prog 9 = some 1 := by kernel_rfl
@[simp] theorem aggT_9 : aggT Try.prog 9 = some false := by kernel_rfl
@[simp] theorem elemT_9 : elemT Try.prog 9 = none := by kernel_rfl
@[simp] theorem arrT_9 : arrT Try.prog 9 = none := by kernel_rfl
@[simp] theorem isInt_9 : isInt Try.prog 9 = none := by kernel_rfl
@[simp] theorem isStr_9 : isStr Try.prog 9 = true := by kernel_rfl
@[simp] theorem isBl_9 : isBl Try.prog 9 = false := by kernel_rfl
@[simp] theorem isPtr_9 : isPtr Try.prog 9 = false := by kernel_rfl
@[simp] theorem mapT_9 : mapT Try.prog 9 = none := by kernel_rfl
@[simp] theorem pairK_9 : pairK Try.prog 9 = false := by kernel_rfl
@[simp] theorem isIfc_9 : isIfc Try.prog 9 = some false := by kernel_rfl
@[simp] theorem bytesT_9 : bytesT Try.prog 9 = some 16 := by kernel_rfl
@[simp] theorem zeroVal_9 : zeroVal Try.prog 9 = some (V.str ByteArray.empty) := by kernel_rfl
@[simp] theorem placesT_9 : placesT Try.prog 9 = none := by kernel_rfl
@[simp] theorem under_9 : (Try.prog.underlying 9).isSome = true := by kernel_rfl
@[simp] theorem gty_9 : Try.prog.eqGuardType Try.prog.depth 9 = false := by kernel_rfl
@[simp] theorem sizeT_22 : sizeT Try.prog 22 = some 1 := by kernel_rfl
@[simp] theorem aggT_22 : aggT Try.prog 22 = some false := by kernel_rfl
@[simp] theorem elemT_22 : elemT Try.prog 22 = some 43 := by kernel_rfl
@[simp] theorem arrT_22 : arrT Try.prog 22 = none := by kernel_rfl
@[simp] theorem isInt_22 : isInt Try.prog 22 = none := by kernel_rfl
@[simp] theorem isStr_22 : isStr Try.prog 22 = false := by kernel_rfl
@[simp] theorem isBl_22 : isBl Try.prog 22 = false := by kernel_rfl
@[simp] theorem isPtr_22 : isPtr Try.prog 22 = false := by kernel_rfl
@[simp] theorem mapT_22 : mapT Try.prog 22 = none := by kernel_rfl
@[simp] theorem pairK_22 : pairK Try.prog 22 = false := by kernel_rfl
@[simp] theorem isIfc_22 : isIfc Try.prog 22 = some false := by kernel_rfl
@[simp] theorem bytesT_22 : bytesT Try.prog 22 = some 24 := by kernel_rfl
@[simp] theorem zeroVal_22 : zeroVal Try.prog 22 = some V.nl := by kernel_rfl
@[simp] theorem placesT_22 : placesT Try.prog 22 = none := by kernel_rfl
@[simp] theorem under_22 : (Try.prog.underlying 22).isSome = true := by kernel_rfl
@[simp] theorem gty_22 : Try.prog.eqGuardType Try.prog.depth 22 = false := by kernel_rfl
@[simp] theorem sizeT_25 : sizeT Try.prog 25 = some 1 := by kernel_rfl
@[simp] theorem aggT_25 : aggT Try.prog 25 = some false := by kernel_rfl
@[simp] theorem elemT_25 : elemT Try.prog 25 = some 38 := by kernel_rfl
@[simp] theorem arrT_25 : arrT Try.prog 25 = none := by kernel_rfl
@[simp] theorem isInt_25 : isInt Try.prog 25 = none := by kernel_rfl
@[simp] theorem isStr_25 : isStr Try.prog 25 = false := by kernel_rfl
@[simp] theorem isBl_25 : isBl Try.prog 25 = false := by kernel_rfl
@[simp] theorem isPtr_25 : isPtr Try.prog 25 = false := by kernel_rfl
@[simp] theorem mapT_25 : mapT Try.prog 25 = none := by kernel_rfl
@[simp] theorem pairK_25 : pairK Try.prog 25 = false := by kernel_rfl
@[simp] theorem isIfc_25 : isIfc Try.prog 25 = some false := by kernel_rfl
@[simp] theorem bytesT_25 : bytesT Try.prog 25 = some 24 := by kernel_rfl
@[simp] theorem zeroVal_25 : zeroVal Try.prog 25 = some V.nl := by kernel_rfl
@[simp] theorem placesT_25 : placesT Try.prog 25 = none := by kernel_rfl
@[simp] theorem under_25 : (Try.prog.underlying 25).isSome = true := by kernel_rfl
@[simp] theorem gty_25 : Try.prog.eqGuardType Try.prog.depth 25 = false := by kernel_rfl
@[simp] theorem sizeT_27 : sizeT Try.prog 27 = some 1 := by kernel_rfl
@[simp] theorem aggT_27 : aggT Try.prog 27 = some false := by kernel_rfl
@[simp] theorem elemT_27 : elemT Try.prog 27 = none := by kernel_rfl
@[simp] theorem arrT_27 : arrT Try.prog 27 = none := by kernel_rfl
@[simp] theorem isInt_27 : isInt Try.prog 27 = some IntKind.i64 := by kernel_rfl
@[simp] theorem isStr_27 : isStr Try.prog 27 = false := by kernel_rfl
@[simp] theorem isBl_27 : isBl Try.prog 27 = false := by kernel_rfl
@[simp] theorem isPtr_27 : isPtr Try.prog 27 = false := by kernel_rfl
@[simp] theorem mapT_27 : mapT Try.prog 27 = none := by kernel_rfl
@[simp] theorem pairK_27 : pairK Try.prog 27 = false := by kernel_rfl
@[simp] theorem isIfc_27 : isIfc Try.prog 27 = some false := by kernel_rfl
@[simp] theorem bytesT_27 : bytesT Try.prog 27 = some 8 := by kernel_rfl
@[simp] theorem zeroVal_27 : zeroVal Try.prog 27 = some (V.int IntKind.i64 (0)) := by kernel_rfl
@[simp] theorem placesT_27 : placesT Try.prog 27 = none := by kernel_rfl
@[simp] theorem under_27 : (Try.prog.underlying 27).isSome = true := by kernel_rfl
@[simp] theorem gty_27 : Try.prog.eqGuardType Try.prog.depth 27 = false := by kernel_rfl
@[simp] theorem sizeT_32 : sizeT Try.prog 32 = some 2 := by kernel_rfl
@[simp] theorem aggT_32 : aggT Try.prog 32 = some true := by kernel_rfl
@[simp] theorem elemT_32 : elemT Try.prog 32 = none := by kernel_rfl
@[simp] theorem arrT_32 : arrT Try.prog 32 = none := by kernel_rfl
@[simp] theorem isInt_32 : isInt Try.prog 32 = none := by kernel_rfl
@[simp] theorem isStr_32 : isStr Try.prog 32 = false := by kernel_rfl
@[simp] theorem isBl_32 : isBl Try.prog 32 = false := by kernel_rfl
@[simp] theorem isPtr_32 : isPtr Try.prog 32 = false := by kernel_rfl
@[simp] theorem mapT_32 : mapT Try.prog 32 = none := by kernel_rfl
@[simp] theorem pairK_32 : pairK Try.prog 32 = true := by kernel_rfl
@[simp] theorem isIfc_32 : isIfc Try.prog 32 = some false := by kernel_rfl
@[simp] theorem bytesT_32 : bytesT Try.prog 32 = some 16 := by kernel_rfl
@[simp] theorem zeroVal_32 : zeroVal Try.prog 32 = some (V.agg [V.int IntKind.i64 (0), V.int IntKind.i64 (0)]) := by kernel_rfl
@[simp] theorem placesT_32 : placesT Try.prog 32 = some [(0, 1), (1, 1)] := by kernel_rfl
@[simp] theorem under_32 : (Try.prog.underlying 32).isSome = true := by kernel_rfl
@[simp] theorem gty_32 : Try.prog.eqGuardType Try.prog.depth 32 = false := by kernel_rfl
@[simp] theorem fldT_32_0 : fldT Try.prog 32 0 = some (0, 3) := by kernel_rfl
@[simp] theorem fldT_32_1 : fldT Try.prog 32 1 = some (1, 3) := by kernel_rfl
@[simp] theorem eqT_32 (xs ys : List V) (hx : xs.length = 2) (hy : ys.length = 2) : eqT Try.prog 40 32 xs ys = eqK ([LK.i IntKind.i64, LK.i IntKind.i64]) xs ys := eqT_shape 40 32 _ (by kernel_rfl) xs ys hx hy
@[simp] theorem sizeT_34 : sizeT Try.prog 34 = some 2 := by kernel_rfl
@[simp] theorem aggT_34 : aggT Try.prog 34 = some true := by kernel_rfl
@[simp] theorem elemT_34 : elemT Try.prog 34 = none := by kernel_rfl
@[simp] theorem arrT_34 : arrT Try.prog 34 = none := by kernel_rfl
@[simp] theorem isInt_34 : isInt Try.prog 34 = none := by kernel_rfl
@[simp] theorem isStr_34 : isStr Try.prog 34 = false := by kernel_rfl
@[simp] theorem isBl_34 : isBl Try.prog 34 = false := by kernel_rfl
@[simp] theorem isPtr_34 : isPtr Try.prog 34 = false := by kernel_rfl
@[simp] theorem mapT_34 : mapT Try.prog 34 = none := by kernel_rfl
@[simp] theorem pairK_34 : pairK Try.prog 34 = true := by kernel_rfl
@[simp] theorem isIfc_34 : isIfc Try.prog 34 = some false := by kernel_rfl
@[simp] theorem bytesT_34 : bytesT Try.prog 34 = some 16 := by kernel_rfl
@[simp] theorem zeroVal_34 : zeroVal Try.prog 34 = some (V.agg [V.int IntKind.i64 (0), V.int IntKind.i64 (0)]) := by kernel_rfl
@[simp] theorem placesT_34 : placesT Try.prog 34 = some [(0, 1), (1, 1)] := by kernel_rfl
@[simp] theorem under_34 : (Try.prog.underlying 34).isSome = true := by kernel_rfl
@[simp] theorem gty_34 : Try.prog.eqGuardType Try.prog.depth 34 = false := by kernel_rfl
@[simp] theorem fldT_34_0 : fldT Try.prog 34 0 = some (0, 3) := by kernel_rfl
@[simp] theorem fldT_34_1 : fldT Try.prog 34 1 = some (1, 3) := by kernel_rfl
@[simp] theorem eqT_34 (xs ys : List V) (hx : xs.length = 2) (hy : ys.length = 2) : eqT Try.prog 40 34 xs ys = eqK ([LK.i IntKind.i64, LK.i IntKind.i64]) xs ys := eqT_shape 40 34 _ (by kernel_rfl) xs ys hx hy
@[simp] theorem sizeT_35 : sizeT Try.prog 35 = some 1 := by kernel_rfl
@[simp] theorem aggT_35 : aggT Try.prog 35 = some false := by kernel_rfl
@[simp] theorem elemT_35 : elemT Try.prog 35 = some 52 := by kernel_rfl
@[simp] theorem arrT_35 : arrT Try.prog 35 = none := by kernel_rfl
@[simp] theorem isInt_35 : isInt Try.prog 35 = none := by kernel_rfl
@[simp] theorem isStr_35 : isStr Try.prog 35 = false := by kernel_rfl
@[simp] theorem isBl_35 : isBl Try.prog 35 = false := by kernel_rfl
@[simp] theorem isPtr_35 : isPtr Try.prog 35 = false := by kernel_rfl
@[simp] theorem mapT_35 : mapT Try.prog 35 = none := by kernel_rfl
@[simp] theorem pairK_35 : pairK Try.prog 35 = false := by kernel_rfl
@[simp] theorem isIfc_35 : isIfc Try.prog 35 = some false := by kernel_rfl
@[simp] theorem bytesT_35 : bytesT Try.prog 35 = some 24 := by kernel_rfl
@[simp] theorem zeroVal_35 : zeroVal Try.prog 35 = some V.nl := by kernel_rfl
@[simp] theorem placesT_35 : placesT Try.prog 35 = none := by kernel_rfl
@[simp] theorem under_35 : (Try.prog.underlying 35).isSome = true := by kernel_rfl
@[simp] theorem gty_35 : Try.prog.eqGuardType Try.prog.depth 35 = false := by kernel_rfl
@[simp] theorem sizeT_36 : sizeT Try.prog 36 = some 1 := by kernel_rfl
@[simp] theorem aggT_36 : aggT Try.prog 36 = some false := by kernel_rfl
@[simp] theorem elemT_36 : elemT Try.prog 36 = some 47 := by kernel_rfl
@[simp] theorem arrT_36 : arrT Try.prog 36 = none := by kernel_rfl
@[simp] theorem isInt_36 : isInt Try.prog 36 = none := by kernel_rfl
@[simp] theorem isStr_36 : isStr Try.prog 36 = false := by kernel_rfl
@[simp] theorem isBl_36 : isBl Try.prog 36 = false := by kernel_rfl
@[simp] theorem isPtr_36 : isPtr Try.prog 36 = false := by kernel_rfl
@[simp] theorem mapT_36 : mapT Try.prog 36 = none := by kernel_rfl
@[simp] theorem pairK_36 : pairK Try.prog 36 = false := by kernel_rfl
@[simp] theorem isIfc_36 : isIfc Try.prog 36 = some false := by kernel_rfl
@[simp] theorem bytesT_36 : bytesT Try.prog 36 = some 24 := by kernel_rfl
@[simp] theorem zeroVal_36 : zeroVal Try.prog 36 = some V.nl := by kernel_rfl
@[simp] theorem placesT_36 : placesT Try.prog 36 = none := by kernel_rfl
@[simp] theorem under_36 : (Try.prog.underlying 36).isSome = true := by kernel_rfl
@[simp] theorem gty_36 : Try.prog.eqGuardType Try.prog.depth 36 = false := by kernel_rfl
@[simp] theorem sizeT_38 : sizeT Try.prog 38 = some 7 := by kernel_rfl
@[simp] theorem aggT_38 : aggT Try.prog 38 = some true := by kernel_rfl
@[simp] theorem elemT_38 : elemT Try.prog 38 = none := by kernel_rfl
@[simp] theorem arrT_38 : arrT Try.prog 38 = none := by kernel_rfl
@[simp] theorem isInt_38 : isInt Try.prog 38 = none := by kernel_rfl
@[simp] theorem isStr_38 : isStr Try.prog 38 = false := by kernel_rfl
@[simp] theorem isBl_38 : isBl Try.prog 38 = false := by kernel_rfl
@[simp] theorem isPtr_38 : isPtr Try.prog 38 = false := by kernel_rfl
@[simp] theorem mapT_38 : mapT Try.prog 38 = none := by kernel_rfl
@[simp] theorem pairK_38 : pairK Try.prog 38 = false := by kernel_rfl
@[simp] theorem isIfc_38 : isIfc Try.prog 38 = some false := by kernel_rfl
@[simp] theorem bytesT_38 : bytesT Try.prog 38 = some 88 := by kernel_rfl
@[simp] theorem zeroVal_38 : zeroVal Try.prog 38 = some (V.agg [V.int IntKind.i64 (0), V.int IntKind.i64 (0), V.int IntKind.i64 (0), V.int IntKind.i64 (0), V.nl, V.nl, V.int IntKind.i64 (0)]) := by kernel_rfl
@[simp] theorem placesT_38 : placesT Try.prog 38 = some [(0, 2), (2, 2), (4, 1), (5, 1), (6, 1)] := by kernel_rfl
@[simp] theorem under_38 : (Try.prog.underlying 38).isSome = true := by kernel_rfl
@[simp] theorem gty_38 : Try.prog.eqGuardType Try.prog.depth 38 = false := by kernel_rfl
@[simp] theorem fldT_38_0 : fldT Try.prog 38 0 = some (0, 32) := by kernel_rfl
@[simp] theorem fldT_38_1 : fldT Try.prog 38 1 = some (2, 34) := by kernel_rfl
@[simp] theorem fldT_38_2 : fldT Try.prog 38 2 = some (4, 35) := by kernel_rfl
@[simp] theorem fldT_38_3 : fldT Try.prog 38 3 = some (5, 36) := by kernel_rfl
@[simp] theorem fldT_38_4 : fldT Try.prog 38 4 = some (6, 3) := by kernel_rfl
@[simp] theorem sizeT_41 : sizeT Try.prog 41 = some 1 := by kernel_rfl
@[simp] theorem aggT_41 : aggT Try.prog 41 = some false := by kernel_rfl
@[simp] theorem elemT_41 : elemT Try.prog 41 = some 49 := by kernel_rfl
@[simp] theorem arrT_41 : arrT Try.prog 41 = none := by kernel_rfl
@[simp] theorem isInt_41 : isInt Try.prog 41 = none := by kernel_rfl
@[simp] theorem isStr_41 : isStr Try.prog 41 = false := by kernel_rfl
@[simp] theorem isBl_41 : isBl Try.prog 41 = false := by kernel_rfl
@[simp] theorem isPtr_41 : isPtr Try.prog 41 = false := by kernel_rfl
@[simp] theorem mapT_41 : mapT Try.prog 41 = none := by kernel_rfl
@[simp] theorem pairK_41 : pairK Try.prog 41 = false := by kernel_rfl
@[simp] theorem isIfc_41 : isIfc Try.prog 41 = some false := by kernel_rfl
@[simp] theorem bytesT_41 : bytesT Try.prog 41 = some 24 := by kernel_rfl
@[simp] theorem zeroVal_41 : zeroVal Try.prog 41 = some V.nl := by kernel_rfl
@[simp] theorem placesT_41 : placesT Try.prog 41 = none := by kernel_rfl
@[simp] theorem under_41 : (Try.prog.underlying 41).isSome = true := by kernel_rfl
@[simp] theorem gty_41 : Try.prog.eqGuardType Try.prog.depth 41 = false := by kernel_rfl
@[simp] theorem sizeT_43 : sizeT Try.prog 43 = some 7 := by kernel_rfl
@[simp] theorem aggT_43 : aggT Try.prog 43 = some true := by kernel_rfl
@[simp] theorem elemT_43 : elemT Try.prog 43 = none := by kernel_rfl
@[simp] theorem arrT_43 : arrT Try.prog 43 = none := by kernel_rfl
@[simp] theorem isInt_43 : isInt Try.prog 43 = none := by kernel_rfl
@[simp] theorem isStr_43 : isStr Try.prog 43 = false := by kernel_rfl
@[simp] theorem isBl_43 : isBl Try.prog 43 = false := by kernel_rfl
@[simp] theorem isPtr_43 : isPtr Try.prog 43 = false := by kernel_rfl
@[simp] theorem mapT_43 : mapT Try.prog 43 = none := by kernel_rfl
@[simp] theorem pairK_43 : pairK Try.prog 43 = false := by kernel_rfl
@[simp] theorem isIfc_43 : isIfc Try.prog 43 = some false := by kernel_rfl
@[simp] theorem bytesT_43 : bytesT Try.prog 43 = some 88 := by kernel_rfl
@[simp] theorem zeroVal_43 : zeroVal Try.prog 43 = some (V.agg [V.int IntKind.i64 (0), V.int IntKind.i64 (0), V.int IntKind.i64 (0), V.int IntKind.i64 (0), V.nl, V.nl, V.int IntKind.i64 (0)]) := by kernel_rfl
@[simp] theorem placesT_43 : placesT Try.prog 43 = some [(0, 2), (2, 2), (4, 1), (5, 1), (6, 1)] := by kernel_rfl
@[simp] theorem under_43 : (Try.prog.underlying 43).isSome = true := by kernel_rfl
@[simp] theorem gty_43 : Try.prog.eqGuardType Try.prog.depth 43 = false := by kernel_rfl
@[simp] theorem fldT_43_0 : fldT Try.prog 43 0 = some (0, 32) := by kernel_rfl
@[simp] theorem fldT_43_1 : fldT Try.prog 43 1 = some (2, 34) := by kernel_rfl
@[simp] theorem fldT_43_2 : fldT Try.prog 43 2 = some (4, 41) := by kernel_rfl
@[simp] theorem fldT_43_3 : fldT Try.prog 43 3 = some (5, 36) := by kernel_rfl
@[simp] theorem fldT_43_4 : fldT Try.prog 43 4 = some (6, 3) := by kernel_rfl
@[simp] theorem sizeT_47 : sizeT Try.prog 47 = some 2 := by kernel_rfl
@[simp] theorem aggT_47 : aggT Try.prog 47 = some true := by kernel_rfl
@[simp] theorem elemT_47 : elemT Try.prog 47 = none := by kernel_rfl
@[simp] theorem arrT_47 : arrT Try.prog 47 = none := by kernel_rfl
@[simp] theorem isInt_47 : isInt Try.prog 47 = none := by kernel_rfl
@[simp] theorem isStr_47 : isStr Try.prog 47 = false := by kernel_rfl
@[simp] theorem isBl_47 : isBl Try.prog 47 = false := by kernel_rfl
@[simp] theorem isPtr_47 : isPtr Try.prog 47 = false := by kernel_rfl
@[simp] theorem mapT_47 : mapT Try.prog 47 = none := by kernel_rfl
@[simp] theorem pairK_47 : pairK Try.prog 47 = false := by kernel_rfl
@[simp] theorem isIfc_47 : isIfc Try.prog 47 = some false := by kernel_rfl
@[simp] theorem bytesT_47 : bytesT Try.prog 47 = some 32 := by kernel_rfl
@[simp] theorem zeroVal_47 : zeroVal Try.prog 47 = some (V.agg [V.str ByteArray.empty, V.str ByteArray.empty]) := by kernel_rfl
@[simp] theorem placesT_47 : placesT Try.prog 47 = some [(0, 1), (1, 1)] := by kernel_rfl
@[simp] theorem under_47 : (Try.prog.underlying 47).isSome = true := by kernel_rfl
@[simp] theorem gty_47 : Try.prog.eqGuardType Try.prog.depth 47 = false := by kernel_rfl
@[simp] theorem fldT_47_0 : fldT Try.prog 47 0 = some (0, 9) := by kernel_rfl
@[simp] theorem fldT_47_1 : fldT Try.prog 47 1 = some (1, 9) := by kernel_rfl
@[simp] theorem eqT_47 (xs ys : List V) (hx : xs.length = 2) (hy : ys.length = 2) : eqT Try.prog 40 47 xs ys = eqK ([LK.s, LK.s]) xs ys := eqT_shape 40 47 _ (by kernel_rfl) xs ys hx hy
@[simp] theorem sizeT_49 : sizeT Try.prog 49 = some 4 := by kernel_rfl
@[simp] theorem aggT_49 : aggT Try.prog 49 = some true := by kernel_rfl
@[simp] theorem elemT_49 : elemT Try.prog 49 = none := by kernel_rfl
@[simp] theorem arrT_49 : arrT Try.prog 49 = none := by kernel_rfl
@[simp] theorem isInt_49 : isInt Try.prog 49 = none := by kernel_rfl
@[simp] theorem isStr_49 : isStr Try.prog 49 = false := by kernel_rfl
@[simp] theorem isBl_49 : isBl Try.prog 49 = false := by kernel_rfl
@[simp] theorem isPtr_49 : isPtr Try.prog 49 = false := by kernel_rfl
@[simp] theorem mapT_49 : mapT Try.prog 49 = none := by kernel_rfl
@[simp] theorem pairK_49 : pairK Try.prog 49 = false := by kernel_rfl
@[simp] theorem isIfc_49 : isIfc Try.prog 49 = some false := by kernel_rfl
@[simp] theorem bytesT_49 : bytesT Try.prog 49 = some 48 := by kernel_rfl
@[simp] theorem zeroVal_49 : zeroVal Try.prog 49 = some (V.agg [V.str ByteArray.empty, V.int IntKind.i64 (0), V.int IntKind.i64 (0), V.str ByteArray.empty]) := by kernel_rfl
@[simp] theorem placesT_49 : placesT Try.prog 49 = some [(0, 1), (1, 2), (3, 1)] := by kernel_rfl
@[simp] theorem under_49 : (Try.prog.underlying 49).isSome = true := by kernel_rfl
@[simp] theorem gty_49 : Try.prog.eqGuardType Try.prog.depth 49 = false := by kernel_rfl
@[simp] theorem fldT_49_0 : fldT Try.prog 49 0 = some (0, 9) := by kernel_rfl
@[simp] theorem fldT_49_1 : fldT Try.prog 49 1 = some (1, 34) := by kernel_rfl
@[simp] theorem fldT_49_2 : fldT Try.prog 49 2 = some (3, 9) := by kernel_rfl
@[simp] theorem eqT_49 (xs ys : List V) (hx : xs.length = 4) (hy : ys.length = 4) : eqT Try.prog 40 49 xs ys = eqK ([LK.s, LK.i IntKind.i64, LK.i IntKind.i64, LK.s]) xs ys := eqT_shape 40 49 _ (by kernel_rfl) xs ys hx hy
@[simp] theorem sizeT_52 : sizeT Try.prog 52 = some 4 := by kernel_rfl
@[simp] theorem aggT_52 : aggT Try.prog 52 = some true := by kernel_rfl
@[simp] theorem elemT_52 : elemT Try.prog 52 = none := by kernel_rfl
@[simp] theorem arrT_52 : arrT Try.prog 52 = none := by kernel_rfl
@[simp] theorem isInt_52 : isInt Try.prog 52 = none := by kernel_rfl
@[simp] theorem isStr_52 : isStr Try.prog 52 = false := by kernel_rfl
@[simp] theorem isBl_52 : isBl Try.prog 52 = false := by kernel_rfl
@[simp] theorem isPtr_52 : isPtr Try.prog 52 = false := by kernel_rfl
@[simp] theorem mapT_52 : mapT Try.prog 52 = none := by kernel_rfl
@[simp] theorem pairK_52 : pairK Try.prog 52 = false := by kernel_rfl
@[simp] theorem isIfc_52 : isIfc Try.prog 52 = some false := by kernel_rfl
@[simp] theorem bytesT_52 : bytesT Try.prog 52 = some 48 := by kernel_rfl
@[simp] theorem zeroVal_52 : zeroVal Try.prog 52 = some (V.agg [V.str ByteArray.empty, V.int IntKind.i64 (0), V.int IntKind.i64 (0), V.str ByteArray.empty]) := by kernel_rfl
@[simp] theorem placesT_52 : placesT Try.prog 52 = some [(0, 1), (1, 2), (3, 1)] := by kernel_rfl
@[simp] theorem under_52 : (Try.prog.underlying 52).isSome = true := by kernel_rfl
@[simp] theorem gty_52 : Try.prog.eqGuardType Try.prog.depth 52 = false := by kernel_rfl
@[simp] theorem fldT_52_0 : fldT Try.prog 52 0 = some (0, 9) := by kernel_rfl
@[simp] theorem fldT_52_1 : fldT Try.prog 52 1 = some (1, 34) := by kernel_rfl
@[simp] theorem fldT_52_2 : fldT Try.prog 52 2 = some (3, 9) := by kernel_rfl
@[simp] theorem eqT_52 (xs ys : List V) (hx : xs.length = 4) (hy : ys.length = 4) : eqT Try.prog 40 52 xs ys = eqK ([LK.s, LK.i IntKind.i64, LK.i IntKind.i64, LK.s]) xs ys := eqT_shape 40 52 _ (by kernel_rfl) xs ys hx hy
@[simp] theorem sizeT_62 : sizeT Try.prog 62 = some 1 := by kernel_rfl
@[simp] theorem aggT_62 : aggT Try.prog 62 = some false := by kernel_rfl
@[simp] theorem elemT_62 : elemT Try.prog 62 = some 9 := by kernel_rfl
@[simp] theorem arrT_62 : arrT Try.prog 62 = none := by kernel_rfl
@[simp] theorem isInt_62 : isInt Try.prog 62 = none := by kernel_rfl
@[simp] theorem isStr_62 : isStr Try.prog 62 = false := by kernel_rfl
@[simp] theorem isBl_62 : isBl Try.prog 62 = false := by kernel_rfl
@[simp] theorem isPtr_62 : isPtr Try.prog 62 = false := by kernel_rfl
@[simp] theorem mapT_62 : mapT Try.prog 62 = none := by kernel_rfl
@[simp] theorem pairK_62 : pairK Try.prog 62 = false := by kernel_rfl
@[simp] theorem isIfc_62 : isIfc Try.prog 62 = some false := by kernel_rfl
@[simp] theorem bytesT_62 : bytesT Try.prog 62 = some 24 := by kernel_rfl
@[simp] theorem zeroVal_62 : zeroVal Try.prog 62 = some V.nl := by kernel_rfl
@[simp] theorem placesT_62 : placesT Try.prog 62 = none := by kernel_rfl
@[simp] theorem under_62 : (Try.prog.underlying 62).isSome = true := by kernel_rfl
@[simp] theorem gty_62 : Try.prog.eqGuardType Try.prog.depth 62 = false := by kernel_rfl
@[simp] theorem sizeT_68 : sizeT Try.prog 68 = some 1 := by kernel_rfl
@[simp] theorem aggT_68 : aggT Try.prog 68 = some false := by kernel_rfl
@[simp] theorem elemT_68 : elemT Try.prog 68 = none := by kernel_rfl
@[simp] theorem arrT_68 : arrT Try.prog 68 = none := by kernel_rfl
@[simp] theorem isInt_68 : isInt Try.prog 68 = none := by kernel_rfl
@[simp] theorem isStr_68 : isStr Try.prog 68 = false := by kernel_rfl
@[simp] theorem isBl_68 : isBl Try.prog 68 = false := by kernel_rfl
@[simp] theorem isPtr_68 : isPtr Try.prog 68 = false := by kernel_rfl
@[simp] theorem mapT_68 : mapT Try.prog 68 = none := by kernel_rfl
@[simp] theorem pairK_68 : pairK Try.prog 68 = false := by kernel_rfl
@[simp] theorem isIfc_68 : isIfc Try.prog 68 = some false := by kernel_rfl
@[simp] theorem bytesT_68 : bytesT Try.prog 68 = some 8 := by kernel_rfl
@[simp] theorem zeroVal_68 : zeroVal Try.prog 68 = some V.nilf := by kernel_rfl
@[simp] theorem placesT_68 : placesT Try.prog 68 = none := by kernel_rfl
@[simp] theorem under_68 : (Try.prog.underlying 68).isSome = true := by kernel_rfl
@[simp] theorem gty_68 : Try.prog.eqGuardType Try.prog.depth 68 = false := by kernel_rfl
@[simp] theorem sizeT_71 : sizeT Try.prog 71 = some 1 := by kernel_rfl
@[simp] theorem aggT_71 : aggT Try.prog 71 = some false := by kernel_rfl
@[simp] theorem elemT_71 : elemT Try.prog 71 = none := by kernel_rfl
@[simp] theorem arrT_71 : arrT Try.prog 71 = none := by kernel_rfl
@[simp] theorem isInt_71 : isInt Try.prog 71 = none := by kernel_rfl
@[simp] theorem isStr_71 : isStr Try.prog 71 = false := by kernel_rfl
@[simp] theorem isBl_71 : isBl Try.prog 71 = false := by kernel_rfl
@[simp] theorem isPtr_71 : isPtr Try.prog 71 = false := by kernel_rfl
@[simp] theorem mapT_71 : mapT Try.prog 71 = some (9, 9) := by kernel_rfl
@[simp] theorem pairK_71 : pairK Try.prog 71 = false := by kernel_rfl
@[simp] theorem isIfc_71 : isIfc Try.prog 71 = some false := by kernel_rfl
@[simp] theorem bytesT_71 : bytesT Try.prog 71 = some 8 := by kernel_rfl
@[simp] theorem zeroVal_71 : zeroVal Try.prog 71 = some V.nilm := by kernel_rfl
@[simp] theorem placesT_71 : placesT Try.prog 71 = none := by kernel_rfl
@[simp] theorem under_71 : (Try.prog.underlying 71).isSome = true := by kernel_rfl
@[simp] theorem gty_71 : Try.prog.eqGuardType Try.prog.depth 71 = false := by kernel_rfl
@[simp] theorem sizeT_73 : sizeT Try.prog 73 = some 1 := by kernel_rfl
@[simp] theorem aggT_73 : aggT Try.prog 73 = some false := by kernel_rfl
@[simp] theorem elemT_73 : elemT Try.prog 73 = none := by kernel_rfl
@[simp] theorem arrT_73 : arrT Try.prog 73 = none := by kernel_rfl
@[simp] theorem isInt_73 : isInt Try.prog 73 = none := by kernel_rfl
@[simp] theorem isStr_73 : isStr Try.prog 73 = false := by kernel_rfl
@[simp] theorem isBl_73 : isBl Try.prog 73 = false := by kernel_rfl
@[simp] theorem isPtr_73 : isPtr Try.prog 73 = false := by kernel_rfl
@[simp] theorem mapT_73 : mapT Try.prog 73 = none := by kernel_rfl
@[simp] theorem pairK_73 : pairK Try.prog 73 = false := by kernel_rfl
@[simp] theorem isIfc_73 : isIfc Try.prog 73 = some false := by kernel_rfl
@[simp] theorem bytesT_73 : bytesT Try.prog 73 = some 8 := by kernel_rfl
@[simp] theorem zeroVal_73 : zeroVal Try.prog 73 = some V.nilf := by kernel_rfl
@[simp] theorem placesT_73 : placesT Try.prog 73 = none := by kernel_rfl
@[simp] theorem under_73 : (Try.prog.underlying 73).isSome = true := by kernel_rfl
@[simp] theorem gty_73 : Try.prog.eqGuardType Try.prog.depth 73 = false := by kernel_rfl
@[simp] theorem sizeT_74 : sizeT Try.prog 74 = some 1 := by kernel_rfl
@[simp] theorem aggT_74 : aggT Try.prog 74 = some false := by kernel_rfl
@[simp] theorem elemT_74 : elemT Try.prog 74 = none := by kernel_rfl
@[simp] theorem arrT_74 : arrT Try.prog 74 = none := by kernel_rfl
@[simp] theorem isInt_74 : isInt Try.prog 74 = none := by kernel_rfl
@[simp] theorem isStr_74 : isStr Try.prog 74 = false := by kernel_rfl
@[simp] theorem isBl_74 : isBl Try.prog 74 = false := by kernel_rfl
@[simp] theorem isPtr_74 : isPtr Try.prog 74 = false := by kernel_rfl
@[simp] theorem mapT_74 : mapT Try.prog 74 = some (32, 3) := by kernel_rfl
@[simp] theorem pairK_74 : pairK Try.prog 74 = false := by kernel_rfl
@[simp] theorem isIfc_74 : isIfc Try.prog 74 = some false := by kernel_rfl
@[simp] theorem bytesT_74 : bytesT Try.prog 74 = some 8 := by kernel_rfl
@[simp] theorem zeroVal_74 : zeroVal Try.prog 74 = some V.nilm := by kernel_rfl
@[simp] theorem placesT_74 : placesT Try.prog 74 = none := by kernel_rfl
@[simp] theorem under_74 : (Try.prog.underlying 74).isSome = true := by kernel_rfl
@[simp] theorem gty_74 : Try.prog.eqGuardType Try.prog.depth 74 = false := by kernel_rfl
@[simp] theorem sizeT_75 : sizeT Try.prog 75 = some 1 := by kernel_rfl
@[simp] theorem aggT_75 : aggT Try.prog 75 = some false := by kernel_rfl
@[simp] theorem elemT_75 : elemT Try.prog 75 = none := by kernel_rfl
@[simp] theorem arrT_75 : arrT Try.prog 75 = none := by kernel_rfl
@[simp] theorem isInt_75 : isInt Try.prog 75 = none := by kernel_rfl
@[simp] theorem isStr_75 : isStr Try.prog 75 = false := by kernel_rfl
@[simp] theorem isBl_75 : isBl Try.prog 75 = false := by kernel_rfl
@[simp] theorem isPtr_75 : isPtr Try.prog 75 = false := by kernel_rfl
@[simp] theorem mapT_75 : mapT Try.prog 75 = some (34, 3) := by kernel_rfl
@[simp] theorem pairK_75 : pairK Try.prog 75 = false := by kernel_rfl
@[simp] theorem isIfc_75 : isIfc Try.prog 75 = some false := by kernel_rfl
@[simp] theorem bytesT_75 : bytesT Try.prog 75 = some 8 := by kernel_rfl
@[simp] theorem zeroVal_75 : zeroVal Try.prog 75 = some V.nilm := by kernel_rfl
@[simp] theorem placesT_75 : placesT Try.prog 75 = none := by kernel_rfl
@[simp] theorem under_75 : (Try.prog.underlying 75).isSome = true := by kernel_rfl
@[simp] theorem gty_75 : Try.prog.eqGuardType Try.prog.depth 75 = false := by kernel_rfl
@[simp] theorem sizeT_82 : sizeT Try.prog 82 = some 1 := by kernel_rfl
@[simp] theorem aggT_82 : aggT Try.prog 82 = some false := by kernel_rfl
@[simp] theorem elemT_82 : elemT Try.prog 82 = none := by kernel_rfl
@[simp] theorem arrT_82 : arrT Try.prog 82 = none := by kernel_rfl
@[simp] theorem isInt_82 : isInt Try.prog 82 = some IntKind.u64 := by kernel_rfl
@[simp] theorem isStr_82 : isStr Try.prog 82 = false := by kernel_rfl
@[simp] theorem isBl_82 : isBl Try.prog 82 = false := by kernel_rfl
@[simp] theorem isPtr_82 : isPtr Try.prog 82 = false := by kernel_rfl
@[simp] theorem mapT_82 : mapT Try.prog 82 = none := by kernel_rfl
@[simp] theorem pairK_82 : pairK Try.prog 82 = false := by kernel_rfl
@[simp] theorem isIfc_82 : isIfc Try.prog 82 = some false := by kernel_rfl
@[simp] theorem bytesT_82 : bytesT Try.prog 82 = some 8 := by kernel_rfl
@[simp] theorem zeroVal_82 : zeroVal Try.prog 82 = some (V.int IntKind.u64 (0)) := by kernel_rfl
@[simp] theorem placesT_82 : placesT Try.prog 82 = none := by kernel_rfl
@[simp] theorem under_82 : (Try.prog.underlying 82).isSome = true := by kernel_rfl
@[simp] theorem gty_82 : Try.prog.eqGuardType Try.prog.depth 82 = false := by kernel_rfl
@[simp] theorem sizeT_86 : sizeT Try.prog 86 = some 1 := by kernel_rfl
@[simp] theorem aggT_86 : aggT Try.prog 86 = some false := by kernel_rfl
@[simp] theorem elemT_86 : elemT Try.prog 86 = none := by kernel_rfl
@[simp] theorem arrT_86 : arrT Try.prog 86 = none := by kernel_rfl
@[simp] theorem isInt_86 : isInt Try.prog 86 = some IntKind.i64 := by kernel_rfl
@[simp] theorem isStr_86 : isStr Try.prog 86 = false := by kernel_rfl
@[simp] theorem isBl_86 : isBl Try.prog 86 = false := by kernel_rfl
@[simp] theorem isPtr_86 : isPtr Try.prog 86 = false := by kernel_rfl
@[simp] theorem mapT_86 : mapT Try.prog 86 = none := by kernel_rfl
@[simp] theorem pairK_86 : pairK Try.prog 86 = false := by kernel_rfl
@[simp] theorem isIfc_86 : isIfc Try.prog 86 = some false := by kernel_rfl
@[simp] theorem bytesT_86 : bytesT Try.prog 86 = some 8 := by kernel_rfl
@[simp] theorem zeroVal_86 : zeroVal Try.prog 86 = some (V.int IntKind.i64 (0)) := by kernel_rfl
@[simp] theorem placesT_86 : placesT Try.prog 86 = none := by kernel_rfl
@[simp] theorem under_86 : (Try.prog.underlying 86).isSome = true := by kernel_rfl
@[simp] theorem gty_86 : Try.prog.eqGuardType Try.prog.depth 86 = false := by kernel_rfl
@[simp] theorem sizeT_94 : sizeT Try.prog 94 = some 1 := by kernel_rfl
@[simp] theorem aggT_94 : aggT Try.prog 94 = some false := by kernel_rfl
@[simp] theorem elemT_94 : elemT Try.prog 94 = none := by kernel_rfl
@[simp] theorem arrT_94 : arrT Try.prog 94 = none := by kernel_rfl
@[simp] theorem isInt_94 : isInt Try.prog 94 = some IntKind.u32 := by kernel_rfl
@[simp] theorem isStr_94 : isStr Try.prog 94 = false := by kernel_rfl
@[simp] theorem isBl_94 : isBl Try.prog 94 = false := by kernel_rfl
@[simp] theorem isPtr_94 : isPtr Try.prog 94 = false := by kernel_rfl
@[simp] theorem mapT_94 : mapT Try.prog 94 = none := by kernel_rfl
@[simp] theorem pairK_94 : pairK Try.prog 94 = false := by kernel_rfl
@[simp] theorem isIfc_94 : isIfc Try.prog 94 = some false := by kernel_rfl
@[simp] theorem bytesT_94 : bytesT Try.prog 94 = some 4 := by kernel_rfl
@[simp] theorem zeroVal_94 : zeroVal Try.prog 94 = some (V.int IntKind.u32 (0)) := by kernel_rfl
@[simp] theorem placesT_94 : placesT Try.prog 94 = none := by kernel_rfl
@[simp] theorem under_94 : (Try.prog.underlying 94).isSome = true := by kernel_rfl
@[simp] theorem gty_94 : Try.prog.eqGuardType Try.prog.depth 94 = false := by kernel_rfl
@[simp] theorem sizeT_96 : sizeT Try.prog 96 = some 1 := by kernel_rfl
@[simp] theorem aggT_96 : aggT Try.prog 96 = some false := by kernel_rfl
@[simp] theorem elemT_96 : elemT Try.prog 96 = none := by kernel_rfl
@[simp] theorem arrT_96 : arrT Try.prog 96 = none := by kernel_rfl
@[simp] theorem isInt_96 : isInt Try.prog 96 = some IntKind.u64 := by kernel_rfl
@[simp] theorem isStr_96 : isStr Try.prog 96 = false := by kernel_rfl
@[simp] theorem isBl_96 : isBl Try.prog 96 = false := by kernel_rfl
@[simp] theorem isPtr_96 : isPtr Try.prog 96 = false := by kernel_rfl
@[simp] theorem mapT_96 : mapT Try.prog 96 = none := by kernel_rfl
@[simp] theorem pairK_96 : pairK Try.prog 96 = false := by kernel_rfl
@[simp] theorem isIfc_96 : isIfc Try.prog 96 = some false := by kernel_rfl
@[simp] theorem bytesT_96 : bytesT Try.prog 96 = some 8 := by kernel_rfl
@[simp] theorem zeroVal_96 : zeroVal Try.prog 96 = some (V.int IntKind.u64 (0)) := by kernel_rfl
@[simp] theorem placesT_96 : placesT Try.prog 96 = none := by kernel_rfl
@[simp] theorem under_96 : (Try.prog.underlying 96).isSome = true := by kernel_rfl
@[simp] theorem gty_96 : Try.prog.eqGuardType Try.prog.depth 96 = false := by kernel_rfl
@[simp] theorem sizeT_97 : sizeT Try.prog 97 = some 1 := by kernel_rfl
@[simp] theorem aggT_97 : aggT Try.prog 97 = some false := by kernel_rfl
@[simp] theorem elemT_97 : elemT Try.prog 97 = none := by kernel_rfl
@[simp] theorem arrT_97 : arrT Try.prog 97 = none := by kernel_rfl
@[simp] theorem isInt_97 : isInt Try.prog 97 = some IntKind.u64 := by kernel_rfl
@[simp] theorem isStr_97 : isStr Try.prog 97 = false := by kernel_rfl
@[simp] theorem isBl_97 : isBl Try.prog 97 = false := by kernel_rfl
@[simp] theorem isPtr_97 : isPtr Try.prog 97 = false := by kernel_rfl
@[simp] theorem mapT_97 : mapT Try.prog 97 = none := by kernel_rfl
@[simp] theorem pairK_97 : pairK Try.prog 97 = false := by kernel_rfl
@[simp] theorem isIfc_97 : isIfc Try.prog 97 = some false := by kernel_rfl
@[simp] theorem bytesT_97 : bytesT Try.prog 97 = some 8 := by kernel_rfl
@[simp] theorem zeroVal_97 : zeroVal Try.prog 97 = some (V.int IntKind.u64 (0)) := by kernel_rfl
@[simp] theorem placesT_97 : placesT Try.prog 97 = none := by kernel_rfl
@[simp] theorem under_97 : (Try.prog.underlying 97).isSome = true := by kernel_rfl
@[simp] theorem gty_97 : Try.prog.eqGuardType Try.prog.depth 97 = false := by kernel_rfl
@[simp] theorem sizeT_101 : sizeT Try.prog 101 = some 1 := by kernel_rfl
@[simp] theorem aggT_101 : aggT Try.prog 101 = some false := by kernel_rfl
@[simp] theorem elemT_101 : elemT Try.prog 101 = none := by kernel_rfl
@[simp] theorem arrT_101 : arrT Try.prog 101 = none := by kernel_rfl
@[simp] theorem isInt_101 : isInt Try.prog 101 = none := by kernel_rfl
@[simp] theorem isStr_101 : isStr Try.prog 101 = false := by kernel_rfl
@[simp] theorem isBl_101 : isBl Try.prog 101 = false := by kernel_rfl
@[simp] theorem isPtr_101 : isPtr Try.prog 101 = true := by kernel_rfl
@[simp] theorem mapT_101 : mapT Try.prog 101 = none := by kernel_rfl
@[simp] theorem pairK_101 : pairK Try.prog 101 = false := by kernel_rfl
@[simp] theorem isIfc_101 : isIfc Try.prog 101 = some false := by kernel_rfl
@[simp] theorem bytesT_101 : bytesT Try.prog 101 = some 8 := by kernel_rfl
@[simp] theorem zeroVal_101 : zeroVal Try.prog 101 = some V.nilp := by kernel_rfl
@[simp] theorem placesT_101 : placesT Try.prog 101 = none := by kernel_rfl
@[simp] theorem under_101 : (Try.prog.underlying 101).isSome = true := by kernel_rfl
@[simp] theorem gty_101 : Try.prog.eqGuardType Try.prog.depth 101 = false := by kernel_rfl
@[simp] theorem mixed : Try.prog.follows .mixedOrders = true := by kernel_rfl
theorem dOk : DrawsOk Try.prog (drawsP Try.prog) := drawsP_ok mixed
end Go.Proofs.Ytnldlkkcdgdkgaa.AX
