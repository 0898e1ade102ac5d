/-
  X: facts about the types of this seat's program. Written by wip/tools/types.py.
-/
import Derived.Test.YtgcfmodgabeocaaDoorXW
import Derived.Test.YtgcfmodgabeocaaDoorProg
namespace Go.Proofs.YtgcfmodgabeocaaDoor.X
open Go.RowKit
theorem hm : Tryd.prog.follows .mixedOrders = true := by kernel_rfl

@[simp] theorem szT_0 : szT Tryd.prog 0 = some 1 := by kernel_rfl
@[simp] theorem byT_0 : byT Tryd.prog 0 = some 0 := by kernel_rfl
@[simp] theorem aggT_0 : aggT Tryd.prog 0 = some false := by kernel_rfl
@[simp] theorem zeroAV_0 : zeroAV Tryd.prog 0 = some (AV.tup []) := by kernel_rfl
@[simp] theorem szT_1 : szT Tryd.prog 1 = some 1 := by kernel_rfl
@[simp] theorem byT_1 : byT Tryd.prog 1 = some 8 := by kernel_rfl
@[simp] theorem aggT_1 : aggT Tryd.prog 1 = some false := by kernel_rfl
@[simp] theorem zeroAV_1 : zeroAV Tryd.prog 1 = some AV.nilFn := by kernel_rfl
@[simp] theorem szT_2 : szT Tryd.prog 2 = some 1 := by kernel_rfl
@[simp] theorem byT_2 : byT Tryd.prog 2 = some 8 := by kernel_rfl
@[simp] theorem aggT_2 : aggT Tryd.prog 2 = some false := by kernel_rfl
@[simp] theorem zeroAV_2 : zeroAV Tryd.prog 2 = some (AV.int IntKind.i64 (0)) := by kernel_rfl
@[simp] theorem intT_2 : intT Tryd.prog 2 = some IntKind.i64 := by kernel_rfl
@[simp] theorem szT_3 : szT Tryd.prog 3 = some 1 := by kernel_rfl
@[simp] theorem byT_3 : byT Tryd.prog 3 = some 8 := by kernel_rfl
@[simp] theorem aggT_3 : aggT Tryd.prog 3 = some false := by kernel_rfl
@[simp] theorem zeroAV_3 : zeroAV Tryd.prog 3 = some (AV.int IntKind.i64 (0)) := by kernel_rfl
@[simp] theorem intT_3 : intT Tryd.prog 3 = some IntKind.i64 := by kernel_rfl
@[simp] theorem szT_4 : szT Tryd.prog 4 = some 1 := by kernel_rfl
@[simp] theorem byT_4 : byT Tryd.prog 4 = some 1 := by kernel_rfl
@[simp] theorem aggT_4 : aggT Tryd.prog 4 = some false := by kernel_rfl
@[simp] theorem zeroAV_4 : zeroAV Tryd.prog 4 = some (AV.bool false) := by kernel_rfl
@[simp] theorem szT_5 : szT Tryd.prog 5 = some 1 := by kernel_rfl
@[simp] theorem byT_5 : byT Tryd.prog 5 = some 1 := by kernel_rfl
@[simp] theorem aggT_5 : aggT Tryd.prog 5 = some false := by kernel_rfl
@[simp] theorem zeroAV_5 : zeroAV Tryd.prog 5 = some (AV.int IntKind.u8 (0)) := by kernel_rfl
@[simp] theorem intT_5 : intT Tryd.prog 5 = some IntKind.u8 := by kernel_rfl
@[simp] theorem szT_6 : szT Tryd.prog 6 = some 1 := by kernel_rfl
@[simp] theorem byT_6 : byT Tryd.prog 6 = some 1 := by kernel_rfl
@[simp] theorem aggT_6 : aggT Tryd.prog 6 = some false := by kernel_rfl
@[simp] theorem zeroAV_6 : zeroAV Tryd.prog 6 = some (AV.int IntKind.u8 (0)) := by kernel_rfl
@[simp] theorem intT_6 : intT Tryd.prog 6 = some IntKind.u8 := by kernel_rfl
@[simp] theorem szT_7 : szT Tryd.prog 7 = some 4 := by kernel_rfl
@[simp] theorem byT_7 : byT Tryd.prog 7 = some 24 := by kernel_rfl
@[simp] theorem aggT_7 : aggT Tryd.prog 7 = some true := by kernel_rfl
@[simp] theorem zeroAV_7 : zeroAV Tryd.prog 7 = some (AV.agg [AV.int IntKind.i64 (0), AV.int IntKind.i64 (0), AV.bool false, AV.int IntKind.u8 (0)]) := by kernel_rfl
@[simp] theorem fldT_7_0 : fldT Tryd.prog 7 0 = some (0, 2) := by kernel_rfl
@[simp] theorem fldT_7_1 : fldT Tryd.prog 7 1 = some (1, 3) := by kernel_rfl
@[simp] theorem fldT_7_2 : fldT Tryd.prog 7 2 = some (2, 4) := by kernel_rfl
@[simp] theorem fldT_7_3 : fldT Tryd.prog 7 3 = some (3, 6) := by kernel_rfl
@[simp] theorem szT_8 : szT Tryd.prog 8 = some 4 := by kernel_rfl
@[simp] theorem byT_8 : byT Tryd.prog 8 = some 24 := by kernel_rfl
@[simp] theorem aggT_8 : aggT Tryd.prog 8 = some true := by kernel_rfl
@[simp] theorem zeroAV_8 : zeroAV Tryd.prog 8 = some (AV.agg [AV.int IntKind.i64 (0), AV.int IntKind.i64 (0), AV.bool false, AV.int IntKind.u8 (0)]) := by kernel_rfl
@[simp] theorem fldT_8_0 : fldT Tryd.prog 8 0 = some (0, 2) := by kernel_rfl
@[simp] theorem fldT_8_1 : fldT Tryd.prog 8 1 = some (1, 3) := by kernel_rfl
@[simp] theorem fldT_8_2 : fldT Tryd.prog 8 2 = some (2, 4) := by kernel_rfl
@[simp] theorem fldT_8_3 : fldT Tryd.prog 8 3 = some (3, 6) := by kernel_rfl
@[simp] theorem szT_9 : szT Tryd.prog 9 = some 1 := by kernel_rfl
@[simp] theorem byT_9 : byT Tryd.prog 9 = some 16 := by kernel_rfl
@[simp] theorem aggT_9 : aggT Tryd.prog 9 = some false := by kernel_rfl
@[simp] theorem zeroAV_9 : zeroAV Tryd.prog 9 = some (AV.str ⟨#[]⟩) := by kernel_rfl
@[simp] theorem strT_9 : strT Tryd.prog 9 = true := by kernel_rfl
@[simp] theorem szT_10 : szT Tryd.prog 10 = some 1 := by kernel_rfl
@[simp] theorem byT_10 : byT Tryd.prog 10 = some 16 := by kernel_rfl
@[simp] theorem aggT_10 : aggT Tryd.prog 10 = some false := by kernel_rfl
@[simp] theorem zeroAV_10 : zeroAV Tryd.prog 10 = some (AV.str ⟨#[]⟩) := by kernel_rfl
@[simp] theorem strT_10 : strT Tryd.prog 10 = true := by kernel_rfl
@[simp] theorem szT_11 : szT Tryd.prog 11 = some 1 := by kernel_rfl
@[simp] theorem byT_11 : byT Tryd.prog 11 = some 16 := by kernel_rfl
@[simp] theorem aggT_11 : aggT Tryd.prog 11 = some false := by kernel_rfl
@[simp] theorem zeroAV_11 : zeroAV Tryd.prog 11 = some (AV.str ⟨#[]⟩) := by kernel_rfl
@[simp] theorem strT_11 : strT Tryd.prog 11 = true := by kernel_rfl
@[simp] theorem szT_12 : szT Tryd.prog 12 = some 1 := by kernel_rfl
@[simp] theorem byT_12 : byT Tryd.prog 12 = some 8 := by kernel_rfl
@[simp] theorem aggT_12 : aggT Tryd.prog 12 = some false := by kernel_rfl
@[simp] theorem zeroAV_12 : zeroAV Tryd.prog 12 = some (AV.int IntKind.u64 (0)) := by kernel_rfl
@[simp] theorem intT_12 : intT Tryd.prog 12 = some IntKind.u64 := by kernel_rfl
@[simp] theorem szT_13 : szT Tryd.prog 13 = some 2 := by kernel_rfl
@[simp] theorem byT_13 : byT Tryd.prog 13 = some 24 := by kernel_rfl
@[simp] theorem aggT_13 : aggT Tryd.prog 13 = some true := by kernel_rfl
@[simp] theorem zeroAV_13 : zeroAV Tryd.prog 13 = some (AV.agg [AV.str ⟨#[]⟩, AV.int IntKind.u64 (0)]) := by kernel_rfl
@[simp] theorem fldT_13_0 : fldT Tryd.prog 13 0 = some (0, 9) := by kernel_rfl
@[simp] theorem fldT_13_1 : fldT Tryd.prog 13 1 = some (1, 12) := by kernel_rfl
@[simp] theorem szT_14 : szT Tryd.prog 14 = some 2 := by kernel_rfl
@[simp] theorem byT_14 : byT Tryd.prog 14 = some 24 := by kernel_rfl
@[simp] theorem aggT_14 : aggT Tryd.prog 14 = some true := by kernel_rfl
@[simp] theorem zeroAV_14 : zeroAV Tryd.prog 14 = some (AV.agg [AV.str ⟨#[]⟩, AV.int IntKind.u64 (0)]) := by kernel_rfl
@[simp] theorem fldT_14_0 : fldT Tryd.prog 14 0 = some (0, 9) := by kernel_rfl
@[simp] theorem fldT_14_1 : fldT Tryd.prog 14 1 = some (1, 12) := by kernel_rfl
@[simp] theorem szT_15 : szT Tryd.prog 15 = some 1 := by kernel_rfl
@[simp] theorem byT_15 : byT Tryd.prog 15 = some 8 := by kernel_rfl
@[simp] theorem aggT_15 : aggT Tryd.prog 15 = some false := by kernel_rfl
@[simp] theorem zeroAV_15 : zeroAV Tryd.prog 15 = some AV.nilPtr := by kernel_rfl
@[simp] theorem szT_16 : szT Tryd.prog 16 = some 1 := by kernel_rfl
@[simp] theorem byT_16 : byT Tryd.prog 16 = some 8 := by kernel_rfl
@[simp] theorem aggT_16 : aggT Tryd.prog 16 = some false := by kernel_rfl
@[simp] theorem zeroAV_16 : zeroAV Tryd.prog 16 = some AV.nilPtr := by kernel_rfl
@[simp] theorem szT_17 : szT Tryd.prog 17 = some 1 := by kernel_rfl
@[simp] theorem byT_17 : byT Tryd.prog 17 = some 8 := by kernel_rfl
@[simp] theorem aggT_17 : aggT Tryd.prog 17 = some false := by kernel_rfl
@[simp] theorem zeroAV_17 : zeroAV Tryd.prog 17 = some AV.nilPtr := by kernel_rfl
@[simp] theorem szT_18 : szT Tryd.prog 18 = some 1 := by kernel_rfl
@[simp] theorem byT_18 : byT Tryd.prog 18 = some 8 := by kernel_rfl
@[simp] theorem aggT_18 : aggT Tryd.prog 18 = some true := by kernel_rfl
@[simp] theorem zeroAV_18 : zeroAV Tryd.prog 18 = some (AV.agg [AV.nilPtr]) := by kernel_rfl
@[simp] theorem fldT_18_0 : fldT Tryd.prog 18 0 = some (0, 17) := by kernel_rfl
@[simp] theorem szT_19 : szT Tryd.prog 19 = some 1 := by kernel_rfl
@[simp] theorem byT_19 : byT Tryd.prog 19 = some 8 := by kernel_rfl
@[simp] theorem aggT_19 : aggT Tryd.prog 19 = some true := by kernel_rfl
@[simp] theorem zeroAV_19 : zeroAV Tryd.prog 19 = some (AV.agg [AV.nilPtr]) := by kernel_rfl
@[simp] theorem fldT_19_0 : fldT Tryd.prog 19 0 = some (0, 17) := by kernel_rfl
@[simp] theorem szT_20 : szT Tryd.prog 20 = some 1 := by kernel_rfl
@[simp] theorem byT_20 : byT Tryd.prog 20 = some 16 := by kernel_rfl
@[simp] theorem aggT_20 : aggT Tryd.prog 20 = some false := by kernel_rfl
@[simp] theorem zeroAV_20 : zeroAV Tryd.prog 20 = some AV.nilIf := by kernel_rfl
@[simp] theorem szT_21 : szT Tryd.prog 21 = some 1 := by kernel_rfl
@[simp] theorem byT_21 : byT Tryd.prog 21 = some 4 := by kernel_rfl
@[simp] theorem aggT_21 : aggT Tryd.prog 21 = some false := by kernel_rfl
@[simp] theorem zeroAV_21 : zeroAV Tryd.prog 21 = some (AV.int IntKind.i32 (0)) := by kernel_rfl
@[simp] theorem intT_21 : intT Tryd.prog 21 = some IntKind.i32 := by kernel_rfl
@[simp] theorem szT_22 : szT Tryd.prog 22 = some 5 := by kernel_rfl
@[simp] theorem byT_22 : byT Tryd.prog 22 = some 40 := by kernel_rfl
@[simp] theorem aggT_22 : aggT Tryd.prog 22 = some true := by kernel_rfl
@[simp] theorem zeroAV_22 : zeroAV Tryd.prog 22 = some (AV.agg [AV.int IntKind.i64 (0), AV.int IntKind.i64 (0), AV.int IntKind.i64 (0), AV.int IntKind.i64 (0), AV.int IntKind.i64 (0)]) := by kernel_rfl
@[simp] theorem fldT_22_0 : fldT Tryd.prog 22 0 = some (0, 3) := by kernel_rfl
@[simp] theorem fldT_22_1 : fldT Tryd.prog 22 1 = some (1, 3) := by kernel_rfl
@[simp] theorem fldT_22_2 : fldT Tryd.prog 22 2 = some (2, 3) := by kernel_rfl
@[simp] theorem fldT_22_3 : fldT Tryd.prog 22 3 = some (3, 3) := by kernel_rfl
@[simp] theorem fldT_22_4 : fldT Tryd.prog 22 4 = some (4, 3) := by kernel_rfl
@[simp] theorem szT_23 : szT Tryd.prog 23 = some 5 := by kernel_rfl
@[simp] theorem byT_23 : byT Tryd.prog 23 = some 40 := by kernel_rfl
@[simp] theorem aggT_23 : aggT Tryd.prog 23 = some true := by kernel_rfl
@[simp] theorem zeroAV_23 : zeroAV Tryd.prog 23 = some (AV.agg [AV.int IntKind.i64 (0), AV.int IntKind.i64 (0), AV.int IntKind.i64 (0), AV.int IntKind.i64 (0), AV.int IntKind.i64 (0)]) := by kernel_rfl
@[simp] theorem fldT_23_0 : fldT Tryd.prog 23 0 = some (0, 3) := by kernel_rfl
@[simp] theorem fldT_23_1 : fldT Tryd.prog 23 1 = some (1, 3) := by kernel_rfl
@[simp] theorem fldT_23_2 : fldT Tryd.prog 23 2 = some (2, 3) := by kernel_rfl
@[simp] theorem fldT_23_3 : fldT Tryd.prog 23 3 = some (3, 3) := by kernel_rfl
@[simp] theorem fldT_23_4 : fldT Tryd.prog 23 4 = some (4, 3) := by kernel_rfl
@[simp] theorem szT_24 : szT Tryd.prog 24 = some 1 := by kernel_rfl
@[simp] theorem byT_24 : byT Tryd.prog 24 = some 8 := by kernel_rfl
@[simp] theorem aggT_24 : aggT Tryd.prog 24 = some false := by kernel_rfl
@[simp] theorem zeroAV_24 : zeroAV Tryd.prog 24 = some AV.nilFn := by kernel_rfl
@[simp] theorem szT_25 : szT Tryd.prog 25 = some 1 := by kernel_rfl
@[simp] theorem byT_25 : byT Tryd.prog 25 = some 8 := by kernel_rfl
@[simp] theorem aggT_25 : aggT Tryd.prog 25 = some false := by kernel_rfl
@[simp] theorem zeroAV_25 : zeroAV Tryd.prog 25 = some AV.nilFn := by kernel_rfl
@[simp] theorem szT_26 : szT Tryd.prog 26 = some 1 := by kernel_rfl
@[simp] theorem byT_26 : byT Tryd.prog 26 = some 24 := by kernel_rfl
@[simp] theorem aggT_26 : aggT Tryd.prog 26 = some false := by kernel_rfl
@[simp] theorem zeroAV_26 : zeroAV Tryd.prog 26 = some AV.nilSl := by kernel_rfl
@[simp] theorem elT_26 : elT Tryd.prog 26 = some 9 := by kernel_rfl
@[simp] theorem szT_27 : szT Tryd.prog 27 = some 1 := by kernel_rfl
@[simp] theorem byT_27 : byT Tryd.prog 27 = some 8 := by kernel_rfl
@[simp] theorem aggT_27 : aggT Tryd.prog 27 = some false := by kernel_rfl
@[simp] theorem zeroAV_27 : zeroAV Tryd.prog 27 = some (AV.int IntKind.i64 (0)) := by kernel_rfl
@[simp] theorem intT_27 : intT Tryd.prog 27 = some IntKind.i64 := by kernel_rfl
@[simp] theorem szT_28 : szT Tryd.prog 28 = some 1 := by kernel_rfl
@[simp] theorem byT_28 : byT Tryd.prog 28 = some 0 := by kernel_rfl
@[simp] theorem aggT_28 : aggT Tryd.prog 28 = some false := by kernel_rfl
@[simp] theorem szT_29 : szT Tryd.prog 29 = some 1 := by kernel_rfl
@[simp] theorem byT_29 : byT Tryd.prog 29 = some 8 := by kernel_rfl
@[simp] theorem aggT_29 : aggT Tryd.prog 29 = some false := by kernel_rfl
@[simp] theorem zeroAV_29 : zeroAV Tryd.prog 29 = some AV.nilFn := by kernel_rfl
@[simp] theorem szT_30 : szT Tryd.prog 30 = some 1 := by kernel_rfl
@[simp] theorem byT_30 : byT Tryd.prog 30 = some 8 := by kernel_rfl
@[simp] theorem aggT_30 : aggT Tryd.prog 30 = some false := by kernel_rfl
@[simp] theorem zeroAV_30 : zeroAV Tryd.prog 30 = some AV.nilFn := by kernel_rfl
@[simp] theorem szT_31 : szT Tryd.prog 31 = some 1 := by kernel_rfl
@[simp] theorem byT_31 : byT Tryd.prog 31 = some 8 := by kernel_rfl
@[simp] theorem aggT_31 : aggT Tryd.prog 31 = some false := by kernel_rfl
@[simp] theorem zeroAV_31 : zeroAV Tryd.prog 31 = some AV.nilFn := by kernel_rfl
@[simp] theorem szT_32 : szT Tryd.prog 32 = some 1 := by kernel_rfl
@[simp] theorem byT_32 : byT Tryd.prog 32 = some 24 := by kernel_rfl
@[simp] theorem aggT_32 : aggT Tryd.prog 32 = some false := by kernel_rfl
@[simp] theorem zeroAV_32 : zeroAV Tryd.prog 32 = some AV.nilSl := by kernel_rfl
@[simp] theorem elT_32 : elT Tryd.prog 32 = some 4 := by kernel_rfl
@[simp] theorem szT_33 : szT Tryd.prog 33 = some 1 := by kernel_rfl
@[simp] theorem byT_33 : byT Tryd.prog 33 = some 8 := by kernel_rfl
@[simp] theorem aggT_33 : aggT Tryd.prog 33 = some false := by kernel_rfl
@[simp] theorem zeroAV_33 : zeroAV Tryd.prog 33 = some AV.nilFn := by kernel_rfl
@[simp] theorem szT_34 : szT Tryd.prog 34 = some 1 := by kernel_rfl
@[simp] theorem byT_34 : byT Tryd.prog 34 = some 0 := by kernel_rfl
@[simp] theorem aggT_34 : aggT Tryd.prog 34 = some false := by kernel_rfl
@[simp] theorem szT_35 : szT Tryd.prog 35 = some 1 := by kernel_rfl
@[simp] theorem byT_35 : byT Tryd.prog 35 = some 8 := by kernel_rfl
@[simp] theorem aggT_35 : aggT Tryd.prog 35 = some false := by kernel_rfl
@[simp] theorem zeroAV_35 : zeroAV Tryd.prog 35 = some AV.nilFn := by kernel_rfl
@[simp] theorem szT_36 : szT Tryd.prog 36 = some 1 := by kernel_rfl
@[simp] theorem byT_36 : byT Tryd.prog 36 = some 8 := by kernel_rfl
@[simp] theorem aggT_36 : aggT Tryd.prog 36 = some false := by kernel_rfl
@[simp] theorem zeroAV_36 : zeroAV Tryd.prog 36 = some AV.nilFn := by kernel_rfl
@[simp] theorem szT_37 : szT Tryd.prog 37 = some 1 := by kernel_rfl
@[simp] theorem byT_37 : byT Tryd.prog 37 = some 8 := by kernel_rfl
@[simp] theorem aggT_37 : aggT Tryd.prog 37 = some false := by kernel_rfl
@[simp] theorem zeroAV_37 : zeroAV Tryd.prog 37 = some AV.nilFn := by kernel_rfl
@[simp] theorem szT_38 : szT Tryd.prog 38 = some 1 := by kernel_rfl
@[simp] theorem byT_38 : byT Tryd.prog 38 = some 8 := by kernel_rfl
@[simp] theorem aggT_38 : aggT Tryd.prog 38 = some false := by kernel_rfl
@[simp] theorem zeroAV_38 : zeroAV Tryd.prog 38 = some AV.nilFn := by kernel_rfl
@[simp] theorem szT_39 : szT Tryd.prog 39 = some 1 := by kernel_rfl
@[simp] theorem byT_39 : byT Tryd.prog 39 = some 8 := by kernel_rfl
@[simp] theorem aggT_39 : aggT Tryd.prog 39 = some false := by kernel_rfl
@[simp] theorem zeroAV_39 : zeroAV Tryd.prog 39 = some AV.nilFn := by kernel_rfl
@[simp] theorem szT_40 : szT Tryd.prog 40 = some 1 := by kernel_rfl
@[simp] theorem byT_40 : byT Tryd.prog 40 = some 8 := by kernel_rfl
@[simp] theorem aggT_40 : aggT Tryd.prog 40 = some false := by kernel_rfl
@[simp] theorem zeroAV_40 : zeroAV Tryd.prog 40 = some AV.nilFn := by kernel_rfl
@[simp] theorem szT_41 : szT Tryd.prog 41 = some 1 := by kernel_rfl
@[simp] theorem byT_41 : byT Tryd.prog 41 = some 8 := by kernel_rfl
@[simp] theorem aggT_41 : aggT Tryd.prog 41 = some false := by kernel_rfl
@[simp] theorem zeroAV_41 : zeroAV Tryd.prog 41 = some AV.nilFn := by kernel_rfl
@[simp] theorem szT_42 : szT Tryd.prog 42 = some 1 := by kernel_rfl
@[simp] theorem byT_42 : byT Tryd.prog 42 = some 8 := by kernel_rfl
@[simp] theorem aggT_42 : aggT Tryd.prog 42 = some false := by kernel_rfl
@[simp] theorem zeroAV_42 : zeroAV Tryd.prog 42 = some AV.nilFn := by kernel_rfl
@[simp] theorem szT_43 : szT Tryd.prog 43 = some 1 := by kernel_rfl
@[simp] theorem byT_43 : byT Tryd.prog 43 = some 8 := by kernel_rfl
@[simp] theorem aggT_43 : aggT Tryd.prog 43 = some false := by kernel_rfl
@[simp] theorem zeroAV_43 : zeroAV Tryd.prog 43 = some AV.nilFn := by kernel_rfl
@[simp] theorem szT_44 : szT Tryd.prog 44 = some 1 := by kernel_rfl
@[simp] theorem byT_44 : byT Tryd.prog 44 = some 8 := by kernel_rfl
@[simp] theorem aggT_44 : aggT Tryd.prog 44 = some false := by kernel_rfl
@[simp] theorem zeroAV_44 : zeroAV Tryd.prog 44 = some AV.nilFn := by kernel_rfl
@[simp] theorem szT_45 : szT Tryd.prog 45 = some 1 := by kernel_rfl
@[simp] theorem byT_45 : byT Tryd.prog 45 = some 24 := by kernel_rfl
@[simp] theorem aggT_45 : aggT Tryd.prog 45 = some false := by kernel_rfl
@[simp] theorem zeroAV_45 : zeroAV Tryd.prog 45 = some AV.nilSl := by kernel_rfl
@[simp] theorem elT_45 : elT Tryd.prog 45 = some 5 := by kernel_rfl
@[simp] theorem szT_46 : szT Tryd.prog 46 = some 1 := by kernel_rfl
@[simp] theorem byT_46 : byT Tryd.prog 46 = some 8 := by kernel_rfl
@[simp] theorem aggT_46 : aggT Tryd.prog 46 = some false := by kernel_rfl
@[simp] theorem zeroAV_46 : zeroAV Tryd.prog 46 = some AV.nilFn := by kernel_rfl
@[simp] theorem szT_47 : szT Tryd.prog 47 = some 1 := by kernel_rfl
@[simp] theorem byT_47 : byT Tryd.prog 47 = some 8 := by kernel_rfl
@[simp] theorem aggT_47 : aggT Tryd.prog 47 = some false := by kernel_rfl
@[simp] theorem zeroAV_47 : zeroAV Tryd.prog 47 = some AV.nilFn := by kernel_rfl
@[simp] theorem szT_48 : szT Tryd.prog 48 = some 1 := by kernel_rfl
@[simp] theorem byT_48 : byT Tryd.prog 48 = some 8 := by kernel_rfl
@[simp] theorem aggT_48 : aggT Tryd.prog 48 = some false := by kernel_rfl
@[simp] theorem zeroAV_48 : zeroAV Tryd.prog 48 = some AV.nilFn := by kernel_rfl
@[simp] theorem szT_49 : szT Tryd.prog 49 = some 1 := by kernel_rfl
@[simp] theorem byT_49 : byT Tryd.prog 49 = some 8 := by kernel_rfl
@[simp] theorem aggT_49 : aggT Tryd.prog 49 = some false := by kernel_rfl
@[simp] theorem zeroAV_49 : zeroAV Tryd.prog 49 = some AV.nilFn := by kernel_rfl
@[simp] theorem szT_50 : szT Tryd.prog 50 = some 1 := by kernel_rfl
@[simp] theorem byT_50 : byT Tryd.prog 50 = some 8 := by kernel_rfl
@[simp] theorem aggT_50 : aggT Tryd.prog 50 = some false := by kernel_rfl
@[simp] theorem zeroAV_50 : zeroAV Tryd.prog 50 = some AV.nilFn := by kernel_rfl
@[simp] theorem szT_51 : szT Tryd.prog 51 = some 1 := by kernel_rfl
@[simp] theorem byT_51 : byT Tryd.prog 51 = some 8 := by kernel_rfl
@[simp] theorem aggT_51 : aggT Tryd.prog 51 = some false := by kernel_rfl
@[simp] theorem zeroAV_51 : zeroAV Tryd.prog 51 = some AV.nilFn := by kernel_rfl
@[simp] theorem szT_52 : szT Tryd.prog 52 = some 1 := by kernel_rfl
@[simp] theorem byT_52 : byT Tryd.prog 52 = some 0 := by kernel_rfl
@[simp] theorem aggT_52 : aggT Tryd.prog 52 = some false := by kernel_rfl
@[simp] theorem szT_53 : szT Tryd.prog 53 = some 1 := by kernel_rfl
@[simp] theorem byT_53 : byT Tryd.prog 53 = some 8 := by kernel_rfl
@[simp] theorem aggT_53 : aggT Tryd.prog 53 = some false := by kernel_rfl
@[simp] theorem zeroAV_53 : zeroAV Tryd.prog 53 = some AV.nilFn := by kernel_rfl
@[simp] theorem szT_54 : szT Tryd.prog 54 = some 1 := by kernel_rfl
@[simp] theorem byT_54 : byT Tryd.prog 54 = some 8 := by kernel_rfl
@[simp] theorem aggT_54 : aggT Tryd.prog 54 = some false := by kernel_rfl
@[simp] theorem zeroAV_54 : zeroAV Tryd.prog 54 = some AV.nilFn := by kernel_rfl
@[simp] theorem szT_55 : szT Tryd.prog 55 = some 1 := by kernel_rfl
@[simp] theorem byT_55 : byT Tryd.prog 55 = some 8 := by kernel_rfl
@[simp] theorem aggT_55 : aggT Tryd.prog 55 = some false := by kernel_rfl
@[simp] theorem zeroAV_55 : zeroAV Tryd.prog 55 = some AV.nilFn := by kernel_rfl
@[simp] theorem szT_56 : szT Tryd.prog 56 = some 1 := by kernel_rfl
@[simp] theorem byT_56 : byT Tryd.prog 56 = some 8 := by kernel_rfl
@[simp] theorem aggT_56 : aggT Tryd.prog 56 = some false := by kernel_rfl
@[simp] theorem zeroAV_56 : zeroAV Tryd.prog 56 = some AV.nilFn := by kernel_rfl
@[simp] theorem szT_57 : szT Tryd.prog 57 = some 1 := by kernel_rfl
@[simp] theorem byT_57 : byT Tryd.prog 57 = some 0 := by kernel_rfl
@[simp] theorem aggT_57 : aggT Tryd.prog 57 = some false := by kernel_rfl
@[simp] theorem szT_58 : szT Tryd.prog 58 = some 1 := by kernel_rfl
@[simp] theorem byT_58 : byT Tryd.prog 58 = some 8 := by kernel_rfl
@[simp] theorem aggT_58 : aggT Tryd.prog 58 = some false := by kernel_rfl
@[simp] theorem zeroAV_58 : zeroAV Tryd.prog 58 = some AV.nilFn := by kernel_rfl
@[simp] theorem szT_59 : szT Tryd.prog 59 = some 1 := by kernel_rfl
@[simp] theorem byT_59 : byT Tryd.prog 59 = some 8 := by kernel_rfl
@[simp] theorem aggT_59 : aggT Tryd.prog 59 = some false := by kernel_rfl
@[simp] theorem zeroAV_59 : zeroAV Tryd.prog 59 = some AV.nilFn := by kernel_rfl
@[simp] theorem szT_60 : szT Tryd.prog 60 = some 1 := by kernel_rfl
@[simp] theorem byT_60 : byT Tryd.prog 60 = some 8 := by kernel_rfl
@[simp] theorem aggT_60 : aggT Tryd.prog 60 = some false := by kernel_rfl
@[simp] theorem zeroAV_60 : zeroAV Tryd.prog 60 = some AV.nilFn := by kernel_rfl
@[simp] theorem szT_61 : szT Tryd.prog 61 = some 1 := by kernel_rfl
@[simp] theorem byT_61 : byT Tryd.prog 61 = some 8 := by kernel_rfl
@[simp] theorem aggT_61 : aggT Tryd.prog 61 = some false := by kernel_rfl
@[simp] theorem zeroAV_61 : zeroAV Tryd.prog 61 = some AV.nilFn := by kernel_rfl
@[simp] theorem szT_62 : szT Tryd.prog 62 = some 1 := by kernel_rfl
@[simp] theorem byT_62 : byT Tryd.prog 62 = some 8 := by kernel_rfl
@[simp] theorem aggT_62 : aggT Tryd.prog 62 = some false := by kernel_rfl
@[simp] theorem zeroAV_62 : zeroAV Tryd.prog 62 = some AV.nilFn := by kernel_rfl
@[simp] theorem szT_63 : szT Tryd.prog 63 = some 1 := by kernel_rfl
@[simp] theorem byT_63 : byT Tryd.prog 63 = some 8 := by kernel_rfl
@[simp] theorem aggT_63 : aggT Tryd.prog 63 = some false := by kernel_rfl
@[simp] theorem zeroAV_63 : zeroAV Tryd.prog 63 = some AV.nilFn := by kernel_rfl
@[simp] theorem szT_64 : szT Tryd.prog 64 = some 1 := by kernel_rfl
@[simp] theorem byT_64 : byT Tryd.prog 64 = some 8 := by kernel_rfl
@[simp] theorem aggT_64 : aggT Tryd.prog 64 = some false := by kernel_rfl
@[simp] theorem zeroAV_64 : zeroAV Tryd.prog 64 = some AV.nilFn := by kernel_rfl
@[simp] theorem szT_65 : szT Tryd.prog 65 = some 1 := by kernel_rfl
@[simp] theorem byT_65 : byT Tryd.prog 65 = some 8 := by kernel_rfl
@[simp] theorem aggT_65 : aggT Tryd.prog 65 = some false := by kernel_rfl
@[simp] theorem zeroAV_65 : zeroAV Tryd.prog 65 = some AV.nilFn := by kernel_rfl
@[simp] theorem szT_66 : szT Tryd.prog 66 = some 1 := by kernel_rfl
@[simp] theorem byT_66 : byT Tryd.prog 66 = some 8 := by kernel_rfl
@[simp] theorem aggT_66 : aggT Tryd.prog 66 = some false := by kernel_rfl
@[simp] theorem zeroAV_66 : zeroAV Tryd.prog 66 = some AV.nilFn := by kernel_rfl
@[simp] theorem szT_67 : szT Tryd.prog 67 = some 1 := by kernel_rfl
@[simp] theorem byT_67 : byT Tryd.prog 67 = some 24 := by kernel_rfl
@[simp] theorem aggT_67 : aggT Tryd.prog 67 = some false := by kernel_rfl
@[simp] theorem zeroAV_67 : zeroAV Tryd.prog 67 = some AV.nilSl := by kernel_rfl
@[simp] theorem elT_67 : elT Tryd.prog 67 = some 3 := by kernel_rfl
@[simp] theorem szT_68 : szT Tryd.prog 68 = some 1 := by kernel_rfl
@[simp] theorem byT_68 : byT Tryd.prog 68 = some 8 := by kernel_rfl
@[simp] theorem aggT_68 : aggT Tryd.prog 68 = some false := by kernel_rfl
@[simp] theorem zeroAV_68 : zeroAV Tryd.prog 68 = some AV.nilFn := by kernel_rfl
@[simp] theorem szT_69 : szT Tryd.prog 69 = some 1 := by kernel_rfl
@[simp] theorem byT_69 : byT Tryd.prog 69 = some 8 := by kernel_rfl
@[simp] theorem aggT_69 : aggT Tryd.prog 69 = some false := by kernel_rfl
@[simp] theorem zeroAV_69 : zeroAV Tryd.prog 69 = some AV.nilFn := by kernel_rfl
@[simp] theorem szT_70 : szT Tryd.prog 70 = some 1 := by kernel_rfl
@[simp] theorem byT_70 : byT Tryd.prog 70 = some 8 := by kernel_rfl
@[simp] theorem aggT_70 : aggT Tryd.prog 70 = some false := by kernel_rfl
@[simp] theorem zeroAV_70 : zeroAV Tryd.prog 70 = some AV.nilFn := by kernel_rfl
@[simp] theorem szT_71 : szT Tryd.prog 71 = some 1 := by kernel_rfl
@[simp] theorem byT_71 : byT Tryd.prog 71 = some 8 := by kernel_rfl
@[simp] theorem aggT_71 : aggT Tryd.prog 71 = some false := by kernel_rfl
@[simp] theorem zeroAV_71 : zeroAV Tryd.prog 71 = some AV.nilFn := by kernel_rfl
@[simp] theorem szT_72 : szT Tryd.prog 72 = some 1 := by kernel_rfl
@[simp] theorem byT_72 : byT Tryd.prog 72 = some 8 := by kernel_rfl
@[simp] theorem aggT_72 : aggT Tryd.prog 72 = some false := by kernel_rfl
@[simp] theorem zeroAV_72 : zeroAV Tryd.prog 72 = some AV.nilPtr := by kernel_rfl
@[simp] theorem szT_73 : szT Tryd.prog 73 = some 2 := by kernel_rfl
@[simp] theorem byT_73 : byT Tryd.prog 73 = some 32 := by kernel_rfl
@[simp] theorem aggT_73 : aggT Tryd.prog 73 = some true := by kernel_rfl
@[simp] theorem zeroAV_73 : zeroAV Tryd.prog 73 = some (AV.agg [AV.nilPtr, AV.nilSl]) := by kernel_rfl
@[simp] theorem fldT_73_0 : fldT Tryd.prog 73 0 = some (0, 72) := by kernel_rfl
@[simp] theorem fldT_73_1 : fldT Tryd.prog 73 1 = some (1, 45) := by kernel_rfl
@[simp] theorem szT_74 : szT Tryd.prog 74 = some 2 := by kernel_rfl
@[simp] theorem byT_74 : byT Tryd.prog 74 = some 32 := by kernel_rfl
@[simp] theorem aggT_74 : aggT Tryd.prog 74 = some true := by kernel_rfl
@[simp] theorem zeroAV_74 : zeroAV Tryd.prog 74 = some (AV.agg [AV.nilPtr, AV.nilSl]) := by kernel_rfl
@[simp] theorem fldT_74_0 : fldT Tryd.prog 74 0 = some (0, 72) := by kernel_rfl
@[simp] theorem fldT_74_1 : fldT Tryd.prog 74 1 = some (1, 45) := by kernel_rfl
@[simp] theorem szT_75 : szT Tryd.prog 75 = some 1 := by kernel_rfl
@[simp] theorem byT_75 : byT Tryd.prog 75 = some 8 := by kernel_rfl
@[simp] theorem aggT_75 : aggT Tryd.prog 75 = some false := by kernel_rfl
@[simp] theorem zeroAV_75 : zeroAV Tryd.prog 75 = some AV.nilFn := by kernel_rfl
@[simp] theorem szT_76 : szT Tryd.prog 76 = some 1 := by kernel_rfl
@[simp] theorem byT_76 : byT Tryd.prog 76 = some 16 := by kernel_rfl
@[simp] theorem aggT_76 : aggT Tryd.prog 76 = some false := by kernel_rfl
@[simp] theorem zeroAV_76 : zeroAV Tryd.prog 76 = some AV.nilIf := by kernel_rfl
@[simp] theorem szT_77 : szT Tryd.prog 77 = some 1 := by kernel_rfl
@[simp] theorem byT_77 : byT Tryd.prog 77 = some 16 := by kernel_rfl
@[simp] theorem aggT_77 : aggT Tryd.prog 77 = some false := by kernel_rfl
@[simp] theorem zeroAV_77 : zeroAV Tryd.prog 77 = some AV.nilIf := by kernel_rfl
@[simp] theorem szT_78 : szT Tryd.prog 78 = some 1 := by kernel_rfl
@[simp] theorem byT_78 : byT Tryd.prog 78 = some 0 := by kernel_rfl
@[simp] theorem aggT_78 : aggT Tryd.prog 78 = some false := by kernel_rfl
@[simp] theorem szT_79 : szT Tryd.prog 79 = some 1 := by kernel_rfl
@[simp] theorem byT_79 : byT Tryd.prog 79 = some 8 := by kernel_rfl
@[simp] theorem aggT_79 : aggT Tryd.prog 79 = some false := by kernel_rfl
@[simp] theorem zeroAV_79 : zeroAV Tryd.prog 79 = some AV.nilFn := by kernel_rfl
@[simp] theorem szT_80 : szT Tryd.prog 80 = some 1 := by kernel_rfl
@[simp] theorem byT_80 : byT Tryd.prog 80 = some 8 := by kernel_rfl
@[simp] theorem aggT_80 : aggT Tryd.prog 80 = some false := by kernel_rfl
@[simp] theorem zeroAV_80 : zeroAV Tryd.prog 80 = some AV.nilFn := by kernel_rfl
@[simp] theorem szT_81 : szT Tryd.prog 81 = some 1 := by kernel_rfl
@[simp] theorem byT_81 : byT Tryd.prog 81 = some 8 := by kernel_rfl
@[simp] theorem aggT_81 : aggT Tryd.prog 81 = some false := by kernel_rfl
@[simp] theorem zeroAV_81 : zeroAV Tryd.prog 81 = some AV.nilFn := by kernel_rfl
@[simp] theorem szT_82 : szT Tryd.prog 82 = some 256 := by kernel_rfl
@[simp] theorem byT_82 : byT Tryd.prog 82 = some 256 := by kernel_rfl
@[simp] theorem aggT_82 : aggT Tryd.prog 82 = some true := by kernel_rfl
@[simp] theorem szT_83 : szT Tryd.prog 83 = some 256 := by kernel_rfl
@[simp] theorem byT_83 : byT Tryd.prog 83 = some 256 := by kernel_rfl
@[simp] theorem aggT_83 : aggT Tryd.prog 83 = some true := by kernel_rfl
@[simp] theorem szT_84 : szT Tryd.prog 84 = some 1 := by kernel_rfl
@[simp] theorem byT_84 : byT Tryd.prog 84 = some 0 := by kernel_rfl
@[simp] theorem aggT_84 : aggT Tryd.prog 84 = some false := by kernel_rfl
@[simp] theorem szT_85 : szT Tryd.prog 85 = some 1 := by kernel_rfl
@[simp] theorem byT_85 : byT Tryd.prog 85 = some 8 := by kernel_rfl
@[simp] theorem aggT_85 : aggT Tryd.prog 85 = some false := by kernel_rfl
@[simp] theorem zeroAV_85 : zeroAV Tryd.prog 85 = some AV.nilFn := by kernel_rfl
@[simp] theorem szT_86 : szT Tryd.prog 86 = some 1 := by kernel_rfl
@[simp] theorem byT_86 : byT Tryd.prog 86 = some 8 := by kernel_rfl
@[simp] theorem aggT_86 : aggT Tryd.prog 86 = some false := by kernel_rfl
@[simp] theorem zeroAV_86 : zeroAV Tryd.prog 86 = some AV.nilFn := by kernel_rfl
@[simp] theorem szT_87 : szT Tryd.prog 87 = some 1 := by kernel_rfl
@[simp] theorem byT_87 : byT Tryd.prog 87 = some 8 := by kernel_rfl
@[simp] theorem aggT_87 : aggT Tryd.prog 87 = some false := by kernel_rfl
@[simp] theorem zeroAV_87 : zeroAV Tryd.prog 87 = some AV.nilPtr := by kernel_rfl
@[simp] theorem szT_88 : szT Tryd.prog 88 = some 1 := by kernel_rfl
@[simp] theorem byT_88 : byT Tryd.prog 88 = some 8 := by kernel_rfl
@[simp] theorem aggT_88 : aggT Tryd.prog 88 = some false := by kernel_rfl
@[simp] theorem zeroAV_88 : zeroAV Tryd.prog 88 = some AV.nilFn := by kernel_rfl
@[simp] theorem szT_89 : szT Tryd.prog 89 = some 1 := by kernel_rfl
@[simp] theorem byT_89 : byT Tryd.prog 89 = some 0 := by kernel_rfl
@[simp] theorem aggT_89 : aggT Tryd.prog 89 = some false := by kernel_rfl
@[simp] theorem szT_90 : szT Tryd.prog 90 = some 1 := by kernel_rfl
@[simp] theorem byT_90 : byT Tryd.prog 90 = some 8 := by kernel_rfl
@[simp] theorem aggT_90 : aggT Tryd.prog 90 = some false := by kernel_rfl
@[simp] theorem zeroAV_90 : zeroAV Tryd.prog 90 = some AV.nilFn := by kernel_rfl
@[simp] theorem szT_91 : szT Tryd.prog 91 = some 1 := by kernel_rfl
@[simp] theorem byT_91 : byT Tryd.prog 91 = some 8 := by kernel_rfl
@[simp] theorem aggT_91 : aggT Tryd.prog 91 = some false := by kernel_rfl
@[simp] theorem zeroAV_91 : zeroAV Tryd.prog 91 = some AV.nilFn := by kernel_rfl
@[simp] theorem szT_92 : szT Tryd.prog 92 = some 1 := by kernel_rfl
@[simp] theorem byT_92 : byT Tryd.prog 92 = some 8 := by kernel_rfl
@[simp] theorem aggT_92 : aggT Tryd.prog 92 = some false := by kernel_rfl
@[simp] theorem zeroAV_92 : zeroAV Tryd.prog 92 = some AV.nilFn := by kernel_rfl
@[simp] theorem szT_93 : szT Tryd.prog 93 = some 1 := by kernel_rfl
@[simp] theorem byT_93 : byT Tryd.prog 93 = some 8 := by kernel_rfl
@[simp] theorem aggT_93 : aggT Tryd.prog 93 = some false := by kernel_rfl
@[simp] theorem zeroAV_93 : zeroAV Tryd.prog 93 = some AV.nilFn := by kernel_rfl
@[simp] theorem szT_94 : szT Tryd.prog 94 = some 1 := by kernel_rfl
@[simp] theorem byT_94 : byT Tryd.prog 94 = some 8 := by kernel_rfl
@[simp] theorem aggT_94 : aggT Tryd.prog 94 = some false := by kernel_rfl
@[simp] theorem zeroAV_94 : zeroAV Tryd.prog 94 = some AV.nilFn := by kernel_rfl
@[simp] theorem szT_95 : szT Tryd.prog 95 = some 1 := by kernel_rfl
@[simp] theorem byT_95 : byT Tryd.prog 95 = some 8 := by kernel_rfl
@[simp] theorem aggT_95 : aggT Tryd.prog 95 = some false := by kernel_rfl
@[simp] theorem zeroAV_95 : zeroAV Tryd.prog 95 = some AV.nilFn := by kernel_rfl
@[simp] theorem szT_96 : szT Tryd.prog 96 = some 1 := by kernel_rfl
@[simp] theorem byT_96 : byT Tryd.prog 96 = some 8 := by kernel_rfl
@[simp] theorem aggT_96 : aggT Tryd.prog 96 = some false := by kernel_rfl
@[simp] theorem zeroAV_96 : zeroAV Tryd.prog 96 = some AV.nilFn := by kernel_rfl
@[simp] theorem szT_97 : szT Tryd.prog 97 = some 1 := by kernel_rfl
@[simp] theorem byT_97 : byT Tryd.prog 97 = some 8 := by kernel_rfl
@[simp] theorem aggT_97 : aggT Tryd.prog 97 = some false := by kernel_rfl
@[simp] theorem zeroAV_97 : zeroAV Tryd.prog 97 = some AV.nilFn := by kernel_rfl
@[simp] theorem szT_98 : szT Tryd.prog 98 = some 1 := by kernel_rfl
@[simp] theorem byT_98 : byT Tryd.prog 98 = some 8 := by kernel_rfl
@[simp] theorem aggT_98 : aggT Tryd.prog 98 = some false := by kernel_rfl
@[simp] theorem zeroAV_98 : zeroAV Tryd.prog 98 = some AV.nilPtr := by kernel_rfl
@[simp] theorem szT_99 : szT Tryd.prog 99 = some 1 := by kernel_rfl
@[simp] theorem byT_99 : byT Tryd.prog 99 = some 8 := by kernel_rfl
@[simp] theorem aggT_99 : aggT Tryd.prog 99 = some false := by kernel_rfl
@[simp] theorem zeroAV_99 : zeroAV Tryd.prog 99 = some AV.nilFn := by kernel_rfl
@[simp] theorem szT_100 : szT Tryd.prog 100 = some 1 := by kernel_rfl
@[simp] theorem byT_100 : byT Tryd.prog 100 = some 0 := by kernel_rfl
@[simp] theorem aggT_100 : aggT Tryd.prog 100 = some false := by kernel_rfl
@[simp] theorem szT_101 : szT Tryd.prog 101 = some 1 := by kernel_rfl
@[simp] theorem byT_101 : byT Tryd.prog 101 = some 8 := by kernel_rfl
@[simp] theorem aggT_101 : aggT Tryd.prog 101 = some false := by kernel_rfl
@[simp] theorem zeroAV_101 : zeroAV Tryd.prog 101 = some AV.nilFn := by kernel_rfl
@[simp] theorem szT_102 : szT Tryd.prog 102 = some 1 := by kernel_rfl
@[simp] theorem byT_102 : byT Tryd.prog 102 = some 8 := by kernel_rfl
@[simp] theorem aggT_102 : aggT Tryd.prog 102 = some false := by kernel_rfl
@[simp] theorem zeroAV_102 : zeroAV Tryd.prog 102 = some AV.nilFn := by kernel_rfl
@[simp] theorem szT_103 : szT Tryd.prog 103 = some 1 := by kernel_rfl
@[simp] theorem byT_103 : byT Tryd.prog 103 = some 8 := by kernel_rfl
@[simp] theorem aggT_103 : aggT Tryd.prog 103 = some false := by kernel_rfl
@[simp] theorem zeroAV_103 : zeroAV Tryd.prog 103 = some AV.nilFn := by kernel_rfl
@[simp] theorem szT_104 : szT Tryd.prog 104 = some 1 := by kernel_rfl
@[simp] theorem byT_104 : byT Tryd.prog 104 = some 24 := by kernel_rfl
@[simp] theorem aggT_104 : aggT Tryd.prog 104 = some false := by kernel_rfl
@[simp] theorem zeroAV_104 : zeroAV Tryd.prog 104 = some AV.nilSl := by kernel_rfl
@[simp] theorem elT_104 : elT Tryd.prog 104 = some 45 := by kernel_rfl
@[simp] theorem szT_105 : szT Tryd.prog 105 = some 1 := by kernel_rfl
@[simp] theorem byT_105 : byT Tryd.prog 105 = some 8 := by kernel_rfl
@[simp] theorem aggT_105 : aggT Tryd.prog 105 = some false := by kernel_rfl
@[simp] theorem zeroAV_105 : zeroAV Tryd.prog 105 = some AV.nilFn := by kernel_rfl
@[simp] theorem szT_106 : szT Tryd.prog 106 = some 1 := by kernel_rfl
@[simp] theorem byT_106 : byT Tryd.prog 106 = some 8 := by kernel_rfl
@[simp] theorem aggT_106 : aggT Tryd.prog 106 = some false := by kernel_rfl
@[simp] theorem zeroAV_106 : zeroAV Tryd.prog 106 = some AV.nilFn := by kernel_rfl
@[simp] theorem szT_107 : szT Tryd.prog 107 = some 1 := by kernel_rfl
@[simp] theorem byT_107 : byT Tryd.prog 107 = some 8 := by kernel_rfl
@[simp] theorem aggT_107 : aggT Tryd.prog 107 = some false := by kernel_rfl
@[simp] theorem zeroAV_107 : zeroAV Tryd.prog 107 = some AV.nilFn := by kernel_rfl
@[simp] theorem szT_108 : szT Tryd.prog 108 = some 1 := by kernel_rfl
@[simp] theorem byT_108 : byT Tryd.prog 108 = some 8 := by kernel_rfl
@[simp] theorem aggT_108 : aggT Tryd.prog 108 = some false := by kernel_rfl
@[simp] theorem zeroAV_108 : zeroAV Tryd.prog 108 = some AV.nilFn := by kernel_rfl
@[simp] theorem szT_109 : szT Tryd.prog 109 = some 1 := by kernel_rfl
@[simp] theorem byT_109 : byT Tryd.prog 109 = some 8 := by kernel_rfl
@[simp] theorem aggT_109 : aggT Tryd.prog 109 = some false := by kernel_rfl
@[simp] theorem zeroAV_109 : zeroAV Tryd.prog 109 = some AV.nilFn := by kernel_rfl
@[simp] theorem szT_110 : szT Tryd.prog 110 = some 1 := by kernel_rfl
@[simp] theorem byT_110 : byT Tryd.prog 110 = some 8 := by kernel_rfl
@[simp] theorem aggT_110 : aggT Tryd.prog 110 = some false := by kernel_rfl
@[simp] theorem zeroAV_110 : zeroAV Tryd.prog 110 = some AV.nilFn := by kernel_rfl
@[simp] theorem szT_111 : szT Tryd.prog 111 = some 1 := by kernel_rfl
@[simp] theorem byT_111 : byT Tryd.prog 111 = some 8 := by kernel_rfl
@[simp] theorem aggT_111 : aggT Tryd.prog 111 = some false := by kernel_rfl
@[simp] theorem zeroAV_111 : zeroAV Tryd.prog 111 = some AV.nilFn := by kernel_rfl
@[simp] theorem szT_112 : szT Tryd.prog 112 = some 1 := by kernel_rfl
@[simp] theorem byT_112 : byT Tryd.prog 112 = some 8 := by kernel_rfl
@[simp] theorem aggT_112 : aggT Tryd.prog 112 = some false := by kernel_rfl
@[simp] theorem zeroAV_112 : zeroAV Tryd.prog 112 = some AV.nilPtr := by kernel_rfl
@[simp] theorem szT_113 : szT Tryd.prog 113 = some 1 := by kernel_rfl
@[simp] theorem byT_113 : byT Tryd.prog 113 = some 8 := by kernel_rfl
@[simp] theorem aggT_113 : aggT Tryd.prog 113 = some false := by kernel_rfl
@[simp] theorem zeroAV_113 : zeroAV Tryd.prog 113 = some AV.nilFn := by kernel_rfl
@[simp] theorem szT_114 : szT Tryd.prog 114 = some 1 := by kernel_rfl
@[simp] theorem byT_114 : byT Tryd.prog 114 = some 8 := by kernel_rfl
@[simp] theorem aggT_114 : aggT Tryd.prog 114 = some false := by kernel_rfl
@[simp] theorem zeroAV_114 : zeroAV Tryd.prog 114 = some AV.nilFn := by kernel_rfl
@[simp] theorem szT_115 : szT Tryd.prog 115 = some 1 := by kernel_rfl
@[simp] theorem byT_115 : byT Tryd.prog 115 = some 8 := by kernel_rfl
@[simp] theorem aggT_115 : aggT Tryd.prog 115 = some false := by kernel_rfl
@[simp] theorem zeroAV_115 : zeroAV Tryd.prog 115 = some AV.nilFn := by kernel_rfl
@[simp] theorem szT_116 : szT Tryd.prog 116 = some 510 := by kernel_rfl
@[simp] theorem byT_116 : byT Tryd.prog 116 = some 510 := by kernel_rfl
@[simp] theorem aggT_116 : aggT Tryd.prog 116 = some true := by kernel_rfl
@[simp] theorem szT_117 : szT Tryd.prog 117 = some 256 := by kernel_rfl
@[simp] theorem byT_117 : byT Tryd.prog 117 = some 2048 := by kernel_rfl
@[simp] theorem aggT_117 : aggT Tryd.prog 117 = some true := by kernel_rfl
@[simp] theorem szT_118 : szT Tryd.prog 118 = some 766 := by kernel_rfl
@[simp] theorem byT_118 : byT Tryd.prog 118 = some 2560 := by kernel_rfl
@[simp] theorem aggT_118 : aggT Tryd.prog 118 = some true := by kernel_rfl
@[simp] theorem fldT_118_0 : fldT Tryd.prog 118 0 = some (0, 116) := by kernel_rfl
@[simp] theorem fldT_118_1 : fldT Tryd.prog 118 1 = some (510, 117) := by kernel_rfl
@[simp] theorem szT_119 : szT Tryd.prog 119 = some 766 := by kernel_rfl
@[simp] theorem byT_119 : byT Tryd.prog 119 = some 2560 := by kernel_rfl
@[simp] theorem aggT_119 : aggT Tryd.prog 119 = some true := by kernel_rfl
@[simp] theorem fldT_119_0 : fldT Tryd.prog 119 0 = some (0, 116) := by kernel_rfl
@[simp] theorem fldT_119_1 : fldT Tryd.prog 119 1 = some (510, 117) := by kernel_rfl
@[simp] theorem szT_120 : szT Tryd.prog 120 = some 1 := by kernel_rfl
@[simp] theorem byT_120 : byT Tryd.prog 120 = some 8 := by kernel_rfl
@[simp] theorem aggT_120 : aggT Tryd.prog 120 = some false := by kernel_rfl
@[simp] theorem zeroAV_120 : zeroAV Tryd.prog 120 = some AV.nilFn := by kernel_rfl
@[simp] theorem szT_121 : szT Tryd.prog 121 = some 1 := by kernel_rfl
@[simp] theorem byT_121 : byT Tryd.prog 121 = some 8 := by kernel_rfl
@[simp] theorem aggT_121 : aggT Tryd.prog 121 = some false := by kernel_rfl
@[simp] theorem zeroAV_121 : zeroAV Tryd.prog 121 = some (AV.int IntKind.u64 (0)) := by kernel_rfl
@[simp] theorem intT_121 : intT Tryd.prog 121 = some IntKind.u64 := by kernel_rfl
@[simp] theorem szT_122 : szT Tryd.prog 122 = some 1 := by kernel_rfl
@[simp] theorem byT_122 : byT Tryd.prog 122 = some 8 := by kernel_rfl
@[simp] theorem aggT_122 : aggT Tryd.prog 122 = some false := by kernel_rfl
@[simp] theorem zeroAV_122 : zeroAV Tryd.prog 122 = some AV.nilFn := by kernel_rfl
@[simp] theorem szT_123 : szT Tryd.prog 123 = some 256 := by kernel_rfl
@[simp] theorem byT_123 : byT Tryd.prog 123 = some 256 := by kernel_rfl
@[simp] theorem aggT_123 : aggT Tryd.prog 123 = some true := by kernel_rfl
@[simp] theorem szT_124 : szT Tryd.prog 124 = some 2 := by kernel_rfl
@[simp] theorem byT_124 : byT Tryd.prog 124 = some 2 := by kernel_rfl
@[simp] theorem aggT_124 : aggT Tryd.prog 124 = some true := by kernel_rfl
@[simp] theorem zeroAV_124 : zeroAV Tryd.prog 124 = some (AV.agg [AV.int IntKind.u8 (0), AV.int IntKind.u8 (0)]) := by kernel_rfl
@[simp] theorem fldT_124_0 : fldT Tryd.prog 124 0 = some (0, 5) := by kernel_rfl
@[simp] theorem fldT_124_1 : fldT Tryd.prog 124 1 = some (1, 5) := by kernel_rfl
@[simp] theorem szT_125 : szT Tryd.prog 125 = some 2 := by kernel_rfl
@[simp] theorem byT_125 : byT Tryd.prog 125 = some 2 := by kernel_rfl
@[simp] theorem aggT_125 : aggT Tryd.prog 125 = some true := by kernel_rfl
@[simp] theorem zeroAV_125 : zeroAV Tryd.prog 125 = some (AV.agg [AV.int IntKind.u8 (0), AV.int IntKind.u8 (0)]) := by kernel_rfl
@[simp] theorem fldT_125_0 : fldT Tryd.prog 125 0 = some (0, 5) := by kernel_rfl
@[simp] theorem fldT_125_1 : fldT Tryd.prog 125 1 = some (1, 5) := by kernel_rfl
@[simp] theorem szT_126 : szT Tryd.prog 126 = some 32 := by kernel_rfl
@[simp] theorem byT_126 : byT Tryd.prog 126 = some 32 := by kernel_rfl
@[simp] theorem aggT_126 : aggT Tryd.prog 126 = some true := by kernel_rfl
@[simp] theorem szT_127 : szT Tryd.prog 127 = some 1 := by kernel_rfl
@[simp] theorem byT_127 : byT Tryd.prog 127 = some 8 := by kernel_rfl
@[simp] theorem aggT_127 : aggT Tryd.prog 127 = some false := by kernel_rfl
@[simp] theorem zeroAV_127 : zeroAV Tryd.prog 127 = some AV.nilFn := by kernel_rfl
@[simp] theorem szT_128 : szT Tryd.prog 128 = some 1 := by kernel_rfl
@[simp] theorem byT_128 : byT Tryd.prog 128 = some 8 := by kernel_rfl
@[simp] theorem aggT_128 : aggT Tryd.prog 128 = some false := by kernel_rfl
@[simp] theorem zeroAV_128 : zeroAV Tryd.prog 128 = some AV.nilFn := by kernel_rfl
@[simp] theorem szT_129 : szT Tryd.prog 129 = some 1 := by kernel_rfl
@[simp] theorem byT_129 : byT Tryd.prog 129 = some 8 := by kernel_rfl
@[simp] theorem aggT_129 : aggT Tryd.prog 129 = some false := by kernel_rfl
@[simp] theorem zeroAV_129 : zeroAV Tryd.prog 129 = some AV.nilFn := by kernel_rfl
@[simp] theorem szT_130 : szT Tryd.prog 130 = some 1 := by kernel_rfl
@[simp] theorem byT_130 : byT Tryd.prog 130 = some 8 := by kernel_rfl
@[simp] theorem aggT_130 : aggT Tryd.prog 130 = some false := by kernel_rfl
@[simp] theorem zeroAV_130 : zeroAV Tryd.prog 130 = some AV.nilFn := by kernel_rfl
@[simp] theorem szT_131 : szT Tryd.prog 131 = some 4 := by kernel_rfl
@[simp] theorem byT_131 : byT Tryd.prog 131 = some 40 := by kernel_rfl
@[simp] theorem aggT_131 : aggT Tryd.prog 131 = some true := by kernel_rfl
@[simp] theorem zeroAV_131 : zeroAV Tryd.prog 131 = some (AV.agg [AV.nilPtr, AV.nilPtr, AV.nilPtr, AV.str ⟨#[]⟩]) := by kernel_rfl
@[simp] theorem fldT_131_0 : fldT Tryd.prog 131 0 = some (0, 17) := by kernel_rfl
@[simp] theorem fldT_131_1 : fldT Tryd.prog 131 1 = some (1, 17) := by kernel_rfl
@[simp] theorem fldT_131_2 : fldT Tryd.prog 131 2 = some (2, 17) := by kernel_rfl
@[simp] theorem fldT_131_3 : fldT Tryd.prog 131 3 = some (3, 9) := by kernel_rfl
@[simp] theorem szT_132 : szT Tryd.prog 132 = some 4 := by kernel_rfl
@[simp] theorem byT_132 : byT Tryd.prog 132 = some 40 := by kernel_rfl
@[simp] theorem aggT_132 : aggT Tryd.prog 132 = some true := by kernel_rfl
@[simp] theorem zeroAV_132 : zeroAV Tryd.prog 132 = some (AV.agg [AV.nilPtr, AV.nilPtr, AV.nilPtr, AV.str ⟨#[]⟩]) := by kernel_rfl
@[simp] theorem fldT_132_0 : fldT Tryd.prog 132 0 = some (0, 17) := by kernel_rfl
@[simp] theorem fldT_132_1 : fldT Tryd.prog 132 1 = some (1, 17) := by kernel_rfl
@[simp] theorem fldT_132_2 : fldT Tryd.prog 132 2 = some (2, 17) := by kernel_rfl
@[simp] theorem fldT_132_3 : fldT Tryd.prog 132 3 = some (3, 9) := by kernel_rfl
@[simp] theorem szT_133 : szT Tryd.prog 133 = some 0 := by kernel_rfl
@[simp] theorem byT_133 : byT Tryd.prog 133 = some 0 := by kernel_rfl
@[simp] theorem aggT_133 : aggT Tryd.prog 133 = some true := by kernel_rfl
@[simp] theorem zeroAV_133 : zeroAV Tryd.prog 133 = some (AV.agg []) := by kernel_rfl
@[simp] theorem szT_134 : szT Tryd.prog 134 = some 0 := by kernel_rfl
@[simp] theorem byT_134 : byT Tryd.prog 134 = some 0 := by kernel_rfl
@[simp] theorem aggT_134 : aggT Tryd.prog 134 = some true := by kernel_rfl
@[simp] theorem zeroAV_134 : zeroAV Tryd.prog 134 = some (AV.agg []) := by kernel_rfl
@[simp] theorem fldT_134_0 : fldT Tryd.prog 134 0 = some (0, 133) := by kernel_rfl
@[simp] theorem szT_135 : szT Tryd.prog 135 = some 0 := by kernel_rfl
@[simp] theorem byT_135 : byT Tryd.prog 135 = some 0 := by kernel_rfl
@[simp] theorem aggT_135 : aggT Tryd.prog 135 = some true := by kernel_rfl
@[simp] theorem zeroAV_135 : zeroAV Tryd.prog 135 = some (AV.agg []) := by kernel_rfl
@[simp] theorem fldT_135_0 : fldT Tryd.prog 135 0 = some (0, 133) := by kernel_rfl
@[simp] theorem szT_136 : szT Tryd.prog 136 = some 1 := by kernel_rfl
@[simp] theorem byT_136 : byT Tryd.prog 136 = some 8 := by kernel_rfl
@[simp] theorem aggT_136 : aggT Tryd.prog 136 = some false := by kernel_rfl
@[simp] theorem zeroAV_136 : zeroAV Tryd.prog 136 = some AV.nilFn := by kernel_rfl
@[simp] theorem szT_137 : szT Tryd.prog 137 = some 1 := by kernel_rfl
@[simp] theorem byT_137 : byT Tryd.prog 137 = some 4 := by kernel_rfl
@[simp] theorem aggT_137 : aggT Tryd.prog 137 = some false := by kernel_rfl
@[simp] theorem zeroAV_137 : zeroAV Tryd.prog 137 = some (AV.int IntKind.u32 (0)) := by kernel_rfl
@[simp] theorem intT_137 : intT Tryd.prog 137 = some IntKind.u32 := by kernel_rfl
@[simp] theorem szT_138 : szT Tryd.prog 138 = some 1 := by kernel_rfl
@[simp] theorem byT_138 : byT Tryd.prog 138 = some 1 := by kernel_rfl
@[simp] theorem aggT_138 : aggT Tryd.prog 138 = some false := by kernel_rfl
@[simp] theorem zeroAV_138 : zeroAV Tryd.prog 138 = some (AV.int IntKind.u8 (0)) := by kernel_rfl
@[simp] theorem intT_138 : intT Tryd.prog 138 = some IntKind.u8 := by kernel_rfl
@[simp] theorem szT_139 : szT Tryd.prog 139 = some 1 := by kernel_rfl
@[simp] theorem byT_139 : byT Tryd.prog 139 = some 1 := by kernel_rfl
@[simp] theorem aggT_139 : aggT Tryd.prog 139 = some false := by kernel_rfl
@[simp] theorem zeroAV_139 : zeroAV Tryd.prog 139 = some (AV.int IntKind.u8 (0)) := by kernel_rfl
@[simp] theorem intT_139 : intT Tryd.prog 139 = some IntKind.u8 := by kernel_rfl
@[simp] theorem szT_140 : szT Tryd.prog 140 = some 1 := by kernel_rfl
@[simp] theorem byT_140 : byT Tryd.prog 140 = some 8 := by kernel_rfl
@[simp] theorem aggT_140 : aggT Tryd.prog 140 = some false := by kernel_rfl
@[simp] theorem zeroAV_140 : zeroAV Tryd.prog 140 = some AV.nilFn := by kernel_rfl
@[simp] theorem szT_141 : szT Tryd.prog 141 = some 1 := by kernel_rfl
@[simp] theorem byT_141 : byT Tryd.prog 141 = some 4 := by kernel_rfl
@[simp] theorem aggT_141 : aggT Tryd.prog 141 = some false := by kernel_rfl
@[simp] theorem zeroAV_141 : zeroAV Tryd.prog 141 = some (AV.int IntKind.i32 (0)) := by kernel_rfl
@[simp] theorem intT_141 : intT Tryd.prog 141 = some IntKind.i32 := by kernel_rfl
@[simp] theorem szT_142 : szT Tryd.prog 142 = some 1 := by kernel_rfl
@[simp] theorem byT_142 : byT Tryd.prog 142 = some 4 := by kernel_rfl
@[simp] theorem aggT_142 : aggT Tryd.prog 142 = some false := by kernel_rfl
@[simp] theorem zeroAV_142 : zeroAV Tryd.prog 142 = some (AV.int IntKind.i32 (0)) := by kernel_rfl
@[simp] theorem intT_142 : intT Tryd.prog 142 = some IntKind.i32 := by kernel_rfl
@[simp] theorem szT_143 : szT Tryd.prog 143 = some 11 := by kernel_rfl
@[simp] theorem byT_143 : byT Tryd.prog 143 = some 48 := by kernel_rfl
@[simp] theorem aggT_143 : aggT Tryd.prog 143 = some true := by kernel_rfl
@[simp] theorem zeroAV_143 : zeroAV Tryd.prog 143 = some (AV.agg [AV.int IntKind.u64 (0), AV.int IntKind.u64 (0), AV.int IntKind.u32 (0), AV.int IntKind.u8 (0), AV.int IntKind.u8 (0), AV.int IntKind.u8 (0), AV.int IntKind.u8 (0), AV.nilFn, AV.nilPtr, AV.int IntKind.i32 (0), AV.int IntKind.i32 (0)]) := by kernel_rfl
@[simp] theorem fldT_143_0 : fldT Tryd.prog 143 0 = some (0, 12) := by kernel_rfl
@[simp] theorem fldT_143_1 : fldT Tryd.prog 143 1 = some (1, 12) := by kernel_rfl
@[simp] theorem fldT_143_2 : fldT Tryd.prog 143 2 = some (2, 137) := by kernel_rfl
@[simp] theorem fldT_143_3 : fldT Tryd.prog 143 3 = some (3, 138) := by kernel_rfl
@[simp] theorem fldT_143_4 : fldT Tryd.prog 143 4 = some (4, 5) := by kernel_rfl
@[simp] theorem fldT_143_5 : fldT Tryd.prog 143 5 = some (5, 5) := by kernel_rfl
@[simp] theorem fldT_143_6 : fldT Tryd.prog 143 6 = some (6, 139) := by kernel_rfl
@[simp] theorem fldT_143_7 : fldT Tryd.prog 143 7 = some (7, 140) := by kernel_rfl
@[simp] theorem fldT_143_8 : fldT Tryd.prog 143 8 = some (8, 98) := by kernel_rfl
@[simp] theorem fldT_143_9 : fldT Tryd.prog 143 9 = some (9, 141) := by kernel_rfl
@[simp] theorem fldT_143_10 : fldT Tryd.prog 143 10 = some (10, 142) := by kernel_rfl
@[simp] theorem szT_144 : szT Tryd.prog 144 = some 11 := by kernel_rfl
@[simp] theorem byT_144 : byT Tryd.prog 144 = some 48 := by kernel_rfl
@[simp] theorem aggT_144 : aggT Tryd.prog 144 = some true := by kernel_rfl
@[simp] theorem zeroAV_144 : zeroAV Tryd.prog 144 = some (AV.agg [AV.int IntKind.u64 (0), AV.int IntKind.u64 (0), AV.int IntKind.u32 (0), AV.int IntKind.u8 (0), AV.int IntKind.u8 (0), AV.int IntKind.u8 (0), AV.int IntKind.u8 (0), AV.nilFn, AV.nilPtr, AV.int IntKind.i32 (0), AV.int IntKind.i32 (0)]) := by kernel_rfl
@[simp] theorem fldT_144_0 : fldT Tryd.prog 144 0 = some (0, 12) := by kernel_rfl
@[simp] theorem fldT_144_1 : fldT Tryd.prog 144 1 = some (1, 12) := by kernel_rfl
@[simp] theorem fldT_144_2 : fldT Tryd.prog 144 2 = some (2, 137) := by kernel_rfl
@[simp] theorem fldT_144_3 : fldT Tryd.prog 144 3 = some (3, 138) := by kernel_rfl
@[simp] theorem fldT_144_4 : fldT Tryd.prog 144 4 = some (4, 5) := by kernel_rfl
@[simp] theorem fldT_144_5 : fldT Tryd.prog 144 5 = some (5, 5) := by kernel_rfl
@[simp] theorem fldT_144_6 : fldT Tryd.prog 144 6 = some (6, 139) := by kernel_rfl
@[simp] theorem fldT_144_7 : fldT Tryd.prog 144 7 = some (7, 140) := by kernel_rfl
@[simp] theorem fldT_144_8 : fldT Tryd.prog 144 8 = some (8, 98) := by kernel_rfl
@[simp] theorem fldT_144_9 : fldT Tryd.prog 144 9 = some (9, 141) := by kernel_rfl
@[simp] theorem fldT_144_10 : fldT Tryd.prog 144 10 = some (10, 142) := by kernel_rfl
@[simp] theorem concT_0 : concT Tryd.prog 0 = true := by kernel_rfl
@[simp] theorem concT_1 : concT Tryd.prog 1 = true := by kernel_rfl
@[simp] theorem concT_2 : concT Tryd.prog 2 = true := by kernel_rfl
@[simp] theorem concT_3 : concT Tryd.prog 3 = true := by kernel_rfl
@[simp] theorem concT_4 : concT Tryd.prog 4 = true := by kernel_rfl
@[simp] theorem concT_5 : concT Tryd.prog 5 = true := by kernel_rfl
@[simp] theorem concT_6 : concT Tryd.prog 6 = true := by kernel_rfl
@[simp] theorem concT_7 : concT Tryd.prog 7 = true := by kernel_rfl
@[simp] theorem flatT_7 : flatT Tryd.prog 7 = some [(0, 1), (1, 1), (2, 3), (3, 1)] := by kernel_rfl
@[simp] theorem concT_8 : concT Tryd.prog 8 = true := by kernel_rfl
@[simp] theorem flatT_8 : flatT Tryd.prog 8 = some [(0, 1), (1, 1), (2, 3), (3, 1)] := by kernel_rfl
@[simp] theorem concT_9 : concT Tryd.prog 9 = true := by kernel_rfl
@[simp] theorem concT_10 : concT Tryd.prog 10 = true := by kernel_rfl
@[simp] theorem concT_11 : concT Tryd.prog 11 = true := by kernel_rfl
@[simp] theorem concT_12 : concT Tryd.prog 12 = true := by kernel_rfl
@[simp] theorem concT_13 : concT Tryd.prog 13 = true := by kernel_rfl
@[simp] theorem concT_14 : concT Tryd.prog 14 = true := by kernel_rfl
@[simp] theorem concT_15 : concT Tryd.prog 15 = true := by kernel_rfl
@[simp] theorem concT_16 : concT Tryd.prog 16 = true := by kernel_rfl
@[simp] theorem concT_17 : concT Tryd.prog 17 = true := by kernel_rfl
@[simp] theorem concT_18 : concT Tryd.prog 18 = true := by kernel_rfl
@[simp] theorem concT_19 : concT Tryd.prog 19 = true := by kernel_rfl
@[simp] theorem concT_20 : concT Tryd.prog 20 = false := by kernel_rfl
@[simp] theorem concT_21 : concT Tryd.prog 21 = true := by kernel_rfl
@[simp] theorem concT_22 : concT Tryd.prog 22 = true := by kernel_rfl
@[simp] theorem flatT_22 : flatT Tryd.prog 22 = some [(0, 1), (1, 1), (2, 1), (3, 1), (4, 1)] := by kernel_rfl
@[simp] theorem concT_23 : concT Tryd.prog 23 = true := by kernel_rfl
@[simp] theorem flatT_23 : flatT Tryd.prog 23 = some [(0, 1), (1, 1), (2, 1), (3, 1), (4, 1)] := by kernel_rfl
@[simp] theorem concT_24 : concT Tryd.prog 24 = true := by kernel_rfl
@[simp] theorem concT_25 : concT Tryd.prog 25 = true := by kernel_rfl
@[simp] theorem concT_26 : concT Tryd.prog 26 = true := by kernel_rfl
@[simp] theorem concT_27 : concT Tryd.prog 27 = true := by kernel_rfl
@[simp] theorem concT_28 : concT Tryd.prog 28 = true := by kernel_rfl
@[simp] theorem concT_29 : concT Tryd.prog 29 = true := by kernel_rfl
@[simp] theorem concT_30 : concT Tryd.prog 30 = true := by kernel_rfl
@[simp] theorem concT_31 : concT Tryd.prog 31 = true := by kernel_rfl
@[simp] theorem concT_32 : concT Tryd.prog 32 = true := by kernel_rfl
@[simp] theorem concT_33 : concT Tryd.prog 33 = true := by kernel_rfl
@[simp] theorem concT_34 : concT Tryd.prog 34 = true := by kernel_rfl
@[simp] theorem concT_35 : concT Tryd.prog 35 = true := by kernel_rfl
@[simp] theorem concT_36 : concT Tryd.prog 36 = true := by kernel_rfl
@[simp] theorem concT_37 : concT Tryd.prog 37 = true := by kernel_rfl
@[simp] theorem concT_38 : concT Tryd.prog 38 = true := by kernel_rfl
@[simp] theorem concT_39 : concT Tryd.prog 39 = true := by kernel_rfl
@[simp] theorem concT_40 : concT Tryd.prog 40 = true := by kernel_rfl
@[simp] theorem concT_41 : concT Tryd.prog 41 = true := by kernel_rfl
@[simp] theorem concT_42 : concT Tryd.prog 42 = true := by kernel_rfl
@[simp] theorem concT_43 : concT Tryd.prog 43 = true := by kernel_rfl
@[simp] theorem concT_44 : concT Tryd.prog 44 = true := by kernel_rfl
@[simp] theorem concT_45 : concT Tryd.prog 45 = true := by kernel_rfl
@[simp] theorem concT_46 : concT Tryd.prog 46 = true := by kernel_rfl
@[simp] theorem concT_47 : concT Tryd.prog 47 = true := by kernel_rfl
@[simp] theorem concT_48 : concT Tryd.prog 48 = true := by kernel_rfl
@[simp] theorem concT_49 : concT Tryd.prog 49 = true := by kernel_rfl
@[simp] theorem concT_50 : concT Tryd.prog 50 = true := by kernel_rfl
@[simp] theorem concT_51 : concT Tryd.prog 51 = true := by kernel_rfl
@[simp] theorem concT_52 : concT Tryd.prog 52 = true := by kernel_rfl
@[simp] theorem concT_53 : concT Tryd.prog 53 = true := by kernel_rfl
@[simp] theorem concT_54 : concT Tryd.prog 54 = true := by kernel_rfl
@[simp] theorem concT_55 : concT Tryd.prog 55 = true := by kernel_rfl
@[simp] theorem concT_56 : concT Tryd.prog 56 = true := by kernel_rfl
@[simp] theorem concT_57 : concT Tryd.prog 57 = true := by kernel_rfl
@[simp] theorem concT_58 : concT Tryd.prog 58 = true := by kernel_rfl
@[simp] theorem concT_59 : concT Tryd.prog 59 = true := by kernel_rfl
@[simp] theorem concT_60 : concT Tryd.prog 60 = true := by kernel_rfl
@[simp] theorem concT_61 : concT Tryd.prog 61 = true := by kernel_rfl
@[simp] theorem concT_62 : concT Tryd.prog 62 = true := by kernel_rfl
@[simp] theorem concT_63 : concT Tryd.prog 63 = true := by kernel_rfl
@[simp] theorem concT_64 : concT Tryd.prog 64 = true := by kernel_rfl
@[simp] theorem concT_65 : concT Tryd.prog 65 = true := by kernel_rfl
@[simp] theorem concT_66 : concT Tryd.prog 66 = true := by kernel_rfl
@[simp] theorem concT_67 : concT Tryd.prog 67 = true := by kernel_rfl
@[simp] theorem concT_68 : concT Tryd.prog 68 = true := by kernel_rfl
@[simp] theorem concT_69 : concT Tryd.prog 69 = true := by kernel_rfl
@[simp] theorem concT_70 : concT Tryd.prog 70 = true := by kernel_rfl
@[simp] theorem concT_71 : concT Tryd.prog 71 = true := by kernel_rfl
@[simp] theorem concT_72 : concT Tryd.prog 72 = true := by kernel_rfl
@[simp] theorem concT_73 : concT Tryd.prog 73 = true := by kernel_rfl
@[simp] theorem concT_74 : concT Tryd.prog 74 = true := by kernel_rfl
@[simp] theorem concT_75 : concT Tryd.prog 75 = true := by kernel_rfl
@[simp] theorem concT_76 : concT Tryd.prog 76 = false := by kernel_rfl
@[simp] theorem concT_77 : concT Tryd.prog 77 = false := by kernel_rfl
@[simp] theorem concT_78 : concT Tryd.prog 78 = true := by kernel_rfl
@[simp] theorem concT_79 : concT Tryd.prog 79 = true := by kernel_rfl
@[simp] theorem concT_80 : concT Tryd.prog 80 = true := by kernel_rfl
@[simp] theorem concT_81 : concT Tryd.prog 81 = true := by kernel_rfl
@[simp] theorem concT_82 : concT Tryd.prog 82 = true := by kernel_rfl
@[simp] theorem concT_83 : concT Tryd.prog 83 = true := by kernel_rfl
@[simp] theorem concT_84 : concT Tryd.prog 84 = true := by kernel_rfl
@[simp] theorem concT_85 : concT Tryd.prog 85 = true := by kernel_rfl
@[simp] theorem concT_86 : concT Tryd.prog 86 = true := by kernel_rfl
@[simp] theorem concT_87 : concT Tryd.prog 87 = true := by kernel_rfl
@[simp] theorem concT_88 : concT Tryd.prog 88 = true := by kernel_rfl
@[simp] theorem concT_89 : concT Tryd.prog 89 = true := by kernel_rfl
@[simp] theorem concT_90 : concT Tryd.prog 90 = true := by kernel_rfl
@[simp] theorem concT_91 : concT Tryd.prog 91 = true := by kernel_rfl
@[simp] theorem concT_92 : concT Tryd.prog 92 = true := by kernel_rfl
@[simp] theorem concT_93 : concT Tryd.prog 93 = true := by kernel_rfl
@[simp] theorem concT_94 : concT Tryd.prog 94 = true := by kernel_rfl
@[simp] theorem concT_95 : concT Tryd.prog 95 = true := by kernel_rfl
@[simp] theorem concT_96 : concT Tryd.prog 96 = true := by kernel_rfl
@[simp] theorem concT_97 : concT Tryd.prog 97 = true := by kernel_rfl
@[simp] theorem concT_98 : concT Tryd.prog 98 = true := by kernel_rfl
@[simp] theorem concT_99 : concT Tryd.prog 99 = true := by kernel_rfl
@[simp] theorem concT_100 : concT Tryd.prog 100 = true := by kernel_rfl
@[simp] theorem concT_101 : concT Tryd.prog 101 = true := by kernel_rfl
@[simp] theorem concT_102 : concT Tryd.prog 102 = true := by kernel_rfl
@[simp] theorem concT_103 : concT Tryd.prog 103 = true := by kernel_rfl
@[simp] theorem concT_104 : concT Tryd.prog 104 = true := by kernel_rfl
@[simp] theorem concT_105 : concT Tryd.prog 105 = true := by kernel_rfl
@[simp] theorem concT_106 : concT Tryd.prog 106 = true := by kernel_rfl
@[simp] theorem concT_107 : concT Tryd.prog 107 = true := by kernel_rfl
@[simp] theorem concT_108 : concT Tryd.prog 108 = true := by kernel_rfl
@[simp] theorem concT_109 : concT Tryd.prog 109 = true := by kernel_rfl
@[simp] theorem concT_110 : concT Tryd.prog 110 = true := by kernel_rfl
@[simp] theorem concT_111 : concT Tryd.prog 111 = true := by kernel_rfl
@[simp] theorem concT_112 : concT Tryd.prog 112 = true := by kernel_rfl
@[simp] theorem concT_113 : concT Tryd.prog 113 = true := by kernel_rfl
@[simp] theorem concT_114 : concT Tryd.prog 114 = true := by kernel_rfl
@[simp] theorem concT_115 : concT Tryd.prog 115 = true := by kernel_rfl
@[simp] theorem concT_116 : concT Tryd.prog 116 = true := by kernel_rfl
@[simp] theorem concT_117 : concT Tryd.prog 117 = true := by kernel_rfl
@[simp] theorem concT_118 : concT Tryd.prog 118 = true := by kernel_rfl
@[simp] theorem concT_119 : concT Tryd.prog 119 = true := by kernel_rfl
@[simp] theorem concT_120 : concT Tryd.prog 120 = true := by kernel_rfl
@[simp] theorem concT_121 : concT Tryd.prog 121 = true := by kernel_rfl
@[simp] theorem concT_122 : concT Tryd.prog 122 = true := by kernel_rfl
@[simp] theorem concT_123 : concT Tryd.prog 123 = true := by kernel_rfl
@[simp] theorem concT_124 : concT Tryd.prog 124 = true := by kernel_rfl
@[simp] theorem flatT_124 : flatT Tryd.prog 124 = some [(0, 1), (1, 1)] := by kernel_rfl
@[simp] theorem concT_125 : concT Tryd.prog 125 = true := by kernel_rfl
@[simp] theorem flatT_125 : flatT Tryd.prog 125 = some [(0, 1), (1, 1)] := by kernel_rfl
@[simp] theorem concT_126 : concT Tryd.prog 126 = true := by kernel_rfl
@[simp] theorem concT_127 : concT Tryd.prog 127 = true := by kernel_rfl
@[simp] theorem concT_128 : concT Tryd.prog 128 = true := by kernel_rfl
@[simp] theorem concT_129 : concT Tryd.prog 129 = true := by kernel_rfl
@[simp] theorem concT_130 : concT Tryd.prog 130 = true := by kernel_rfl
@[simp] theorem concT_131 : concT Tryd.prog 131 = true := by kernel_rfl
@[simp] theorem concT_132 : concT Tryd.prog 132 = true := by kernel_rfl
@[simp] theorem concT_133 : concT Tryd.prog 133 = true := by kernel_rfl
@[simp] theorem concT_134 : concT Tryd.prog 134 = true := by kernel_rfl
@[simp] theorem concT_135 : concT Tryd.prog 135 = true := by kernel_rfl
@[simp] theorem concT_136 : concT Tryd.prog 136 = true := by kernel_rfl
@[simp] theorem concT_137 : concT Tryd.prog 137 = true := by kernel_rfl
@[simp] theorem concT_138 : concT Tryd.prog 138 = true := by kernel_rfl
@[simp] theorem concT_139 : concT Tryd.prog 139 = true := by kernel_rfl
@[simp] theorem concT_140 : concT Tryd.prog 140 = true := by kernel_rfl
@[simp] theorem concT_141 : concT Tryd.prog 141 = true := by kernel_rfl
@[simp] theorem concT_142 : concT Tryd.prog 142 = true := by kernel_rfl
@[simp] theorem concT_143 : concT Tryd.prog 143 = true := by kernel_rfl
@[simp] theorem concT_144 : concT Tryd.prog 144 = true := by kernel_rfl
attribute [simp] Tryd.underlying0 Tryd.underlying1 Tryd.underlying2 Tryd.underlying3 Tryd.underlying4 Tryd.underlying5 Tryd.underlying6 Tryd.underlying7 Tryd.underlying8 Tryd.underlying9 Tryd.underlying10 Tryd.underlying11 Tryd.underlying12 Tryd.underlying13 Tryd.underlying14 Tryd.underlying15 Tryd.underlying16 Tryd.underlying17 Tryd.underlying18 Tryd.underlying19 Tryd.underlying20 Tryd.underlying21 Tryd.underlying22 Tryd.underlying23 Tryd.underlying24 Tryd.underlying25 Tryd.underlying26 Tryd.underlying27 Tryd.underlying28 Tryd.underlying29 Tryd.underlying30 Tryd.underlying31 Tryd.underlying32 Tryd.underlying33 Tryd.underlying34 Tryd.underlying35 Tryd.underlying36 Tryd.underlying37 Tryd.underlying38 Tryd.underlying39 Tryd.underlying40 Tryd.underlying41 Tryd.underlying42 Tryd.underlying43 Tryd.underlying44 Tryd.underlying45 Tryd.underlying46 Tryd.underlying47 Tryd.underlying48 Tryd.underlying49 Tryd.underlying50 Tryd.underlying51 Tryd.underlying52 Tryd.underlying53 Tryd.underlying54 Tryd.underlying55 Tryd.underlying56 Tryd.underlying57 Tryd.underlying58 Tryd.underlying59 Tryd.underlying60 Tryd.underlying61 Tryd.underlying62 Tryd.underlying63 Tryd.underlying64 Tryd.underlying65 Tryd.underlying66 Tryd.underlying67 Tryd.underlying68 Tryd.underlying69 Tryd.underlying70 Tryd.underlying71 Tryd.underlying72 Tryd.underlying73 Tryd.underlying74 Tryd.underlying75 Tryd.underlying76 Tryd.underlying77 Tryd.underlying78 Tryd.underlying79 Tryd.underlying80 Tryd.underlying81 Tryd.underlying82 Tryd.underlying83 Tryd.underlying84 Tryd.underlying85 Tryd.underlying86 Tryd.underlying87 Tryd.underlying88 Tryd.underlying89 Tryd.underlying90 Tryd.underlying91 Tryd.underlying92 Tryd.underlying93 Tryd.underlying94 Tryd.underlying95 Tryd.underlying96 Tryd.underlying97 Tryd.underlying98 Tryd.underlying99 Tryd.underlying100 Tryd.underlying101 Tryd.underlying102 Tryd.underlying103 Tryd.underlying104 Tryd.underlying105 Tryd.underlying106 Tryd.underlying107 Tryd.underlying108 Tryd.underlying109 Tryd.underlying110 Tryd.underlying111 Tryd.underlying112 Tryd.underlying113 Tryd.underlying114 Tryd.underlying115 Tryd.underlying116 Tryd.underlying117 Tryd.underlying118 Tryd.underlying119 Tryd.underlying120 Tryd.underlying121 Tryd.underlying122 Tryd.underlying123 Tryd.underlying124 Tryd.underlying125 Tryd.underlying126 Tryd.underlying127 Tryd.underlying128 Tryd.underlying129 Tryd.underlying130 Tryd.underlying131 Tryd.underlying132 Tryd.underlying133 Tryd.underlying134 Tryd.underlying135 Tryd.underlying136 Tryd.underlying137 Tryd.underlying138 Tryd.underlying139 Tryd.underlying140 Tryd.underlying141 Tryd.underlying142 Tryd.underlying143 Tryd.underlying144
end Go.Proofs.YtgcfmodgabeocaaDoor.X
