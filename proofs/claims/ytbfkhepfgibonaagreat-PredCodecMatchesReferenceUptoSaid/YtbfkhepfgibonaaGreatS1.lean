/-
  What this seat's type table says of the types that its functions use. Printed by wip/tools/facts.py.
-/
import Derived.Test.YtbfkhepfgibonaaGreatVC
import Derived.Test.YtbfkhepfgibonaaGreatRows
set_option linter.unusedVariables false
namespace Go.Proofs.YtbfkhepfgibonaaGreatS
open Go Go.Proofs.YtbfkhepfgibonaaGreatV

noncomputable abbrev P : Program := Tryz.prog
theorem mixed : Tryz.prog.follows .mixedOrders = true := by kernel_rfl

@[go_sem] theorem lk_0 : lk Tryz.prog 0 = some (false, 1) := by kernel_rfl
@[go_sem] theorem zer_0 : zer Tryz.prog 0 = some [D.any] := by kernel_rfl
@[go_sem] theorem concrete_0 : concrete Tryz.prog 0 = true := by kernel_rfl
@[go_sem] theorem lk_1 : lk Tryz.prog 1 = some (false, 1) := by kernel_rfl
@[go_sem] theorem zer_1 : zer Tryz.prog 1 = some [D.nilfunc] := by kernel_rfl
@[go_sem] theorem concrete_1 : concrete Tryz.prog 1 = true := by kernel_rfl
@[go_sem] theorem lk_2 : lk Tryz.prog 2 = some (false, 1) := by kernel_rfl
@[go_sem] theorem zer_2 : zer Tryz.prog 2 = some [D.int IntKind.i64 (0)] := by kernel_rfl
@[go_sem] theorem concrete_2 : concrete Tryz.prog 2 = true := by kernel_rfl
@[go_sem] theorem lk_3 : lk Tryz.prog 3 = some (false, 1) := by kernel_rfl
@[go_sem] theorem zer_3 : zer Tryz.prog 3 = some [D.int IntKind.i64 (0)] := by kernel_rfl
@[go_sem] theorem concrete_3 : concrete Tryz.prog 3 = true := by kernel_rfl
@[go_sem] theorem lk_4 : lk Tryz.prog 4 = some (false, 1) := by kernel_rfl
@[go_sem] theorem zer_4 : zer Tryz.prog 4 = some [D.bool false] := by kernel_rfl
@[go_sem] theorem concrete_4 : concrete Tryz.prog 4 = true := by kernel_rfl
@[go_sem] theorem lk_5 : lk Tryz.prog 5 = some (false, 1) := by kernel_rfl
@[go_sem] theorem zer_5 : zer Tryz.prog 5 = some [D.int IntKind.u8 (0)] := by kernel_rfl
@[go_sem] theorem concrete_5 : concrete Tryz.prog 5 = true := by kernel_rfl
@[go_sem] theorem lk_6 : lk Tryz.prog 6 = some (false, 1) := by kernel_rfl
@[go_sem] theorem zer_6 : zer Tryz.prog 6 = some [D.int IntKind.u8 (0)] := by kernel_rfl
@[go_sem] theorem concrete_6 : concrete Tryz.prog 6 = true := by kernel_rfl
@[go_sem] theorem lk_7 : lk Tryz.prog 7 = some (true, 4) := by kernel_rfl
@[go_sem] theorem zer_7 : zer Tryz.prog 7 = some [D.int IntKind.i64 (0), D.int IntKind.i64 (0), D.bool false, D.int IntKind.u8 (0)] := by kernel_rfl
@[go_sem] theorem plc_7 : plc Tryz.prog 7 = some [(0, 1), (1, 1), (2, 1), (3, 1)] := by kernel_rfl
@[go_sem] theorem concrete_7 : concrete Tryz.prog 7 = true := by kernel_rfl
@[go_sem] theorem lk_8 : lk Tryz.prog 8 = some (true, 4) := by kernel_rfl
@[go_sem] theorem zer_8 : zer Tryz.prog 8 = some [D.int IntKind.i64 (0), D.int IntKind.i64 (0), D.bool false, D.int IntKind.u8 (0)] := by kernel_rfl
@[go_sem] theorem plc_8 : plc Tryz.prog 8 = some [(0, 1), (1, 1), (2, 1), (3, 1)] := by kernel_rfl
@[go_sem] theorem concrete_8 : concrete Tryz.prog 8 = true := by kernel_rfl
@[go_sem] theorem lk_9 : lk Tryz.prog 9 = some (false, 1) := by kernel_rfl
@[go_sem] theorem zer_9 : zer Tryz.prog 9 = some [D.str ByteArray.empty] := by kernel_rfl
@[go_sem] theorem cutk_9 : cutk Tryz.prog 9 = some (0, 0, 0) := by kernel_rfl
@[go_sem] theorem concrete_9 : concrete Tryz.prog 9 = true := by kernel_rfl
@[go_sem] theorem lk_10 : lk Tryz.prog 10 = some (false, 1) := by kernel_rfl
@[go_sem] theorem zer_10 : zer Tryz.prog 10 = some [D.str ByteArray.empty] := by kernel_rfl
@[go_sem] theorem cutk_10 : cutk Tryz.prog 10 = some (0, 0, 0) := by kernel_rfl
@[go_sem] theorem concrete_10 : concrete Tryz.prog 10 = true := by kernel_rfl
@[go_sem] theorem lk_11 : lk Tryz.prog 11 = some (false, 1) := by kernel_rfl
@[go_sem] theorem zer_11 : zer Tryz.prog 11 = some [D.str ByteArray.empty] := by kernel_rfl
@[go_sem] theorem cutk_11 : cutk Tryz.prog 11 = some (0, 0, 0) := by kernel_rfl
@[go_sem] theorem concrete_11 : concrete Tryz.prog 11 = true := by kernel_rfl
@[go_sem] theorem lk_12 : lk Tryz.prog 12 = some (false, 1) := by kernel_rfl
@[go_sem] theorem zer_12 : zer Tryz.prog 12 = some [D.int IntKind.u64 (0)] := by kernel_rfl
@[go_sem] theorem concrete_12 : concrete Tryz.prog 12 = true := by kernel_rfl
@[go_sem] theorem lk_13 : lk Tryz.prog 13 = some (true, 2) := by kernel_rfl
@[go_sem] theorem zer_13 : zer Tryz.prog 13 = some [D.str ByteArray.empty, D.int IntKind.u64 (0)] := by kernel_rfl
@[go_sem] theorem plc_13 : plc Tryz.prog 13 = some [(0, 1), (1, 1)] := by kernel_rfl
@[go_sem] theorem concrete_13 : concrete Tryz.prog 13 = true := by kernel_rfl
@[go_sem] theorem lk_14 : lk Tryz.prog 14 = some (true, 2) := by kernel_rfl
@[go_sem] theorem zer_14 : zer Tryz.prog 14 = some [D.str ByteArray.empty, D.int IntKind.u64 (0)] := by kernel_rfl
@[go_sem] theorem plc_14 : plc Tryz.prog 14 = some [(0, 1), (1, 1)] := by kernel_rfl
@[go_sem] theorem concrete_14 : concrete Tryz.prog 14 = true := by kernel_rfl
@[go_sem] theorem lk_15 : lk Tryz.prog 15 = some (false, 1) := by kernel_rfl
@[go_sem] theorem zer_15 : zer Tryz.prog 15 = some [D.nilp] := by kernel_rfl
@[go_sem] theorem concrete_15 : concrete Tryz.prog 15 = true := by kernel_rfl
@[go_sem] theorem lk_16 : lk Tryz.prog 16 = some (false, 1) := by kernel_rfl
@[go_sem] theorem zer_16 : zer Tryz.prog 16 = some [D.nilp] := by kernel_rfl
@[go_sem] theorem concrete_16 : concrete Tryz.prog 16 = true := by kernel_rfl
@[go_sem] theorem lk_17 : lk Tryz.prog 17 = some (false, 1) := by kernel_rfl
@[go_sem] theorem zer_17 : zer Tryz.prog 17 = some [D.nilp] := by kernel_rfl
@[go_sem] theorem concrete_17 : concrete Tryz.prog 17 = true := by kernel_rfl
@[go_sem] theorem lk_18 : lk Tryz.prog 18 = some (true, 1) := by kernel_rfl
@[go_sem] theorem zer_18 : zer Tryz.prog 18 = some [D.nilp] := by kernel_rfl
@[go_sem] theorem plc_18 : plc Tryz.prog 18 = some [(0, 1)] := by kernel_rfl
@[go_sem] theorem concrete_18 : concrete Tryz.prog 18 = true := by kernel_rfl
@[go_sem] theorem lk_19 : lk Tryz.prog 19 = some (true, 1) := by kernel_rfl
@[go_sem] theorem zer_19 : zer Tryz.prog 19 = some [D.nilp] := by kernel_rfl
@[go_sem] theorem plc_19 : plc Tryz.prog 19 = some [(0, 1)] := by kernel_rfl
@[go_sem] theorem concrete_19 : concrete Tryz.prog 19 = true := by kernel_rfl
@[go_sem] theorem lk_20 : lk Tryz.prog 20 = some (false, 1) := by kernel_rfl
@[go_sem] theorem zer_20 : zer Tryz.prog 20 = some [D.nilif] := by kernel_rfl
@[go_sem] theorem lk_21 : lk Tryz.prog 21 = some (false, 1) := by kernel_rfl
@[go_sem] theorem zer_21 : zer Tryz.prog 21 = some [D.int IntKind.i32 (0)] := by kernel_rfl
@[go_sem] theorem concrete_21 : concrete Tryz.prog 21 = true := by kernel_rfl
@[go_sem] theorem lk_22 : lk Tryz.prog 22 = some (false, 1) := by kernel_rfl
@[go_sem] theorem elt_22 : elt Tryz.prog 22 = some (3, 32) := by kernel_rfl
@[go_sem] theorem zel_22 : zel Tryz.prog 22 = some ([D.bool false, D.int IntKind.i64 (0), D.str ByteArray.empty], 32) := by kernel_rfl
@[go_sem] theorem zer_22 : zer Tryz.prog 22 = some [D.sl Tk.full []] := by kernel_rfl
@[go_sem] theorem ixt_22 : ixt Tryz.prog 22 = some (false, 0, 3) := by kernel_rfl
@[go_sem] theorem cutk_22 : cutk Tryz.prog 22 = some (1, 3, 0) := by kernel_rfl
@[go_sem] theorem concrete_22 : concrete Tryz.prog 22 = true := by kernel_rfl
@[go_sem] theorem lk_23 : lk Tryz.prog 23 = some (false, 1) := by kernel_rfl
@[go_sem] theorem elt_23 : elt Tryz.prog 23 = some (7, 96) := by kernel_rfl
@[go_sem] theorem zel_23 : zel Tryz.prog 23 = some ([D.int IntKind.i64 (0), D.int IntKind.i64 (0), D.int IntKind.i64 (0), D.int IntKind.i64 (0), D.sl Tk.full [], D.str ByteArray.empty, D.sl Tk.full []], 96) := by kernel_rfl
@[go_sem] theorem zer_23 : zer Tryz.prog 23 = some [D.sl Tk.full []] := by kernel_rfl
@[go_sem] theorem ixt_23 : ixt Tryz.prog 23 = some (false, 0, 7) := by kernel_rfl
@[go_sem] theorem cutk_23 : cutk Tryz.prog 23 = some (1, 7, 0) := by kernel_rfl
@[go_sem] theorem concrete_23 : concrete Tryz.prog 23 = true := by kernel_rfl
@[go_sem] theorem lk_24 : lk Tryz.prog 24 = some (true, 7) := by kernel_rfl
@[go_sem] theorem zer_24 : zer Tryz.prog 24 = some [D.int IntKind.i64 (0), D.int IntKind.i64 (0), D.int IntKind.i64 (0), D.int IntKind.i64 (0), D.sl Tk.full [], D.str ByteArray.empty, D.sl Tk.full []] := by kernel_rfl
@[go_sem] theorem plc_24 : plc Tryz.prog 24 = some [(0, 1), (1, 1), (2, 1), (3, 1), (4, 1), (5, 1), (6, 1)] := by kernel_rfl
@[go_sem] theorem concrete_24 : concrete Tryz.prog 24 = true := by kernel_rfl
@[go_sem] theorem lk_25 : lk Tryz.prog 25 = some (true, 7) := by kernel_rfl
@[go_sem] theorem zer_25 : zer Tryz.prog 25 = some [D.int IntKind.i64 (0), D.int IntKind.i64 (0), D.int IntKind.i64 (0), D.int IntKind.i64 (0), D.sl Tk.full [], D.str ByteArray.empty, D.sl Tk.full []] := by kernel_rfl
@[go_sem] theorem plc_25 : plc Tryz.prog 25 = some [(0, 1), (1, 1), (2, 1), (3, 1), (4, 1), (5, 1), (6, 1)] := by kernel_rfl
@[go_sem] theorem concrete_25 : concrete Tryz.prog 25 = true := by kernel_rfl
@[go_sem] theorem lk_26 : lk Tryz.prog 26 = some (false, 1) := by kernel_rfl
@[go_sem] theorem elt_26 : elt Tryz.prog 26 = some (4, 40) := by kernel_rfl
@[go_sem] theorem zel_26 : zel Tryz.prog 26 = some ([D.int IntKind.i64 (0), D.bool false, D.int IntKind.i64 (0), D.str ByteArray.empty], 40) := by kernel_rfl
@[go_sem] theorem zer_26 : zer Tryz.prog 26 = some [D.sl Tk.full []] := by kernel_rfl
@[go_sem] theorem ixt_26 : ixt Tryz.prog 26 = some (false, 0, 4) := by kernel_rfl
@[go_sem] theorem cutk_26 : cutk Tryz.prog 26 = some (1, 4, 0) := by kernel_rfl
@[go_sem] theorem concrete_26 : concrete Tryz.prog 26 = true := by kernel_rfl
@[go_sem] theorem lk_27 : lk Tryz.prog 27 = some (true, 1) := by kernel_rfl
@[go_sem] theorem zer_27 : zer Tryz.prog 27 = some [D.sl Tk.full []] := by kernel_rfl
@[go_sem] theorem plc_27 : plc Tryz.prog 27 = some [(0, 1)] := by kernel_rfl
@[go_sem] theorem concrete_27 : concrete Tryz.prog 27 = true := by kernel_rfl
@[go_sem] theorem lk_28 : lk Tryz.prog 28 = some (true, 1) := by kernel_rfl
@[go_sem] theorem zer_28 : zer Tryz.prog 28 = some [D.sl Tk.full []] := by kernel_rfl
@[go_sem] theorem plc_28 : plc Tryz.prog 28 = some [(0, 1)] := by kernel_rfl
@[go_sem] theorem concrete_28 : concrete Tryz.prog 28 = true := by kernel_rfl
@[go_sem] theorem lk_29 : lk Tryz.prog 29 = some (false, 1) := by kernel_rfl
@[go_sem] theorem zer_29 : zer Tryz.prog 29 = some [D.nilfunc] := by kernel_rfl
@[go_sem] theorem concrete_29 : concrete Tryz.prog 29 = true := by kernel_rfl
@[go_sem] theorem lk_30 : lk Tryz.prog 30 = some (false, 1) := by kernel_rfl
@[go_sem] theorem zer_30 : zer Tryz.prog 30 = some [D.nilfunc] := by kernel_rfl
@[go_sem] theorem concrete_30 : concrete Tryz.prog 30 = true := by kernel_rfl
@[go_sem] theorem lk_31 : lk Tryz.prog 31 = some (false, 1) := by kernel_rfl
@[go_sem] theorem zer_31 : zer Tryz.prog 31 = some [D.nilfunc] := by kernel_rfl
@[go_sem] theorem concrete_31 : concrete Tryz.prog 31 = true := by kernel_rfl
@[go_sem] theorem lk_32 : lk Tryz.prog 32 = some (false, 1) := by kernel_rfl
@[go_sem] theorem zer_32 : zer Tryz.prog 32 = some [D.nilfunc] := by kernel_rfl
@[go_sem] theorem concrete_32 : concrete Tryz.prog 32 = true := by kernel_rfl
@[go_sem] theorem lk_33 : lk Tryz.prog 33 = some (false, 1) := by kernel_rfl
@[go_sem] theorem zer_33 : zer Tryz.prog 33 = some [D.nilfunc] := by kernel_rfl
@[go_sem] theorem concrete_33 : concrete Tryz.prog 33 = true := by kernel_rfl
@[go_sem] theorem lk_34 : lk Tryz.prog 34 = some (false, 1) := by kernel_rfl
@[go_sem] theorem elt_34 : elt Tryz.prog 34 = some (1, 8) := by kernel_rfl
@[go_sem] theorem zel_34 : zel Tryz.prog 34 = some ([D.int IntKind.i64 (0)], 8) := by kernel_rfl
@[go_sem] theorem zer_34 : zer Tryz.prog 34 = some [D.sl Tk.full []] := by kernel_rfl
@[go_sem] theorem ixt_34 : ixt Tryz.prog 34 = some (false, 0, 1) := by kernel_rfl
@[go_sem] theorem cutk_34 : cutk Tryz.prog 34 = some (1, 1, 0) := by kernel_rfl
@[go_sem] theorem concrete_34 : concrete Tryz.prog 34 = true := by kernel_rfl
@[go_sem] theorem lk_35 : lk Tryz.prog 35 = some (false, 1) := by kernel_rfl
@[go_sem] theorem zer_35 : zer Tryz.prog 35 = some [D.nilfunc] := by kernel_rfl
@[go_sem] theorem concrete_35 : concrete Tryz.prog 35 = true := by kernel_rfl
@[go_sem] theorem lk_36 : lk Tryz.prog 36 = some (false, 1) := by kernel_rfl
@[go_sem] theorem zer_36 : zer Tryz.prog 36 = some [D.nilfunc] := by kernel_rfl
@[go_sem] theorem concrete_36 : concrete Tryz.prog 36 = true := by kernel_rfl
@[go_sem] theorem lk_37 : lk Tryz.prog 37 = some (false, 1) := by kernel_rfl
@[go_sem] theorem elt_37 : elt Tryz.prog 37 = some (4, 40) := by kernel_rfl
@[go_sem] theorem zel_37 : zel Tryz.prog 37 = some ([D.int IntKind.i64 (0), D.str ByteArray.empty, D.int IntKind.i64 (0), D.int IntKind.i64 (0)], 40) := by kernel_rfl
@[go_sem] theorem zer_37 : zer Tryz.prog 37 = some [D.sl Tk.full []] := by kernel_rfl
@[go_sem] theorem ixt_37 : ixt Tryz.prog 37 = some (false, 0, 4) := by kernel_rfl
@[go_sem] theorem cutk_37 : cutk Tryz.prog 37 = some (1, 4, 0) := by kernel_rfl
@[go_sem] theorem concrete_37 : concrete Tryz.prog 37 = true := by kernel_rfl
@[go_sem] theorem lk_38 : lk Tryz.prog 38 = some (true, 2) := by kernel_rfl
@[go_sem] theorem zer_38 : zer Tryz.prog 38 = some [D.sl Tk.full [], D.int IntKind.i64 (0)] := by kernel_rfl
@[go_sem] theorem plc_38 : plc Tryz.prog 38 = some [(0, 1), (1, 1)] := by kernel_rfl
@[go_sem] theorem concrete_38 : concrete Tryz.prog 38 = true := by kernel_rfl
@[go_sem] theorem lk_39 : lk Tryz.prog 39 = some (true, 2) := by kernel_rfl
@[go_sem] theorem zer_39 : zer Tryz.prog 39 = some [D.sl Tk.full [], D.int IntKind.i64 (0)] := by kernel_rfl
@[go_sem] theorem plc_39 : plc Tryz.prog 39 = some [(0, 1), (1, 1)] := by kernel_rfl
@[go_sem] theorem concrete_39 : concrete Tryz.prog 39 = true := by kernel_rfl
@[go_sem] theorem lk_40 : lk Tryz.prog 40 = some (false, 1) := by kernel_rfl
@[go_sem] theorem zer_40 : zer Tryz.prog 40 = some [D.nilfunc] := by kernel_rfl
@[go_sem] theorem concrete_40 : concrete Tryz.prog 40 = true := by kernel_rfl
@[go_sem] theorem lk_41 : lk Tryz.prog 41 = some (false, 1) := by kernel_rfl
@[go_sem] theorem zer_41 : zer Tryz.prog 41 = some [D.nilfunc] := by kernel_rfl
@[go_sem] theorem concrete_41 : concrete Tryz.prog 41 = true := by kernel_rfl
@[go_sem] theorem lk_42 : lk Tryz.prog 42 = some (false, 1) := by kernel_rfl
@[go_sem] theorem elt_42 : elt Tryz.prog 42 = some (1, 1) := by kernel_rfl
@[go_sem] theorem zel_42 : zel Tryz.prog 42 = some ([D.int IntKind.u8 (0)], 1) := by kernel_rfl
@[go_sem] theorem zer_42 : zer Tryz.prog 42 = some [D.sl Tk.full []] := by kernel_rfl
@[go_sem] theorem ixt_42 : ixt Tryz.prog 42 = some (false, 0, 1) := by kernel_rfl
@[go_sem] theorem cutk_42 : cutk Tryz.prog 42 = some (1, 1, 0) := by kernel_rfl
@[go_sem] theorem concrete_42 : concrete Tryz.prog 42 = true := by kernel_rfl
@[go_sem] theorem lk_43 : lk Tryz.prog 43 = some (false, 1) := by kernel_rfl
@[go_sem] theorem zer_43 : zer Tryz.prog 43 = some [D.int IntKind.i64 (0)] := by kernel_rfl
@[go_sem] theorem concrete_43 : concrete Tryz.prog 43 = true := by kernel_rfl
@[go_sem] theorem lk_44 : lk Tryz.prog 44 = some (false, 1) := by kernel_rfl
@[go_sem] theorem zer_44 : zer Tryz.prog 44 = some [D.any] := by kernel_rfl
@[go_sem] theorem concrete_44 : concrete Tryz.prog 44 = true := by kernel_rfl
@[go_sem] theorem lk_45 : lk Tryz.prog 45 = some (false, 1) := by kernel_rfl
@[go_sem] theorem zer_45 : zer Tryz.prog 45 = some [D.nilfunc] := by kernel_rfl
@[go_sem] theorem concrete_45 : concrete Tryz.prog 45 = true := by kernel_rfl
@[go_sem] theorem lk_46 : lk Tryz.prog 46 = some (false, 1) := by kernel_rfl
@[go_sem] theorem zer_46 : zer Tryz.prog 46 = some [D.nilfunc] := by kernel_rfl
@[go_sem] theorem concrete_46 : concrete Tryz.prog 46 = true := by kernel_rfl
@[go_sem] theorem lk_47 : lk Tryz.prog 47 = some (false, 1) := by kernel_rfl
@[go_sem] theorem zer_47 : zer Tryz.prog 47 = some [D.nilfunc] := by kernel_rfl
@[go_sem] theorem concrete_47 : concrete Tryz.prog 47 = true := by kernel_rfl
@[go_sem] theorem lk_48 : lk Tryz.prog 48 = some (false, 1) := by kernel_rfl
@[go_sem] theorem zer_48 : zer Tryz.prog 48 = some [D.nilfunc] := by kernel_rfl
@[go_sem] theorem concrete_48 : concrete Tryz.prog 48 = true := by kernel_rfl
@[go_sem] theorem lk_49 : lk Tryz.prog 49 = some (false, 1) := by kernel_rfl
@[go_sem] theorem zer_49 : zer Tryz.prog 49 = some [D.nilfunc] := by kernel_rfl
@[go_sem] theorem concrete_49 : concrete Tryz.prog 49 = true := by kernel_rfl
@[go_sem] theorem lk_50 : lk Tryz.prog 50 = some (true, 3) := by kernel_rfl
@[go_sem] theorem zer_50 : zer Tryz.prog 50 = some [D.bool false, D.int IntKind.i64 (0), D.str ByteArray.empty] := by kernel_rfl
@[go_sem] theorem plc_50 : plc Tryz.prog 50 = some [(0, 1), (1, 1), (2, 1)] := by kernel_rfl
@[go_sem] theorem concrete_50 : concrete Tryz.prog 50 = true := by kernel_rfl
@[go_sem] theorem lk_51 : lk Tryz.prog 51 = some (true, 3) := by kernel_rfl
@[go_sem] theorem zer_51 : zer Tryz.prog 51 = some [D.bool false, D.int IntKind.i64 (0), D.str ByteArray.empty] := by kernel_rfl
@[go_sem] theorem plc_51 : plc Tryz.prog 51 = some [(0, 1), (1, 1), (2, 1)] := by kernel_rfl
@[go_sem] theorem concrete_51 : concrete Tryz.prog 51 = true := by kernel_rfl
@[go_sem] theorem lk_52 : lk Tryz.prog 52 = some (true, 4) := by kernel_rfl
@[go_sem] theorem zer_52 : zer Tryz.prog 52 = some [D.int IntKind.i64 (0), D.bool false, D.int IntKind.i64 (0), D.str ByteArray.empty] := by kernel_rfl
@[go_sem] theorem plc_52 : plc Tryz.prog 52 = some [(0, 1), (1, 3)] := by kernel_rfl
@[go_sem] theorem concrete_52 : concrete Tryz.prog 52 = true := by kernel_rfl
@[go_sem] theorem lk_53 : lk Tryz.prog 53 = some (true, 4) := by kernel_rfl
@[go_sem] theorem zer_53 : zer Tryz.prog 53 = some [D.int IntKind.i64 (0), D.bool false, D.int IntKind.i64 (0), D.str ByteArray.empty] := by kernel_rfl
@[go_sem] theorem plc_53 : plc Tryz.prog 53 = some [(0, 1), (1, 3)] := by kernel_rfl
@[go_sem] theorem concrete_53 : concrete Tryz.prog 53 = true := by kernel_rfl
@[go_sem] theorem lk_54 : lk Tryz.prog 54 = some (false, 1) := by kernel_rfl
@[go_sem] theorem zer_54 : zer Tryz.prog 54 = some [D.nilfunc] := by kernel_rfl
@[go_sem] theorem concrete_54 : concrete Tryz.prog 54 = true := by kernel_rfl
@[go_sem] theorem lk_55 : lk Tryz.prog 55 = some (false, 1) := by kernel_rfl
@[go_sem] theorem zer_55 : zer Tryz.prog 55 = some [D.nilfunc] := by kernel_rfl
@[go_sem] theorem concrete_55 : concrete Tryz.prog 55 = true := by kernel_rfl
@[go_sem] theorem lk_56 : lk Tryz.prog 56 = some (false, 1) := by kernel_rfl
@[go_sem] theorem zer_56 : zer Tryz.prog 56 = some [D.nilfunc] := by kernel_rfl
@[go_sem] theorem concrete_56 : concrete Tryz.prog 56 = true := by kernel_rfl
@[go_sem] theorem lk_57 : lk Tryz.prog 57 = some (false, 1) := by kernel_rfl
@[go_sem] theorem zer_57 : zer Tryz.prog 57 = some [D.nilfunc] := by kernel_rfl
@[go_sem] theorem concrete_57 : concrete Tryz.prog 57 = true := by kernel_rfl
@[go_sem] theorem lk_58 : lk Tryz.prog 58 = some (true, 4) := by kernel_rfl
@[go_sem] theorem zer_58 : zer Tryz.prog 58 = some [D.int IntKind.i64 (0), D.str ByteArray.empty, D.int IntKind.i64 (0), D.int IntKind.i64 (0)] := by kernel_rfl
@[go_sem] theorem plc_58 : plc Tryz.prog 58 = some [(0, 1), (1, 1), (2, 1), (3, 1)] := by kernel_rfl
@[go_sem] theorem concrete_58 : concrete Tryz.prog 58 = true := by kernel_rfl
@[go_sem] theorem lk_59 : lk Tryz.prog 59 = some (true, 4) := by kernel_rfl
@[go_sem] theorem zer_59 : zer Tryz.prog 59 = some [D.int IntKind.i64 (0), D.str ByteArray.empty, D.int IntKind.i64 (0), D.int IntKind.i64 (0)] := by kernel_rfl
@[go_sem] theorem plc_59 : plc Tryz.prog 59 = some [(0, 1), (1, 1), (2, 1), (3, 1)] := by kernel_rfl
@[go_sem] theorem concrete_59 : concrete Tryz.prog 59 = true := by kernel_rfl
@[go_sem] theorem lk_60 : lk Tryz.prog 60 = some (false, 1) := by kernel_rfl
@[go_sem] theorem zer_60 : zer Tryz.prog 60 = some [D.nilfunc] := by kernel_rfl
@[go_sem] theorem concrete_60 : concrete Tryz.prog 60 = true := by kernel_rfl
@[go_sem] theorem lk_61 : lk Tryz.prog 61 = some (false, 1) := by kernel_rfl
@[go_sem] theorem zer_61 : zer Tryz.prog 61 = some [D.nilfunc] := by kernel_rfl
@[go_sem] theorem concrete_61 : concrete Tryz.prog 61 = true := by kernel_rfl
@[go_sem] theorem lk_62 : lk Tryz.prog 62 = some (false, 1) := by kernel_rfl
@[go_sem] theorem zer_62 : zer Tryz.prog 62 = some [D.nilfunc] := by kernel_rfl
@[go_sem] theorem concrete_62 : concrete Tryz.prog 62 = true := by kernel_rfl
@[go_sem] theorem lk_63 : lk Tryz.prog 63 = some (false, 1) := by kernel_rfl
@[go_sem] theorem zer_63 : zer Tryz.prog 63 = some [D.nilfunc] := by kernel_rfl
@[go_sem] theorem concrete_63 : concrete Tryz.prog 63 = true := by kernel_rfl
@[go_sem] theorem lk_64 : lk Tryz.prog 64 = some (false, 1) := by kernel_rfl
@[go_sem] theorem zer_64 : zer Tryz.prog 64 = some [D.nilfunc] := by kernel_rfl
@[go_sem] theorem concrete_64 : concrete Tryz.prog 64 = true := by kernel_rfl
@[go_sem] theorem lk_65 : lk Tryz.prog 65 = some (false, 1) := by kernel_rfl
@[go_sem] theorem zer_65 : zer Tryz.prog 65 = some [D.nilfunc] := by kernel_rfl
@[go_sem] theorem concrete_65 : concrete Tryz.prog 65 = true := by kernel_rfl
@[go_sem] theorem lk_66 : lk Tryz.prog 66 = some (false, 1) := by kernel_rfl
@[go_sem] theorem zer_66 : zer Tryz.prog 66 = some [D.nilfunc] := by kernel_rfl
@[go_sem] theorem concrete_66 : concrete Tryz.prog 66 = true := by kernel_rfl
@[go_sem] theorem lk_67 : lk Tryz.prog 67 = some (false, 1) := by kernel_rfl
@[go_sem] theorem zer_67 : zer Tryz.prog 67 = some [D.nilfunc] := by kernel_rfl
@[go_sem] theorem concrete_67 : concrete Tryz.prog 67 = true := by kernel_rfl
@[go_sem] theorem lk_68 : lk Tryz.prog 68 = some (false, 1) := by kernel_rfl
@[go_sem] theorem zer_68 : zer Tryz.prog 68 = some [D.nilfunc] := by kernel_rfl
@[go_sem] theorem concrete_68 : concrete Tryz.prog 68 = true := by kernel_rfl
@[go_sem] theorem lk_69 : lk Tryz.prog 69 = some (false, 1) := by kernel_rfl
@[go_sem] theorem zer_69 : zer Tryz.prog 69 = some [D.nilfunc] := by kernel_rfl
@[go_sem] theorem concrete_69 : concrete Tryz.prog 69 = true := by kernel_rfl
@[go_sem] theorem lk_70 : lk Tryz.prog 70 = some (false, 1) := by kernel_rfl
@[go_sem] theorem zer_70 : zer Tryz.prog 70 = some [D.nilfunc] := by kernel_rfl
@[go_sem] theorem concrete_70 : concrete Tryz.prog 70 = true := by kernel_rfl
@[go_sem] theorem lk_71 : lk Tryz.prog 71 = some (false, 1) := by kernel_rfl
@[go_sem] theorem zer_71 : zer Tryz.prog 71 = some [D.nilfunc] := by kernel_rfl
@[go_sem] theorem concrete_71 : concrete Tryz.prog 71 = true := by kernel_rfl
@[go_sem] theorem lk_72 : lk Tryz.prog 72 = some (false, 1) := by kernel_rfl
@[go_sem] theorem zer_72 : zer Tryz.prog 72 = some [D.nilfunc] := by kernel_rfl
@[go_sem] theorem concrete_72 : concrete Tryz.prog 72 = true := by kernel_rfl
@[go_sem] theorem lk_73 : lk Tryz.prog 73 = some (false, 1) := by kernel_rfl
@[go_sem] theorem zer_73 : zer Tryz.prog 73 = some [D.nilfunc] := by kernel_rfl
@[go_sem] theorem concrete_73 : concrete Tryz.prog 73 = true := by kernel_rfl
@[go_sem] theorem lk_74 : lk Tryz.prog 74 = some (false, 1) := by kernel_rfl
@[go_sem] theorem zer_74 : zer Tryz.prog 74 = some [D.nilfunc] := by kernel_rfl
@[go_sem] theorem concrete_74 : concrete Tryz.prog 74 = true := by kernel_rfl
@[go_sem] theorem lk_75 : lk Tryz.prog 75 = some (false, 1) := by kernel_rfl
@[go_sem] theorem zer_75 : zer Tryz.prog 75 = some [D.nilfunc] := by kernel_rfl
@[go_sem] theorem concrete_75 : concrete Tryz.prog 75 = true := by kernel_rfl
@[go_sem] theorem lk_76 : lk Tryz.prog 76 = some (false, 1) := by kernel_rfl
@[go_sem] theorem zer_76 : zer Tryz.prog 76 = some [D.nilfunc] := by kernel_rfl
@[go_sem] theorem concrete_76 : concrete Tryz.prog 76 = true := by kernel_rfl
@[go_sem] theorem lk_77 : lk Tryz.prog 77 = some (false, 1) := by kernel_rfl
@[go_sem] theorem zer_77 : zer Tryz.prog 77 = some [D.nilfunc] := by kernel_rfl
@[go_sem] theorem concrete_77 : concrete Tryz.prog 77 = true := by kernel_rfl
@[go_sem] theorem lk_78 : lk Tryz.prog 78 = some (false, 1) := by kernel_rfl
@[go_sem] theorem zer_78 : zer Tryz.prog 78 = some [D.nilfunc] := by kernel_rfl
@[go_sem] theorem concrete_78 : concrete Tryz.prog 78 = true := by kernel_rfl
@[go_sem] theorem lk_79 : lk Tryz.prog 79 = some (false, 1) := by kernel_rfl
@[go_sem] theorem zer_79 : zer Tryz.prog 79 = some [D.nilp] := by kernel_rfl
@[go_sem] theorem concrete_79 : concrete Tryz.prog 79 = true := by kernel_rfl
@[go_sem] theorem lk_80 : lk Tryz.prog 80 = some (true, 3) := by kernel_rfl
@[go_sem] theorem zer_80 : zer Tryz.prog 80 = some [D.sl Tk.full [], D.int IntKind.i64 (0), D.int IntKind.i64 (0)] := by kernel_rfl
@[go_sem] theorem plc_80 : plc Tryz.prog 80 = some [(0, 1), (1, 1), (2, 1)] := by kernel_rfl
@[go_sem] theorem concrete_80 : concrete Tryz.prog 80 = true := by kernel_rfl
@[go_sem] theorem lk_81 : lk Tryz.prog 81 = some (true, 3) := by kernel_rfl
@[go_sem] theorem zer_81 : zer Tryz.prog 81 = some [D.sl Tk.full [], D.int IntKind.i64 (0), D.int IntKind.i64 (0)] := by kernel_rfl
@[go_sem] theorem plc_81 : plc Tryz.prog 81 = some [(0, 1), (1, 1), (2, 1)] := by kernel_rfl
@[go_sem] theorem concrete_81 : concrete Tryz.prog 81 = true := by kernel_rfl
@[go_sem] theorem lk_82 : lk Tryz.prog 82 = some (true, 3) := by kernel_rfl
@[go_sem] theorem zer_82 : zer Tryz.prog 82 = some [D.sl Tk.full [], D.int IntKind.i64 (0), D.int IntKind.i64 (0)] := by kernel_rfl
@[go_sem] theorem plc_82 : plc Tryz.prog 82 = some [(0, 1), (1, 1), (2, 1)] := by kernel_rfl
@[go_sem] theorem concrete_82 : concrete Tryz.prog 82 = true := by kernel_rfl
@[go_sem] theorem lk_83 : lk Tryz.prog 83 = some (true, 3) := by kernel_rfl
@[go_sem] theorem zer_83 : zer Tryz.prog 83 = some [D.sl Tk.full [], D.int IntKind.i64 (0), D.int IntKind.i64 (0)] := by kernel_rfl
@[go_sem] theorem plc_83 : plc Tryz.prog 83 = some [(0, 1), (1, 1), (2, 1)] := by kernel_rfl
@[go_sem] theorem concrete_83 : concrete Tryz.prog 83 = true := by kernel_rfl
@[go_sem] theorem lk_84 : lk Tryz.prog 84 = some (false, 1) := by kernel_rfl
@[go_sem] theorem zer_84 : zer Tryz.prog 84 = some [D.any] := by kernel_rfl
@[go_sem] theorem concrete_84 : concrete Tryz.prog 84 = true := by kernel_rfl
@[go_sem] theorem lk_85 : lk Tryz.prog 85 = some (false, 1) := by kernel_rfl
@[go_sem] theorem zer_85 : zer Tryz.prog 85 = some [D.nilfunc] := by kernel_rfl
@[go_sem] theorem concrete_85 : concrete Tryz.prog 85 = true := by kernel_rfl
@[go_sem] theorem lk_86 : lk Tryz.prog 86 = some (false, 1) := by kernel_rfl
@[go_sem] theorem zer_86 : zer Tryz.prog 86 = some [D.nilfunc] := by kernel_rfl
@[go_sem] theorem concrete_86 : concrete Tryz.prog 86 = true := by kernel_rfl
@[go_sem] theorem lk_87 : lk Tryz.prog 87 = some (false, 1) := by kernel_rfl
@[go_sem] theorem zer_87 : zer Tryz.prog 87 = some [D.nilfunc] := by kernel_rfl
@[go_sem] theorem concrete_87 : concrete Tryz.prog 87 = true := by kernel_rfl
@[go_sem] theorem lk_88 : lk Tryz.prog 88 = some (false, 1) := by kernel_rfl
@[go_sem] theorem zer_88 : zer Tryz.prog 88 = some [D.nilfunc] := by kernel_rfl
@[go_sem] theorem concrete_88 : concrete Tryz.prog 88 = true := by kernel_rfl
@[go_sem] theorem lk_89 : lk Tryz.prog 89 = some (false, 1) := by kernel_rfl
@[go_sem] theorem zer_89 : zer Tryz.prog 89 = some [D.int IntKind.u64 (0)] := by kernel_rfl
@[go_sem] theorem concrete_89 : concrete Tryz.prog 89 = true := by kernel_rfl
@[go_sem] theorem lk_90 : lk Tryz.prog 90 = some (false, 1) := by kernel_rfl
@[go_sem] theorem zer_90 : zer Tryz.prog 90 = some [D.nilfunc] := by kernel_rfl
@[go_sem] theorem concrete_90 : concrete Tryz.prog 90 = true := by kernel_rfl
@[go_sem] theorem lk_91 : lk Tryz.prog 91 = some (false, 1) := by kernel_rfl
@[go_sem] theorem zer_91 : zer Tryz.prog 91 = some [D.nilfunc] := by kernel_rfl
@[go_sem] theorem concrete_91 : concrete Tryz.prog 91 = true := by kernel_rfl
@[go_sem] theorem lk_92 : lk Tryz.prog 92 = some (false, 1) := by kernel_rfl
@[go_sem] theorem zer_92 : zer Tryz.prog 92 = some [D.nilfunc] := by kernel_rfl
@[go_sem] theorem concrete_92 : concrete Tryz.prog 92 = true := by kernel_rfl
@[go_sem] theorem lk_93 : lk Tryz.prog 93 = some (false, 1) := by kernel_rfl
@[go_sem] theorem zer_93 : zer Tryz.prog 93 = some [D.nilfunc] := by kernel_rfl
@[go_sem] theorem concrete_93 : concrete Tryz.prog 93 = true := by kernel_rfl
@[go_sem] theorem lk_94 : lk Tryz.prog 94 = some (false, 1) := by kernel_rfl
@[go_sem] theorem zer_94 : zer Tryz.prog 94 = some [D.nilfunc] := by kernel_rfl
@[go_sem] theorem concrete_94 : concrete Tryz.prog 94 = true := by kernel_rfl
@[go_sem] theorem lk_95 : lk Tryz.prog 95 = some (false, 1) := by kernel_rfl
@[go_sem] theorem zer_95 : zer Tryz.prog 95 = some [D.nilfunc] := by kernel_rfl
@[go_sem] theorem concrete_95 : concrete Tryz.prog 95 = true := by kernel_rfl
@[go_sem] theorem lk_96 : lk Tryz.prog 96 = some (false, 1) := by kernel_rfl
@[go_sem] theorem zer_96 : zer Tryz.prog 96 = some [D.nilfunc] := by kernel_rfl
@[go_sem] theorem concrete_96 : concrete Tryz.prog 96 = true := by kernel_rfl
@[go_sem] theorem lk_97 : lk Tryz.prog 97 = some (false, 1) := by kernel_rfl
@[go_sem] theorem zer_97 : zer Tryz.prog 97 = some [D.nilfunc] := by kernel_rfl
@[go_sem] theorem concrete_97 : concrete Tryz.prog 97 = true := by kernel_rfl
@[go_sem] theorem lk_98 : lk Tryz.prog 98 = some (false, 1) := by kernel_rfl
@[go_sem] theorem zer_98 : zer Tryz.prog 98 = some [D.int IntKind.u64 (0)] := by kernel_rfl
@[go_sem] theorem concrete_98 : concrete Tryz.prog 98 = true := by kernel_rfl
@[go_sem] theorem lk_99 : lk Tryz.prog 99 = some (false, 1) := by kernel_rfl
@[go_sem] theorem zer_99 : zer Tryz.prog 99 = some [D.nilfunc] := by kernel_rfl
@[go_sem] theorem concrete_99 : concrete Tryz.prog 99 = true := by kernel_rfl
@[go_sem] theorem lk_100 : lk Tryz.prog 100 = some (false, 1) := by kernel_rfl
@[go_sem] theorem zer_100 : zer Tryz.prog 100 = some [D.nilfunc] := by kernel_rfl
@[go_sem] theorem concrete_100 : concrete Tryz.prog 100 = true := by kernel_rfl
@[go_sem] theorem lk_101 : lk Tryz.prog 101 = some (false, 1) := by kernel_rfl
@[go_sem] theorem zer_101 : zer Tryz.prog 101 = some [D.nilfunc] := by kernel_rfl
@[go_sem] theorem concrete_101 : concrete Tryz.prog 101 = true := by kernel_rfl
@[go_sem] theorem lk_102 : lk Tryz.prog 102 = some (false, 1) := by kernel_rfl
@[go_sem] theorem zer_102 : zer Tryz.prog 102 = some [D.nilfunc] := by kernel_rfl
@[go_sem] theorem concrete_102 : concrete Tryz.prog 102 = true := by kernel_rfl
@[go_sem] theorem lk_103 : lk Tryz.prog 103 = some (false, 1) := by kernel_rfl
@[go_sem] theorem zer_103 : zer Tryz.prog 103 = some [D.nilfunc] := by kernel_rfl
@[go_sem] theorem concrete_103 : concrete Tryz.prog 103 = true := by kernel_rfl
@[go_sem] theorem lk_104 : lk Tryz.prog 104 = some (false, 1) := by kernel_rfl
@[go_sem] theorem zer_104 : zer Tryz.prog 104 = some [D.nilfunc] := by kernel_rfl
@[go_sem] theorem concrete_104 : concrete Tryz.prog 104 = true := by kernel_rfl
@[go_sem] theorem lk_105 : lk Tryz.prog 105 = some (false, 1) := by kernel_rfl
@[go_sem] theorem zer_105 : zer Tryz.prog 105 = some [D.nilfunc] := by kernel_rfl
@[go_sem] theorem concrete_105 : concrete Tryz.prog 105 = true := by kernel_rfl
@[go_sem] theorem lk_106 : lk Tryz.prog 106 = some (false, 1) := by kernel_rfl
@[go_sem] theorem zer_106 : zer Tryz.prog 106 = some [D.nilfunc] := by kernel_rfl
@[go_sem] theorem concrete_106 : concrete Tryz.prog 106 = true := by kernel_rfl
@[go_sem] theorem lk_107 : lk Tryz.prog 107 = some (false, 1) := by kernel_rfl
@[go_sem] theorem zer_107 : zer Tryz.prog 107 = some [D.nilfunc] := by kernel_rfl
@[go_sem] theorem concrete_107 : concrete Tryz.prog 107 = true := by kernel_rfl
@[go_sem] theorem lk_108 : lk Tryz.prog 108 = some (false, 1) := by kernel_rfl
@[go_sem] theorem zer_108 : zer Tryz.prog 108 = some [D.nilfunc] := by kernel_rfl
@[go_sem] theorem concrete_108 : concrete Tryz.prog 108 = true := by kernel_rfl
@[go_sem] theorem lk_109 : lk Tryz.prog 109 = some (false, 1) := by kernel_rfl
@[go_sem] theorem zer_109 : zer Tryz.prog 109 = some [D.nilfunc] := by kernel_rfl
@[go_sem] theorem concrete_109 : concrete Tryz.prog 109 = true := by kernel_rfl
@[go_sem] theorem lk_110 : lk Tryz.prog 110 = some (false, 1) := by kernel_rfl
@[go_sem] theorem zer_110 : zer Tryz.prog 110 = some [D.nilfunc] := by kernel_rfl
@[go_sem] theorem concrete_110 : concrete Tryz.prog 110 = true := by kernel_rfl
@[go_sem] theorem lk_111 : lk Tryz.prog 111 = some (false, 1) := by kernel_rfl
@[go_sem] theorem zer_111 : zer Tryz.prog 111 = some [D.nilfunc] := by kernel_rfl
@[go_sem] theorem concrete_111 : concrete Tryz.prog 111 = true := by kernel_rfl
@[go_sem] theorem lk_112 : lk Tryz.prog 112 = some (false, 1) := by kernel_rfl
@[go_sem] theorem zer_112 : zer Tryz.prog 112 = some [D.nilfunc] := by kernel_rfl
@[go_sem] theorem concrete_112 : concrete Tryz.prog 112 = true := by kernel_rfl
@[go_sem] theorem lk_113 : lk Tryz.prog 113 = some (false, 1) := by kernel_rfl
@[go_sem] theorem zer_113 : zer Tryz.prog 113 = some [D.any] := by kernel_rfl
@[go_sem] theorem concrete_113 : concrete Tryz.prog 113 = true := by kernel_rfl
@[go_sem] theorem lk_114 : lk Tryz.prog 114 = some (false, 1) := by kernel_rfl
@[go_sem] theorem zer_114 : zer Tryz.prog 114 = some [D.nilfunc] := by kernel_rfl
@[go_sem] theorem concrete_114 : concrete Tryz.prog 114 = true := by kernel_rfl
@[go_sem] theorem lk_115 : lk Tryz.prog 115 = some (false, 1) := by kernel_rfl
@[go_sem] theorem zer_115 : zer Tryz.prog 115 = some [D.any] := by kernel_rfl
@[go_sem] theorem concrete_115 : concrete Tryz.prog 115 = true := by kernel_rfl
@[go_sem] theorem lk_116 : lk Tryz.prog 116 = some (false, 1) := by kernel_rfl
@[go_sem] theorem zer_116 : zer Tryz.prog 116 = some [D.nilfunc] := by kernel_rfl
@[go_sem] theorem concrete_116 : concrete Tryz.prog 116 = true := by kernel_rfl
@[go_sem] theorem lk_117 : lk Tryz.prog 117 = some (false, 1) := by kernel_rfl
@[go_sem] theorem zer_117 : zer Tryz.prog 117 = some [D.any] := by kernel_rfl
@[go_sem] theorem concrete_117 : concrete Tryz.prog 117 = true := by kernel_rfl
@[go_sem] theorem lk_118 : lk Tryz.prog 118 = some (false, 1) := by kernel_rfl
@[go_sem] theorem zer_118 : zer Tryz.prog 118 = some [D.nilfunc] := by kernel_rfl
@[go_sem] theorem concrete_118 : concrete Tryz.prog 118 = true := by kernel_rfl
@[go_sem] theorem lk_119 : lk Tryz.prog 119 = some (false, 1) := by kernel_rfl
@[go_sem] theorem zer_119 : zer Tryz.prog 119 = some [D.any] := by kernel_rfl
@[go_sem] theorem concrete_119 : concrete Tryz.prog 119 = true := by kernel_rfl
@[go_sem] theorem lk_120 : lk Tryz.prog 120 = some (false, 1) := by kernel_rfl
@[go_sem] theorem zer_120 : zer Tryz.prog 120 = some [D.nilfunc] := by kernel_rfl
@[go_sem] theorem concrete_120 : concrete Tryz.prog 120 = true := by kernel_rfl
@[go_sem] theorem lk_121 : lk Tryz.prog 121 = some (false, 1) := by kernel_rfl
@[go_sem] theorem zer_121 : zer Tryz.prog 121 = some [D.any] := by kernel_rfl
@[go_sem] theorem concrete_121 : concrete Tryz.prog 121 = true := by kernel_rfl
@[go_sem] theorem lk_122 : lk Tryz.prog 122 = some (false, 1) := by kernel_rfl
@[go_sem] theorem zer_122 : zer Tryz.prog 122 = some [D.nilfunc] := by kernel_rfl
@[go_sem] theorem concrete_122 : concrete Tryz.prog 122 = true := by kernel_rfl
@[go_sem] theorem lk_123 : lk Tryz.prog 123 = some (false, 1) := by kernel_rfl
@[go_sem] theorem zer_123 : zer Tryz.prog 123 = some [D.nilfunc] := by kernel_rfl
@[go_sem] theorem concrete_123 : concrete Tryz.prog 123 = true := by kernel_rfl
@[go_sem] theorem lk_124 : lk Tryz.prog 124 = some (false, 1) := by kernel_rfl
@[go_sem] theorem zer_124 : zer Tryz.prog 124 = some [D.nilfunc] := by kernel_rfl
@[go_sem] theorem concrete_124 : concrete Tryz.prog 124 = true := by kernel_rfl
@[go_sem] theorem lk_125 : lk Tryz.prog 125 = some (false, 1) := by kernel_rfl
@[go_sem] theorem zer_125 : zer Tryz.prog 125 = some [D.int IntKind.i64 (0)] := by kernel_rfl
@[go_sem] theorem concrete_125 : concrete Tryz.prog 125 = true := by kernel_rfl
@[go_sem] theorem lk_126 : lk Tryz.prog 126 = some (false, 1) := by kernel_rfl
@[go_sem] theorem zer_126 : zer Tryz.prog 126 = some [D.any] := by kernel_rfl
@[go_sem] theorem concrete_126 : concrete Tryz.prog 126 = true := by kernel_rfl
@[go_sem] theorem lk_127 : lk Tryz.prog 127 = some (false, 1) := by kernel_rfl
@[go_sem] theorem zer_127 : zer Tryz.prog 127 = some [D.nilfunc] := by kernel_rfl
@[go_sem] theorem concrete_127 : concrete Tryz.prog 127 = true := by kernel_rfl
@[go_sem] theorem lk_128 : lk Tryz.prog 128 = some (false, 1) := by kernel_rfl
@[go_sem] theorem zer_128 : zer Tryz.prog 128 = some [D.nilfunc] := by kernel_rfl
@[go_sem] theorem concrete_128 : concrete Tryz.prog 128 = true := by kernel_rfl
@[go_sem] theorem lk_129 : lk Tryz.prog 129 = some (false, 1) := by kernel_rfl
@[go_sem] theorem zer_129 : zer Tryz.prog 129 = some [D.nilfunc] := by kernel_rfl
@[go_sem] theorem concrete_129 : concrete Tryz.prog 129 = true := by kernel_rfl
@[go_sem] theorem lk_130 : lk Tryz.prog 130 = some (false, 1) := by kernel_rfl
@[go_sem] theorem zer_130 : zer Tryz.prog 130 = some [D.nilfunc] := by kernel_rfl
@[go_sem] theorem concrete_130 : concrete Tryz.prog 130 = true := by kernel_rfl
@[go_sem] theorem lk_131 : lk Tryz.prog 131 = some (false, 1) := by kernel_rfl
@[go_sem] theorem zer_131 : zer Tryz.prog 131 = some [D.any] := by kernel_rfl
@[go_sem] theorem concrete_131 : concrete Tryz.prog 131 = true := by kernel_rfl
@[go_sem] theorem lk_132 : lk Tryz.prog 132 = some (false, 1) := by kernel_rfl
@[go_sem] theorem zer_132 : zer Tryz.prog 132 = some [D.nilfunc] := by kernel_rfl
@[go_sem] theorem concrete_132 : concrete Tryz.prog 132 = true := by kernel_rfl
@[go_sem] theorem lk_133 : lk Tryz.prog 133 = some (false, 1) := by kernel_rfl
@[go_sem] theorem zer_133 : zer Tryz.prog 133 = some [D.nilfunc] := by kernel_rfl
@[go_sem] theorem concrete_133 : concrete Tryz.prog 133 = true := by kernel_rfl
@[go_sem] theorem lk_134 : lk Tryz.prog 134 = some (false, 1) := by kernel_rfl
@[go_sem] theorem zer_134 : zer Tryz.prog 134 = some [D.int IntKind.u32 (0)] := by kernel_rfl
@[go_sem] theorem concrete_134 : concrete Tryz.prog 134 = true := by kernel_rfl
@[go_sem] theorem lk_135 : lk Tryz.prog 135 = some (false, 1) := by kernel_rfl
@[go_sem] theorem zer_135 : zer Tryz.prog 135 = some [D.nilfunc] := by kernel_rfl
@[go_sem] theorem concrete_135 : concrete Tryz.prog 135 = true := by kernel_rfl
@[go_sem] theorem lk_136 : lk Tryz.prog 136 = some (false, 1) := by kernel_rfl
@[go_sem] theorem zer_136 : zer Tryz.prog 136 = some [D.any] := by kernel_rfl
@[go_sem] theorem concrete_136 : concrete Tryz.prog 136 = true := by kernel_rfl
@[go_sem] theorem lk_137 : lk Tryz.prog 137 = some (false, 1) := by kernel_rfl
@[go_sem] theorem zer_137 : zer Tryz.prog 137 = some [D.nilfunc] := by kernel_rfl
@[go_sem] theorem concrete_137 : concrete Tryz.prog 137 = true := by kernel_rfl
@[go_sem] theorem lk_138 : lk Tryz.prog 138 = some (false, 1) := by kernel_rfl
@[go_sem] theorem zer_138 : zer Tryz.prog 138 = some [D.nilfunc] := by kernel_rfl
@[go_sem] theorem concrete_138 : concrete Tryz.prog 138 = true := by kernel_rfl
@[go_sem] theorem lk_139 : lk Tryz.prog 139 = some (false, 1) := by kernel_rfl
@[go_sem] theorem zer_139 : zer Tryz.prog 139 = some [D.nilfunc] := by kernel_rfl
@[go_sem] theorem concrete_139 : concrete Tryz.prog 139 = true := by kernel_rfl
@[go_sem] theorem lk_140 : lk Tryz.prog 140 = some (false, 1) := by kernel_rfl
@[go_sem] theorem zer_140 : zer Tryz.prog 140 = some [D.nilfunc] := by kernel_rfl
@[go_sem] theorem concrete_140 : concrete Tryz.prog 140 = true := by kernel_rfl
@[go_sem] theorem lk_141 : lk Tryz.prog 141 = some (false, 1) := by kernel_rfl
@[go_sem] theorem zer_141 : zer Tryz.prog 141 = some [D.nilfunc] := by kernel_rfl
@[go_sem] theorem concrete_141 : concrete Tryz.prog 141 = true := by kernel_rfl
@[go_sem] theorem lk_142 : lk Tryz.prog 142 = some (false, 1) := by kernel_rfl
@[go_sem] theorem zer_142 : zer Tryz.prog 142 = some [D.nilfunc] := by kernel_rfl
@[go_sem] theorem concrete_142 : concrete Tryz.prog 142 = true := by kernel_rfl
@[go_sem] theorem lk_143 : lk Tryz.prog 143 = some (false, 1) := by kernel_rfl
@[go_sem] theorem zer_143 : zer Tryz.prog 143 = some [D.any] := by kernel_rfl
@[go_sem] theorem concrete_143 : concrete Tryz.prog 143 = true := by kernel_rfl
@[go_sem] theorem lk_144 : lk Tryz.prog 144 = some (false, 1) := by kernel_rfl
@[go_sem] theorem zer_144 : zer Tryz.prog 144 = some [D.any] := by kernel_rfl
@[go_sem] theorem concrete_144 : concrete Tryz.prog 144 = true := by kernel_rfl
@[go_sem] theorem lk_145 : lk Tryz.prog 145 = some (false, 1) := by kernel_rfl
@[go_sem] theorem zer_145 : zer Tryz.prog 145 = some [D.nilfunc] := by kernel_rfl
@[go_sem] theorem concrete_145 : concrete Tryz.prog 145 = true := by kernel_rfl
@[go_sem] theorem lk_146 : lk Tryz.prog 146 = some (false, 1) := by kernel_rfl
@[go_sem] theorem zer_146 : zer Tryz.prog 146 = some [D.nilfunc] := by kernel_rfl
@[go_sem] theorem concrete_146 : concrete Tryz.prog 146 = true := by kernel_rfl
@[go_sem] theorem lk_147 : lk Tryz.prog 147 = some (false, 1) := by kernel_rfl
@[go_sem] theorem zer_147 : zer Tryz.prog 147 = some [D.nilfunc] := by kernel_rfl
@[go_sem] theorem concrete_147 : concrete Tryz.prog 147 = true := by kernel_rfl
@[go_sem] theorem lk_148 : lk Tryz.prog 148 = some (false, 1) := by kernel_rfl
@[go_sem] theorem zer_148 : zer Tryz.prog 148 = some [D.nilfunc] := by kernel_rfl
@[go_sem] theorem concrete_148 : concrete Tryz.prog 148 = true := by kernel_rfl
@[go_sem] theorem lk_149 : lk Tryz.prog 149 = some (false, 1) := by kernel_rfl
@[go_sem] theorem zer_149 : zer Tryz.prog 149 = some [D.any] := by kernel_rfl
@[go_sem] theorem concrete_149 : concrete Tryz.prog 149 = true := by kernel_rfl
@[go_sem] theorem lk_150 : lk Tryz.prog 150 = some (false, 1) := by kernel_rfl
@[go_sem] theorem zer_150 : zer Tryz.prog 150 = some [D.int IntKind.u64 (0)] := by kernel_rfl
@[go_sem] theorem concrete_150 : concrete Tryz.prog 150 = true := by kernel_rfl
@[go_sem] theorem lk_151 : lk Tryz.prog 151 = some (false, 1) := by kernel_rfl
@[go_sem] theorem zer_151 : zer Tryz.prog 151 = some [D.nilfunc] := by kernel_rfl
@[go_sem] theorem concrete_151 : concrete Tryz.prog 151 = true := by kernel_rfl
@[go_sem] theorem lk_152 : lk Tryz.prog 152 = some (false, 1) := by kernel_rfl
@[go_sem] theorem zer_152 : zer Tryz.prog 152 = some [D.nilfunc] := by kernel_rfl
@[go_sem] theorem concrete_152 : concrete Tryz.prog 152 = true := by kernel_rfl
@[go_sem] theorem lk_153 : lk Tryz.prog 153 = some (false, 1) := by kernel_rfl
@[go_sem] theorem zer_153 : zer Tryz.prog 153 = some [D.nilfunc] := by kernel_rfl
@[go_sem] theorem concrete_153 : concrete Tryz.prog 153 = true := by kernel_rfl
@[go_sem] theorem lk_154 : lk Tryz.prog 154 = some (false, 1) := by kernel_rfl
@[go_sem] theorem zer_154 : zer Tryz.prog 154 = some [D.nilp] := by kernel_rfl
@[go_sem] theorem concrete_154 : concrete Tryz.prog 154 = true := by kernel_rfl
@[go_sem] theorem lk_155 : lk Tryz.prog 155 = some (false, 1) := by kernel_rfl
@[go_sem] theorem zer_155 : zer Tryz.prog 155 = some [D.nilfunc] := by kernel_rfl
@[go_sem] theorem concrete_155 : concrete Tryz.prog 155 = true := by kernel_rfl
@[go_sem] theorem lk_156 : lk Tryz.prog 156 = some (false, 1) := by kernel_rfl
@[go_sem] theorem zer_156 : zer Tryz.prog 156 = some [D.nilfunc] := by kernel_rfl
@[go_sem] theorem concrete_156 : concrete Tryz.prog 156 = true := by kernel_rfl
@[go_sem] theorem lk_157 : lk Tryz.prog 157 = some (false, 1) := by kernel_rfl
@[go_sem] theorem zer_157 : zer Tryz.prog 157 = some [D.nilfunc] := by kernel_rfl
@[go_sem] theorem concrete_157 : concrete Tryz.prog 157 = true := by kernel_rfl
@[go_sem] theorem lk_158 : lk Tryz.prog 158 = some (false, 1) := by kernel_rfl
@[go_sem] theorem zer_158 : zer Tryz.prog 158 = some [D.any] := by kernel_rfl
@[go_sem] theorem concrete_158 : concrete Tryz.prog 158 = true := by kernel_rfl
@[go_sem] theorem lk_159 : lk Tryz.prog 159 = some (false, 1) := by kernel_rfl
@[go_sem] theorem zer_159 : zer Tryz.prog 159 = some [D.nilfunc] := by kernel_rfl
@[go_sem] theorem concrete_159 : concrete Tryz.prog 159 = true := by kernel_rfl
@[go_sem] theorem lk_160 : lk Tryz.prog 160 = some (false, 1) := by kernel_rfl
@[go_sem] theorem zer_160 : zer Tryz.prog 160 = some [D.any] := by kernel_rfl
@[go_sem] theorem concrete_160 : concrete Tryz.prog 160 = true := by kernel_rfl
@[go_sem] theorem lk_161 : lk Tryz.prog 161 = some (false, 1) := by kernel_rfl
@[go_sem] theorem zer_161 : zer Tryz.prog 161 = some [D.nilfunc] := by kernel_rfl
@[go_sem] theorem concrete_161 : concrete Tryz.prog 161 = true := by kernel_rfl
@[go_sem] theorem lk_162 : lk Tryz.prog 162 = some (false, 1) := by kernel_rfl
@[go_sem] theorem zer_162 : zer Tryz.prog 162 = some [D.nilp] := by kernel_rfl
@[go_sem] theorem concrete_162 : concrete Tryz.prog 162 = true := by kernel_rfl
@[go_sem] theorem lk_163 : lk Tryz.prog 163 = some (false, 1) := by kernel_rfl
@[go_sem] theorem zer_163 : zer Tryz.prog 163 = some [D.any] := by kernel_rfl
@[go_sem] theorem concrete_163 : concrete Tryz.prog 163 = true := by kernel_rfl
@[go_sem] theorem lk_164 : lk Tryz.prog 164 = some (false, 1) := by kernel_rfl
@[go_sem] theorem zer_164 : zer Tryz.prog 164 = some [D.nilfunc] := by kernel_rfl
@[go_sem] theorem concrete_164 : concrete Tryz.prog 164 = true := by kernel_rfl
@[go_sem] theorem lk_165 : lk Tryz.prog 165 = some (true, 4) := by kernel_rfl
@[go_sem] theorem zer_165 : zer Tryz.prog 165 = some [D.nilp, D.nilp, D.nilp, D.str ByteArray.empty] := by kernel_rfl
@[go_sem] theorem plc_165 : plc Tryz.prog 165 = some [(0, 1), (1, 1), (2, 1), (3, 1)] := by kernel_rfl
@[go_sem] theorem concrete_165 : concrete Tryz.prog 165 = true := by kernel_rfl
@[go_sem] theorem lk_166 : lk Tryz.prog 166 = some (true, 4) := by kernel_rfl
@[go_sem] theorem zer_166 : zer Tryz.prog 166 = some [D.nilp, D.nilp, D.nilp, D.str ByteArray.empty] := by kernel_rfl
@[go_sem] theorem plc_166 : plc Tryz.prog 166 = some [(0, 1), (1, 1), (2, 1), (3, 1)] := by kernel_rfl
@[go_sem] theorem concrete_166 : concrete Tryz.prog 166 = true := by kernel_rfl
@[go_sem] theorem lk_167 : lk Tryz.prog 167 = some (true, 0) := by kernel_rfl
@[go_sem] theorem zer_167 : zer Tryz.prog 167 = some [] := by kernel_rfl
@[go_sem] theorem plc_167 : plc Tryz.prog 167 = some [] := by kernel_rfl
@[go_sem] theorem ixt_167 : ixt Tryz.prog 167 = some (true, 0, 1) := by kernel_rfl
@[go_sem] theorem cutk_167 : cutk Tryz.prog 167 = some (2, 1, 0) := by kernel_rfl
@[go_sem] theorem concrete_167 : concrete Tryz.prog 167 = true := by kernel_rfl
@[go_sem] theorem lk_168 : lk Tryz.prog 168 = some (true, 0) := by kernel_rfl
@[go_sem] theorem zer_168 : zer Tryz.prog 168 = some [] := by kernel_rfl
@[go_sem] theorem plc_168 : plc Tryz.prog 168 = some [(0, 0)] := by kernel_rfl
@[go_sem] theorem concrete_168 : concrete Tryz.prog 168 = true := by kernel_rfl
@[go_sem] theorem lk_169 : lk Tryz.prog 169 = some (true, 0) := by kernel_rfl
@[go_sem] theorem zer_169 : zer Tryz.prog 169 = some [] := by kernel_rfl
@[go_sem] theorem plc_169 : plc Tryz.prog 169 = some [(0, 0)] := by kernel_rfl
@[go_sem] theorem concrete_169 : concrete Tryz.prog 169 = true := by kernel_rfl
@[go_sem] theorem lk_170 : lk Tryz.prog 170 = some (false, 1) := by kernel_rfl
@[go_sem] theorem zer_170 : zer Tryz.prog 170 = some [D.int IntKind.u8 (0)] := by kernel_rfl
@[go_sem] theorem concrete_170 : concrete Tryz.prog 170 = true := by kernel_rfl
@[go_sem] theorem lk_171 : lk Tryz.prog 171 = some (false, 1) := by kernel_rfl
@[go_sem] theorem zer_171 : zer Tryz.prog 171 = some [D.int IntKind.u8 (0)] := by kernel_rfl
@[go_sem] theorem concrete_171 : concrete Tryz.prog 171 = true := by kernel_rfl
@[go_sem] theorem lk_172 : lk Tryz.prog 172 = some (false, 1) := by kernel_rfl
@[go_sem] theorem zer_172 : zer Tryz.prog 172 = some [D.nilfunc] := by kernel_rfl
@[go_sem] theorem concrete_172 : concrete Tryz.prog 172 = true := by kernel_rfl
@[go_sem] theorem lk_173 : lk Tryz.prog 173 = some (false, 1) := by kernel_rfl
@[go_sem] theorem zer_173 : zer Tryz.prog 173 = some [D.nilp] := by kernel_rfl
@[go_sem] theorem concrete_173 : concrete Tryz.prog 173 = true := by kernel_rfl
@[go_sem] theorem lk_174 : lk Tryz.prog 174 = some (false, 1) := by kernel_rfl
@[go_sem] theorem zer_174 : zer Tryz.prog 174 = some [D.int IntKind.i32 (0)] := by kernel_rfl
@[go_sem] theorem concrete_174 : concrete Tryz.prog 174 = true := by kernel_rfl
@[go_sem] theorem lk_175 : lk Tryz.prog 175 = some (false, 1) := by kernel_rfl
@[go_sem] theorem zer_175 : zer Tryz.prog 175 = some [D.int IntKind.i32 (0)] := by kernel_rfl
@[go_sem] theorem concrete_175 : concrete Tryz.prog 175 = true := by kernel_rfl
@[go_sem] theorem lk_176 : lk Tryz.prog 176 = some (true, 11) := by kernel_rfl
@[go_sem] theorem zer_176 : zer Tryz.prog 176 = some [D.int IntKind.u64 (0), D.int IntKind.u64 (0), D.int IntKind.u32 (0), D.int IntKind.u8 (0), D.int IntKind.u8 (0), D.int IntKind.u8 (0), D.int IntKind.u8 (0), D.nilfunc, D.nilp, D.int IntKind.i32 (0), D.int IntKind.i32 (0)] := by kernel_rfl
@[go_sem] theorem plc_176 : plc Tryz.prog 176 = some [(0, 1), (1, 1), (2, 1), (3, 1), (4, 1), (5, 1), (6, 1), (7, 1), (8, 1), (9, 1), (10, 1)] := by kernel_rfl
@[go_sem] theorem concrete_176 : concrete Tryz.prog 176 = true := by kernel_rfl
@[go_sem] theorem lk_177 : lk Tryz.prog 177 = some (true, 11) := by kernel_rfl
@[go_sem] theorem zer_177 : zer Tryz.prog 177 = some [D.int IntKind.u64 (0), D.int IntKind.u64 (0), D.int IntKind.u32 (0), D.int IntKind.u8 (0), D.int IntKind.u8 (0), D.int IntKind.u8 (0), D.int IntKind.u8 (0), D.nilfunc, D.nilp, D.int IntKind.i32 (0), D.int IntKind.i32 (0)] := by kernel_rfl
@[go_sem] theorem plc_177 : plc Tryz.prog 177 = some [(0, 1), (1, 1), (2, 1), (3, 1), (4, 1), (5, 1), (6, 1), (7, 1), (8, 1), (9, 1), (10, 1)] := by kernel_rfl
@[go_sem] theorem concrete_177 : concrete Tryz.prog 177 = true := by kernel_rfl
@[go_sem] theorem lk_178 : lk Tryz.prog 178 = some (false, 1) := by kernel_rfl
@[go_sem] theorem zer_178 : zer Tryz.prog 178 = some [D.nilp] := by kernel_rfl
@[go_sem] theorem concrete_178 : concrete Tryz.prog 178 = true := by kernel_rfl
@[go_sem] theorem foff_25_0 : foff Tryz.prog 25 0 = some 0 := by kernel_rfl
@[go_sem] theorem foff_25_1 : foff Tryz.prog 25 1 = some 1 := by kernel_rfl
@[go_sem] theorem foff_25_2 : foff Tryz.prog 25 2 = some 2 := by kernel_rfl
@[go_sem] theorem foff_25_3 : foff Tryz.prog 25 3 = some 3 := by kernel_rfl
@[go_sem] theorem foff_25_4 : foff Tryz.prog 25 4 = some 4 := by kernel_rfl
@[go_sem] theorem foff_25_5 : foff Tryz.prog 25 5 = some 5 := by kernel_rfl
@[go_sem] theorem foff_25_6 : foff Tryz.prog 25 6 = some 6 := by kernel_rfl
@[go_sem] theorem foff_28_0 : foff Tryz.prog 28 0 = some 0 := by kernel_rfl
@[go_sem] theorem foff_39_0 : foff Tryz.prog 39 0 = some 0 := by kernel_rfl
@[go_sem] theorem foff_51_0 : foff Tryz.prog 51 0 = some 0 := by kernel_rfl
@[go_sem] theorem foff_51_1 : foff Tryz.prog 51 1 = some 1 := by kernel_rfl
@[go_sem] theorem foff_51_2 : foff Tryz.prog 51 2 = some 2 := by kernel_rfl
@[go_sem] theorem foff_53_0 : foff Tryz.prog 53 0 = some 0 := by kernel_rfl
@[go_sem] theorem foff_53_1 : foff Tryz.prog 53 1 = some 1 := by kernel_rfl
@[go_sem] theorem foff_59_0 : foff Tryz.prog 59 0 = some 0 := by kernel_rfl
@[go_sem] theorem foff_59_2 : foff Tryz.prog 59 2 = some 2 := by kernel_rfl
@[go_sem] theorem foff_81_0 : foff Tryz.prog 81 0 = some 0 := by kernel_rfl
@[go_sem] theorem foff_81_1 : foff Tryz.prog 81 1 = some 1 := by kernel_rfl
@[go_sem] theorem foff_81_2 : foff Tryz.prog 81 2 = some 2 := by kernel_rfl
@[go_sem] theorem foff_83_0 : foff Tryz.prog 83 0 = some 0 := by kernel_rfl
@[go_sem] theorem foff_83_1 : foff Tryz.prog 83 1 = some 1 := by kernel_rfl
@[go_sem] theorem foff_83_2 : foff Tryz.prog 83 2 = some 2 := by kernel_rfl
@[go_sem] theorem cvk_2_21 : cvk Tryz.prog 2 21 = some (0, IntKind.i32) := by kernel_rfl
@[go_sem] theorem cvk_2_89 : cvk Tryz.prog 2 89 = some (0, IntKind.u64) := by kernel_rfl
@[go_sem] theorem cvk_3_5 : cvk Tryz.prog 3 5 = some (0, IntKind.u8) := by kernel_rfl
@[go_sem] theorem cvk_3_89 : cvk Tryz.prog 3 89 = some (0, IntKind.u64) := by kernel_rfl
@[go_sem] theorem cvk_3_98 : cvk Tryz.prog 3 98 = some (0, IntKind.u64) := by kernel_rfl
@[go_sem] theorem cvk_3_150 : cvk Tryz.prog 3 150 = some (0, IntKind.u64) := by kernel_rfl
@[go_sem] theorem cvk_5_3 : cvk Tryz.prog 5 3 = some (0, IntKind.i64) := by kernel_rfl
@[go_sem] theorem cvk_5_89 : cvk Tryz.prog 5 89 = some (0, IntKind.u64) := by kernel_rfl
@[go_sem] theorem cvk_21_2 : cvk Tryz.prog 21 2 = some (0, IntKind.i64) := by kernel_rfl
@[go_sem] theorem cvk_42_9 : cvk Tryz.prog 42 9 = some (2, IntKind.u8) := by kernel_rfl
@[go_sem] theorem cvk_89_2 : cvk Tryz.prog 89 2 = some (0, IntKind.i64) := by kernel_rfl
@[go_sem] theorem cvk_89_3 : cvk Tryz.prog 89 3 = some (0, IntKind.i64) := by kernel_rfl
@[go_sem] theorem cvk_89_5 : cvk Tryz.prog 89 5 = some (0, IntKind.u8) := by kernel_rfl
@[go_sem] theorem cvk_98_3 : cvk Tryz.prog 98 3 = some (0, IntKind.i64) := by kernel_rfl
@[go_sem] theorem cvk_98_134 : cvk Tryz.prog 98 134 = some (0, IntKind.u32) := by kernel_rfl
@[go_sem] theorem cvk_134_5 : cvk Tryz.prog 134 5 = some (0, IntKind.u8) := by kernel_rfl

end Go.Proofs.YtbfkhepfgibonaaGreatS
