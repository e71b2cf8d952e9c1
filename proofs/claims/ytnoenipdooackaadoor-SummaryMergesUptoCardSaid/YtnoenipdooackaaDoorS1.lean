/-
  What this seat's type table says of the types that its functions use. Printed by wip/tools/facts.py.
-/
import Derived.Test.YtnoenipdooackaaDoorV26
import Derived.Test.YtnoenipdooackaaDoorRows
set_option linter.unusedVariables false
namespace Go.Proofs.YtnoenipdooackaaDoorS
open Go Go.Proofs.YtnoenipdooackaaDoorV

noncomputable abbrev P : Program := Tryd.prog
theorem mixed : Tryd.prog.follows .mixedOrders = true := by kernel_rfl

@[go_sem] theorem lk_0 : lk Tryd.prog 0 = some (false, 1) := by kernel_rfl
@[go_sem] theorem zer_0 : zer Tryd.prog 0 = some [D.any] := by kernel_rfl
@[go_sem] theorem concrete_0 : concrete Tryd.prog 0 = true := by kernel_rfl
@[go_sem] theorem lk_1 : lk Tryd.prog 1 = some (false, 1) := by kernel_rfl
@[go_sem] theorem zer_1 : zer Tryd.prog 1 = some [D.nilfunc] := by kernel_rfl
@[go_sem] theorem concrete_1 : concrete Tryd.prog 1 = true := by kernel_rfl
@[go_sem] theorem lk_2 : lk Tryd.prog 2 = some (false, 1) := by kernel_rfl
@[go_sem] theorem zer_2 : zer Tryd.prog 2 = some [D.int IntKind.i64 (0)] := by kernel_rfl
@[go_sem] theorem concrete_2 : concrete Tryd.prog 2 = true := by kernel_rfl
@[go_sem] theorem lk_3 : lk Tryd.prog 3 = some (false, 1) := by kernel_rfl
@[go_sem] theorem zer_3 : zer Tryd.prog 3 = some [D.int IntKind.i64 (0)] := by kernel_rfl
@[go_sem] theorem concrete_3 : concrete Tryd.prog 3 = true := by kernel_rfl
@[go_sem] theorem lk_4 : lk Tryd.prog 4 = some (false, 1) := by kernel_rfl
@[go_sem] theorem zer_4 : zer Tryd.prog 4 = some [D.bool false] := by kernel_rfl
@[go_sem] theorem concrete_4 : concrete Tryd.prog 4 = true := by kernel_rfl
@[go_sem] theorem lk_5 : lk Tryd.prog 5 = some (false, 1) := by kernel_rfl
@[go_sem] theorem zer_5 : zer Tryd.prog 5 = some [D.int IntKind.u8 (0)] := by kernel_rfl
@[go_sem] theorem concrete_5 : concrete Tryd.prog 5 = true := by kernel_rfl
@[go_sem] theorem lk_6 : lk Tryd.prog 6 = some (false, 1) := by kernel_rfl
@[go_sem] theorem zer_6 : zer Tryd.prog 6 = some [D.int IntKind.u8 (0)] := by kernel_rfl
@[go_sem] theorem concrete_6 : concrete Tryd.prog 6 = true := by kernel_rfl
@[go_sem] theorem lk_7 : lk Tryd.prog 7 = some (true, 4) := by kernel_rfl
@[go_sem] theorem zer_7 : zer Tryd.prog 7 = some [D.int IntKind.i64 (0), D.int IntKind.i64 (0), D.bool false, D.int IntKind.u8 (0)] := by kernel_rfl
@[go_sem] theorem plc_7 : plc Tryd.prog 7 = some [(0, 1), (1, 1), (2, 1), (3, 1)] := by kernel_rfl
@[go_sem] theorem concrete_7 : concrete Tryd.prog 7 = true := by kernel_rfl
@[go_sem] theorem lk_8 : lk Tryd.prog 8 = some (true, 4) := by kernel_rfl
@[go_sem] theorem zer_8 : zer Tryd.prog 8 = some [D.int IntKind.i64 (0), D.int IntKind.i64 (0), D.bool false, D.int IntKind.u8 (0)] := by kernel_rfl
@[go_sem] theorem plc_8 : plc Tryd.prog 8 = some [(0, 1), (1, 1), (2, 1), (3, 1)] := by kernel_rfl
@[go_sem] theorem concrete_8 : concrete Tryd.prog 8 = true := by kernel_rfl
@[go_sem] theorem lk_9 : lk Tryd.prog 9 = some (false, 1) := by kernel_rfl
@[go_sem] theorem zer_9 : zer Tryd.prog 9 = some [D.str ByteArray.empty] := by kernel_rfl
@[go_sem] theorem cutk_9 : cutk Tryd.prog 9 = some (0, 0, 0) := by kernel_rfl
@[go_sem] theorem concrete_9 : concrete Tryd.prog 9 = true := by kernel_rfl
@[go_sem] theorem lk_10 : lk Tryd.prog 10 = some (false, 1) := by kernel_rfl
@[go_sem] theorem zer_10 : zer Tryd.prog 10 = some [D.str ByteArray.empty] := by kernel_rfl
@[go_sem] theorem cutk_10 : cutk Tryd.prog 10 = some (0, 0, 0) := by kernel_rfl
@[go_sem] theorem concrete_10 : concrete Tryd.prog 10 = true := by kernel_rfl
@[go_sem] theorem lk_11 : lk Tryd.prog 11 = some (false, 1) := by kernel_rfl
@[go_sem] theorem zer_11 : zer Tryd.prog 11 = some [D.str ByteArray.empty] := by kernel_rfl
@[go_sem] theorem cutk_11 : cutk Tryd.prog 11 = some (0, 0, 0) := by kernel_rfl
@[go_sem] theorem concrete_11 : concrete Tryd.prog 11 = true := by kernel_rfl
@[go_sem] theorem lk_12 : lk Tryd.prog 12 = some (false, 1) := by kernel_rfl
@[go_sem] theorem zer_12 : zer Tryd.prog 12 = some [D.int IntKind.u64 (0)] := by kernel_rfl
@[go_sem] theorem concrete_12 : concrete Tryd.prog 12 = true := by kernel_rfl
@[go_sem] theorem lk_13 : lk Tryd.prog 13 = some (true, 2) := by kernel_rfl
@[go_sem] theorem zer_13 : zer Tryd.prog 13 = some [D.str ByteArray.empty, D.int IntKind.u64 (0)] := by kernel_rfl
@[go_sem] theorem plc_13 : plc Tryd.prog 13 = some [(0, 1), (1, 1)] := by kernel_rfl
@[go_sem] theorem concrete_13 : concrete Tryd.prog 13 = true := by kernel_rfl
@[go_sem] theorem lk_14 : lk Tryd.prog 14 = some (true, 2) := by kernel_rfl
@[go_sem] theorem zer_14 : zer Tryd.prog 14 = some [D.str ByteArray.empty, D.int IntKind.u64 (0)] := by kernel_rfl
@[go_sem] theorem plc_14 : plc Tryd.prog 14 = some [(0, 1), (1, 1)] := by kernel_rfl
@[go_sem] theorem concrete_14 : concrete Tryd.prog 14 = true := by kernel_rfl
@[go_sem] theorem lk_15 : lk Tryd.prog 15 = some (false, 1) := by kernel_rfl
@[go_sem] theorem zer_15 : zer Tryd.prog 15 = some [D.nilp] := by kernel_rfl
@[go_sem] theorem concrete_15 : concrete Tryd.prog 15 = true := by kernel_rfl
@[go_sem] theorem lk_16 : lk Tryd.prog 16 = some (false, 1) := by kernel_rfl
@[go_sem] theorem zer_16 : zer Tryd.prog 16 = some [D.nilp] := by kernel_rfl
@[go_sem] theorem concrete_16 : concrete Tryd.prog 16 = true := by kernel_rfl
@[go_sem] theorem lk_17 : lk Tryd.prog 17 = some (false, 1) := by kernel_rfl
@[go_sem] theorem zer_17 : zer Tryd.prog 17 = some [D.nilp] := by kernel_rfl
@[go_sem] theorem concrete_17 : concrete Tryd.prog 17 = true := by kernel_rfl
@[go_sem] theorem lk_18 : lk Tryd.prog 18 = some (true, 1) := by kernel_rfl
@[go_sem] theorem zer_18 : zer Tryd.prog 18 = some [D.nilp] := by kernel_rfl
@[go_sem] theorem plc_18 : plc Tryd.prog 18 = some [(0, 1)] := by kernel_rfl
@[go_sem] theorem concrete_18 : concrete Tryd.prog 18 = true := by kernel_rfl
@[go_sem] theorem lk_19 : lk Tryd.prog 19 = some (true, 1) := by kernel_rfl
@[go_sem] theorem zer_19 : zer Tryd.prog 19 = some [D.nilp] := by kernel_rfl
@[go_sem] theorem plc_19 : plc Tryd.prog 19 = some [(0, 1)] := by kernel_rfl
@[go_sem] theorem concrete_19 : concrete Tryd.prog 19 = true := by kernel_rfl
@[go_sem] theorem lk_20 : lk Tryd.prog 20 = some (false, 1) := by kernel_rfl
@[go_sem] theorem zer_20 : zer Tryd.prog 20 = some [D.nilif] := by kernel_rfl
@[go_sem] theorem lk_21 : lk Tryd.prog 21 = some (false, 1) := by kernel_rfl
@[go_sem] theorem zer_21 : zer Tryd.prog 21 = some [D.int IntKind.i32 (0)] := by kernel_rfl
@[go_sem] theorem concrete_21 : concrete Tryd.prog 21 = true := by kernel_rfl
@[go_sem] theorem lk_22 : lk Tryd.prog 22 = some (false, 1) := by kernel_rfl
@[go_sem] theorem elt_22 : elt Tryd.prog 22 = some (8, 80) := by kernel_rfl
@[go_sem] theorem zel_22 : zel Tryd.prog 22 = some ([D.int IntKind.i64 (0), D.int IntKind.i64 (0), D.bool false, D.int IntKind.i64 (0), D.str ByteArray.empty, D.bool false, D.int IntKind.i64 (0), D.str ByteArray.empty], 80) := by kernel_rfl
@[go_sem] theorem zer_22 : zer Tryd.prog 22 = some [D.sl Tk.full []] := by kernel_rfl
@[go_sem] theorem ixt_22 : ixt Tryd.prog 22 = some (false, 0, 8) := by kernel_rfl
@[go_sem] theorem cutk_22 : cutk Tryd.prog 22 = some (1, 8, 0) := by kernel_rfl
@[go_sem] theorem concrete_22 : concrete Tryd.prog 22 = true := by kernel_rfl
@[go_sem] theorem lk_23 : lk Tryd.prog 23 = some (true, 2) := by kernel_rfl
@[go_sem] theorem zer_23 : zer Tryd.prog 23 = some [D.int IntKind.i64 (0), D.sl Tk.full []] := by kernel_rfl
@[go_sem] theorem plc_23 : plc Tryd.prog 23 = some [(0, 1), (1, 1)] := by kernel_rfl
@[go_sem] theorem concrete_23 : concrete Tryd.prog 23 = true := by kernel_rfl
@[go_sem] theorem lk_24 : lk Tryd.prog 24 = some (true, 2) := by kernel_rfl
@[go_sem] theorem zer_24 : zer Tryd.prog 24 = some [D.int IntKind.i64 (0), D.sl Tk.full []] := by kernel_rfl
@[go_sem] theorem plc_24 : plc Tryd.prog 24 = some [(0, 1), (1, 1)] := by kernel_rfl
@[go_sem] theorem concrete_24 : concrete Tryd.prog 24 = true := by kernel_rfl
@[go_sem] theorem lk_25 : lk Tryd.prog 25 = some (false, 1) := by kernel_rfl
@[go_sem] theorem elt_25 : elt Tryd.prog 25 = some (3, 32) := by kernel_rfl
@[go_sem] theorem zel_25 : zel Tryd.prog 25 = some ([D.bool false, D.int IntKind.i64 (0), D.str ByteArray.empty], 32) := by kernel_rfl
@[go_sem] theorem zer_25 : zer Tryd.prog 25 = some [D.sl Tk.full []] := by kernel_rfl
@[go_sem] theorem ixt_25 : ixt Tryd.prog 25 = some (false, 0, 3) := by kernel_rfl
@[go_sem] theorem cutk_25 : cutk Tryd.prog 25 = some (1, 3, 0) := by kernel_rfl
@[go_sem] theorem concrete_25 : concrete Tryd.prog 25 = true := by kernel_rfl
@[go_sem] theorem lk_26 : lk Tryd.prog 26 = some (false, 1) := by kernel_rfl
@[go_sem] theorem elt_26 : elt Tryd.prog 26 = some (7, 96) := by kernel_rfl
@[go_sem] theorem zel_26 : zel Tryd.prog 26 = some ([D.int IntKind.i64 (0), D.int IntKind.i64 (0), D.int IntKind.i64 (0), D.int IntKind.i64 (0), D.sl Tk.full [], D.str ByteArray.empty, D.sl Tk.full []], 96) := by kernel_rfl
@[go_sem] theorem zer_26 : zer Tryd.prog 26 = some [D.sl Tk.full []] := by kernel_rfl
@[go_sem] theorem ixt_26 : ixt Tryd.prog 26 = some (false, 0, 7) := by kernel_rfl
@[go_sem] theorem cutk_26 : cutk Tryd.prog 26 = some (1, 7, 0) := by kernel_rfl
@[go_sem] theorem concrete_26 : concrete Tryd.prog 26 = true := by kernel_rfl
@[go_sem] theorem lk_27 : lk Tryd.prog 27 = some (true, 7) := by kernel_rfl
@[go_sem] theorem zer_27 : zer Tryd.prog 27 = some [D.int IntKind.i64 (0), D.int IntKind.i64 (0), D.int IntKind.i64 (0), D.int IntKind.i64 (0), D.sl Tk.full [], D.str ByteArray.empty, D.sl Tk.full []] := by kernel_rfl
@[go_sem] theorem plc_27 : plc Tryd.prog 27 = some [(0, 1), (1, 1), (2, 1), (3, 1), (4, 1), (5, 1), (6, 1)] := by kernel_rfl
@[go_sem] theorem concrete_27 : concrete Tryd.prog 27 = true := by kernel_rfl
@[go_sem] theorem lk_28 : lk Tryd.prog 28 = some (true, 7) := by kernel_rfl
@[go_sem] theorem zer_28 : zer Tryd.prog 28 = some [D.int IntKind.i64 (0), D.int IntKind.i64 (0), D.int IntKind.i64 (0), D.int IntKind.i64 (0), D.sl Tk.full [], D.str ByteArray.empty, D.sl Tk.full []] := by kernel_rfl
@[go_sem] theorem plc_28 : plc Tryd.prog 28 = some [(0, 1), (1, 1), (2, 1), (3, 1), (4, 1), (5, 1), (6, 1)] := by kernel_rfl
@[go_sem] theorem concrete_28 : concrete Tryd.prog 28 = true := by kernel_rfl
@[go_sem] theorem lk_29 : lk Tryd.prog 29 = some (false, 1) := by kernel_rfl
@[go_sem] theorem zer_29 : zer Tryd.prog 29 = some [D.nilfunc] := by kernel_rfl
@[go_sem] theorem concrete_29 : concrete Tryd.prog 29 = true := by kernel_rfl
@[go_sem] theorem lk_30 : lk Tryd.prog 30 = some (false, 1) := by kernel_rfl
@[go_sem] theorem zer_30 : zer Tryd.prog 30 = some [D.nilfunc] := by kernel_rfl
@[go_sem] theorem concrete_30 : concrete Tryd.prog 30 = true := by kernel_rfl
@[go_sem] theorem lk_31 : lk Tryd.prog 31 = some (false, 1) := by kernel_rfl
@[go_sem] theorem zer_31 : zer Tryd.prog 31 = some [D.nilfunc] := by kernel_rfl
@[go_sem] theorem concrete_31 : concrete Tryd.prog 31 = true := by kernel_rfl
@[go_sem] theorem lk_32 : lk Tryd.prog 32 = some (false, 1) := by kernel_rfl
@[go_sem] theorem zer_32 : zer Tryd.prog 32 = some [D.nilfunc] := by kernel_rfl
@[go_sem] theorem concrete_32 : concrete Tryd.prog 32 = true := by kernel_rfl
@[go_sem] theorem lk_33 : lk Tryd.prog 33 = some (false, 1) := by kernel_rfl
@[go_sem] theorem elt_33 : elt Tryd.prog 33 = some (4, 40) := by kernel_rfl
@[go_sem] theorem zel_33 : zel Tryd.prog 33 = some ([D.int IntKind.i64 (0), D.bool false, D.int IntKind.i64 (0), D.str ByteArray.empty], 40) := by kernel_rfl
@[go_sem] theorem zer_33 : zer Tryd.prog 33 = some [D.sl Tk.full []] := by kernel_rfl
@[go_sem] theorem ixt_33 : ixt Tryd.prog 33 = some (false, 0, 4) := by kernel_rfl
@[go_sem] theorem cutk_33 : cutk Tryd.prog 33 = some (1, 4, 0) := by kernel_rfl
@[go_sem] theorem concrete_33 : concrete Tryd.prog 33 = true := by kernel_rfl
@[go_sem] theorem lk_34 : lk Tryd.prog 34 = some (true, 1) := by kernel_rfl
@[go_sem] theorem zer_34 : zer Tryd.prog 34 = some [D.sl Tk.full []] := by kernel_rfl
@[go_sem] theorem plc_34 : plc Tryd.prog 34 = some [(0, 1)] := by kernel_rfl
@[go_sem] theorem concrete_34 : concrete Tryd.prog 34 = true := by kernel_rfl
@[go_sem] theorem lk_35 : lk Tryd.prog 35 = some (true, 1) := by kernel_rfl
@[go_sem] theorem zer_35 : zer Tryd.prog 35 = some [D.sl Tk.full []] := by kernel_rfl
@[go_sem] theorem plc_35 : plc Tryd.prog 35 = some [(0, 1)] := by kernel_rfl
@[go_sem] theorem concrete_35 : concrete Tryd.prog 35 = true := by kernel_rfl
@[go_sem] theorem lk_36 : lk Tryd.prog 36 = some (false, 1) := by kernel_rfl
@[go_sem] theorem zer_36 : zer Tryd.prog 36 = some [D.nilfunc] := by kernel_rfl
@[go_sem] theorem concrete_36 : concrete Tryd.prog 36 = true := by kernel_rfl
@[go_sem] theorem lk_37 : lk Tryd.prog 37 = some (false, 1) := by kernel_rfl
@[go_sem] theorem zer_37 : zer Tryd.prog 37 = some [D.nilfunc] := by kernel_rfl
@[go_sem] theorem concrete_37 : concrete Tryd.prog 37 = true := by kernel_rfl
@[go_sem] theorem lk_38 : lk Tryd.prog 38 = some (false, 1) := by kernel_rfl
@[go_sem] theorem zer_38 : zer Tryd.prog 38 = some [D.nilfunc] := by kernel_rfl
@[go_sem] theorem concrete_38 : concrete Tryd.prog 38 = true := by kernel_rfl
@[go_sem] theorem lk_39 : lk Tryd.prog 39 = some (false, 1) := by kernel_rfl
@[go_sem] theorem zer_39 : zer Tryd.prog 39 = some [D.nilfunc] := by kernel_rfl
@[go_sem] theorem concrete_39 : concrete Tryd.prog 39 = true := by kernel_rfl
@[go_sem] theorem lk_40 : lk Tryd.prog 40 = some (false, 1) := by kernel_rfl
@[go_sem] theorem elt_40 : elt Tryd.prog 40 = some (1, 1) := by kernel_rfl
@[go_sem] theorem zel_40 : zel Tryd.prog 40 = some ([D.int IntKind.u8 (0)], 1) := by kernel_rfl
@[go_sem] theorem zer_40 : zer Tryd.prog 40 = some [D.sl Tk.full []] := by kernel_rfl
@[go_sem] theorem ixt_40 : ixt Tryd.prog 40 = some (false, 0, 1) := by kernel_rfl
@[go_sem] theorem cutk_40 : cutk Tryd.prog 40 = some (1, 1, 0) := by kernel_rfl
@[go_sem] theorem concrete_40 : concrete Tryd.prog 40 = true := by kernel_rfl
@[go_sem] theorem lk_41 : lk Tryd.prog 41 = some (false, 1) := by kernel_rfl
@[go_sem] theorem zer_41 : zer Tryd.prog 41 = some [D.int IntKind.u16 (0)] := by kernel_rfl
@[go_sem] theorem concrete_41 : concrete Tryd.prog 41 = true := by kernel_rfl
@[go_sem] theorem lk_42 : lk Tryd.prog 42 = some (false, 1) := by kernel_rfl
@[go_sem] theorem zer_42 : zer Tryd.prog 42 = some [D.nilfunc] := by kernel_rfl
@[go_sem] theorem concrete_42 : concrete Tryd.prog 42 = true := by kernel_rfl
@[go_sem] theorem lk_43 : lk Tryd.prog 43 = some (false, 1) := by kernel_rfl
@[go_sem] theorem zer_43 : zer Tryd.prog 43 = some [D.nilfunc] := by kernel_rfl
@[go_sem] theorem concrete_43 : concrete Tryd.prog 43 = true := by kernel_rfl
@[go_sem] theorem lk_44 : lk Tryd.prog 44 = some (false, 1) := by kernel_rfl
@[go_sem] theorem zer_44 : zer Tryd.prog 44 = some [D.int IntKind.i64 (0)] := by kernel_rfl
@[go_sem] theorem concrete_44 : concrete Tryd.prog 44 = true := by kernel_rfl
@[go_sem] theorem lk_45 : lk Tryd.prog 45 = some (false, 1) := by kernel_rfl
@[go_sem] theorem zer_45 : zer Tryd.prog 45 = some [D.any] := by kernel_rfl
@[go_sem] theorem concrete_45 : concrete Tryd.prog 45 = true := by kernel_rfl
@[go_sem] theorem lk_46 : lk Tryd.prog 46 = some (false, 1) := by kernel_rfl
@[go_sem] theorem zer_46 : zer Tryd.prog 46 = some [D.nilfunc] := by kernel_rfl
@[go_sem] theorem concrete_46 : concrete Tryd.prog 46 = true := by kernel_rfl
@[go_sem] theorem lk_47 : lk Tryd.prog 47 = some (false, 1) := by kernel_rfl
@[go_sem] theorem zer_47 : zer Tryd.prog 47 = some [D.nilfunc] := by kernel_rfl
@[go_sem] theorem concrete_47 : concrete Tryd.prog 47 = true := by kernel_rfl
@[go_sem] theorem lk_48 : lk Tryd.prog 48 = some (false, 1) := by kernel_rfl
@[go_sem] theorem zer_48 : zer Tryd.prog 48 = some [D.nilfunc] := by kernel_rfl
@[go_sem] theorem concrete_48 : concrete Tryd.prog 48 = true := by kernel_rfl
@[go_sem] theorem lk_49 : lk Tryd.prog 49 = some (false, 1) := by kernel_rfl
@[go_sem] theorem zer_49 : zer Tryd.prog 49 = some [D.nilfunc] := by kernel_rfl
@[go_sem] theorem concrete_49 : concrete Tryd.prog 49 = true := by kernel_rfl
@[go_sem] theorem lk_50 : lk Tryd.prog 50 = some (false, 1) := by kernel_rfl
@[go_sem] theorem elt_50 : elt Tryd.prog 50 = some (8, 88) := by kernel_rfl
@[go_sem] theorem zel_50 : zel Tryd.prog 50 = some ([D.int IntKind.i64 (0), D.int IntKind.i64 (0), D.int IntKind.i64 (0), D.str ByteArray.empty, D.str ByteArray.empty, D.int IntKind.i64 (0), D.int IntKind.i64 (0), D.str ByteArray.empty], 88) := by kernel_rfl
@[go_sem] theorem zer_50 : zer Tryd.prog 50 = some [D.sl Tk.full []] := by kernel_rfl
@[go_sem] theorem ixt_50 : ixt Tryd.prog 50 = some (false, 0, 8) := by kernel_rfl
@[go_sem] theorem cutk_50 : cutk Tryd.prog 50 = some (1, 8, 0) := by kernel_rfl
@[go_sem] theorem concrete_50 : concrete Tryd.prog 50 = true := by kernel_rfl
@[go_sem] theorem lk_51 : lk Tryd.prog 51 = some (false, 1) := by kernel_rfl
@[go_sem] theorem elt_51 : elt Tryd.prog 51 = some (1, 24) := by kernel_rfl
@[go_sem] theorem zel_51 : zel Tryd.prog 51 = some ([D.sl Tk.full []], 24) := by kernel_rfl
@[go_sem] theorem zer_51 : zer Tryd.prog 51 = some [D.sl Tk.full []] := by kernel_rfl
@[go_sem] theorem ixt_51 : ixt Tryd.prog 51 = some (false, 0, 1) := by kernel_rfl
@[go_sem] theorem cutk_51 : cutk Tryd.prog 51 = some (1, 1, 0) := by kernel_rfl
@[go_sem] theorem concrete_51 : concrete Tryd.prog 51 = true := by kernel_rfl
@[go_sem] theorem lk_52 : lk Tryd.prog 52 = some (true, 2) := by kernel_rfl
@[go_sem] theorem zer_52 : zer Tryd.prog 52 = some [D.sl Tk.full [], D.sl Tk.full []] := by kernel_rfl
@[go_sem] theorem plc_52 : plc Tryd.prog 52 = some [(0, 1), (1, 1)] := by kernel_rfl
@[go_sem] theorem concrete_52 : concrete Tryd.prog 52 = true := by kernel_rfl
@[go_sem] theorem lk_53 : lk Tryd.prog 53 = some (true, 2) := by kernel_rfl
@[go_sem] theorem zer_53 : zer Tryd.prog 53 = some [D.sl Tk.full [], D.sl Tk.full []] := by kernel_rfl
@[go_sem] theorem plc_53 : plc Tryd.prog 53 = some [(0, 1), (1, 1)] := by kernel_rfl
@[go_sem] theorem concrete_53 : concrete Tryd.prog 53 = true := by kernel_rfl
@[go_sem] theorem lk_54 : lk Tryd.prog 54 = some (false, 1) := by kernel_rfl
@[go_sem] theorem elt_54 : elt Tryd.prog 54 = some (4, 40) := by kernel_rfl
@[go_sem] theorem zel_54 : zel Tryd.prog 54 = some ([D.int IntKind.i64 (0), D.str ByteArray.empty, D.int IntKind.i64 (0), D.int IntKind.i64 (0)], 40) := by kernel_rfl
@[go_sem] theorem zer_54 : zer Tryd.prog 54 = some [D.sl Tk.full []] := by kernel_rfl
@[go_sem] theorem ixt_54 : ixt Tryd.prog 54 = some (false, 0, 4) := by kernel_rfl
@[go_sem] theorem cutk_54 : cutk Tryd.prog 54 = some (1, 4, 0) := by kernel_rfl
@[go_sem] theorem concrete_54 : concrete Tryd.prog 54 = true := by kernel_rfl
@[go_sem] theorem lk_55 : lk Tryd.prog 55 = some (true, 2) := by kernel_rfl
@[go_sem] theorem zer_55 : zer Tryd.prog 55 = some [D.sl Tk.full [], D.int IntKind.i64 (0)] := by kernel_rfl
@[go_sem] theorem plc_55 : plc Tryd.prog 55 = some [(0, 1), (1, 1)] := by kernel_rfl
@[go_sem] theorem concrete_55 : concrete Tryd.prog 55 = true := by kernel_rfl
@[go_sem] theorem lk_56 : lk Tryd.prog 56 = some (true, 2) := by kernel_rfl
@[go_sem] theorem zer_56 : zer Tryd.prog 56 = some [D.sl Tk.full [], D.int IntKind.i64 (0)] := by kernel_rfl
@[go_sem] theorem plc_56 : plc Tryd.prog 56 = some [(0, 1), (1, 1)] := by kernel_rfl
@[go_sem] theorem concrete_56 : concrete Tryd.prog 56 = true := by kernel_rfl
@[go_sem] theorem lk_57 : lk Tryd.prog 57 = some (false, 1) := by kernel_rfl
@[go_sem] theorem elt_57 : elt Tryd.prog 57 = some (1, 24) := by kernel_rfl
@[go_sem] theorem zel_57 : zel Tryd.prog 57 = some ([D.sl Tk.full []], 24) := by kernel_rfl
@[go_sem] theorem zer_57 : zer Tryd.prog 57 = some [D.sl Tk.full []] := by kernel_rfl
@[go_sem] theorem ixt_57 : ixt Tryd.prog 57 = some (false, 0, 1) := by kernel_rfl
@[go_sem] theorem cutk_57 : cutk Tryd.prog 57 = some (1, 1, 0) := by kernel_rfl
@[go_sem] theorem concrete_57 : concrete Tryd.prog 57 = true := by kernel_rfl
@[go_sem] theorem lk_58 : lk Tryd.prog 58 = some (false, 1) := by kernel_rfl
@[go_sem] theorem zer_58 : zer Tryd.prog 58 = some [D.any] := by kernel_rfl
@[go_sem] theorem concrete_58 : concrete Tryd.prog 58 = true := by kernel_rfl
@[go_sem] theorem lk_59 : lk Tryd.prog 59 = some (false, 1) := by kernel_rfl
@[go_sem] theorem zer_59 : zer Tryd.prog 59 = some [D.nilfunc] := by kernel_rfl
@[go_sem] theorem concrete_59 : concrete Tryd.prog 59 = true := by kernel_rfl
@[go_sem] theorem lk_60 : lk Tryd.prog 60 = some (false, 1) := by kernel_rfl
@[go_sem] theorem zer_60 : zer Tryd.prog 60 = some [D.nilfunc] := by kernel_rfl
@[go_sem] theorem concrete_60 : concrete Tryd.prog 60 = true := by kernel_rfl
@[go_sem] theorem lk_61 : lk Tryd.prog 61 = some (false, 1) := by kernel_rfl
@[go_sem] theorem zer_61 : zer Tryd.prog 61 = some [D.nilfunc] := by kernel_rfl
@[go_sem] theorem concrete_61 : concrete Tryd.prog 61 = true := by kernel_rfl
@[go_sem] theorem lk_62 : lk Tryd.prog 62 = some (false, 1) := by kernel_rfl
@[go_sem] theorem zer_62 : zer Tryd.prog 62 = some [D.nilfunc] := by kernel_rfl
@[go_sem] theorem concrete_62 : concrete Tryd.prog 62 = true := by kernel_rfl
@[go_sem] theorem lk_63 : lk Tryd.prog 63 = some (true, 2) := by kernel_rfl
@[go_sem] theorem zer_63 : zer Tryd.prog 63 = some [D.sl Tk.full [], D.sl Tk.full []] := by kernel_rfl
@[go_sem] theorem plc_63 : plc Tryd.prog 63 = some [(0, 1), (1, 1)] := by kernel_rfl
@[go_sem] theorem ixt_63 : ixt Tryd.prog 63 = some (true, 2, 1) := by kernel_rfl
@[go_sem] theorem cutk_63 : cutk Tryd.prog 63 = some (2, 1, 2) := by kernel_rfl
@[go_sem] theorem concrete_63 : concrete Tryd.prog 63 = true := by kernel_rfl
@[go_sem] theorem lk_64 : lk Tryd.prog 64 = some (false, 1) := by kernel_rfl
@[go_sem] theorem zer_64 : zer Tryd.prog 64 = some [D.nilfunc] := by kernel_rfl
@[go_sem] theorem concrete_64 : concrete Tryd.prog 64 = true := by kernel_rfl
@[go_sem] theorem lk_65 : lk Tryd.prog 65 = some (false, 1) := by kernel_rfl
@[go_sem] theorem zer_65 : zer Tryd.prog 65 = some [D.nilfunc] := by kernel_rfl
@[go_sem] theorem concrete_65 : concrete Tryd.prog 65 = true := by kernel_rfl
@[go_sem] theorem lk_66 : lk Tryd.prog 66 = some (true, 6) := by kernel_rfl
@[go_sem] theorem zer_66 : zer Tryd.prog 66 = some [D.int IntKind.i64 (0), D.sl Tk.full [], D.int IntKind.i64 (0), D.sl Tk.full [], D.int IntKind.i64 (0), D.sl Tk.full []] := by kernel_rfl
@[go_sem] theorem plc_66 : plc Tryd.prog 66 = some [(0, 2), (2, 2), (4, 2)] := by kernel_rfl
@[go_sem] theorem ixt_66 : ixt Tryd.prog 66 = some (true, 3, 2) := by kernel_rfl
@[go_sem] theorem cutk_66 : cutk Tryd.prog 66 = some (2, 2, 3) := by kernel_rfl
@[go_sem] theorem concrete_66 : concrete Tryd.prog 66 = true := by kernel_rfl
@[go_sem] theorem lk_67 : lk Tryd.prog 67 = some (false, 1) := by kernel_rfl
@[go_sem] theorem zer_67 : zer Tryd.prog 67 = some [D.nilfunc] := by kernel_rfl
@[go_sem] theorem concrete_67 : concrete Tryd.prog 67 = true := by kernel_rfl
@[go_sem] theorem lk_68 : lk Tryd.prog 68 = some (true, 4) := by kernel_rfl
@[go_sem] theorem zer_68 : zer Tryd.prog 68 = some [D.int IntKind.i64 (0), D.str ByteArray.empty, D.int IntKind.i64 (0), D.int IntKind.i64 (0)] := by kernel_rfl
@[go_sem] theorem plc_68 : plc Tryd.prog 68 = some [(0, 1), (1, 1), (2, 1), (3, 1)] := by kernel_rfl
@[go_sem] theorem concrete_68 : concrete Tryd.prog 68 = true := by kernel_rfl
@[go_sem] theorem lk_69 : lk Tryd.prog 69 = some (true, 4) := by kernel_rfl
@[go_sem] theorem zer_69 : zer Tryd.prog 69 = some [D.int IntKind.i64 (0), D.str ByteArray.empty, D.int IntKind.i64 (0), D.int IntKind.i64 (0)] := by kernel_rfl
@[go_sem] theorem plc_69 : plc Tryd.prog 69 = some [(0, 1), (1, 1), (2, 1), (3, 1)] := by kernel_rfl
@[go_sem] theorem concrete_69 : concrete Tryd.prog 69 = true := by kernel_rfl
@[go_sem] theorem lk_70 : lk Tryd.prog 70 = some (false, 1) := by kernel_rfl
@[go_sem] theorem zer_70 : zer Tryd.prog 70 = some [D.nilfunc] := by kernel_rfl
@[go_sem] theorem concrete_70 : concrete Tryd.prog 70 = true := by kernel_rfl
@[go_sem] theorem lk_71 : lk Tryd.prog 71 = some (true, 3) := by kernel_rfl
@[go_sem] theorem zer_71 : zer Tryd.prog 71 = some [D.bool false, D.int IntKind.i64 (0), D.str ByteArray.empty] := by kernel_rfl
@[go_sem] theorem plc_71 : plc Tryd.prog 71 = some [(0, 1), (1, 1), (2, 1)] := by kernel_rfl
@[go_sem] theorem concrete_71 : concrete Tryd.prog 71 = true := by kernel_rfl
@[go_sem] theorem lk_72 : lk Tryd.prog 72 = some (true, 3) := by kernel_rfl
@[go_sem] theorem zer_72 : zer Tryd.prog 72 = some [D.bool false, D.int IntKind.i64 (0), D.str ByteArray.empty] := by kernel_rfl
@[go_sem] theorem plc_72 : plc Tryd.prog 72 = some [(0, 1), (1, 1), (2, 1)] := by kernel_rfl
@[go_sem] theorem concrete_72 : concrete Tryd.prog 72 = true := by kernel_rfl
@[go_sem] theorem lk_73 : lk Tryd.prog 73 = some (true, 8) := by kernel_rfl
@[go_sem] theorem zer_73 : zer Tryd.prog 73 = some [D.int IntKind.i64 (0), D.int IntKind.i64 (0), D.bool false, D.int IntKind.i64 (0), D.str ByteArray.empty, D.bool false, D.int IntKind.i64 (0), D.str ByteArray.empty] := by kernel_rfl
@[go_sem] theorem plc_73 : plc Tryd.prog 73 = some [(0, 1), (1, 1), (2, 3), (5, 3)] := by kernel_rfl
@[go_sem] theorem concrete_73 : concrete Tryd.prog 73 = true := by kernel_rfl
@[go_sem] theorem lk_74 : lk Tryd.prog 74 = some (true, 8) := by kernel_rfl
@[go_sem] theorem zer_74 : zer Tryd.prog 74 = some [D.int IntKind.i64 (0), D.int IntKind.i64 (0), D.bool false, D.int IntKind.i64 (0), D.str ByteArray.empty, D.bool false, D.int IntKind.i64 (0), D.str ByteArray.empty] := by kernel_rfl
@[go_sem] theorem plc_74 : plc Tryd.prog 74 = some [(0, 1), (1, 1), (2, 3), (5, 3)] := by kernel_rfl
@[go_sem] theorem concrete_74 : concrete Tryd.prog 74 = true := by kernel_rfl
@[go_sem] theorem lk_75 : lk Tryd.prog 75 = some (false, 1) := by kernel_rfl
@[go_sem] theorem zer_75 : zer Tryd.prog 75 = some [D.nilfunc] := by kernel_rfl
@[go_sem] theorem concrete_75 : concrete Tryd.prog 75 = true := by kernel_rfl
@[go_sem] theorem lk_76 : lk Tryd.prog 76 = some (false, 1) := by kernel_rfl
@[go_sem] theorem zer_76 : zer Tryd.prog 76 = some [D.nilfunc] := by kernel_rfl
@[go_sem] theorem concrete_76 : concrete Tryd.prog 76 = true := by kernel_rfl
@[go_sem] theorem lk_77 : lk Tryd.prog 77 = some (false, 1) := by kernel_rfl
@[go_sem] theorem zer_77 : zer Tryd.prog 77 = some [D.nilfunc] := by kernel_rfl
@[go_sem] theorem concrete_77 : concrete Tryd.prog 77 = true := by kernel_rfl
@[go_sem] theorem lk_78 : lk Tryd.prog 78 = some (false, 1) := by kernel_rfl
@[go_sem] theorem zer_78 : zer Tryd.prog 78 = some [D.nilfunc] := by kernel_rfl
@[go_sem] theorem concrete_78 : concrete Tryd.prog 78 = true := by kernel_rfl
@[go_sem] theorem lk_79 : lk Tryd.prog 79 = some (true, 3) := by kernel_rfl
@[go_sem] theorem zer_79 : zer Tryd.prog 79 = some [D.bool false, D.bool false, D.bool false] := by kernel_rfl
@[go_sem] theorem plc_79 : plc Tryd.prog 79 = some [(0, 1), (1, 1), (2, 1)] := by kernel_rfl
@[go_sem] theorem concrete_79 : concrete Tryd.prog 79 = true := by kernel_rfl
@[go_sem] theorem lk_80 : lk Tryd.prog 80 = some (true, 3) := by kernel_rfl
@[go_sem] theorem zer_80 : zer Tryd.prog 80 = some [D.bool false, D.bool false, D.bool false] := by kernel_rfl
@[go_sem] theorem plc_80 : plc Tryd.prog 80 = some [(0, 1), (1, 1), (2, 1)] := by kernel_rfl
@[go_sem] theorem concrete_80 : concrete Tryd.prog 80 = true := by kernel_rfl
@[go_sem] theorem lk_81 : lk Tryd.prog 81 = some (false, 1) := by kernel_rfl
@[go_sem] theorem zer_81 : zer Tryd.prog 81 = some [D.nilfunc] := by kernel_rfl
@[go_sem] theorem concrete_81 : concrete Tryd.prog 81 = true := by kernel_rfl
@[go_sem] theorem lk_82 : lk Tryd.prog 82 = some (false, 1) := by kernel_rfl
@[go_sem] theorem zer_82 : zer Tryd.prog 82 = some [D.nilfunc] := by kernel_rfl
@[go_sem] theorem concrete_82 : concrete Tryd.prog 82 = true := by kernel_rfl
@[go_sem] theorem lk_83 : lk Tryd.prog 83 = some (false, 1) := by kernel_rfl
@[go_sem] theorem zer_83 : zer Tryd.prog 83 = some [D.nilfunc] := by kernel_rfl
@[go_sem] theorem concrete_83 : concrete Tryd.prog 83 = true := by kernel_rfl
@[go_sem] theorem lk_84 : lk Tryd.prog 84 = some (false, 1) := by kernel_rfl
@[go_sem] theorem zer_84 : zer Tryd.prog 84 = some [D.nilfunc] := by kernel_rfl
@[go_sem] theorem concrete_84 : concrete Tryd.prog 84 = true := by kernel_rfl
@[go_sem] theorem lk_85 : lk Tryd.prog 85 = some (false, 1) := by kernel_rfl
@[go_sem] theorem zer_85 : zer Tryd.prog 85 = some [D.nilfunc] := by kernel_rfl
@[go_sem] theorem concrete_85 : concrete Tryd.prog 85 = true := by kernel_rfl
@[go_sem] theorem lk_86 : lk Tryd.prog 86 = some (false, 1) := by kernel_rfl
@[go_sem] theorem zer_86 : zer Tryd.prog 86 = some [D.int IntKind.u64 (0)] := by kernel_rfl
@[go_sem] theorem concrete_86 : concrete Tryd.prog 86 = true := by kernel_rfl
@[go_sem] theorem lk_87 : lk Tryd.prog 87 = some (false, 1) := by kernel_rfl
@[go_sem] theorem zer_87 : zer Tryd.prog 87 = some [D.nilfunc] := by kernel_rfl
@[go_sem] theorem concrete_87 : concrete Tryd.prog 87 = true := by kernel_rfl
@[go_sem] theorem lk_88 : lk Tryd.prog 88 = some (false, 1) := by kernel_rfl
@[go_sem] theorem zer_88 : zer Tryd.prog 88 = some [D.nilfunc] := by kernel_rfl
@[go_sem] theorem concrete_88 : concrete Tryd.prog 88 = true := by kernel_rfl
@[go_sem] theorem lk_89 : lk Tryd.prog 89 = some (false, 1) := by kernel_rfl
@[go_sem] theorem zer_89 : zer Tryd.prog 89 = some [D.nilfunc] := by kernel_rfl
@[go_sem] theorem concrete_89 : concrete Tryd.prog 89 = true := by kernel_rfl
@[go_sem] theorem lk_90 : lk Tryd.prog 90 = some (false, 1) := by kernel_rfl
@[go_sem] theorem zer_90 : zer Tryd.prog 90 = some [D.int IntKind.u64 (0)] := by kernel_rfl
@[go_sem] theorem concrete_90 : concrete Tryd.prog 90 = true := by kernel_rfl
@[go_sem] theorem lk_91 : lk Tryd.prog 91 = some (false, 1) := by kernel_rfl
@[go_sem] theorem zer_91 : zer Tryd.prog 91 = some [D.nilfunc] := by kernel_rfl
@[go_sem] theorem concrete_91 : concrete Tryd.prog 91 = true := by kernel_rfl
@[go_sem] theorem lk_92 : lk Tryd.prog 92 = some (false, 1) := by kernel_rfl
@[go_sem] theorem zer_92 : zer Tryd.prog 92 = some [D.nilfunc] := by kernel_rfl
@[go_sem] theorem concrete_92 : concrete Tryd.prog 92 = true := by kernel_rfl
@[go_sem] theorem lk_93 : lk Tryd.prog 93 = some (false, 1) := by kernel_rfl
@[go_sem] theorem zer_93 : zer Tryd.prog 93 = some [D.nilp] := by kernel_rfl
@[go_sem] theorem concrete_93 : concrete Tryd.prog 93 = true := by kernel_rfl
@[go_sem] theorem lk_94 : lk Tryd.prog 94 = some (true, 3) := by kernel_rfl
@[go_sem] theorem zer_94 : zer Tryd.prog 94 = some [D.sl Tk.full [], D.int IntKind.i64 (0), D.int IntKind.i64 (0)] := by kernel_rfl
@[go_sem] theorem plc_94 : plc Tryd.prog 94 = some [(0, 1), (1, 1), (2, 1)] := by kernel_rfl
@[go_sem] theorem concrete_94 : concrete Tryd.prog 94 = true := by kernel_rfl
@[go_sem] theorem lk_95 : lk Tryd.prog 95 = some (true, 3) := by kernel_rfl
@[go_sem] theorem zer_95 : zer Tryd.prog 95 = some [D.sl Tk.full [], D.int IntKind.i64 (0), D.int IntKind.i64 (0)] := by kernel_rfl
@[go_sem] theorem plc_95 : plc Tryd.prog 95 = some [(0, 1), (1, 1), (2, 1)] := by kernel_rfl
@[go_sem] theorem concrete_95 : concrete Tryd.prog 95 = true := by kernel_rfl
@[go_sem] theorem lk_96 : lk Tryd.prog 96 = some (false, 1) := by kernel_rfl
@[go_sem] theorem zer_96 : zer Tryd.prog 96 = some [D.nilfunc] := by kernel_rfl
@[go_sem] theorem concrete_96 : concrete Tryd.prog 96 = true := by kernel_rfl
@[go_sem] theorem lk_97 : lk Tryd.prog 97 = some (false, 1) := by kernel_rfl
@[go_sem] theorem zer_97 : zer Tryd.prog 97 = some [D.nilfunc] := by kernel_rfl
@[go_sem] theorem concrete_97 : concrete Tryd.prog 97 = true := by kernel_rfl
@[go_sem] theorem lk_98 : lk Tryd.prog 98 = some (false, 1) := by kernel_rfl
@[go_sem] theorem zer_98 : zer Tryd.prog 98 = some [D.nilfunc] := by kernel_rfl
@[go_sem] theorem concrete_98 : concrete Tryd.prog 98 = true := by kernel_rfl
@[go_sem] theorem lk_99 : lk Tryd.prog 99 = some (false, 1) := by kernel_rfl
@[go_sem] theorem zer_99 : zer Tryd.prog 99 = some [D.nilfunc] := by kernel_rfl
@[go_sem] theorem concrete_99 : concrete Tryd.prog 99 = true := by kernel_rfl
@[go_sem] theorem lk_100 : lk Tryd.prog 100 = some (false, 1) := by kernel_rfl
@[go_sem] theorem zer_100 : zer Tryd.prog 100 = some [D.any] := by kernel_rfl
@[go_sem] theorem concrete_100 : concrete Tryd.prog 100 = true := by kernel_rfl
@[go_sem] theorem lk_101 : lk Tryd.prog 101 = some (false, 1) := by kernel_rfl
@[go_sem] theorem zer_101 : zer Tryd.prog 101 = some [D.nilfunc] := by kernel_rfl
@[go_sem] theorem concrete_101 : concrete Tryd.prog 101 = true := by kernel_rfl
@[go_sem] theorem lk_102 : lk Tryd.prog 102 = some (false, 1) := by kernel_rfl
@[go_sem] theorem zer_102 : zer Tryd.prog 102 = some [D.nilfunc] := by kernel_rfl
@[go_sem] theorem concrete_102 : concrete Tryd.prog 102 = true := by kernel_rfl
@[go_sem] theorem lk_103 : lk Tryd.prog 103 = some (false, 1) := by kernel_rfl
@[go_sem] theorem elt_103 : elt Tryd.prog 103 = some (1, 8) := by kernel_rfl
@[go_sem] theorem zel_103 : zel Tryd.prog 103 = some ([D.int IntKind.i64 (0)], 8) := by kernel_rfl
@[go_sem] theorem zer_103 : zer Tryd.prog 103 = some [D.sl Tk.full []] := by kernel_rfl
@[go_sem] theorem ixt_103 : ixt Tryd.prog 103 = some (false, 0, 1) := by kernel_rfl
@[go_sem] theorem cutk_103 : cutk Tryd.prog 103 = some (1, 1, 0) := by kernel_rfl
@[go_sem] theorem concrete_103 : concrete Tryd.prog 103 = true := by kernel_rfl
@[go_sem] theorem lk_104 : lk Tryd.prog 104 = some (false, 1) := by kernel_rfl
@[go_sem] theorem zer_104 : zer Tryd.prog 104 = some [D.nilfunc] := by kernel_rfl
@[go_sem] theorem concrete_104 : concrete Tryd.prog 104 = true := by kernel_rfl
@[go_sem] theorem lk_105 : lk Tryd.prog 105 = some (false, 1) := by kernel_rfl
@[go_sem] theorem zer_105 : zer Tryd.prog 105 = some [D.nilfunc] := by kernel_rfl
@[go_sem] theorem concrete_105 : concrete Tryd.prog 105 = true := by kernel_rfl
@[go_sem] theorem lk_106 : lk Tryd.prog 106 = some (false, 1) := by kernel_rfl
@[go_sem] theorem zer_106 : zer Tryd.prog 106 = some [D.nilfunc] := by kernel_rfl
@[go_sem] theorem concrete_106 : concrete Tryd.prog 106 = true := by kernel_rfl
@[go_sem] theorem lk_107 : lk Tryd.prog 107 = some (false, 1) := by kernel_rfl
@[go_sem] theorem zer_107 : zer Tryd.prog 107 = some [D.any] := by kernel_rfl
@[go_sem] theorem concrete_107 : concrete Tryd.prog 107 = true := by kernel_rfl
@[go_sem] theorem lk_108 : lk Tryd.prog 108 = some (false, 1) := by kernel_rfl
@[go_sem] theorem zer_108 : zer Tryd.prog 108 = some [D.nilfunc] := by kernel_rfl
@[go_sem] theorem concrete_108 : concrete Tryd.prog 108 = true := by kernel_rfl
@[go_sem] theorem lk_109 : lk Tryd.prog 109 = some (false, 1) := by kernel_rfl
@[go_sem] theorem zer_109 : zer Tryd.prog 109 = some [D.nilfunc] := by kernel_rfl
@[go_sem] theorem concrete_109 : concrete Tryd.prog 109 = true := by kernel_rfl
@[go_sem] theorem lk_110 : lk Tryd.prog 110 = some (true, 4) := by kernel_rfl
@[go_sem] theorem zer_110 : zer Tryd.prog 110 = some [D.int IntKind.i64 (0), D.bool false, D.int IntKind.i64 (0), D.str ByteArray.empty] := by kernel_rfl
@[go_sem] theorem plc_110 : plc Tryd.prog 110 = some [(0, 1), (1, 3)] := by kernel_rfl
@[go_sem] theorem concrete_110 : concrete Tryd.prog 110 = true := by kernel_rfl
@[go_sem] theorem lk_111 : lk Tryd.prog 111 = some (true, 4) := by kernel_rfl
@[go_sem] theorem zer_111 : zer Tryd.prog 111 = some [D.int IntKind.i64 (0), D.bool false, D.int IntKind.i64 (0), D.str ByteArray.empty] := by kernel_rfl
@[go_sem] theorem plc_111 : plc Tryd.prog 111 = some [(0, 1), (1, 3)] := by kernel_rfl
@[go_sem] theorem concrete_111 : concrete Tryd.prog 111 = true := by kernel_rfl
@[go_sem] theorem lk_112 : lk Tryd.prog 112 = some (false, 1) := by kernel_rfl
@[go_sem] theorem zer_112 : zer Tryd.prog 112 = some [D.nilfunc] := by kernel_rfl
@[go_sem] theorem concrete_112 : concrete Tryd.prog 112 = true := by kernel_rfl
@[go_sem] theorem lk_113 : lk Tryd.prog 113 = some (false, 1) := by kernel_rfl
@[go_sem] theorem zer_113 : zer Tryd.prog 113 = some [D.nilfunc] := by kernel_rfl
@[go_sem] theorem concrete_113 : concrete Tryd.prog 113 = true := by kernel_rfl
@[go_sem] theorem lk_114 : lk Tryd.prog 114 = some (false, 1) := by kernel_rfl
@[go_sem] theorem elt_114 : elt Tryd.prog 114 = some (3, 3) := by kernel_rfl
@[go_sem] theorem zel_114 : zel Tryd.prog 114 = some ([D.bool false, D.bool false, D.bool false], 3) := by kernel_rfl
@[go_sem] theorem zer_114 : zer Tryd.prog 114 = some [D.sl Tk.full []] := by kernel_rfl
@[go_sem] theorem ixt_114 : ixt Tryd.prog 114 = some (false, 0, 3) := by kernel_rfl
@[go_sem] theorem cutk_114 : cutk Tryd.prog 114 = some (1, 3, 0) := by kernel_rfl
@[go_sem] theorem concrete_114 : concrete Tryd.prog 114 = true := by kernel_rfl
@[go_sem] theorem lk_115 : lk Tryd.prog 115 = some (false, 1) := by kernel_rfl
@[go_sem] theorem zer_115 : zer Tryd.prog 115 = some [D.nilfunc] := by kernel_rfl
@[go_sem] theorem concrete_115 : concrete Tryd.prog 115 = true := by kernel_rfl
@[go_sem] theorem lk_116 : lk Tryd.prog 116 = some (false, 1) := by kernel_rfl
@[go_sem] theorem zer_116 : zer Tryd.prog 116 = some [D.nilfunc] := by kernel_rfl
@[go_sem] theorem concrete_116 : concrete Tryd.prog 116 = true := by kernel_rfl
@[go_sem] theorem lk_117 : lk Tryd.prog 117 = some (false, 1) := by kernel_rfl
@[go_sem] theorem zer_117 : zer Tryd.prog 117 = some [D.nilfunc] := by kernel_rfl
@[go_sem] theorem concrete_117 : concrete Tryd.prog 117 = true := by kernel_rfl
@[go_sem] theorem lk_118 : lk Tryd.prog 118 = some (false, 1) := by kernel_rfl
@[go_sem] theorem zer_118 : zer Tryd.prog 118 = some [D.nilfunc] := by kernel_rfl
@[go_sem] theorem concrete_118 : concrete Tryd.prog 118 = true := by kernel_rfl
@[go_sem] theorem lk_119 : lk Tryd.prog 119 = some (false, 1) := by kernel_rfl
@[go_sem] theorem zer_119 : zer Tryd.prog 119 = some [D.nilfunc] := by kernel_rfl
@[go_sem] theorem concrete_119 : concrete Tryd.prog 119 = true := by kernel_rfl
@[go_sem] theorem lk_120 : lk Tryd.prog 120 = some (false, 1) := by kernel_rfl
@[go_sem] theorem zer_120 : zer Tryd.prog 120 = some [D.nilfunc] := by kernel_rfl
@[go_sem] theorem concrete_120 : concrete Tryd.prog 120 = true := by kernel_rfl
@[go_sem] theorem lk_121 : lk Tryd.prog 121 = some (false, 1) := by kernel_rfl
@[go_sem] theorem zer_121 : zer Tryd.prog 121 = some [D.nilfunc] := by kernel_rfl
@[go_sem] theorem concrete_121 : concrete Tryd.prog 121 = true := by kernel_rfl
@[go_sem] theorem lk_122 : lk Tryd.prog 122 = some (false, 1) := by kernel_rfl
@[go_sem] theorem zer_122 : zer Tryd.prog 122 = some [D.nilfunc] := by kernel_rfl
@[go_sem] theorem concrete_122 : concrete Tryd.prog 122 = true := by kernel_rfl
@[go_sem] theorem lk_123 : lk Tryd.prog 123 = some (false, 1) := by kernel_rfl
@[go_sem] theorem zer_123 : zer Tryd.prog 123 = some [D.nilfunc] := by kernel_rfl
@[go_sem] theorem concrete_123 : concrete Tryd.prog 123 = true := by kernel_rfl
@[go_sem] theorem lk_124 : lk Tryd.prog 124 = some (false, 1) := by kernel_rfl
@[go_sem] theorem zer_124 : zer Tryd.prog 124 = some [D.any] := by kernel_rfl
@[go_sem] theorem concrete_124 : concrete Tryd.prog 124 = true := by kernel_rfl
@[go_sem] theorem lk_125 : lk Tryd.prog 125 = some (false, 1) := by kernel_rfl
@[go_sem] theorem zer_125 : zer Tryd.prog 125 = some [D.nilfunc] := by kernel_rfl
@[go_sem] theorem concrete_125 : concrete Tryd.prog 125 = true := by kernel_rfl
@[go_sem] theorem lk_126 : lk Tryd.prog 126 = some (false, 1) := by kernel_rfl
@[go_sem] theorem zer_126 : zer Tryd.prog 126 = some [D.nilfunc] := by kernel_rfl
@[go_sem] theorem concrete_126 : concrete Tryd.prog 126 = true := by kernel_rfl
@[go_sem] theorem lk_127 : lk Tryd.prog 127 = some (false, 1) := by kernel_rfl
@[go_sem] theorem zer_127 : zer Tryd.prog 127 = some [D.nilfunc] := by kernel_rfl
@[go_sem] theorem concrete_127 : concrete Tryd.prog 127 = true := by kernel_rfl
@[go_sem] theorem lk_128 : lk Tryd.prog 128 = some (false, 1) := by kernel_rfl
@[go_sem] theorem zer_128 : zer Tryd.prog 128 = some [D.nilfunc] := by kernel_rfl
@[go_sem] theorem concrete_128 : concrete Tryd.prog 128 = true := by kernel_rfl
@[go_sem] theorem lk_129 : lk Tryd.prog 129 = some (false, 1) := by kernel_rfl
@[go_sem] theorem zer_129 : zer Tryd.prog 129 = some [D.any] := by kernel_rfl
@[go_sem] theorem concrete_129 : concrete Tryd.prog 129 = true := by kernel_rfl
@[go_sem] theorem lk_130 : lk Tryd.prog 130 = some (false, 1) := by kernel_rfl
@[go_sem] theorem zer_130 : zer Tryd.prog 130 = some [D.nilfunc] := by kernel_rfl
@[go_sem] theorem concrete_130 : concrete Tryd.prog 130 = true := by kernel_rfl
@[go_sem] theorem lk_131 : lk Tryd.prog 131 = some (true, 8) := by kernel_rfl
@[go_sem] theorem zer_131 : zer Tryd.prog 131 = some [D.int IntKind.i64 (0), D.int IntKind.i64 (0), D.int IntKind.i64 (0), D.str ByteArray.empty, D.str ByteArray.empty, D.int IntKind.i64 (0), D.int IntKind.i64 (0), D.str ByteArray.empty] := by kernel_rfl
@[go_sem] theorem plc_131 : plc Tryd.prog 131 = some [(0, 1), (1, 1), (2, 1), (3, 1), (4, 1), (5, 1), (6, 1), (7, 1)] := by kernel_rfl
@[go_sem] theorem concrete_131 : concrete Tryd.prog 131 = true := by kernel_rfl
@[go_sem] theorem lk_132 : lk Tryd.prog 132 = some (true, 8) := by kernel_rfl
@[go_sem] theorem zer_132 : zer Tryd.prog 132 = some [D.int IntKind.i64 (0), D.int IntKind.i64 (0), D.int IntKind.i64 (0), D.str ByteArray.empty, D.str ByteArray.empty, D.int IntKind.i64 (0), D.int IntKind.i64 (0), D.str ByteArray.empty] := by kernel_rfl
@[go_sem] theorem plc_132 : plc Tryd.prog 132 = some [(0, 1), (1, 1), (2, 1), (3, 1), (4, 1), (5, 1), (6, 1), (7, 1)] := by kernel_rfl
@[go_sem] theorem concrete_132 : concrete Tryd.prog 132 = true := by kernel_rfl
@[go_sem] theorem lk_133 : lk Tryd.prog 133 = some (false, 1) := by kernel_rfl
@[go_sem] theorem zer_133 : zer Tryd.prog 133 = some [D.nilfunc] := by kernel_rfl
@[go_sem] theorem concrete_133 : concrete Tryd.prog 133 = true := by kernel_rfl
@[go_sem] theorem lk_134 : lk Tryd.prog 134 = some (false, 1) := by kernel_rfl
@[go_sem] theorem zer_134 : zer Tryd.prog 134 = some [D.nilfunc] := by kernel_rfl
@[go_sem] theorem concrete_134 : concrete Tryd.prog 134 = true := by kernel_rfl
@[go_sem] theorem lk_135 : lk Tryd.prog 135 = some (false, 1) := by kernel_rfl
@[go_sem] theorem zer_135 : zer Tryd.prog 135 = some [D.nilfunc] := by kernel_rfl
@[go_sem] theorem concrete_135 : concrete Tryd.prog 135 = true := by kernel_rfl
@[go_sem] theorem lk_136 : lk Tryd.prog 136 = some (true, 15) := by kernel_rfl
@[go_sem] theorem zer_136 : zer Tryd.prog 136 = some [D.int IntKind.i64 (0), D.int IntKind.i64 (0), D.bool false, D.int IntKind.i64 (0), D.str ByteArray.empty, D.bool false, D.int IntKind.i64 (0), D.str ByteArray.empty, D.int IntKind.i64 (0), D.int IntKind.i64 (0), D.int IntKind.i64 (0), D.int IntKind.i64 (0), D.sl Tk.full [], D.str ByteArray.empty, D.sl Tk.full []] := by kernel_rfl
@[go_sem] theorem plc_136 : plc Tryd.prog 136 = some [(0, 8), (8, 7)] := by kernel_rfl
@[go_sem] theorem concrete_136 : concrete Tryd.prog 136 = true := by kernel_rfl
@[go_sem] theorem lk_137 : lk Tryd.prog 137 = some (true, 15) := by kernel_rfl
@[go_sem] theorem zer_137 : zer Tryd.prog 137 = some [D.int IntKind.i64 (0), D.int IntKind.i64 (0), D.bool false, D.int IntKind.i64 (0), D.str ByteArray.empty, D.bool false, D.int IntKind.i64 (0), D.str ByteArray.empty, D.int IntKind.i64 (0), D.int IntKind.i64 (0), D.int IntKind.i64 (0), D.int IntKind.i64 (0), D.sl Tk.full [], D.str ByteArray.empty, D.sl Tk.full []] := by kernel_rfl
@[go_sem] theorem plc_137 : plc Tryd.prog 137 = some [(0, 8), (8, 7)] := by kernel_rfl
@[go_sem] theorem concrete_137 : concrete Tryd.prog 137 = true := by kernel_rfl
@[go_sem] theorem lk_138 : lk Tryd.prog 138 = some (false, 1) := by kernel_rfl
@[go_sem] theorem zer_138 : zer Tryd.prog 138 = some [D.nilfunc] := by kernel_rfl
@[go_sem] theorem concrete_138 : concrete Tryd.prog 138 = true := by kernel_rfl
@[go_sem] theorem lk_139 : lk Tryd.prog 139 = some (false, 1) := by kernel_rfl
@[go_sem] theorem zer_139 : zer Tryd.prog 139 = some [D.nilfunc] := by kernel_rfl
@[go_sem] theorem concrete_139 : concrete Tryd.prog 139 = true := by kernel_rfl
@[go_sem] theorem lk_140 : lk Tryd.prog 140 = some (true, 2) := by kernel_rfl
@[go_sem] theorem zer_140 : zer Tryd.prog 140 = some [D.int IntKind.i64 (0), D.bool false] := by kernel_rfl
@[go_sem] theorem plc_140 : plc Tryd.prog 140 = some [(0, 1), (1, 1)] := by kernel_rfl
@[go_sem] theorem concrete_140 : concrete Tryd.prog 140 = true := by kernel_rfl
@[go_sem] theorem lk_141 : lk Tryd.prog 141 = some (true, 2) := by kernel_rfl
@[go_sem] theorem zer_141 : zer Tryd.prog 141 = some [D.int IntKind.i64 (0), D.bool false] := by kernel_rfl
@[go_sem] theorem plc_141 : plc Tryd.prog 141 = some [(0, 1), (1, 1)] := by kernel_rfl
@[go_sem] theorem concrete_141 : concrete Tryd.prog 141 = true := by kernel_rfl
@[go_sem] theorem lk_142 : lk Tryd.prog 142 = some (false, 1) := by kernel_rfl
@[go_sem] theorem zer_142 : zer Tryd.prog 142 = some [D.nilfunc] := by kernel_rfl
@[go_sem] theorem concrete_142 : concrete Tryd.prog 142 = true := by kernel_rfl
@[go_sem] theorem lk_143 : lk Tryd.prog 143 = some (false, 1) := by kernel_rfl
@[go_sem] theorem zer_143 : zer Tryd.prog 143 = some [D.nilfunc] := by kernel_rfl
@[go_sem] theorem concrete_143 : concrete Tryd.prog 143 = true := by kernel_rfl
@[go_sem] theorem lk_144 : lk Tryd.prog 144 = some (false, 1) := by kernel_rfl
@[go_sem] theorem zer_144 : zer Tryd.prog 144 = some [D.any] := by kernel_rfl
@[go_sem] theorem concrete_144 : concrete Tryd.prog 144 = true := by kernel_rfl
@[go_sem] theorem lk_145 : lk Tryd.prog 145 = some (false, 1) := by kernel_rfl
@[go_sem] theorem zer_145 : zer Tryd.prog 145 = some [D.nilfunc] := by kernel_rfl
@[go_sem] theorem concrete_145 : concrete Tryd.prog 145 = true := by kernel_rfl
@[go_sem] theorem lk_146 : lk Tryd.prog 146 = some (false, 1) := by kernel_rfl
@[go_sem] theorem zer_146 : zer Tryd.prog 146 = some [D.nilfunc] := by kernel_rfl
@[go_sem] theorem concrete_146 : concrete Tryd.prog 146 = true := by kernel_rfl
@[go_sem] theorem lk_147 : lk Tryd.prog 147 = some (false, 1) := by kernel_rfl
@[go_sem] theorem zer_147 : zer Tryd.prog 147 = some [D.nilfunc] := by kernel_rfl
@[go_sem] theorem concrete_147 : concrete Tryd.prog 147 = true := by kernel_rfl
@[go_sem] theorem lk_148 : lk Tryd.prog 148 = some (false, 1) := by kernel_rfl
@[go_sem] theorem zer_148 : zer Tryd.prog 148 = some [D.nilfunc] := by kernel_rfl
@[go_sem] theorem concrete_148 : concrete Tryd.prog 148 = true := by kernel_rfl
@[go_sem] theorem lk_149 : lk Tryd.prog 149 = some (false, 1) := by kernel_rfl
@[go_sem] theorem zer_149 : zer Tryd.prog 149 = some [D.nilfunc] := by kernel_rfl
@[go_sem] theorem concrete_149 : concrete Tryd.prog 149 = true := by kernel_rfl
@[go_sem] theorem lk_150 : lk Tryd.prog 150 = some (false, 1) := by kernel_rfl
@[go_sem] theorem zer_150 : zer Tryd.prog 150 = some [D.nilfunc] := by kernel_rfl
@[go_sem] theorem concrete_150 : concrete Tryd.prog 150 = true := by kernel_rfl
@[go_sem] theorem lk_151 : lk Tryd.prog 151 = some (false, 1) := by kernel_rfl
@[go_sem] theorem zer_151 : zer Tryd.prog 151 = some [D.nilfunc] := by kernel_rfl
@[go_sem] theorem concrete_151 : concrete Tryd.prog 151 = true := by kernel_rfl
@[go_sem] theorem lk_152 : lk Tryd.prog 152 = some (false, 1) := by kernel_rfl
@[go_sem] theorem elt_152 : elt Tryd.prog 152 = some (2, 16) := by kernel_rfl
@[go_sem] theorem zel_152 : zel Tryd.prog 152 = some ([D.int IntKind.i64 (0), D.bool false], 16) := by kernel_rfl
@[go_sem] theorem zer_152 : zer Tryd.prog 152 = some [D.sl Tk.full []] := by kernel_rfl
@[go_sem] theorem ixt_152 : ixt Tryd.prog 152 = some (false, 0, 2) := by kernel_rfl
@[go_sem] theorem cutk_152 : cutk Tryd.prog 152 = some (1, 2, 0) := by kernel_rfl
@[go_sem] theorem concrete_152 : concrete Tryd.prog 152 = true := by kernel_rfl
@[go_sem] theorem lk_153 : lk Tryd.prog 153 = some (false, 1) := by kernel_rfl
@[go_sem] theorem zer_153 : zer Tryd.prog 153 = some [D.nilfunc] := by kernel_rfl
@[go_sem] theorem concrete_153 : concrete Tryd.prog 153 = true := by kernel_rfl
@[go_sem] theorem lk_154 : lk Tryd.prog 154 = some (false, 1) := by kernel_rfl
@[go_sem] theorem zer_154 : zer Tryd.prog 154 = some [D.nilfunc] := by kernel_rfl
@[go_sem] theorem concrete_154 : concrete Tryd.prog 154 = true := by kernel_rfl
@[go_sem] theorem lk_155 : lk Tryd.prog 155 = some (false, 1) := by kernel_rfl
@[go_sem] theorem zer_155 : zer Tryd.prog 155 = some [D.nilfunc] := by kernel_rfl
@[go_sem] theorem concrete_155 : concrete Tryd.prog 155 = true := by kernel_rfl
@[go_sem] theorem lk_156 : lk Tryd.prog 156 = some (false, 1) := by kernel_rfl
@[go_sem] theorem zer_156 : zer Tryd.prog 156 = some [D.any] := by kernel_rfl
@[go_sem] theorem concrete_156 : concrete Tryd.prog 156 = true := by kernel_rfl
@[go_sem] theorem lk_157 : lk Tryd.prog 157 = some (false, 1) := by kernel_rfl
@[go_sem] theorem zer_157 : zer Tryd.prog 157 = some [D.any] := by kernel_rfl
@[go_sem] theorem concrete_157 : concrete Tryd.prog 157 = true := by kernel_rfl
@[go_sem] theorem lk_158 : lk Tryd.prog 158 = some (false, 1) := by kernel_rfl
@[go_sem] theorem zer_158 : zer Tryd.prog 158 = some [D.nilfunc] := by kernel_rfl
@[go_sem] theorem concrete_158 : concrete Tryd.prog 158 = true := by kernel_rfl
@[go_sem] theorem lk_159 : lk Tryd.prog 159 = some (false, 1) := by kernel_rfl
@[go_sem] theorem zer_159 : zer Tryd.prog 159 = some [D.nilfunc] := by kernel_rfl
@[go_sem] theorem concrete_159 : concrete Tryd.prog 159 = true := by kernel_rfl
@[go_sem] theorem lk_160 : lk Tryd.prog 160 = some (false, 1) := by kernel_rfl
@[go_sem] theorem zer_160 : zer Tryd.prog 160 = some [D.nilfunc] := by kernel_rfl
@[go_sem] theorem concrete_160 : concrete Tryd.prog 160 = true := by kernel_rfl
@[go_sem] theorem lk_161 : lk Tryd.prog 161 = some (true, 2) := by kernel_rfl
@[go_sem] theorem zer_161 : zer Tryd.prog 161 = some [D.int IntKind.i64 (0), D.int IntKind.i64 (0)] := by kernel_rfl
@[go_sem] theorem plc_161 : plc Tryd.prog 161 = some [(0, 1), (1, 1)] := by kernel_rfl
@[go_sem] theorem ixt_161 : ixt Tryd.prog 161 = some (true, 2, 1) := by kernel_rfl
@[go_sem] theorem cutk_161 : cutk Tryd.prog 161 = some (2, 1, 2) := by kernel_rfl
@[go_sem] theorem concrete_161 : concrete Tryd.prog 161 = true := by kernel_rfl
@[go_sem] theorem lk_162 : lk Tryd.prog 162 = some (false, 1) := by kernel_rfl
@[go_sem] theorem zer_162 : zer Tryd.prog 162 = some [D.nilfunc] := by kernel_rfl
@[go_sem] theorem concrete_162 : concrete Tryd.prog 162 = true := by kernel_rfl
@[go_sem] theorem lk_163 : lk Tryd.prog 163 = some (false, 1) := by kernel_rfl
@[go_sem] theorem zer_163 : zer Tryd.prog 163 = some [D.any] := by kernel_rfl
@[go_sem] theorem concrete_163 : concrete Tryd.prog 163 = true := by kernel_rfl
@[go_sem] theorem lk_164 : lk Tryd.prog 164 = some (false, 1) := by kernel_rfl
@[go_sem] theorem zer_164 : zer Tryd.prog 164 = some [D.nilfunc] := by kernel_rfl
@[go_sem] theorem concrete_164 : concrete Tryd.prog 164 = true := by kernel_rfl
@[go_sem] theorem lk_165 : lk Tryd.prog 165 = some (false, 1) := by kernel_rfl
@[go_sem] theorem zer_165 : zer Tryd.prog 165 = some [D.nilfunc] := by kernel_rfl
@[go_sem] theorem concrete_165 : concrete Tryd.prog 165 = true := by kernel_rfl
@[go_sem] theorem lk_166 : lk Tryd.prog 166 = some (false, 1) := by kernel_rfl
@[go_sem] theorem zer_166 : zer Tryd.prog 166 = some [D.nilfunc] := by kernel_rfl
@[go_sem] theorem concrete_166 : concrete Tryd.prog 166 = true := by kernel_rfl
@[go_sem] theorem lk_167 : lk Tryd.prog 167 = some (false, 1) := by kernel_rfl
@[go_sem] theorem elt_167 : elt Tryd.prog 167 = some (1, 16) := by kernel_rfl
@[go_sem] theorem zel_167 : zel Tryd.prog 167 = some ([D.str ByteArray.empty], 16) := by kernel_rfl
@[go_sem] theorem zer_167 : zer Tryd.prog 167 = some [D.sl Tk.full []] := by kernel_rfl
@[go_sem] theorem ixt_167 : ixt Tryd.prog 167 = some (false, 0, 1) := by kernel_rfl
@[go_sem] theorem cutk_167 : cutk Tryd.prog 167 = some (1, 1, 0) := by kernel_rfl
@[go_sem] theorem concrete_167 : concrete Tryd.prog 167 = true := by kernel_rfl
@[go_sem] theorem lk_168 : lk Tryd.prog 168 = some (false, 1) := by kernel_rfl
@[go_sem] theorem zer_168 : zer Tryd.prog 168 = some [D.nilfunc] := by kernel_rfl
@[go_sem] theorem concrete_168 : concrete Tryd.prog 168 = true := by kernel_rfl
@[go_sem] theorem lk_169 : lk Tryd.prog 169 = some (false, 1) := by kernel_rfl
@[go_sem] theorem zer_169 : zer Tryd.prog 169 = some [D.nilfunc] := by kernel_rfl
@[go_sem] theorem concrete_169 : concrete Tryd.prog 169 = true := by kernel_rfl
@[go_sem] theorem lk_170 : lk Tryd.prog 170 = some (false, 1) := by kernel_rfl
@[go_sem] theorem zer_170 : zer Tryd.prog 170 = some [D.nilfunc] := by kernel_rfl
@[go_sem] theorem concrete_170 : concrete Tryd.prog 170 = true := by kernel_rfl
@[go_sem] theorem lk_171 : lk Tryd.prog 171 = some (false, 1) := by kernel_rfl
@[go_sem] theorem zer_171 : zer Tryd.prog 171 = some [D.nilfunc] := by kernel_rfl
@[go_sem] theorem concrete_171 : concrete Tryd.prog 171 = true := by kernel_rfl
@[go_sem] theorem lk_172 : lk Tryd.prog 172 = some (true, 4) := by kernel_rfl
@[go_sem] theorem zer_172 : zer Tryd.prog 172 = some [D.nilp, D.nilp, D.nilp, D.str ByteArray.empty] := by kernel_rfl
@[go_sem] theorem plc_172 : plc Tryd.prog 172 = some [(0, 1), (1, 1), (2, 1), (3, 1)] := by kernel_rfl
@[go_sem] theorem concrete_172 : concrete Tryd.prog 172 = true := by kernel_rfl
@[go_sem] theorem lk_173 : lk Tryd.prog 173 = some (true, 4) := by kernel_rfl
@[go_sem] theorem zer_173 : zer Tryd.prog 173 = some [D.nilp, D.nilp, D.nilp, D.str ByteArray.empty] := by kernel_rfl
@[go_sem] theorem plc_173 : plc Tryd.prog 173 = some [(0, 1), (1, 1), (2, 1), (3, 1)] := by kernel_rfl
@[go_sem] theorem concrete_173 : concrete Tryd.prog 173 = true := by kernel_rfl
@[go_sem] theorem lk_174 : lk Tryd.prog 174 = some (true, 0) := by kernel_rfl
@[go_sem] theorem zer_174 : zer Tryd.prog 174 = some [] := by kernel_rfl
@[go_sem] theorem plc_174 : plc Tryd.prog 174 = some [] := by kernel_rfl
@[go_sem] theorem ixt_174 : ixt Tryd.prog 174 = some (true, 0, 1) := by kernel_rfl
@[go_sem] theorem cutk_174 : cutk Tryd.prog 174 = some (2, 1, 0) := by kernel_rfl
@[go_sem] theorem concrete_174 : concrete Tryd.prog 174 = true := by kernel_rfl
@[go_sem] theorem lk_175 : lk Tryd.prog 175 = some (true, 0) := by kernel_rfl
@[go_sem] theorem zer_175 : zer Tryd.prog 175 = some [] := by kernel_rfl
@[go_sem] theorem plc_175 : plc Tryd.prog 175 = some [(0, 0)] := by kernel_rfl
@[go_sem] theorem concrete_175 : concrete Tryd.prog 175 = true := by kernel_rfl
@[go_sem] theorem lk_176 : lk Tryd.prog 176 = some (true, 0) := by kernel_rfl
@[go_sem] theorem zer_176 : zer Tryd.prog 176 = some [] := by kernel_rfl
@[go_sem] theorem plc_176 : plc Tryd.prog 176 = some [(0, 0)] := by kernel_rfl
@[go_sem] theorem concrete_176 : concrete Tryd.prog 176 = true := by kernel_rfl
@[go_sem] theorem lk_177 : lk Tryd.prog 177 = some (false, 1) := by kernel_rfl
@[go_sem] theorem zer_177 : zer Tryd.prog 177 = some [D.int IntKind.u32 (0)] := by kernel_rfl
@[go_sem] theorem concrete_177 : concrete Tryd.prog 177 = true := by kernel_rfl
@[go_sem] theorem lk_178 : lk Tryd.prog 178 = some (false, 1) := by kernel_rfl
@[go_sem] theorem zer_178 : zer Tryd.prog 178 = some [D.int IntKind.u8 (0)] := by kernel_rfl
@[go_sem] theorem concrete_178 : concrete Tryd.prog 178 = true := by kernel_rfl
@[go_sem] theorem lk_179 : lk Tryd.prog 179 = some (false, 1) := by kernel_rfl
@[go_sem] theorem zer_179 : zer Tryd.prog 179 = some [D.int IntKind.u8 (0)] := by kernel_rfl
@[go_sem] theorem concrete_179 : concrete Tryd.prog 179 = true := by kernel_rfl
@[go_sem] theorem lk_180 : lk Tryd.prog 180 = some (false, 1) := by kernel_rfl
@[go_sem] theorem zer_180 : zer Tryd.prog 180 = some [D.nilfunc] := by kernel_rfl
@[go_sem] theorem concrete_180 : concrete Tryd.prog 180 = true := by kernel_rfl
@[go_sem] theorem lk_181 : lk Tryd.prog 181 = some (false, 1) := by kernel_rfl
@[go_sem] theorem zer_181 : zer Tryd.prog 181 = some [D.nilp] := by kernel_rfl
@[go_sem] theorem concrete_181 : concrete Tryd.prog 181 = true := by kernel_rfl
@[go_sem] theorem lk_182 : lk Tryd.prog 182 = some (false, 1) := by kernel_rfl
@[go_sem] theorem zer_182 : zer Tryd.prog 182 = some [D.int IntKind.i32 (0)] := by kernel_rfl
@[go_sem] theorem concrete_182 : concrete Tryd.prog 182 = true := by kernel_rfl
@[go_sem] theorem lk_183 : lk Tryd.prog 183 = some (false, 1) := by kernel_rfl
@[go_sem] theorem zer_183 : zer Tryd.prog 183 = some [D.int IntKind.i32 (0)] := by kernel_rfl
@[go_sem] theorem concrete_183 : concrete Tryd.prog 183 = true := by kernel_rfl
@[go_sem] theorem lk_184 : lk Tryd.prog 184 = some (true, 11) := by kernel_rfl
@[go_sem] theorem zer_184 : zer Tryd.prog 184 = some [D.int IntKind.u64 (0), D.int IntKind.u64 (0), D.int IntKind.u32 (0), D.int IntKind.u8 (0), D.int IntKind.u8 (0), D.int IntKind.u8 (0), D.int IntKind.u8 (0), D.nilfunc, D.nilp, D.int IntKind.i32 (0), D.int IntKind.i32 (0)] := by kernel_rfl
@[go_sem] theorem plc_184 : plc Tryd.prog 184 = some [(0, 1), (1, 1), (2, 1), (3, 1), (4, 1), (5, 1), (6, 1), (7, 1), (8, 1), (9, 1), (10, 1)] := by kernel_rfl
@[go_sem] theorem concrete_184 : concrete Tryd.prog 184 = true := by kernel_rfl
@[go_sem] theorem lk_185 : lk Tryd.prog 185 = some (true, 11) := by kernel_rfl
@[go_sem] theorem zer_185 : zer Tryd.prog 185 = some [D.int IntKind.u64 (0), D.int IntKind.u64 (0), D.int IntKind.u32 (0), D.int IntKind.u8 (0), D.int IntKind.u8 (0), D.int IntKind.u8 (0), D.int IntKind.u8 (0), D.nilfunc, D.nilp, D.int IntKind.i32 (0), D.int IntKind.i32 (0)] := by kernel_rfl
@[go_sem] theorem plc_185 : plc Tryd.prog 185 = some [(0, 1), (1, 1), (2, 1), (3, 1), (4, 1), (5, 1), (6, 1), (7, 1), (8, 1), (9, 1), (10, 1)] := by kernel_rfl
@[go_sem] theorem concrete_185 : concrete Tryd.prog 185 = true := by kernel_rfl
@[go_sem] theorem lk_186 : lk Tryd.prog 186 = some (false, 1) := by kernel_rfl
@[go_sem] theorem zer_186 : zer Tryd.prog 186 = some [D.nilp] := by kernel_rfl
@[go_sem] theorem concrete_186 : concrete Tryd.prog 186 = true := by kernel_rfl
@[go_sem] theorem foff_24_0 : foff Tryd.prog 24 0 = some 0 := by kernel_rfl
@[go_sem] theorem foff_24_1 : foff Tryd.prog 24 1 = some 1 := by kernel_rfl
@[go_sem] theorem foff_28_0 : foff Tryd.prog 28 0 = some 0 := by kernel_rfl
@[go_sem] theorem foff_28_1 : foff Tryd.prog 28 1 = some 1 := by kernel_rfl
@[go_sem] theorem foff_28_2 : foff Tryd.prog 28 2 = some 2 := by kernel_rfl
@[go_sem] theorem foff_28_3 : foff Tryd.prog 28 3 = some 3 := by kernel_rfl
@[go_sem] theorem foff_28_4 : foff Tryd.prog 28 4 = some 4 := by kernel_rfl
@[go_sem] theorem foff_28_5 : foff Tryd.prog 28 5 = some 5 := by kernel_rfl
@[go_sem] theorem foff_28_6 : foff Tryd.prog 28 6 = some 6 := by kernel_rfl
@[go_sem] theorem foff_35_0 : foff Tryd.prog 35 0 = some 0 := by kernel_rfl
@[go_sem] theorem foff_53_0 : foff Tryd.prog 53 0 = some 0 := by kernel_rfl
@[go_sem] theorem foff_53_1 : foff Tryd.prog 53 1 = some 1 := by kernel_rfl
@[go_sem] theorem foff_56_0 : foff Tryd.prog 56 0 = some 0 := by kernel_rfl
@[go_sem] theorem foff_56_1 : foff Tryd.prog 56 1 = some 1 := by kernel_rfl
@[go_sem] theorem foff_69_0 : foff Tryd.prog 69 0 = some 0 := by kernel_rfl
@[go_sem] theorem foff_69_1 : foff Tryd.prog 69 1 = some 1 := by kernel_rfl
@[go_sem] theorem foff_69_2 : foff Tryd.prog 69 2 = some 2 := by kernel_rfl
@[go_sem] theorem foff_69_3 : foff Tryd.prog 69 3 = some 3 := by kernel_rfl
@[go_sem] theorem foff_72_0 : foff Tryd.prog 72 0 = some 0 := by kernel_rfl
@[go_sem] theorem foff_72_1 : foff Tryd.prog 72 1 = some 1 := by kernel_rfl
@[go_sem] theorem foff_72_2 : foff Tryd.prog 72 2 = some 2 := by kernel_rfl
@[go_sem] theorem foff_74_0 : foff Tryd.prog 74 0 = some 0 := by kernel_rfl
@[go_sem] theorem foff_74_1 : foff Tryd.prog 74 1 = some 1 := by kernel_rfl
@[go_sem] theorem foff_74_2 : foff Tryd.prog 74 2 = some 2 := by kernel_rfl
@[go_sem] theorem foff_74_3 : foff Tryd.prog 74 3 = some 5 := by kernel_rfl
@[go_sem] theorem foff_80_0 : foff Tryd.prog 80 0 = some 0 := by kernel_rfl
@[go_sem] theorem foff_80_1 : foff Tryd.prog 80 1 = some 1 := by kernel_rfl
@[go_sem] theorem foff_80_2 : foff Tryd.prog 80 2 = some 2 := by kernel_rfl
@[go_sem] theorem foff_95_0 : foff Tryd.prog 95 0 = some 0 := by kernel_rfl
@[go_sem] theorem foff_95_1 : foff Tryd.prog 95 1 = some 1 := by kernel_rfl
@[go_sem] theorem foff_95_2 : foff Tryd.prog 95 2 = some 2 := by kernel_rfl
@[go_sem] theorem foff_111_0 : foff Tryd.prog 111 0 = some 0 := by kernel_rfl
@[go_sem] theorem foff_111_1 : foff Tryd.prog 111 1 = some 1 := by kernel_rfl
@[go_sem] theorem foff_132_0 : foff Tryd.prog 132 0 = some 0 := by kernel_rfl
@[go_sem] theorem foff_132_1 : foff Tryd.prog 132 1 = some 1 := by kernel_rfl
@[go_sem] theorem foff_132_2 : foff Tryd.prog 132 2 = some 2 := by kernel_rfl
@[go_sem] theorem foff_132_3 : foff Tryd.prog 132 3 = some 3 := by kernel_rfl
@[go_sem] theorem foff_132_4 : foff Tryd.prog 132 4 = some 4 := by kernel_rfl
@[go_sem] theorem foff_132_5 : foff Tryd.prog 132 5 = some 5 := by kernel_rfl
@[go_sem] theorem foff_132_6 : foff Tryd.prog 132 6 = some 6 := by kernel_rfl
@[go_sem] theorem foff_132_7 : foff Tryd.prog 132 7 = some 7 := by kernel_rfl
@[go_sem] theorem foff_137_0 : foff Tryd.prog 137 0 = some 0 := by kernel_rfl
@[go_sem] theorem foff_137_1 : foff Tryd.prog 137 1 = some 8 := by kernel_rfl
@[go_sem] theorem foff_141_0 : foff Tryd.prog 141 0 = some 0 := by kernel_rfl
@[go_sem] theorem foff_141_1 : foff Tryd.prog 141 1 = some 1 := by kernel_rfl
@[go_sem] theorem cvk_2_21 : cvk Tryd.prog 2 21 = some (0, IntKind.i32) := by kernel_rfl
@[go_sem] theorem cvk_2_90 : cvk Tryd.prog 2 90 = some (0, IntKind.u64) := by kernel_rfl
@[go_sem] theorem cvk_3_86 : cvk Tryd.prog 3 86 = some (0, IntKind.u64) := by kernel_rfl
@[go_sem] theorem cvk_3_90 : cvk Tryd.prog 3 90 = some (0, IntKind.u64) := by kernel_rfl
@[go_sem] theorem cvk_5_90 : cvk Tryd.prog 5 90 = some (0, IntKind.u64) := by kernel_rfl
@[go_sem] theorem cvk_21_2 : cvk Tryd.prog 21 2 = some (0, IntKind.i64) := by kernel_rfl
@[go_sem] theorem cvk_40_9 : cvk Tryd.prog 40 9 = some (2, IntKind.u8) := by kernel_rfl
@[go_sem] theorem cvk_41_3 : cvk Tryd.prog 41 3 = some (0, IntKind.i64) := by kernel_rfl
@[go_sem] theorem cvk_86_3 : cvk Tryd.prog 86 3 = some (0, IntKind.i64) := by kernel_rfl
@[go_sem] theorem cvk_90_2 : cvk Tryd.prog 90 2 = some (0, IntKind.i64) := by kernel_rfl
@[go_sem] theorem cvk_90_3 : cvk Tryd.prog 90 3 = some (0, IntKind.i64) := by kernel_rfl
@[go_sem] theorem cvk_90_5 : cvk Tryd.prog 90 5 = some (0, IntKind.u8) := by kernel_rfl

end Go.Proofs.YtnoenipdooackaaDoorS
