/-
  Texts of this proof, merged: S1 B1 CA CB CC CD MA.
  Conditions: as said at each part.
-/
import Derived.Test.YtpblgfgcoamgmaaGreatRows
import Derived.Test.YtpblgfgcoamgmaaGreatG3
set_option linter.unusedVariables false
set_option linter.unusedSimpArgs false
namespace Go.Proofs.YtpblgfgcoamgmaaGreatS
open Go Go.Proofs.YtpblgfgcoamgmaaGreatV

noncomputable abbrev P : Program := Tryz.prog
theorem mixed : Tryz.prog.follows .mixedOrders = true := by kernel_rfl

@[go_sem] theorem lk_0 : lk Tryz.prog 0 = some (false, 1) := by kernel_rfl
@[go_sem] theorem zer_0 : zer Tryz.prog 0 = some [D.any] := by kernel_rfl
@[go_sem] theorem concrete_0 : concrete Tryz.prog 0 = true := by kernel_rfl
@[go_sem] theorem lk_1 : lk Tryz.prog 1 = some (false, 1) := by kernel_rfl
@[go_sem] theorem zer_1 : zer Tryz.prog 1 = some [D.nilfunc] := by kernel_rfl
@[go_sem] theorem concrete_1 : concrete Tryz.prog 1 = true := by kernel_rfl
@[go_sem] theorem lk_2 : lk Tryz.prog 2 = some (false, 1) := by kernel_rfl
@[go_sem] theorem zer_2 : zer Tryz.prog 2 = some [D.int IntKind.i64 (0)] := by kernel_rfl
@[go_sem] theorem concrete_2 : concrete Tryz.prog 2 = true := by kernel_rfl
@[go_sem] theorem lk_3 : lk Tryz.prog 3 = some (false, 1) := by kernel_rfl
@[go_sem] theorem zer_3 : zer Tryz.prog 3 = some [D.int IntKind.i64 (0)] := by kernel_rfl
@[go_sem] theorem concrete_3 : concrete Tryz.prog 3 = true := by kernel_rfl
@[go_sem] theorem lk_4 : lk Tryz.prog 4 = some (false, 1) := by kernel_rfl
@[go_sem] theorem zer_4 : zer Tryz.prog 4 = some [D.bool false] := by kernel_rfl
@[go_sem] theorem concrete_4 : concrete Tryz.prog 4 = true := by kernel_rfl
@[go_sem] theorem lk_5 : lk Tryz.prog 5 = some (false, 1) := by kernel_rfl
@[go_sem] theorem zer_5 : zer Tryz.prog 5 = some [D.int IntKind.u8 (0)] := by kernel_rfl
@[go_sem] theorem concrete_5 : concrete Tryz.prog 5 = true := by kernel_rfl
@[go_sem] theorem lk_6 : lk Tryz.prog 6 = some (false, 1) := by kernel_rfl
@[go_sem] theorem zer_6 : zer Tryz.prog 6 = some [D.int IntKind.u8 (0)] := by kernel_rfl
@[go_sem] theorem concrete_6 : concrete Tryz.prog 6 = true := by kernel_rfl
@[go_sem] theorem lk_7 : lk Tryz.prog 7 = some (true, 4) := by kernel_rfl
@[go_sem] theorem zer_7 : zer Tryz.prog 7 = some [D.int IntKind.i64 (0), D.int IntKind.i64 (0), D.bool false, D.int IntKind.u8 (0)] := by kernel_rfl
@[go_sem] theorem plc_7 : plc Tryz.prog 7 = some [(0, 1), (1, 1), (2, 1), (3, 1)] := by kernel_rfl
@[go_sem] theorem concrete_7 : concrete Tryz.prog 7 = true := by kernel_rfl
@[go_sem] theorem lk_8 : lk Tryz.prog 8 = some (true, 4) := by kernel_rfl
@[go_sem] theorem zer_8 : zer Tryz.prog 8 = some [D.int IntKind.i64 (0), D.int IntKind.i64 (0), D.bool false, D.int IntKind.u8 (0)] := by kernel_rfl
@[go_sem] theorem plc_8 : plc Tryz.prog 8 = some [(0, 1), (1, 1), (2, 1), (3, 1)] := by kernel_rfl
@[go_sem] theorem concrete_8 : concrete Tryz.prog 8 = true := by kernel_rfl
@[go_sem] theorem lk_9 : lk Tryz.prog 9 = some (false, 1) := by kernel_rfl
@[go_sem] theorem zer_9 : zer Tryz.prog 9 = some [D.str ByteArray.empty] := by kernel_rfl
@[go_sem] theorem cutk_9 : cutk Tryz.prog 9 = some (0, 0, 0) := by kernel_rfl
@[go_sem] theorem concrete_9 : concrete Tryz.prog 9 = true := by kernel_rfl
@[go_sem] theorem lk_10 : lk Tryz.prog 10 = some (false, 1) := by kernel_rfl
@[go_sem] theorem zer_10 : zer Tryz.prog 10 = some [D.str ByteArray.empty] := by kernel_rfl
@[go_sem] theorem cutk_10 : cutk Tryz.prog 10 = some (0, 0, 0) := by kernel_rfl
@[go_sem] theorem concrete_10 : concrete Tryz.prog 10 = true := by kernel_rfl
@[go_sem] theorem lk_11 : lk Tryz.prog 11 = some (false, 1) := by kernel_rfl
@[go_sem] theorem zer_11 : zer Tryz.prog 11 = some [D.str ByteArray.empty] := by kernel_rfl
@[go_sem] theorem cutk_11 : cutk Tryz.prog 11 = some (0, 0, 0) := by kernel_rfl
@[go_sem] theorem concrete_11 : concrete Tryz.prog 11 = true := by kernel_rfl
@[go_sem] theorem lk_12 : lk Tryz.prog 12 = some (false, 1) := by kernel_rfl
@[go_sem] theorem zer_12 : zer Tryz.prog 12 = some [D.int IntKind.u64 (0)] := by kernel_rfl
@[go_sem] theorem concrete_12 : concrete Tryz.prog 12 = true := by kernel_rfl
@[go_sem] theorem lk_13 : lk Tryz.prog 13 = some (true, 2) := by kernel_rfl
@[go_sem] theorem zer_13 : zer Tryz.prog 13 = some [D.str ByteArray.empty, D.int IntKind.u64 (0)] := by kernel_rfl
@[go_sem] theorem plc_13 : plc Tryz.prog 13 = some [(0, 1), (1, 1)] := by kernel_rfl
@[go_sem] theorem concrete_13 : concrete Tryz.prog 13 = true := by kernel_rfl
@[go_sem] theorem lk_14 : lk Tryz.prog 14 = some (true, 2) := by kernel_rfl
@[go_sem] theorem zer_14 : zer Tryz.prog 14 = some [D.str ByteArray.empty, D.int IntKind.u64 (0)] := by kernel_rfl
@[go_sem] theorem plc_14 : plc Tryz.prog 14 = some [(0, 1), (1, 1)] := by kernel_rfl
@[go_sem] theorem concrete_14 : concrete Tryz.prog 14 = true := by kernel_rfl
@[go_sem] theorem lk_15 : lk Tryz.prog 15 = some (false, 1) := by kernel_rfl
@[go_sem] theorem zer_15 : zer Tryz.prog 15 = some [D.nilp] := by kernel_rfl
@[go_sem] theorem concrete_15 : concrete Tryz.prog 15 = true := by kernel_rfl
@[go_sem] theorem lk_16 : lk Tryz.prog 16 = some (false, 1) := by kernel_rfl
@[go_sem] theorem zer_16 : zer Tryz.prog 16 = some [D.nilp] := by kernel_rfl
@[go_sem] theorem concrete_16 : concrete Tryz.prog 16 = true := by kernel_rfl
@[go_sem] theorem lk_17 : lk Tryz.prog 17 = some (false, 1) := by kernel_rfl
@[go_sem] theorem zer_17 : zer Tryz.prog 17 = some [D.nilp] := by kernel_rfl
@[go_sem] theorem concrete_17 : concrete Tryz.prog 17 = true := by kernel_rfl
@[go_sem] theorem lk_18 : lk Tryz.prog 18 = some (true, 1) := by kernel_rfl
@[go_sem] theorem zer_18 : zer Tryz.prog 18 = some [D.nilp] := by kernel_rfl
@[go_sem] theorem plc_18 : plc Tryz.prog 18 = some [(0, 1)] := by kernel_rfl
@[go_sem] theorem concrete_18 : concrete Tryz.prog 18 = true := by kernel_rfl
@[go_sem] theorem lk_19 : lk Tryz.prog 19 = some (true, 1) := by kernel_rfl
@[go_sem] theorem zer_19 : zer Tryz.prog 19 = some [D.nilp] := by kernel_rfl
@[go_sem] theorem plc_19 : plc Tryz.prog 19 = some [(0, 1)] := by kernel_rfl
@[go_sem] theorem concrete_19 : concrete Tryz.prog 19 = true := by kernel_rfl
@[go_sem] theorem lk_20 : lk Tryz.prog 20 = some (false, 1) := by kernel_rfl
@[go_sem] theorem zer_20 : zer Tryz.prog 20 = some [D.nilif] := by kernel_rfl
@[go_sem] theorem lk_21 : lk Tryz.prog 21 = some (false, 1) := by kernel_rfl
@[go_sem] theorem zer_21 : zer Tryz.prog 21 = some [D.int IntKind.i32 (0)] := by kernel_rfl
@[go_sem] theorem concrete_21 : concrete Tryz.prog 21 = true := by kernel_rfl
@[go_sem] theorem lk_22 : lk Tryz.prog 22 = some (false, 1) := by kernel_rfl
@[go_sem] theorem elt_22 : elt Tryz.prog 22 = some (8, 88) := by kernel_rfl
@[go_sem] theorem zel_22 : zel Tryz.prog 22 = some ([D.int IntKind.i64 (0), D.int IntKind.i64 (0), D.int IntKind.i64 (0), D.str ByteArray.empty, D.str ByteArray.empty, D.int IntKind.i64 (0), D.int IntKind.i64 (0), D.str ByteArray.empty], 88) := by kernel_rfl
@[go_sem] theorem zer_22 : zer Tryz.prog 22 = some [D.sl Tk.full []] := by kernel_rfl
@[go_sem] theorem ixt_22 : ixt Tryz.prog 22 = some (false, 0, 8) := by kernel_rfl
@[go_sem] theorem cutk_22 : cutk Tryz.prog 22 = some (1, 8, 0) := by kernel_rfl
@[go_sem] theorem concrete_22 : concrete Tryz.prog 22 = true := by kernel_rfl
@[go_sem] theorem lk_23 : lk Tryz.prog 23 = some (false, 1) := by kernel_rfl
@[go_sem] theorem elt_23 : elt Tryz.prog 23 = some (1, 24) := by kernel_rfl
@[go_sem] theorem zel_23 : zel Tryz.prog 23 = some ([D.sl Tk.full []], 24) := by kernel_rfl
@[go_sem] theorem zer_23 : zer Tryz.prog 23 = some [D.sl Tk.full []] := by kernel_rfl
@[go_sem] theorem ixt_23 : ixt Tryz.prog 23 = some (false, 0, 1) := by kernel_rfl
@[go_sem] theorem cutk_23 : cutk Tryz.prog 23 = some (1, 1, 0) := by kernel_rfl
@[go_sem] theorem concrete_23 : concrete Tryz.prog 23 = true := by kernel_rfl
@[go_sem] theorem lk_24 : lk Tryz.prog 24 = some (false, 1) := by kernel_rfl
@[go_sem] theorem elt_24 : elt Tryz.prog 24 = some (16, 240) := by kernel_rfl
@[go_sem] theorem zel_24 : zel Tryz.prog 24 = some ([D.int IntKind.i64 (0), D.int IntKind.i64 (0), D.int IntKind.i64 (0), D.int IntKind.i64 (0), D.sl Tk.full [], D.str ByteArray.empty, D.sl Tk.full [], D.int IntKind.i64 (0), D.int IntKind.i64 (0), D.int IntKind.i64 (0), D.int IntKind.i64 (0), D.sl Tk.full [], D.str ByteArray.empty, D.sl Tk.full [], D.sl Tk.full [], D.sl Tk.full []], 240) := by kernel_rfl
@[go_sem] theorem zer_24 : zer Tryz.prog 24 = some [D.sl Tk.full []] := by kernel_rfl
@[go_sem] theorem ixt_24 : ixt Tryz.prog 24 = some (false, 0, 16) := by kernel_rfl
@[go_sem] theorem cutk_24 : cutk Tryz.prog 24 = some (1, 16, 0) := by kernel_rfl
@[go_sem] theorem concrete_24 : concrete Tryz.prog 24 = true := by kernel_rfl
@[go_sem] theorem lk_25 : lk Tryz.prog 25 = some (true, 3) := by kernel_rfl
@[go_sem] theorem zer_25 : zer Tryz.prog 25 = some [D.sl Tk.full [], D.sl Tk.full [], D.sl Tk.full []] := by kernel_rfl
@[go_sem] theorem plc_25 : plc Tryz.prog 25 = some [(0, 1), (1, 1), (2, 1)] := by kernel_rfl
@[go_sem] theorem concrete_25 : concrete Tryz.prog 25 = true := by kernel_rfl
@[go_sem] theorem lk_26 : lk Tryz.prog 26 = some (true, 3) := by kernel_rfl
@[go_sem] theorem zer_26 : zer Tryz.prog 26 = some [D.sl Tk.full [], D.sl Tk.full [], D.sl Tk.full []] := by kernel_rfl
@[go_sem] theorem plc_26 : plc Tryz.prog 26 = some [(0, 1), (1, 1), (2, 1)] := by kernel_rfl
@[go_sem] theorem concrete_26 : concrete Tryz.prog 26 = true := by kernel_rfl
@[go_sem] theorem lk_27 : lk Tryz.prog 27 = some (false, 1) := by kernel_rfl
@[go_sem] theorem zer_27 : zer Tryz.prog 27 = some [D.nilfunc] := by kernel_rfl
@[go_sem] theorem concrete_27 : concrete Tryz.prog 27 = true := by kernel_rfl
@[go_sem] theorem lk_28 : lk Tryz.prog 28 = some (false, 1) := by kernel_rfl
@[go_sem] theorem elt_28 : elt Tryz.prog 28 = some (4, 40) := by kernel_rfl
@[go_sem] theorem zel_28 : zel Tryz.prog 28 = some ([D.int IntKind.i64 (0), D.str ByteArray.empty, D.int IntKind.i64 (0), D.int IntKind.i64 (0)], 40) := by kernel_rfl
@[go_sem] theorem zer_28 : zer Tryz.prog 28 = some [D.sl Tk.full []] := by kernel_rfl
@[go_sem] theorem ixt_28 : ixt Tryz.prog 28 = some (false, 0, 4) := by kernel_rfl
@[go_sem] theorem cutk_28 : cutk Tryz.prog 28 = some (1, 4, 0) := by kernel_rfl
@[go_sem] theorem concrete_28 : concrete Tryz.prog 28 = true := by kernel_rfl
@[go_sem] theorem lk_29 : lk Tryz.prog 29 = some (true, 2) := by kernel_rfl
@[go_sem] theorem zer_29 : zer Tryz.prog 29 = some [D.sl Tk.full [], D.int IntKind.i64 (0)] := by kernel_rfl
@[go_sem] theorem plc_29 : plc Tryz.prog 29 = some [(0, 1), (1, 1)] := by kernel_rfl
@[go_sem] theorem concrete_29 : concrete Tryz.prog 29 = true := by kernel_rfl
@[go_sem] theorem lk_30 : lk Tryz.prog 30 = some (true, 2) := by kernel_rfl
@[go_sem] theorem zer_30 : zer Tryz.prog 30 = some [D.sl Tk.full [], D.int IntKind.i64 (0)] := by kernel_rfl
@[go_sem] theorem plc_30 : plc Tryz.prog 30 = some [(0, 1), (1, 1)] := by kernel_rfl
@[go_sem] theorem concrete_30 : concrete Tryz.prog 30 = true := by kernel_rfl
@[go_sem] theorem lk_31 : lk Tryz.prog 31 = some (false, 1) := by kernel_rfl
@[go_sem] theorem elt_31 : elt Tryz.prog 31 = some (2, 32) := by kernel_rfl
@[go_sem] theorem zel_31 : zel Tryz.prog 31 = some ([D.int IntKind.i64 (0), D.sl Tk.full []], 32) := by kernel_rfl
@[go_sem] theorem zer_31 : zer Tryz.prog 31 = some [D.sl Tk.full []] := by kernel_rfl
@[go_sem] theorem ixt_31 : ixt Tryz.prog 31 = some (false, 0, 2) := by kernel_rfl
@[go_sem] theorem cutk_31 : cutk Tryz.prog 31 = some (1, 2, 0) := by kernel_rfl
@[go_sem] theorem concrete_31 : concrete Tryz.prog 31 = true := by kernel_rfl
@[go_sem] theorem lk_32 : lk Tryz.prog 32 = some (true, 2) := by kernel_rfl
@[go_sem] theorem zer_32 : zer Tryz.prog 32 = some [D.int IntKind.i64 (0), D.sl Tk.full []] := by kernel_rfl
@[go_sem] theorem plc_32 : plc Tryz.prog 32 = some [(0, 1), (1, 1)] := by kernel_rfl
@[go_sem] theorem concrete_32 : concrete Tryz.prog 32 = true := by kernel_rfl
@[go_sem] theorem lk_33 : lk Tryz.prog 33 = some (true, 2) := by kernel_rfl
@[go_sem] theorem zer_33 : zer Tryz.prog 33 = some [D.int IntKind.i64 (0), D.sl Tk.full []] := by kernel_rfl
@[go_sem] theorem plc_33 : plc Tryz.prog 33 = some [(0, 1), (1, 1)] := by kernel_rfl
@[go_sem] theorem concrete_33 : concrete Tryz.prog 33 = true := by kernel_rfl
@[go_sem] theorem lk_34 : lk Tryz.prog 34 = some (false, 1) := by kernel_rfl
@[go_sem] theorem elt_34 : elt Tryz.prog 34 = some (16, 240) := by kernel_rfl
@[go_sem] theorem zel_34 : zel Tryz.prog 34 = some ([D.int IntKind.i64 (0), D.int IntKind.i64 (0), D.int IntKind.i64 (0), D.int IntKind.i64 (0), D.sl Tk.full [], D.str ByteArray.empty, D.sl Tk.full [], D.int IntKind.i64 (0), D.int IntKind.i64 (0), D.int IntKind.i64 (0), D.int IntKind.i64 (0), D.sl Tk.full [], D.str ByteArray.empty, D.sl Tk.full [], D.sl Tk.full [], D.sl Tk.full []], 240) := by kernel_rfl
@[go_sem] theorem zer_34 : zer Tryz.prog 34 = some [D.sl Tk.full []] := by kernel_rfl
@[go_sem] theorem ixt_34 : ixt Tryz.prog 34 = some (false, 0, 16) := by kernel_rfl
@[go_sem] theorem cutk_34 : cutk Tryz.prog 34 = some (1, 16, 0) := by kernel_rfl
@[go_sem] theorem concrete_34 : concrete Tryz.prog 34 = true := by kernel_rfl
@[go_sem] theorem lk_35 : lk Tryz.prog 35 = some (false, 1) := by kernel_rfl
@[go_sem] theorem zer_35 : zer Tryz.prog 35 = some [D.any] := by kernel_rfl
@[go_sem] theorem concrete_35 : concrete Tryz.prog 35 = true := by kernel_rfl
@[go_sem] theorem lk_36 : lk Tryz.prog 36 = some (false, 1) := by kernel_rfl
@[go_sem] theorem zer_36 : zer Tryz.prog 36 = some [D.nilfunc] := by kernel_rfl
@[go_sem] theorem concrete_36 : concrete Tryz.prog 36 = true := by kernel_rfl
@[go_sem] theorem lk_37 : lk Tryz.prog 37 = some (false, 1) := by kernel_rfl
@[go_sem] theorem elt_37 : elt Tryz.prog 37 = some (3, 32) := by kernel_rfl
@[go_sem] theorem zel_37 : zel Tryz.prog 37 = some ([D.bool false, D.int IntKind.i64 (0), D.str ByteArray.empty], 32) := by kernel_rfl
@[go_sem] theorem zer_37 : zer Tryz.prog 37 = some [D.sl Tk.full []] := by kernel_rfl
@[go_sem] theorem ixt_37 : ixt Tryz.prog 37 = some (false, 0, 3) := by kernel_rfl
@[go_sem] theorem cutk_37 : cutk Tryz.prog 37 = some (1, 3, 0) := by kernel_rfl
@[go_sem] theorem concrete_37 : concrete Tryz.prog 37 = true := by kernel_rfl
@[go_sem] theorem lk_38 : lk Tryz.prog 38 = some (false, 1) := by kernel_rfl
@[go_sem] theorem elt_38 : elt Tryz.prog 38 = some (7, 96) := by kernel_rfl
@[go_sem] theorem zel_38 : zel Tryz.prog 38 = some ([D.int IntKind.i64 (0), D.int IntKind.i64 (0), D.int IntKind.i64 (0), D.int IntKind.i64 (0), D.sl Tk.full [], D.str ByteArray.empty, D.sl Tk.full []], 96) := by kernel_rfl
@[go_sem] theorem zer_38 : zer Tryz.prog 38 = some [D.sl Tk.full []] := by kernel_rfl
@[go_sem] theorem ixt_38 : ixt Tryz.prog 38 = some (false, 0, 7) := by kernel_rfl
@[go_sem] theorem cutk_38 : cutk Tryz.prog 38 = some (1, 7, 0) := by kernel_rfl
@[go_sem] theorem concrete_38 : concrete Tryz.prog 38 = true := by kernel_rfl
@[go_sem] theorem lk_39 : lk Tryz.prog 39 = some (true, 7) := by kernel_rfl
@[go_sem] theorem zer_39 : zer Tryz.prog 39 = some [D.int IntKind.i64 (0), D.int IntKind.i64 (0), D.int IntKind.i64 (0), D.int IntKind.i64 (0), D.sl Tk.full [], D.str ByteArray.empty, D.sl Tk.full []] := by kernel_rfl
@[go_sem] theorem plc_39 : plc Tryz.prog 39 = some [(0, 1), (1, 1), (2, 1), (3, 1), (4, 1), (5, 1), (6, 1)] := by kernel_rfl
@[go_sem] theorem concrete_39 : concrete Tryz.prog 39 = true := by kernel_rfl
@[go_sem] theorem lk_40 : lk Tryz.prog 40 = some (true, 7) := by kernel_rfl
@[go_sem] theorem zer_40 : zer Tryz.prog 40 = some [D.int IntKind.i64 (0), D.int IntKind.i64 (0), D.int IntKind.i64 (0), D.int IntKind.i64 (0), D.sl Tk.full [], D.str ByteArray.empty, D.sl Tk.full []] := by kernel_rfl
@[go_sem] theorem plc_40 : plc Tryz.prog 40 = some [(0, 1), (1, 1), (2, 1), (3, 1), (4, 1), (5, 1), (6, 1)] := by kernel_rfl
@[go_sem] theorem concrete_40 : concrete Tryz.prog 40 = true := by kernel_rfl
@[go_sem] theorem lk_41 : lk Tryz.prog 41 = some (false, 1) := by kernel_rfl
@[go_sem] theorem elt_41 : elt Tryz.prog 41 = some (1, 24) := by kernel_rfl
@[go_sem] theorem zel_41 : zel Tryz.prog 41 = some ([D.sl Tk.full []], 24) := by kernel_rfl
@[go_sem] theorem zer_41 : zer Tryz.prog 41 = some [D.sl Tk.full []] := by kernel_rfl
@[go_sem] theorem ixt_41 : ixt Tryz.prog 41 = some (false, 0, 1) := by kernel_rfl
@[go_sem] theorem cutk_41 : cutk Tryz.prog 41 = some (1, 1, 0) := by kernel_rfl
@[go_sem] theorem concrete_41 : concrete Tryz.prog 41 = true := by kernel_rfl
@[go_sem] theorem lk_42 : lk Tryz.prog 42 = some (false, 1) := by kernel_rfl
@[go_sem] theorem elt_42 : elt Tryz.prog 42 = some (10, 120) := by kernel_rfl
@[go_sem] theorem zel_42 : zel Tryz.prog 42 = some ([D.int IntKind.i64 (0), D.int IntKind.i64 (0), D.int IntKind.i64 (0), D.int IntKind.i64 (0), D.sl Tk.full [], D.str ByteArray.empty, D.sl Tk.full [], D.int IntKind.i64 (0), D.int IntKind.i64 (0), D.int IntKind.i64 (0)], 120) := by kernel_rfl
@[go_sem] theorem zer_42 : zer Tryz.prog 42 = some [D.sl Tk.full []] := by kernel_rfl
@[go_sem] theorem ixt_42 : ixt Tryz.prog 42 = some (false, 0, 10) := by kernel_rfl
@[go_sem] theorem cutk_42 : cutk Tryz.prog 42 = some (1, 10, 0) := by kernel_rfl
@[go_sem] theorem concrete_42 : concrete Tryz.prog 42 = true := by kernel_rfl
@[go_sem] theorem lk_43 : lk Tryz.prog 43 = some (true, 16) := by kernel_rfl
@[go_sem] theorem zer_43 : zer Tryz.prog 43 = some [D.int IntKind.i64 (0), D.int IntKind.i64 (0), D.int IntKind.i64 (0), D.int IntKind.i64 (0), D.sl Tk.full [], D.str ByteArray.empty, D.sl Tk.full [], D.int IntKind.i64 (0), D.int IntKind.i64 (0), D.int IntKind.i64 (0), D.int IntKind.i64 (0), D.sl Tk.full [], D.str ByteArray.empty, D.sl Tk.full [], D.sl Tk.full [], D.sl Tk.full []] := by kernel_rfl
@[go_sem] theorem plc_43 : plc Tryz.prog 43 = some [(0, 7), (7, 7), (14, 1), (15, 1)] := by kernel_rfl
@[go_sem] theorem concrete_43 : concrete Tryz.prog 43 = true := by kernel_rfl
@[go_sem] theorem lk_44 : lk Tryz.prog 44 = some (true, 16) := by kernel_rfl
@[go_sem] theorem zer_44 : zer Tryz.prog 44 = some [D.int IntKind.i64 (0), D.int IntKind.i64 (0), D.int IntKind.i64 (0), D.int IntKind.i64 (0), D.sl Tk.full [], D.str ByteArray.empty, D.sl Tk.full [], D.int IntKind.i64 (0), D.int IntKind.i64 (0), D.int IntKind.i64 (0), D.int IntKind.i64 (0), D.sl Tk.full [], D.str ByteArray.empty, D.sl Tk.full [], D.sl Tk.full [], D.sl Tk.full []] := by kernel_rfl
@[go_sem] theorem plc_44 : plc Tryz.prog 44 = some [(0, 7), (7, 7), (14, 1), (15, 1)] := by kernel_rfl
@[go_sem] theorem concrete_44 : concrete Tryz.prog 44 = true := by kernel_rfl
@[go_sem] theorem lk_45 : lk Tryz.prog 45 = some (false, 1) := by kernel_rfl
@[go_sem] theorem zer_45 : zer Tryz.prog 45 = some [D.int IntKind.i64 (0)] := by kernel_rfl
@[go_sem] theorem concrete_45 : concrete Tryz.prog 45 = true := by kernel_rfl
@[go_sem] theorem lk_46 : lk Tryz.prog 46 = some (false, 1) := by kernel_rfl
@[go_sem] theorem zer_46 : zer Tryz.prog 46 = some [D.any] := by kernel_rfl
@[go_sem] theorem concrete_46 : concrete Tryz.prog 46 = true := by kernel_rfl
@[go_sem] theorem lk_47 : lk Tryz.prog 47 = some (false, 1) := by kernel_rfl
@[go_sem] theorem zer_47 : zer Tryz.prog 47 = some [D.nilfunc] := by kernel_rfl
@[go_sem] theorem concrete_47 : concrete Tryz.prog 47 = true := by kernel_rfl
@[go_sem] theorem lk_48 : lk Tryz.prog 48 = some (false, 1) := by kernel_rfl
@[go_sem] theorem zer_48 : zer Tryz.prog 48 = some [D.nilfunc] := by kernel_rfl
@[go_sem] theorem concrete_48 : concrete Tryz.prog 48 = true := by kernel_rfl
@[go_sem] theorem lk_49 : lk Tryz.prog 49 = some (false, 1) := by kernel_rfl
@[go_sem] theorem zer_49 : zer Tryz.prog 49 = some [D.nilfunc] := by kernel_rfl
@[go_sem] theorem concrete_49 : concrete Tryz.prog 49 = true := by kernel_rfl
@[go_sem] theorem lk_50 : lk Tryz.prog 50 = some (false, 1) := by kernel_rfl
@[go_sem] theorem elt_50 : elt Tryz.prog 50 = some (4, 40) := by kernel_rfl
@[go_sem] theorem zel_50 : zel Tryz.prog 50 = some ([D.int IntKind.i64 (0), D.bool false, D.int IntKind.i64 (0), D.str ByteArray.empty], 40) := by kernel_rfl
@[go_sem] theorem zer_50 : zer Tryz.prog 50 = some [D.sl Tk.full []] := by kernel_rfl
@[go_sem] theorem ixt_50 : ixt Tryz.prog 50 = some (false, 0, 4) := by kernel_rfl
@[go_sem] theorem cutk_50 : cutk Tryz.prog 50 = some (1, 4, 0) := by kernel_rfl
@[go_sem] theorem concrete_50 : concrete Tryz.prog 50 = true := by kernel_rfl
@[go_sem] theorem lk_51 : lk Tryz.prog 51 = some (true, 1) := by kernel_rfl
@[go_sem] theorem zer_51 : zer Tryz.prog 51 = some [D.sl Tk.full []] := by kernel_rfl
@[go_sem] theorem plc_51 : plc Tryz.prog 51 = some [(0, 1)] := by kernel_rfl
@[go_sem] theorem concrete_51 : concrete Tryz.prog 51 = true := by kernel_rfl
@[go_sem] theorem lk_52 : lk Tryz.prog 52 = some (true, 1) := by kernel_rfl
@[go_sem] theorem zer_52 : zer Tryz.prog 52 = some [D.sl Tk.full []] := by kernel_rfl
@[go_sem] theorem plc_52 : plc Tryz.prog 52 = some [(0, 1)] := by kernel_rfl
@[go_sem] theorem concrete_52 : concrete Tryz.prog 52 = true := by kernel_rfl
@[go_sem] theorem lk_53 : lk Tryz.prog 53 = some (true, 2) := by kernel_rfl
@[go_sem] theorem zer_53 : zer Tryz.prog 53 = some [D.int IntKind.i64 (0), D.sl Tk.full []] := by kernel_rfl
@[go_sem] theorem plc_53 : plc Tryz.prog 53 = some [(0, 1), (1, 1)] := by kernel_rfl
@[go_sem] theorem concrete_53 : concrete Tryz.prog 53 = true := by kernel_rfl
@[go_sem] theorem lk_54 : lk Tryz.prog 54 = some (true, 2) := by kernel_rfl
@[go_sem] theorem zer_54 : zer Tryz.prog 54 = some [D.int IntKind.i64 (0), D.sl Tk.full []] := by kernel_rfl
@[go_sem] theorem plc_54 : plc Tryz.prog 54 = some [(0, 1), (1, 1)] := by kernel_rfl
@[go_sem] theorem concrete_54 : concrete Tryz.prog 54 = true := by kernel_rfl
@[go_sem] theorem lk_55 : lk Tryz.prog 55 = some (false, 1) := by kernel_rfl
@[go_sem] theorem zer_55 : zer Tryz.prog 55 = some [D.nilfunc] := by kernel_rfl
@[go_sem] theorem concrete_55 : concrete Tryz.prog 55 = true := by kernel_rfl
@[go_sem] theorem lk_56 : lk Tryz.prog 56 = some (false, 1) := by kernel_rfl
@[go_sem] theorem zer_56 : zer Tryz.prog 56 = some [D.nilfunc] := by kernel_rfl
@[go_sem] theorem concrete_56 : concrete Tryz.prog 56 = true := by kernel_rfl
@[go_sem] theorem lk_57 : lk Tryz.prog 57 = some (true, 10) := by kernel_rfl
@[go_sem] theorem zer_57 : zer Tryz.prog 57 = some [D.int IntKind.i64 (0), D.int IntKind.i64 (0), D.int IntKind.i64 (0), D.int IntKind.i64 (0), D.sl Tk.full [], D.str ByteArray.empty, D.sl Tk.full [], D.int IntKind.i64 (0), D.int IntKind.i64 (0), D.int IntKind.i64 (0)] := by kernel_rfl
@[go_sem] theorem plc_57 : plc Tryz.prog 57 = some [(0, 7), (7, 1), (8, 1), (9, 1)] := by kernel_rfl
@[go_sem] theorem concrete_57 : concrete Tryz.prog 57 = true := by kernel_rfl
@[go_sem] theorem lk_58 : lk Tryz.prog 58 = some (true, 10) := by kernel_rfl
@[go_sem] theorem zer_58 : zer Tryz.prog 58 = some [D.int IntKind.i64 (0), D.int IntKind.i64 (0), D.int IntKind.i64 (0), D.int IntKind.i64 (0), D.sl Tk.full [], D.str ByteArray.empty, D.sl Tk.full [], D.int IntKind.i64 (0), D.int IntKind.i64 (0), D.int IntKind.i64 (0)] := by kernel_rfl
@[go_sem] theorem plc_58 : plc Tryz.prog 58 = some [(0, 7), (7, 1), (8, 1), (9, 1)] := by kernel_rfl
@[go_sem] theorem concrete_58 : concrete Tryz.prog 58 = true := by kernel_rfl
@[go_sem] theorem lk_59 : lk Tryz.prog 59 = some (false, 1) := by kernel_rfl
@[go_sem] theorem zer_59 : zer Tryz.prog 59 = some [D.nilfunc] := by kernel_rfl
@[go_sem] theorem concrete_59 : concrete Tryz.prog 59 = true := by kernel_rfl
@[go_sem] theorem lk_60 : lk Tryz.prog 60 = some (false, 1) := by kernel_rfl
@[go_sem] theorem zer_60 : zer Tryz.prog 60 = some [D.any] := by kernel_rfl
@[go_sem] theorem concrete_60 : concrete Tryz.prog 60 = true := by kernel_rfl
@[go_sem] theorem lk_61 : lk Tryz.prog 61 = some (false, 1) := by kernel_rfl
@[go_sem] theorem zer_61 : zer Tryz.prog 61 = some [D.nilfunc] := by kernel_rfl
@[go_sem] theorem concrete_61 : concrete Tryz.prog 61 = true := by kernel_rfl
@[go_sem] theorem lk_62 : lk Tryz.prog 62 = some (false, 1) := by kernel_rfl
@[go_sem] theorem elt_62 : elt Tryz.prog 62 = some (1, 1) := by kernel_rfl
@[go_sem] theorem zel_62 : zel Tryz.prog 62 = some ([D.int IntKind.u8 (0)], 1) := by kernel_rfl
@[go_sem] theorem zer_62 : zer Tryz.prog 62 = some [D.sl Tk.full []] := by kernel_rfl
@[go_sem] theorem ixt_62 : ixt Tryz.prog 62 = some (false, 0, 1) := by kernel_rfl
@[go_sem] theorem cutk_62 : cutk Tryz.prog 62 = some (1, 1, 0) := by kernel_rfl
@[go_sem] theorem concrete_62 : concrete Tryz.prog 62 = true := by kernel_rfl
@[go_sem] theorem lk_63 : lk Tryz.prog 63 = some (false, 1) := by kernel_rfl
@[go_sem] theorem zer_63 : zer Tryz.prog 63 = some [D.nilfunc] := by kernel_rfl
@[go_sem] theorem concrete_63 : concrete Tryz.prog 63 = true := by kernel_rfl
@[go_sem] theorem lk_64 : lk Tryz.prog 64 = some (false, 1) := by kernel_rfl
@[go_sem] theorem zer_64 : zer Tryz.prog 64 = some [D.any] := by kernel_rfl
@[go_sem] theorem concrete_64 : concrete Tryz.prog 64 = true := by kernel_rfl
@[go_sem] theorem lk_65 : lk Tryz.prog 65 = some (false, 1) := by kernel_rfl
@[go_sem] theorem zer_65 : zer Tryz.prog 65 = some [D.nilfunc] := by kernel_rfl
@[go_sem] theorem concrete_65 : concrete Tryz.prog 65 = true := by kernel_rfl
@[go_sem] theorem lk_66 : lk Tryz.prog 66 = some (false, 1) := by kernel_rfl
@[go_sem] theorem zer_66 : zer Tryz.prog 66 = some [D.nilfunc] := by kernel_rfl
@[go_sem] theorem concrete_66 : concrete Tryz.prog 66 = true := by kernel_rfl
@[go_sem] theorem lk_67 : lk Tryz.prog 67 = some (false, 1) := by kernel_rfl
@[go_sem] theorem zer_67 : zer Tryz.prog 67 = some [D.nilfunc] := by kernel_rfl
@[go_sem] theorem concrete_67 : concrete Tryz.prog 67 = true := by kernel_rfl
@[go_sem] theorem lk_68 : lk Tryz.prog 68 = some (false, 1) := by kernel_rfl
@[go_sem] theorem elt_68 : elt Tryz.prog 68 = some (1, 8) := by kernel_rfl
@[go_sem] theorem zel_68 : zel Tryz.prog 68 = some ([D.int IntKind.i64 (0)], 8) := by kernel_rfl
@[go_sem] theorem zer_68 : zer Tryz.prog 68 = some [D.sl Tk.full []] := by kernel_rfl
@[go_sem] theorem ixt_68 : ixt Tryz.prog 68 = some (false, 0, 1) := by kernel_rfl
@[go_sem] theorem cutk_68 : cutk Tryz.prog 68 = some (1, 1, 0) := by kernel_rfl
@[go_sem] theorem concrete_68 : concrete Tryz.prog 68 = true := by kernel_rfl
@[go_sem] theorem lk_69 : lk Tryz.prog 69 = some (false, 1) := by kernel_rfl
@[go_sem] theorem zer_69 : zer Tryz.prog 69 = some [D.any] := by kernel_rfl
@[go_sem] theorem concrete_69 : concrete Tryz.prog 69 = true := by kernel_rfl
@[go_sem] theorem lk_70 : lk Tryz.prog 70 = some (false, 1) := by kernel_rfl
@[go_sem] theorem zer_70 : zer Tryz.prog 70 = some [D.nilfunc] := by kernel_rfl
@[go_sem] theorem concrete_70 : concrete Tryz.prog 70 = true := by kernel_rfl
@[go_sem] theorem lk_71 : lk Tryz.prog 71 = some (false, 1) := by kernel_rfl
@[go_sem] theorem zer_71 : zer Tryz.prog 71 = some [D.nilfunc] := by kernel_rfl
@[go_sem] theorem concrete_71 : concrete Tryz.prog 71 = true := by kernel_rfl
@[go_sem] theorem lk_72 : lk Tryz.prog 72 = some (false, 1) := by kernel_rfl
@[go_sem] theorem zer_72 : zer Tryz.prog 72 = some [D.nilfunc] := by kernel_rfl
@[go_sem] theorem concrete_72 : concrete Tryz.prog 72 = true := by kernel_rfl
@[go_sem] theorem lk_73 : lk Tryz.prog 73 = some (false, 1) := by kernel_rfl
@[go_sem] theorem elt_73 : elt Tryz.prog 73 = some (3, 40) := by kernel_rfl
@[go_sem] theorem zel_73 : zel Tryz.prog 73 = some ([D.int IntKind.i64 (0), D.int IntKind.i64 (0), D.sl Tk.full []], 40) := by kernel_rfl
@[go_sem] theorem zer_73 : zer Tryz.prog 73 = some [D.sl Tk.full []] := by kernel_rfl
@[go_sem] theorem ixt_73 : ixt Tryz.prog 73 = some (false, 0, 3) := by kernel_rfl
@[go_sem] theorem cutk_73 : cutk Tryz.prog 73 = some (1, 3, 0) := by kernel_rfl
@[go_sem] theorem concrete_73 : concrete Tryz.prog 73 = true := by kernel_rfl
@[go_sem] theorem lk_74 : lk Tryz.prog 74 = some (false, 1) := by kernel_rfl
@[go_sem] theorem zer_74 : zer Tryz.prog 74 = some [D.nilfunc] := by kernel_rfl
@[go_sem] theorem concrete_74 : concrete Tryz.prog 74 = true := by kernel_rfl
@[go_sem] theorem lk_75 : lk Tryz.prog 75 = some (true, 3) := by kernel_rfl
@[go_sem] theorem zer_75 : zer Tryz.prog 75 = some [D.int IntKind.i64 (0), D.int IntKind.i64 (0), D.sl Tk.full []] := by kernel_rfl
@[go_sem] theorem plc_75 : plc Tryz.prog 75 = some [(0, 1), (1, 2)] := by kernel_rfl
@[go_sem] theorem concrete_75 : concrete Tryz.prog 75 = true := by kernel_rfl
@[go_sem] theorem lk_76 : lk Tryz.prog 76 = some (true, 3) := by kernel_rfl
@[go_sem] theorem zer_76 : zer Tryz.prog 76 = some [D.int IntKind.i64 (0), D.int IntKind.i64 (0), D.sl Tk.full []] := by kernel_rfl
@[go_sem] theorem plc_76 : plc Tryz.prog 76 = some [(0, 1), (1, 2)] := by kernel_rfl
@[go_sem] theorem concrete_76 : concrete Tryz.prog 76 = true := by kernel_rfl
@[go_sem] theorem lk_77 : lk Tryz.prog 77 = some (false, 1) := by kernel_rfl
@[go_sem] theorem zer_77 : zer Tryz.prog 77 = some [D.nilfunc] := by kernel_rfl
@[go_sem] theorem concrete_77 : concrete Tryz.prog 77 = true := by kernel_rfl
@[go_sem] theorem lk_78 : lk Tryz.prog 78 = some (false, 1) := by kernel_rfl
@[go_sem] theorem zer_78 : zer Tryz.prog 78 = some [D.nilfunc] := by kernel_rfl
@[go_sem] theorem concrete_78 : concrete Tryz.prog 78 = true := by kernel_rfl
@[go_sem] theorem lk_79 : lk Tryz.prog 79 = some (false, 1) := by kernel_rfl
@[go_sem] theorem zer_79 : zer Tryz.prog 79 = some [D.nilfunc] := by kernel_rfl
@[go_sem] theorem concrete_79 : concrete Tryz.prog 79 = true := by kernel_rfl
@[go_sem] theorem lk_80 : lk Tryz.prog 80 = some (true, 3) := by kernel_rfl
@[go_sem] theorem zer_80 : zer Tryz.prog 80 = some [D.bool false, D.int IntKind.i64 (0), D.str ByteArray.empty] := by kernel_rfl
@[go_sem] theorem plc_80 : plc Tryz.prog 80 = some [(0, 1), (1, 1), (2, 1)] := by kernel_rfl
@[go_sem] theorem concrete_80 : concrete Tryz.prog 80 = true := by kernel_rfl
@[go_sem] theorem lk_81 : lk Tryz.prog 81 = some (true, 3) := by kernel_rfl
@[go_sem] theorem zer_81 : zer Tryz.prog 81 = some [D.bool false, D.int IntKind.i64 (0), D.str ByteArray.empty] := by kernel_rfl
@[go_sem] theorem plc_81 : plc Tryz.prog 81 = some [(0, 1), (1, 1), (2, 1)] := by kernel_rfl
@[go_sem] theorem concrete_81 : concrete Tryz.prog 81 = true := by kernel_rfl
@[go_sem] theorem lk_82 : lk Tryz.prog 82 = some (true, 4) := by kernel_rfl
@[go_sem] theorem zer_82 : zer Tryz.prog 82 = some [D.int IntKind.i64 (0), D.bool false, D.int IntKind.i64 (0), D.str ByteArray.empty] := by kernel_rfl
@[go_sem] theorem plc_82 : plc Tryz.prog 82 = some [(0, 1), (1, 3)] := by kernel_rfl
@[go_sem] theorem concrete_82 : concrete Tryz.prog 82 = true := by kernel_rfl
@[go_sem] theorem lk_83 : lk Tryz.prog 83 = some (true, 4) := by kernel_rfl
@[go_sem] theorem zer_83 : zer Tryz.prog 83 = some [D.int IntKind.i64 (0), D.bool false, D.int IntKind.i64 (0), D.str ByteArray.empty] := by kernel_rfl
@[go_sem] theorem plc_83 : plc Tryz.prog 83 = some [(0, 1), (1, 3)] := by kernel_rfl
@[go_sem] theorem concrete_83 : concrete Tryz.prog 83 = true := by kernel_rfl
@[go_sem] theorem lk_84 : lk Tryz.prog 84 = some (false, 1) := by kernel_rfl
@[go_sem] theorem zer_84 : zer Tryz.prog 84 = some [D.any] := by kernel_rfl
@[go_sem] theorem concrete_84 : concrete Tryz.prog 84 = true := by kernel_rfl
@[go_sem] theorem lk_85 : lk Tryz.prog 85 = some (false, 1) := by kernel_rfl
@[go_sem] theorem zer_85 : zer Tryz.prog 85 = some [D.nilfunc] := by kernel_rfl
@[go_sem] theorem concrete_85 : concrete Tryz.prog 85 = true := by kernel_rfl
@[go_sem] theorem lk_86 : lk Tryz.prog 86 = some (false, 1) := by kernel_rfl
@[go_sem] theorem zer_86 : zer Tryz.prog 86 = some [D.nilfunc] := by kernel_rfl
@[go_sem] theorem concrete_86 : concrete Tryz.prog 86 = true := by kernel_rfl
@[go_sem] theorem lk_87 : lk Tryz.prog 87 = some (false, 1) := by kernel_rfl
@[go_sem] theorem zer_87 : zer Tryz.prog 87 = some [D.nilfunc] := by kernel_rfl
@[go_sem] theorem concrete_87 : concrete Tryz.prog 87 = true := by kernel_rfl
@[go_sem] theorem lk_88 : lk Tryz.prog 88 = some (false, 1) := by kernel_rfl
@[go_sem] theorem zer_88 : zer Tryz.prog 88 = some [D.nilfunc] := by kernel_rfl
@[go_sem] theorem concrete_88 : concrete Tryz.prog 88 = true := by kernel_rfl
@[go_sem] theorem lk_89 : lk Tryz.prog 89 = some (false, 1) := by kernel_rfl
@[go_sem] theorem zer_89 : zer Tryz.prog 89 = some [D.nilfunc] := by kernel_rfl
@[go_sem] theorem concrete_89 : concrete Tryz.prog 89 = true := by kernel_rfl
@[go_sem] theorem lk_90 : lk Tryz.prog 90 = some (false, 1) := by kernel_rfl
@[go_sem] theorem zer_90 : zer Tryz.prog 90 = some [D.nilfunc] := by kernel_rfl
@[go_sem] theorem concrete_90 : concrete Tryz.prog 90 = true := by kernel_rfl
@[go_sem] theorem lk_91 : lk Tryz.prog 91 = some (false, 1) := by kernel_rfl
@[go_sem] theorem zer_91 : zer Tryz.prog 91 = some [D.nilfunc] := by kernel_rfl
@[go_sem] theorem concrete_91 : concrete Tryz.prog 91 = true := by kernel_rfl
@[go_sem] theorem lk_92 : lk Tryz.prog 92 = some (false, 1) := by kernel_rfl
@[go_sem] theorem zer_92 : zer Tryz.prog 92 = some [D.nilfunc] := by kernel_rfl
@[go_sem] theorem concrete_92 : concrete Tryz.prog 92 = true := by kernel_rfl
@[go_sem] theorem lk_93 : lk Tryz.prog 93 = some (false, 1) := by kernel_rfl
@[go_sem] theorem zer_93 : zer Tryz.prog 93 = some [D.int IntKind.u64 (0)] := by kernel_rfl
@[go_sem] theorem concrete_93 : concrete Tryz.prog 93 = true := by kernel_rfl
@[go_sem] theorem lk_94 : lk Tryz.prog 94 = some (false, 1) := by kernel_rfl
@[go_sem] theorem zer_94 : zer Tryz.prog 94 = some [D.nilfunc] := by kernel_rfl
@[go_sem] theorem concrete_94 : concrete Tryz.prog 94 = true := by kernel_rfl
@[go_sem] theorem lk_95 : lk Tryz.prog 95 = some (false, 1) := by kernel_rfl
@[go_sem] theorem zer_95 : zer Tryz.prog 95 = some [D.nilfunc] := by kernel_rfl
@[go_sem] theorem concrete_95 : concrete Tryz.prog 95 = true := by kernel_rfl
@[go_sem] theorem lk_96 : lk Tryz.prog 96 = some (false, 1) := by kernel_rfl
@[go_sem] theorem zer_96 : zer Tryz.prog 96 = some [D.nilp] := by kernel_rfl
@[go_sem] theorem concrete_96 : concrete Tryz.prog 96 = true := by kernel_rfl
@[go_sem] theorem lk_97 : lk Tryz.prog 97 = some (true, 2) := by kernel_rfl
@[go_sem] theorem zer_97 : zer Tryz.prog 97 = some [D.sl Tk.full [], D.int IntKind.i64 (0)] := by kernel_rfl
@[go_sem] theorem plc_97 : plc Tryz.prog 97 = some [(0, 1), (1, 1)] := by kernel_rfl
@[go_sem] theorem concrete_97 : concrete Tryz.prog 97 = true := by kernel_rfl
@[go_sem] theorem lk_98 : lk Tryz.prog 98 = some (true, 2) := by kernel_rfl
@[go_sem] theorem zer_98 : zer Tryz.prog 98 = some [D.sl Tk.full [], D.int IntKind.i64 (0)] := by kernel_rfl
@[go_sem] theorem plc_98 : plc Tryz.prog 98 = some [(0, 1), (1, 1)] := by kernel_rfl
@[go_sem] theorem concrete_98 : concrete Tryz.prog 98 = true := by kernel_rfl
@[go_sem] theorem lk_99 : lk Tryz.prog 99 = some (false, 1) := by kernel_rfl
@[go_sem] theorem zer_99 : zer Tryz.prog 99 = some [D.nilfunc] := by kernel_rfl
@[go_sem] theorem concrete_99 : concrete Tryz.prog 99 = true := by kernel_rfl
@[go_sem] theorem lk_100 : lk Tryz.prog 100 = some (false, 1) := by kernel_rfl
@[go_sem] theorem zer_100 : zer Tryz.prog 100 = some [D.nilfunc] := by kernel_rfl
@[go_sem] theorem concrete_100 : concrete Tryz.prog 100 = true := by kernel_rfl
@[go_sem] theorem lk_101 : lk Tryz.prog 101 = some (false, 1) := by kernel_rfl
@[go_sem] theorem zer_101 : zer Tryz.prog 101 = some [D.nilfunc] := by kernel_rfl
@[go_sem] theorem concrete_101 : concrete Tryz.prog 101 = true := by kernel_rfl
@[go_sem] theorem lk_102 : lk Tryz.prog 102 = some (false, 1) := by kernel_rfl
@[go_sem] theorem zer_102 : zer Tryz.prog 102 = some [D.nilfunc] := by kernel_rfl
@[go_sem] theorem concrete_102 : concrete Tryz.prog 102 = true := by kernel_rfl
@[go_sem] theorem lk_103 : lk Tryz.prog 103 = some (false, 1) := by kernel_rfl
@[go_sem] theorem zer_103 : zer Tryz.prog 103 = some [D.nilfunc] := by kernel_rfl
@[go_sem] theorem concrete_103 : concrete Tryz.prog 103 = true := by kernel_rfl
@[go_sem] theorem lk_104 : lk Tryz.prog 104 = some (false, 1) := by kernel_rfl
@[go_sem] theorem zer_104 : zer Tryz.prog 104 = some [D.nilfunc] := by kernel_rfl
@[go_sem] theorem concrete_104 : concrete Tryz.prog 104 = true := by kernel_rfl
@[go_sem] theorem lk_105 : lk Tryz.prog 105 = some (false, 1) := by kernel_rfl
@[go_sem] theorem zer_105 : zer Tryz.prog 105 = some [D.nilfunc] := by kernel_rfl
@[go_sem] theorem concrete_105 : concrete Tryz.prog 105 = true := by kernel_rfl
@[go_sem] theorem lk_106 : lk Tryz.prog 106 = some (false, 1) := by kernel_rfl
@[go_sem] theorem zer_106 : zer Tryz.prog 106 = some [D.nilfunc] := by kernel_rfl
@[go_sem] theorem concrete_106 : concrete Tryz.prog 106 = true := by kernel_rfl
@[go_sem] theorem lk_107 : lk Tryz.prog 107 = some (false, 1) := by kernel_rfl
@[go_sem] theorem zer_107 : zer Tryz.prog 107 = some [D.nilfunc] := by kernel_rfl
@[go_sem] theorem concrete_107 : concrete Tryz.prog 107 = true := by kernel_rfl
@[go_sem] theorem lk_108 : lk Tryz.prog 108 = some (false, 1) := by kernel_rfl
@[go_sem] theorem zer_108 : zer Tryz.prog 108 = some [D.nilfunc] := by kernel_rfl
@[go_sem] theorem concrete_108 : concrete Tryz.prog 108 = true := by kernel_rfl
@[go_sem] theorem lk_109 : lk Tryz.prog 109 = some (false, 1) := by kernel_rfl
@[go_sem] theorem zer_109 : zer Tryz.prog 109 = some [D.nilfunc] := by kernel_rfl
@[go_sem] theorem concrete_109 : concrete Tryz.prog 109 = true := by kernel_rfl
@[go_sem] theorem lk_110 : lk Tryz.prog 110 = some (true, 4) := by kernel_rfl
@[go_sem] theorem zer_110 : zer Tryz.prog 110 = some [D.int IntKind.i64 (0), D.str ByteArray.empty, D.int IntKind.i64 (0), D.int IntKind.i64 (0)] := by kernel_rfl
@[go_sem] theorem plc_110 : plc Tryz.prog 110 = some [(0, 1), (1, 1), (2, 1), (3, 1)] := by kernel_rfl
@[go_sem] theorem concrete_110 : concrete Tryz.prog 110 = true := by kernel_rfl
@[go_sem] theorem lk_111 : lk Tryz.prog 111 = some (true, 4) := by kernel_rfl
@[go_sem] theorem zer_111 : zer Tryz.prog 111 = some [D.int IntKind.i64 (0), D.str ByteArray.empty, D.int IntKind.i64 (0), D.int IntKind.i64 (0)] := by kernel_rfl
@[go_sem] theorem plc_111 : plc Tryz.prog 111 = some [(0, 1), (1, 1), (2, 1), (3, 1)] := by kernel_rfl
@[go_sem] theorem concrete_111 : concrete Tryz.prog 111 = true := by kernel_rfl
@[go_sem] theorem lk_112 : lk Tryz.prog 112 = some (false, 1) := by kernel_rfl
@[go_sem] theorem zer_112 : zer Tryz.prog 112 = some [D.any] := by kernel_rfl
@[go_sem] theorem concrete_112 : concrete Tryz.prog 112 = true := by kernel_rfl
@[go_sem] theorem lk_113 : lk Tryz.prog 113 = some (false, 1) := by kernel_rfl
@[go_sem] theorem zer_113 : zer Tryz.prog 113 = some [D.nilfunc] := by kernel_rfl
@[go_sem] theorem concrete_113 : concrete Tryz.prog 113 = true := by kernel_rfl
@[go_sem] theorem lk_114 : lk Tryz.prog 114 = some (false, 1) := by kernel_rfl
@[go_sem] theorem zer_114 : zer Tryz.prog 114 = some [D.nilfunc] := by kernel_rfl
@[go_sem] theorem concrete_114 : concrete Tryz.prog 114 = true := by kernel_rfl
@[go_sem] theorem lk_115 : lk Tryz.prog 115 = some (false, 1) := by kernel_rfl
@[go_sem] theorem zer_115 : zer Tryz.prog 115 = some [D.nilfunc] := by kernel_rfl
@[go_sem] theorem concrete_115 : concrete Tryz.prog 115 = true := by kernel_rfl
@[go_sem] theorem lk_116 : lk Tryz.prog 116 = some (false, 1) := by kernel_rfl
@[go_sem] theorem zer_116 : zer Tryz.prog 116 = some [D.nilfunc] := by kernel_rfl
@[go_sem] theorem concrete_116 : concrete Tryz.prog 116 = true := by kernel_rfl
@[go_sem] theorem lk_117 : lk Tryz.prog 117 = some (false, 1) := by kernel_rfl
@[go_sem] theorem zer_117 : zer Tryz.prog 117 = some [D.nilfunc] := by kernel_rfl
@[go_sem] theorem concrete_117 : concrete Tryz.prog 117 = true := by kernel_rfl
@[go_sem] theorem lk_118 : lk Tryz.prog 118 = some (false, 1) := by kernel_rfl
@[go_sem] theorem zer_118 : zer Tryz.prog 118 = some [D.nilfunc] := by kernel_rfl
@[go_sem] theorem concrete_118 : concrete Tryz.prog 118 = true := by kernel_rfl
@[go_sem] theorem lk_119 : lk Tryz.prog 119 = some (false, 1) := by kernel_rfl
@[go_sem] theorem zer_119 : zer Tryz.prog 119 = some [D.nilfunc] := by kernel_rfl
@[go_sem] theorem concrete_119 : concrete Tryz.prog 119 = true := by kernel_rfl
@[go_sem] theorem lk_120 : lk Tryz.prog 120 = some (false, 1) := by kernel_rfl
@[go_sem] theorem zer_120 : zer Tryz.prog 120 = some [D.nilfunc] := by kernel_rfl
@[go_sem] theorem concrete_120 : concrete Tryz.prog 120 = true := by kernel_rfl
@[go_sem] theorem lk_121 : lk Tryz.prog 121 = some (false, 1) := by kernel_rfl
@[go_sem] theorem zer_121 : zer Tryz.prog 121 = some [D.any] := by kernel_rfl
@[go_sem] theorem concrete_121 : concrete Tryz.prog 121 = true := by kernel_rfl
@[go_sem] theorem lk_122 : lk Tryz.prog 122 = some (false, 1) := by kernel_rfl
@[go_sem] theorem zer_122 : zer Tryz.prog 122 = some [D.nilfunc] := by kernel_rfl
@[go_sem] theorem concrete_122 : concrete Tryz.prog 122 = true := by kernel_rfl
@[go_sem] theorem lk_123 : lk Tryz.prog 123 = some (true, 8) := by kernel_rfl
@[go_sem] theorem zer_123 : zer Tryz.prog 123 = some [D.int IntKind.i64 (0), D.int IntKind.i64 (0), D.int IntKind.i64 (0), D.str ByteArray.empty, D.str ByteArray.empty, D.int IntKind.i64 (0), D.int IntKind.i64 (0), D.str ByteArray.empty] := by kernel_rfl
@[go_sem] theorem plc_123 : plc Tryz.prog 123 = some [(0, 1), (1, 1), (2, 1), (3, 1), (4, 1), (5, 1), (6, 1), (7, 1)] := by kernel_rfl
@[go_sem] theorem concrete_123 : concrete Tryz.prog 123 = true := by kernel_rfl
@[go_sem] theorem lk_124 : lk Tryz.prog 124 = some (true, 8) := by kernel_rfl
@[go_sem] theorem zer_124 : zer Tryz.prog 124 = some [D.int IntKind.i64 (0), D.int IntKind.i64 (0), D.int IntKind.i64 (0), D.str ByteArray.empty, D.str ByteArray.empty, D.int IntKind.i64 (0), D.int IntKind.i64 (0), D.str ByteArray.empty] := by kernel_rfl
@[go_sem] theorem plc_124 : plc Tryz.prog 124 = some [(0, 1), (1, 1), (2, 1), (3, 1), (4, 1), (5, 1), (6, 1), (7, 1)] := by kernel_rfl
@[go_sem] theorem concrete_124 : concrete Tryz.prog 124 = true := by kernel_rfl
@[go_sem] theorem lk_125 : lk Tryz.prog 125 = some (false, 1) := by kernel_rfl
@[go_sem] theorem zer_125 : zer Tryz.prog 125 = some [D.nilfunc] := by kernel_rfl
@[go_sem] theorem concrete_125 : concrete Tryz.prog 125 = true := by kernel_rfl
@[go_sem] theorem lk_126 : lk Tryz.prog 126 = some (false, 1) := by kernel_rfl
@[go_sem] theorem zer_126 : zer Tryz.prog 126 = some [D.nilfunc] := by kernel_rfl
@[go_sem] theorem concrete_126 : concrete Tryz.prog 126 = true := by kernel_rfl
@[go_sem] theorem lk_127 : lk Tryz.prog 127 = some (false, 1) := by kernel_rfl
@[go_sem] theorem zer_127 : zer Tryz.prog 127 = some [D.nilfunc] := by kernel_rfl
@[go_sem] theorem concrete_127 : concrete Tryz.prog 127 = true := by kernel_rfl
@[go_sem] theorem lk_128 : lk Tryz.prog 128 = some (true, 16) := by kernel_rfl
@[go_sem] theorem zer_128 : zer Tryz.prog 128 = some [D.int IntKind.i64 (0), D.int IntKind.i64 (0), D.int IntKind.i64 (0), D.int IntKind.i64 (0), D.sl Tk.full [], D.str ByteArray.empty, D.sl Tk.full [], D.int IntKind.i64 (0), D.int IntKind.i64 (0), D.int IntKind.i64 (0), D.int IntKind.i64 (0), D.sl Tk.full [], D.str ByteArray.empty, D.sl Tk.full [], D.sl Tk.full [], D.sl Tk.full []] := by kernel_rfl
@[go_sem] theorem plc_128 : plc Tryz.prog 128 = some [(0, 7), (7, 7), (14, 1), (15, 1)] := by kernel_rfl
@[go_sem] theorem concrete_128 : concrete Tryz.prog 128 = true := by kernel_rfl
@[go_sem] theorem lk_129 : lk Tryz.prog 129 = some (true, 16) := by kernel_rfl
@[go_sem] theorem zer_129 : zer Tryz.prog 129 = some [D.int IntKind.i64 (0), D.int IntKind.i64 (0), D.int IntKind.i64 (0), D.int IntKind.i64 (0), D.sl Tk.full [], D.str ByteArray.empty, D.sl Tk.full [], D.int IntKind.i64 (0), D.int IntKind.i64 (0), D.int IntKind.i64 (0), D.int IntKind.i64 (0), D.sl Tk.full [], D.str ByteArray.empty, D.sl Tk.full [], D.sl Tk.full [], D.sl Tk.full []] := by kernel_rfl
@[go_sem] theorem plc_129 : plc Tryz.prog 129 = some [(0, 7), (7, 7), (14, 1), (15, 1)] := by kernel_rfl
@[go_sem] theorem concrete_129 : concrete Tryz.prog 129 = true := by kernel_rfl
@[go_sem] theorem lk_130 : lk Tryz.prog 130 = some (false, 1) := by kernel_rfl
@[go_sem] theorem zer_130 : zer Tryz.prog 130 = some [D.nilfunc] := by kernel_rfl
@[go_sem] theorem concrete_130 : concrete Tryz.prog 130 = true := by kernel_rfl
@[go_sem] theorem lk_131 : lk Tryz.prog 131 = some (false, 1) := by kernel_rfl
@[go_sem] theorem zer_131 : zer Tryz.prog 131 = some [D.nilfunc] := by kernel_rfl
@[go_sem] theorem concrete_131 : concrete Tryz.prog 131 = true := by kernel_rfl
@[go_sem] theorem lk_132 : lk Tryz.prog 132 = some (false, 1) := by kernel_rfl
@[go_sem] theorem zer_132 : zer Tryz.prog 132 = some [D.nilfunc] := by kernel_rfl
@[go_sem] theorem concrete_132 : concrete Tryz.prog 132 = true := by kernel_rfl
@[go_sem] theorem lk_133 : lk Tryz.prog 133 = some (false, 1) := by kernel_rfl
@[go_sem] theorem zer_133 : zer Tryz.prog 133 = some [D.nilfunc] := by kernel_rfl
@[go_sem] theorem concrete_133 : concrete Tryz.prog 133 = true := by kernel_rfl
@[go_sem] theorem lk_134 : lk Tryz.prog 134 = some (false, 1) := by kernel_rfl
@[go_sem] theorem zer_134 : zer Tryz.prog 134 = some [D.nilfunc] := by kernel_rfl
@[go_sem] theorem concrete_134 : concrete Tryz.prog 134 = true := by kernel_rfl
@[go_sem] theorem lk_135 : lk Tryz.prog 135 = some (false, 1) := by kernel_rfl
@[go_sem] theorem zer_135 : zer Tryz.prog 135 = some [D.nilfunc] := by kernel_rfl
@[go_sem] theorem concrete_135 : concrete Tryz.prog 135 = true := by kernel_rfl
@[go_sem] theorem lk_136 : lk Tryz.prog 136 = some (false, 1) := by kernel_rfl
@[go_sem] theorem zer_136 : zer Tryz.prog 136 = some [D.nilfunc] := by kernel_rfl
@[go_sem] theorem concrete_136 : concrete Tryz.prog 136 = true := by kernel_rfl
@[go_sem] theorem lk_137 : lk Tryz.prog 137 = some (false, 1) := by kernel_rfl
@[go_sem] theorem zer_137 : zer Tryz.prog 137 = some [D.nilfunc] := by kernel_rfl
@[go_sem] theorem concrete_137 : concrete Tryz.prog 137 = true := by kernel_rfl
@[go_sem] theorem lk_138 : lk Tryz.prog 138 = some (false, 1) := by kernel_rfl
@[go_sem] theorem zer_138 : zer Tryz.prog 138 = some [D.nilfunc] := by kernel_rfl
@[go_sem] theorem concrete_138 : concrete Tryz.prog 138 = true := by kernel_rfl
@[go_sem] theorem lk_139 : lk Tryz.prog 139 = some (false, 1) := by kernel_rfl
@[go_sem] theorem zer_139 : zer Tryz.prog 139 = some [D.nilfunc] := by kernel_rfl
@[go_sem] theorem concrete_139 : concrete Tryz.prog 139 = true := by kernel_rfl
@[go_sem] theorem lk_140 : lk Tryz.prog 140 = some (false, 1) := by kernel_rfl
@[go_sem] theorem zer_140 : zer Tryz.prog 140 = some [D.nilfunc] := by kernel_rfl
@[go_sem] theorem concrete_140 : concrete Tryz.prog 140 = true := by kernel_rfl
@[go_sem] theorem lk_141 : lk Tryz.prog 141 = some (false, 1) := by kernel_rfl
@[go_sem] theorem zer_141 : zer Tryz.prog 141 = some [D.int IntKind.u64 (0)] := by kernel_rfl
@[go_sem] theorem concrete_141 : concrete Tryz.prog 141 = true := by kernel_rfl
@[go_sem] theorem lk_142 : lk Tryz.prog 142 = some (false, 1) := by kernel_rfl
@[go_sem] theorem zer_142 : zer Tryz.prog 142 = some [D.any] := by kernel_rfl
@[go_sem] theorem concrete_142 : concrete Tryz.prog 142 = true := by kernel_rfl
@[go_sem] theorem lk_143 : lk Tryz.prog 143 = some (false, 1) := by kernel_rfl
@[go_sem] theorem zer_143 : zer Tryz.prog 143 = some [D.nilp] := by kernel_rfl
@[go_sem] theorem concrete_143 : concrete Tryz.prog 143 = true := by kernel_rfl
@[go_sem] theorem lk_144 : lk Tryz.prog 144 = some (true, 3) := by kernel_rfl
@[go_sem] theorem zer_144 : zer Tryz.prog 144 = some [D.sl Tk.full [], D.int IntKind.i64 (0), D.int IntKind.i64 (0)] := by kernel_rfl
@[go_sem] theorem plc_144 : plc Tryz.prog 144 = some [(0, 1), (1, 1), (2, 1)] := by kernel_rfl
@[go_sem] theorem concrete_144 : concrete Tryz.prog 144 = true := by kernel_rfl
@[go_sem] theorem lk_145 : lk Tryz.prog 145 = some (true, 3) := by kernel_rfl
@[go_sem] theorem zer_145 : zer Tryz.prog 145 = some [D.sl Tk.full [], D.int IntKind.i64 (0), D.int IntKind.i64 (0)] := by kernel_rfl
@[go_sem] theorem plc_145 : plc Tryz.prog 145 = some [(0, 1), (1, 1), (2, 1)] := by kernel_rfl
@[go_sem] theorem concrete_145 : concrete Tryz.prog 145 = true := by kernel_rfl
@[go_sem] theorem lk_146 : lk Tryz.prog 146 = some (false, 1) := by kernel_rfl
@[go_sem] theorem zer_146 : zer Tryz.prog 146 = some [D.nilfunc] := by kernel_rfl
@[go_sem] theorem concrete_146 : concrete Tryz.prog 146 = true := by kernel_rfl
@[go_sem] theorem lk_147 : lk Tryz.prog 147 = some (false, 1) := by kernel_rfl
@[go_sem] theorem zer_147 : zer Tryz.prog 147 = some [D.nilfunc] := by kernel_rfl
@[go_sem] theorem concrete_147 : concrete Tryz.prog 147 = true := by kernel_rfl
@[go_sem] theorem lk_148 : lk Tryz.prog 148 = some (false, 1) := by kernel_rfl
@[go_sem] theorem zer_148 : zer Tryz.prog 148 = some [D.nilfunc] := by kernel_rfl
@[go_sem] theorem concrete_148 : concrete Tryz.prog 148 = true := by kernel_rfl
@[go_sem] theorem lk_149 : lk Tryz.prog 149 = some (false, 1) := by kernel_rfl
@[go_sem] theorem zer_149 : zer Tryz.prog 149 = some [D.nilfunc] := by kernel_rfl
@[go_sem] theorem concrete_149 : concrete Tryz.prog 149 = true := by kernel_rfl
@[go_sem] theorem lk_150 : lk Tryz.prog 150 = some (false, 1) := by kernel_rfl
@[go_sem] theorem zer_150 : zer Tryz.prog 150 = some [D.nilfunc] := by kernel_rfl
@[go_sem] theorem concrete_150 : concrete Tryz.prog 150 = true := by kernel_rfl
@[go_sem] theorem lk_151 : lk Tryz.prog 151 = some (false, 1) := by kernel_rfl
@[go_sem] theorem zer_151 : zer Tryz.prog 151 = some [D.nilfunc] := by kernel_rfl
@[go_sem] theorem concrete_151 : concrete Tryz.prog 151 = true := by kernel_rfl
@[go_sem] theorem lk_152 : lk Tryz.prog 152 = some (false, 1) := by kernel_rfl
@[go_sem] theorem zer_152 : zer Tryz.prog 152 = some [D.nilfunc] := by kernel_rfl
@[go_sem] theorem concrete_152 : concrete Tryz.prog 152 = true := by kernel_rfl
@[go_sem] theorem lk_153 : lk Tryz.prog 153 = some (false, 1) := by kernel_rfl
@[go_sem] theorem zer_153 : zer Tryz.prog 153 = some [D.nilfunc] := by kernel_rfl
@[go_sem] theorem concrete_153 : concrete Tryz.prog 153 = true := by kernel_rfl
@[go_sem] theorem lk_154 : lk Tryz.prog 154 = some (false, 1) := by kernel_rfl
@[go_sem] theorem zer_154 : zer Tryz.prog 154 = some [D.nilmap] := by kernel_rfl
@[go_sem] theorem concrete_154 : concrete Tryz.prog 154 = true := by kernel_rfl
@[go_sem] theorem lk_155 : lk Tryz.prog 155 = some (true, 2) := by kernel_rfl
@[go_sem] theorem zer_155 : zer Tryz.prog 155 = some [D.int IntKind.i64 (0), D.str ByteArray.empty] := by kernel_rfl
@[go_sem] theorem plc_155 : plc Tryz.prog 155 = some [(0, 1), (1, 1)] := by kernel_rfl
@[go_sem] theorem concrete_155 : concrete Tryz.prog 155 = true := by kernel_rfl
@[go_sem] theorem lk_156 : lk Tryz.prog 156 = some (true, 2) := by kernel_rfl
@[go_sem] theorem zer_156 : zer Tryz.prog 156 = some [D.int IntKind.i64 (0), D.str ByteArray.empty] := by kernel_rfl
@[go_sem] theorem plc_156 : plc Tryz.prog 156 = some [(0, 1), (1, 1)] := by kernel_rfl
@[go_sem] theorem concrete_156 : concrete Tryz.prog 156 = true := by kernel_rfl
@[go_sem] theorem lk_157 : lk Tryz.prog 157 = some (false, 1) := by kernel_rfl
@[go_sem] theorem elt_157 : elt Tryz.prog 157 = some (1, 8) := by kernel_rfl
@[go_sem] theorem zel_157 : zel Tryz.prog 157 = some ([D.int IntKind.i64 (0)], 8) := by kernel_rfl
@[go_sem] theorem zer_157 : zer Tryz.prog 157 = some [D.sl Tk.full []] := by kernel_rfl
@[go_sem] theorem ixt_157 : ixt Tryz.prog 157 = some (false, 0, 1) := by kernel_rfl
@[go_sem] theorem cutk_157 : cutk Tryz.prog 157 = some (1, 1, 0) := by kernel_rfl
@[go_sem] theorem concrete_157 : concrete Tryz.prog 157 = true := by kernel_rfl
@[go_sem] theorem lk_158 : lk Tryz.prog 158 = some (false, 1) := by kernel_rfl
@[go_sem] theorem zer_158 : zer Tryz.prog 158 = some [D.any] := by kernel_rfl
@[go_sem] theorem concrete_158 : concrete Tryz.prog 158 = true := by kernel_rfl
@[go_sem] theorem lk_159 : lk Tryz.prog 159 = some (false, 1) := by kernel_rfl
@[go_sem] theorem zer_159 : zer Tryz.prog 159 = some [D.nilfunc] := by kernel_rfl
@[go_sem] theorem concrete_159 : concrete Tryz.prog 159 = true := by kernel_rfl
@[go_sem] theorem lk_160 : lk Tryz.prog 160 = some (false, 1) := by kernel_rfl
@[go_sem] theorem zer_160 : zer Tryz.prog 160 = some [D.nilfunc] := by kernel_rfl
@[go_sem] theorem concrete_160 : concrete Tryz.prog 160 = true := by kernel_rfl
@[go_sem] theorem lk_161 : lk Tryz.prog 161 = some (false, 1) := by kernel_rfl
@[go_sem] theorem zer_161 : zer Tryz.prog 161 = some [D.nilfunc] := by kernel_rfl
@[go_sem] theorem concrete_161 : concrete Tryz.prog 161 = true := by kernel_rfl
@[go_sem] theorem lk_162 : lk Tryz.prog 162 = some (false, 1) := by kernel_rfl
@[go_sem] theorem zer_162 : zer Tryz.prog 162 = some [D.nilfunc] := by kernel_rfl
@[go_sem] theorem concrete_162 : concrete Tryz.prog 162 = true := by kernel_rfl
@[go_sem] theorem lk_163 : lk Tryz.prog 163 = some (false, 1) := by kernel_rfl
@[go_sem] theorem zer_163 : zer Tryz.prog 163 = some [D.nilfunc] := by kernel_rfl
@[go_sem] theorem concrete_163 : concrete Tryz.prog 163 = true := by kernel_rfl
@[go_sem] theorem lk_164 : lk Tryz.prog 164 = some (false, 1) := by kernel_rfl
@[go_sem] theorem zer_164 : zer Tryz.prog 164 = some [D.nilfunc] := by kernel_rfl
@[go_sem] theorem concrete_164 : concrete Tryz.prog 164 = true := by kernel_rfl
@[go_sem] theorem lk_165 : lk Tryz.prog 165 = some (false, 1) := by kernel_rfl
@[go_sem] theorem zer_165 : zer Tryz.prog 165 = some [D.nilfunc] := by kernel_rfl
@[go_sem] theorem concrete_165 : concrete Tryz.prog 165 = true := by kernel_rfl
@[go_sem] theorem lk_166 : lk Tryz.prog 166 = some (false, 1) := by kernel_rfl
@[go_sem] theorem zer_166 : zer Tryz.prog 166 = some [D.nilfunc] := by kernel_rfl
@[go_sem] theorem concrete_166 : concrete Tryz.prog 166 = true := by kernel_rfl
@[go_sem] theorem lk_167 : lk Tryz.prog 167 = some (false, 1) := by kernel_rfl
@[go_sem] theorem zer_167 : zer Tryz.prog 167 = some [D.nilfunc] := by kernel_rfl
@[go_sem] theorem concrete_167 : concrete Tryz.prog 167 = true := by kernel_rfl
@[go_sem] theorem lk_168 : lk Tryz.prog 168 = some (false, 1) := by kernel_rfl
@[go_sem] theorem zer_168 : zer Tryz.prog 168 = some [D.nilfunc] := by kernel_rfl
@[go_sem] theorem concrete_168 : concrete Tryz.prog 168 = true := by kernel_rfl
@[go_sem] theorem lk_169 : lk Tryz.prog 169 = some (false, 1) := by kernel_rfl
@[go_sem] theorem zer_169 : zer Tryz.prog 169 = some [D.nilfunc] := by kernel_rfl
@[go_sem] theorem concrete_169 : concrete Tryz.prog 169 = true := by kernel_rfl
@[go_sem] theorem lk_170 : lk Tryz.prog 170 = some (false, 1) := by kernel_rfl
@[go_sem] theorem zer_170 : zer Tryz.prog 170 = some [D.nilfunc] := by kernel_rfl
@[go_sem] theorem concrete_170 : concrete Tryz.prog 170 = true := by kernel_rfl
@[go_sem] theorem lk_171 : lk Tryz.prog 171 = some (false, 1) := by kernel_rfl
@[go_sem] theorem zer_171 : zer Tryz.prog 171 = some [D.nilfunc] := by kernel_rfl
@[go_sem] theorem concrete_171 : concrete Tryz.prog 171 = true := by kernel_rfl
@[go_sem] theorem lk_172 : lk Tryz.prog 172 = some (false, 1) := by kernel_rfl
@[go_sem] theorem zer_172 : zer Tryz.prog 172 = some [D.nilfunc] := by kernel_rfl
@[go_sem] theorem concrete_172 : concrete Tryz.prog 172 = true := by kernel_rfl
@[go_sem] theorem lk_173 : lk Tryz.prog 173 = some (false, 1) := by kernel_rfl
@[go_sem] theorem zer_173 : zer Tryz.prog 173 = some [D.nilfunc] := by kernel_rfl
@[go_sem] theorem concrete_173 : concrete Tryz.prog 173 = true := by kernel_rfl
@[go_sem] theorem lk_174 : lk Tryz.prog 174 = some (false, 1) := by kernel_rfl
@[go_sem] theorem zer_174 : zer Tryz.prog 174 = some [D.nilfunc] := by kernel_rfl
@[go_sem] theorem concrete_174 : concrete Tryz.prog 174 = true := by kernel_rfl
@[go_sem] theorem lk_175 : lk Tryz.prog 175 = some (false, 1) := by kernel_rfl
@[go_sem] theorem zer_175 : zer Tryz.prog 175 = some [D.nilfunc] := by kernel_rfl
@[go_sem] theorem concrete_175 : concrete Tryz.prog 175 = true := by kernel_rfl
@[go_sem] theorem lk_176 : lk Tryz.prog 176 = some (false, 1) := by kernel_rfl
@[go_sem] theorem zer_176 : zer Tryz.prog 176 = some [D.nilfunc] := by kernel_rfl
@[go_sem] theorem concrete_176 : concrete Tryz.prog 176 = true := by kernel_rfl
@[go_sem] theorem lk_177 : lk Tryz.prog 177 = some (false, 1) := by kernel_rfl
@[go_sem] theorem zer_177 : zer Tryz.prog 177 = some [D.nilfunc] := by kernel_rfl
@[go_sem] theorem concrete_177 : concrete Tryz.prog 177 = true := by kernel_rfl
@[go_sem] theorem lk_178 : lk Tryz.prog 178 = some (false, 1) := by kernel_rfl
@[go_sem] theorem zer_178 : zer Tryz.prog 178 = some [D.nilfunc] := by kernel_rfl
@[go_sem] theorem concrete_178 : concrete Tryz.prog 178 = true := by kernel_rfl
@[go_sem] theorem lk_179 : lk Tryz.prog 179 = some (false, 1) := by kernel_rfl
@[go_sem] theorem zer_179 : zer Tryz.prog 179 = some [D.nilfunc] := by kernel_rfl
@[go_sem] theorem concrete_179 : concrete Tryz.prog 179 = true := by kernel_rfl
@[go_sem] theorem lk_180 : lk Tryz.prog 180 = some (false, 1) := by kernel_rfl
@[go_sem] theorem zer_180 : zer Tryz.prog 180 = some [D.nilfunc] := by kernel_rfl
@[go_sem] theorem concrete_180 : concrete Tryz.prog 180 = true := by kernel_rfl
@[go_sem] theorem lk_181 : lk Tryz.prog 181 = some (false, 1) := by kernel_rfl
@[go_sem] theorem zer_181 : zer Tryz.prog 181 = some [D.nilfunc] := by kernel_rfl
@[go_sem] theorem concrete_181 : concrete Tryz.prog 181 = true := by kernel_rfl
@[go_sem] theorem lk_182 : lk Tryz.prog 182 = some (false, 1) := by kernel_rfl
@[go_sem] theorem zer_182 : zer Tryz.prog 182 = some [D.nilfunc] := by kernel_rfl
@[go_sem] theorem concrete_182 : concrete Tryz.prog 182 = true := by kernel_rfl
@[go_sem] theorem lk_183 : lk Tryz.prog 183 = some (false, 1) := by kernel_rfl
@[go_sem] theorem zer_183 : zer Tryz.prog 183 = some [D.nilfunc] := by kernel_rfl
@[go_sem] theorem concrete_183 : concrete Tryz.prog 183 = true := by kernel_rfl
@[go_sem] theorem lk_184 : lk Tryz.prog 184 = some (false, 1) := by kernel_rfl
@[go_sem] theorem zer_184 : zer Tryz.prog 184 = some [D.nilfunc] := by kernel_rfl
@[go_sem] theorem concrete_184 : concrete Tryz.prog 184 = true := by kernel_rfl
@[go_sem] theorem lk_185 : lk Tryz.prog 185 = some (false, 1) := by kernel_rfl
@[go_sem] theorem zer_185 : zer Tryz.prog 185 = some [D.nilfunc] := by kernel_rfl
@[go_sem] theorem concrete_185 : concrete Tryz.prog 185 = true := by kernel_rfl
@[go_sem] theorem lk_186 : lk Tryz.prog 186 = some (false, 1) := by kernel_rfl
@[go_sem] theorem zer_186 : zer Tryz.prog 186 = some [D.nilfunc] := by kernel_rfl
@[go_sem] theorem concrete_186 : concrete Tryz.prog 186 = true := by kernel_rfl
@[go_sem] theorem lk_187 : lk Tryz.prog 187 = some (false, 1) := by kernel_rfl
@[go_sem] theorem zer_187 : zer Tryz.prog 187 = some [D.any] := by kernel_rfl
@[go_sem] theorem concrete_187 : concrete Tryz.prog 187 = true := by kernel_rfl
@[go_sem] theorem lk_188 : lk Tryz.prog 188 = some (false, 1) := by kernel_rfl
@[go_sem] theorem zer_188 : zer Tryz.prog 188 = some [D.any] := by kernel_rfl
@[go_sem] theorem concrete_188 : concrete Tryz.prog 188 = true := by kernel_rfl
@[go_sem] theorem lk_189 : lk Tryz.prog 189 = some (false, 1) := by kernel_rfl
@[go_sem] theorem zer_189 : zer Tryz.prog 189 = some [D.any] := by kernel_rfl
@[go_sem] theorem concrete_189 : concrete Tryz.prog 189 = true := by kernel_rfl
@[go_sem] theorem lk_190 : lk Tryz.prog 190 = some (false, 1) := by kernel_rfl
@[go_sem] theorem zer_190 : zer Tryz.prog 190 = some [D.any] := by kernel_rfl
@[go_sem] theorem concrete_190 : concrete Tryz.prog 190 = true := by kernel_rfl
@[go_sem] theorem lk_191 : lk Tryz.prog 191 = some (false, 1) := by kernel_rfl
@[go_sem] theorem zer_191 : zer Tryz.prog 191 = some [D.nilfunc] := by kernel_rfl
@[go_sem] theorem concrete_191 : concrete Tryz.prog 191 = true := by kernel_rfl
@[go_sem] theorem lk_192 : lk Tryz.prog 192 = some (false, 1) := by kernel_rfl
@[go_sem] theorem zer_192 : zer Tryz.prog 192 = some [D.nilfunc] := by kernel_rfl
@[go_sem] theorem concrete_192 : concrete Tryz.prog 192 = true := by kernel_rfl
@[go_sem] theorem lk_193 : lk Tryz.prog 193 = some (false, 1) := by kernel_rfl
@[go_sem] theorem zer_193 : zer Tryz.prog 193 = some [D.nilfunc] := by kernel_rfl
@[go_sem] theorem concrete_193 : concrete Tryz.prog 193 = true := by kernel_rfl
@[go_sem] theorem lk_194 : lk Tryz.prog 194 = some (false, 1) := by kernel_rfl
@[go_sem] theorem zer_194 : zer Tryz.prog 194 = some [D.nilfunc] := by kernel_rfl
@[go_sem] theorem concrete_194 : concrete Tryz.prog 194 = true := by kernel_rfl
@[go_sem] theorem lk_195 : lk Tryz.prog 195 = some (false, 1) := by kernel_rfl
@[go_sem] theorem zer_195 : zer Tryz.prog 195 = some [D.nilfunc] := by kernel_rfl
@[go_sem] theorem concrete_195 : concrete Tryz.prog 195 = true := by kernel_rfl
@[go_sem] theorem lk_196 : lk Tryz.prog 196 = some (false, 1) := by kernel_rfl
@[go_sem] theorem zer_196 : zer Tryz.prog 196 = some [D.any] := by kernel_rfl
@[go_sem] theorem concrete_196 : concrete Tryz.prog 196 = true := by kernel_rfl
@[go_sem] theorem lk_197 : lk Tryz.prog 197 = some (false, 1) := by kernel_rfl
@[go_sem] theorem zer_197 : zer Tryz.prog 197 = some [D.nilfunc] := by kernel_rfl
@[go_sem] theorem concrete_197 : concrete Tryz.prog 197 = true := by kernel_rfl
@[go_sem] theorem lk_198 : lk Tryz.prog 198 = some (false, 1) := by kernel_rfl
@[go_sem] theorem zer_198 : zer Tryz.prog 198 = some [D.nilfunc] := by kernel_rfl
@[go_sem] theorem concrete_198 : concrete Tryz.prog 198 = true := by kernel_rfl
@[go_sem] theorem lk_199 : lk Tryz.prog 199 = some (true, 2) := by kernel_rfl
@[go_sem] theorem zer_199 : zer Tryz.prog 199 = some [D.int IntKind.i64 (0), D.int IntKind.i64 (0)] := by kernel_rfl
@[go_sem] theorem plc_199 : plc Tryz.prog 199 = some [(0, 1), (1, 1)] := by kernel_rfl
@[go_sem] theorem ixt_199 : ixt Tryz.prog 199 = some (true, 2, 1) := by kernel_rfl
@[go_sem] theorem cutk_199 : cutk Tryz.prog 199 = some (2, 1, 2) := by kernel_rfl
@[go_sem] theorem concrete_199 : concrete Tryz.prog 199 = true := by kernel_rfl
@[go_sem] theorem lk_200 : lk Tryz.prog 200 = some (false, 1) := by kernel_rfl
@[go_sem] theorem zer_200 : zer Tryz.prog 200 = some [D.nilfunc] := by kernel_rfl
@[go_sem] theorem concrete_200 : concrete Tryz.prog 200 = true := by kernel_rfl
@[go_sem] theorem lk_201 : lk Tryz.prog 201 = some (false, 1) := by kernel_rfl
@[go_sem] theorem zer_201 : zer Tryz.prog 201 = some [D.nilfunc] := by kernel_rfl
@[go_sem] theorem concrete_201 : concrete Tryz.prog 201 = true := by kernel_rfl
@[go_sem] theorem lk_202 : lk Tryz.prog 202 = some (false, 1) := by kernel_rfl
@[go_sem] theorem zer_202 : zer Tryz.prog 202 = some [D.nilfunc] := by kernel_rfl
@[go_sem] theorem concrete_202 : concrete Tryz.prog 202 = true := by kernel_rfl
@[go_sem] theorem lk_203 : lk Tryz.prog 203 = some (false, 1) := by kernel_rfl
@[go_sem] theorem elt_203 : elt Tryz.prog 203 = some (1, 16) := by kernel_rfl
@[go_sem] theorem zel_203 : zel Tryz.prog 203 = some ([D.str ByteArray.empty], 16) := by kernel_rfl
@[go_sem] theorem zer_203 : zer Tryz.prog 203 = some [D.sl Tk.full []] := by kernel_rfl
@[go_sem] theorem ixt_203 : ixt Tryz.prog 203 = some (false, 0, 1) := by kernel_rfl
@[go_sem] theorem cutk_203 : cutk Tryz.prog 203 = some (1, 1, 0) := by kernel_rfl
@[go_sem] theorem concrete_203 : concrete Tryz.prog 203 = true := by kernel_rfl
@[go_sem] theorem lk_204 : lk Tryz.prog 204 = some (false, 1) := by kernel_rfl
@[go_sem] theorem zer_204 : zer Tryz.prog 204 = some [D.nilfunc] := by kernel_rfl
@[go_sem] theorem concrete_204 : concrete Tryz.prog 204 = true := by kernel_rfl
@[go_sem] theorem lk_205 : lk Tryz.prog 205 = some (false, 1) := by kernel_rfl
@[go_sem] theorem zer_205 : zer Tryz.prog 205 = some [D.nilfunc] := by kernel_rfl
@[go_sem] theorem concrete_205 : concrete Tryz.prog 205 = true := by kernel_rfl
@[go_sem] theorem lk_206 : lk Tryz.prog 206 = some (false, 1) := by kernel_rfl
@[go_sem] theorem zer_206 : zer Tryz.prog 206 = some [D.nilfunc] := by kernel_rfl
@[go_sem] theorem concrete_206 : concrete Tryz.prog 206 = true := by kernel_rfl
@[go_sem] theorem lk_207 : lk Tryz.prog 207 = some (false, 1) := by kernel_rfl
@[go_sem] theorem zer_207 : zer Tryz.prog 207 = some [D.nilfunc] := by kernel_rfl
@[go_sem] theorem concrete_207 : concrete Tryz.prog 207 = true := by kernel_rfl
@[go_sem] theorem lk_208 : lk Tryz.prog 208 = some (false, 1) := by kernel_rfl
@[go_sem] theorem zer_208 : zer Tryz.prog 208 = some [D.nilfunc] := by kernel_rfl
@[go_sem] theorem concrete_208 : concrete Tryz.prog 208 = true := by kernel_rfl
@[go_sem] theorem lk_209 : lk Tryz.prog 209 = some (false, 1) := by kernel_rfl
@[go_sem] theorem zer_209 : zer Tryz.prog 209 = some [D.nilfunc] := by kernel_rfl
@[go_sem] theorem concrete_209 : concrete Tryz.prog 209 = true := by kernel_rfl
@[go_sem] theorem lk_210 : lk Tryz.prog 210 = some (false, 1) := by kernel_rfl
@[go_sem] theorem zer_210 : zer Tryz.prog 210 = some [D.nilfunc] := by kernel_rfl
@[go_sem] theorem concrete_210 : concrete Tryz.prog 210 = true := by kernel_rfl
@[go_sem] theorem lk_211 : lk Tryz.prog 211 = some (false, 1) := by kernel_rfl
@[go_sem] theorem zer_211 : zer Tryz.prog 211 = some [D.nilfunc] := by kernel_rfl
@[go_sem] theorem concrete_211 : concrete Tryz.prog 211 = true := by kernel_rfl
@[go_sem] theorem lk_212 : lk Tryz.prog 212 = some (false, 1) := by kernel_rfl
@[go_sem] theorem zer_212 : zer Tryz.prog 212 = some [D.nilfunc] := by kernel_rfl
@[go_sem] theorem concrete_212 : concrete Tryz.prog 212 = true := by kernel_rfl
@[go_sem] theorem lk_213 : lk Tryz.prog 213 = some (false, 1) := by kernel_rfl
@[go_sem] theorem zer_213 : zer Tryz.prog 213 = some [D.nilfunc] := by kernel_rfl
@[go_sem] theorem concrete_213 : concrete Tryz.prog 213 = true := by kernel_rfl
@[go_sem] theorem lk_214 : lk Tryz.prog 214 = some (false, 1) := by kernel_rfl
@[go_sem] theorem zer_214 : zer Tryz.prog 214 = some [D.nilfunc] := by kernel_rfl
@[go_sem] theorem concrete_214 : concrete Tryz.prog 214 = true := by kernel_rfl
@[go_sem] theorem lk_215 : lk Tryz.prog 215 = some (false, 1) := by kernel_rfl
@[go_sem] theorem zer_215 : zer Tryz.prog 215 = some [D.nilfunc] := by kernel_rfl
@[go_sem] theorem concrete_215 : concrete Tryz.prog 215 = true := by kernel_rfl
@[go_sem] theorem lk_216 : lk Tryz.prog 216 = some (false, 1) := by kernel_rfl
@[go_sem] theorem zer_216 : zer Tryz.prog 216 = some [D.nilfunc] := by kernel_rfl
@[go_sem] theorem concrete_216 : concrete Tryz.prog 216 = true := by kernel_rfl
@[go_sem] theorem lk_217 : lk Tryz.prog 217 = some (true, 4) := by kernel_rfl
@[go_sem] theorem zer_217 : zer Tryz.prog 217 = some [D.nilp, D.nilp, D.nilp, D.str ByteArray.empty] := by kernel_rfl
@[go_sem] theorem plc_217 : plc Tryz.prog 217 = some [(0, 1), (1, 1), (2, 1), (3, 1)] := by kernel_rfl
@[go_sem] theorem concrete_217 : concrete Tryz.prog 217 = true := by kernel_rfl
@[go_sem] theorem lk_218 : lk Tryz.prog 218 = some (true, 4) := by kernel_rfl
@[go_sem] theorem zer_218 : zer Tryz.prog 218 = some [D.nilp, D.nilp, D.nilp, D.str ByteArray.empty] := by kernel_rfl
@[go_sem] theorem plc_218 : plc Tryz.prog 218 = some [(0, 1), (1, 1), (2, 1), (3, 1)] := by kernel_rfl
@[go_sem] theorem concrete_218 : concrete Tryz.prog 218 = true := by kernel_rfl
@[go_sem] theorem lk_219 : lk Tryz.prog 219 = some (true, 0) := by kernel_rfl
@[go_sem] theorem zer_219 : zer Tryz.prog 219 = some [] := by kernel_rfl
@[go_sem] theorem plc_219 : plc Tryz.prog 219 = some [] := by kernel_rfl
@[go_sem] theorem ixt_219 : ixt Tryz.prog 219 = some (true, 0, 1) := by kernel_rfl
@[go_sem] theorem cutk_219 : cutk Tryz.prog 219 = some (2, 1, 0) := by kernel_rfl
@[go_sem] theorem concrete_219 : concrete Tryz.prog 219 = true := by kernel_rfl
@[go_sem] theorem lk_220 : lk Tryz.prog 220 = some (true, 0) := by kernel_rfl
@[go_sem] theorem zer_220 : zer Tryz.prog 220 = some [] := by kernel_rfl
@[go_sem] theorem plc_220 : plc Tryz.prog 220 = some [(0, 0)] := by kernel_rfl
@[go_sem] theorem concrete_220 : concrete Tryz.prog 220 = true := by kernel_rfl
@[go_sem] theorem lk_221 : lk Tryz.prog 221 = some (true, 0) := by kernel_rfl
@[go_sem] theorem zer_221 : zer Tryz.prog 221 = some [] := by kernel_rfl
@[go_sem] theorem plc_221 : plc Tryz.prog 221 = some [(0, 0)] := by kernel_rfl
@[go_sem] theorem concrete_221 : concrete Tryz.prog 221 = true := by kernel_rfl
@[go_sem] theorem lk_222 : lk Tryz.prog 222 = some (false, 1) := by kernel_rfl
@[go_sem] theorem zer_222 : zer Tryz.prog 222 = some [D.int IntKind.u32 (0)] := by kernel_rfl
@[go_sem] theorem concrete_222 : concrete Tryz.prog 222 = true := by kernel_rfl
@[go_sem] theorem lk_223 : lk Tryz.prog 223 = some (false, 1) := by kernel_rfl
@[go_sem] theorem zer_223 : zer Tryz.prog 223 = some [D.int IntKind.u8 (0)] := by kernel_rfl
@[go_sem] theorem concrete_223 : concrete Tryz.prog 223 = true := by kernel_rfl
@[go_sem] theorem lk_224 : lk Tryz.prog 224 = some (false, 1) := by kernel_rfl
@[go_sem] theorem zer_224 : zer Tryz.prog 224 = some [D.int IntKind.u8 (0)] := by kernel_rfl
@[go_sem] theorem concrete_224 : concrete Tryz.prog 224 = true := by kernel_rfl
@[go_sem] theorem lk_225 : lk Tryz.prog 225 = some (false, 1) := by kernel_rfl
@[go_sem] theorem zer_225 : zer Tryz.prog 225 = some [D.nilfunc] := by kernel_rfl
@[go_sem] theorem concrete_225 : concrete Tryz.prog 225 = true := by kernel_rfl
@[go_sem] theorem lk_226 : lk Tryz.prog 226 = some (false, 1) := by kernel_rfl
@[go_sem] theorem zer_226 : zer Tryz.prog 226 = some [D.nilp] := by kernel_rfl
@[go_sem] theorem concrete_226 : concrete Tryz.prog 226 = true := by kernel_rfl
@[go_sem] theorem lk_227 : lk Tryz.prog 227 = some (false, 1) := by kernel_rfl
@[go_sem] theorem zer_227 : zer Tryz.prog 227 = some [D.int IntKind.i32 (0)] := by kernel_rfl
@[go_sem] theorem concrete_227 : concrete Tryz.prog 227 = true := by kernel_rfl
@[go_sem] theorem lk_228 : lk Tryz.prog 228 = some (false, 1) := by kernel_rfl
@[go_sem] theorem zer_228 : zer Tryz.prog 228 = some [D.int IntKind.i32 (0)] := by kernel_rfl
@[go_sem] theorem concrete_228 : concrete Tryz.prog 228 = true := by kernel_rfl
@[go_sem] theorem lk_229 : lk Tryz.prog 229 = some (true, 11) := by kernel_rfl
@[go_sem] theorem zer_229 : zer Tryz.prog 229 = some [D.int IntKind.u64 (0), D.int IntKind.u64 (0), D.int IntKind.u32 (0), D.int IntKind.u8 (0), D.int IntKind.u8 (0), D.int IntKind.u8 (0), D.int IntKind.u8 (0), D.nilfunc, D.nilp, D.int IntKind.i32 (0), D.int IntKind.i32 (0)] := by kernel_rfl
@[go_sem] theorem plc_229 : plc Tryz.prog 229 = some [(0, 1), (1, 1), (2, 1), (3, 1), (4, 1), (5, 1), (6, 1), (7, 1), (8, 1), (9, 1), (10, 1)] := by kernel_rfl
@[go_sem] theorem concrete_229 : concrete Tryz.prog 229 = true := by kernel_rfl
@[go_sem] theorem lk_230 : lk Tryz.prog 230 = some (true, 11) := by kernel_rfl
@[go_sem] theorem zer_230 : zer Tryz.prog 230 = some [D.int IntKind.u64 (0), D.int IntKind.u64 (0), D.int IntKind.u32 (0), D.int IntKind.u8 (0), D.int IntKind.u8 (0), D.int IntKind.u8 (0), D.int IntKind.u8 (0), D.nilfunc, D.nilp, D.int IntKind.i32 (0), D.int IntKind.i32 (0)] := by kernel_rfl
@[go_sem] theorem plc_230 : plc Tryz.prog 230 = some [(0, 1), (1, 1), (2, 1), (3, 1), (4, 1), (5, 1), (6, 1), (7, 1), (8, 1), (9, 1), (10, 1)] := by kernel_rfl
@[go_sem] theorem concrete_230 : concrete Tryz.prog 230 = true := by kernel_rfl
@[go_sem] theorem lk_231 : lk Tryz.prog 231 = some (false, 1) := by kernel_rfl
@[go_sem] theorem zer_231 : zer Tryz.prog 231 = some [D.nilp] := by kernel_rfl
@[go_sem] theorem concrete_231 : concrete Tryz.prog 231 = true := by kernel_rfl
@[go_sem] theorem foff_26_0 : foff Tryz.prog 26 0 = some 0 := by kernel_rfl
@[go_sem] theorem foff_26_1 : foff Tryz.prog 26 1 = some 1 := by kernel_rfl
@[go_sem] theorem foff_26_2 : foff Tryz.prog 26 2 = some 2 := by kernel_rfl
@[go_sem] theorem foff_30_0 : foff Tryz.prog 30 0 = some 0 := by kernel_rfl
@[go_sem] theorem foff_30_1 : foff Tryz.prog 30 1 = some 1 := by kernel_rfl
@[go_sem] theorem foff_33_0 : foff Tryz.prog 33 0 = some 0 := by kernel_rfl
@[go_sem] theorem foff_33_1 : foff Tryz.prog 33 1 = some 1 := by kernel_rfl
@[go_sem] theorem foff_40_0 : foff Tryz.prog 40 0 = some 0 := by kernel_rfl
@[go_sem] theorem foff_40_1 : foff Tryz.prog 40 1 = some 1 := by kernel_rfl
@[go_sem] theorem foff_40_2 : foff Tryz.prog 40 2 = some 2 := by kernel_rfl
@[go_sem] theorem foff_40_3 : foff Tryz.prog 40 3 = some 3 := by kernel_rfl
@[go_sem] theorem foff_40_4 : foff Tryz.prog 40 4 = some 4 := by kernel_rfl
@[go_sem] theorem foff_40_5 : foff Tryz.prog 40 5 = some 5 := by kernel_rfl
@[go_sem] theorem foff_40_6 : foff Tryz.prog 40 6 = some 6 := by kernel_rfl
@[go_sem] theorem foff_44_0 : foff Tryz.prog 44 0 = some 0 := by kernel_rfl
@[go_sem] theorem foff_44_1 : foff Tryz.prog 44 1 = some 7 := by kernel_rfl
@[go_sem] theorem foff_44_2 : foff Tryz.prog 44 2 = some 14 := by kernel_rfl
@[go_sem] theorem foff_44_3 : foff Tryz.prog 44 3 = some 15 := by kernel_rfl
@[go_sem] theorem foff_52_0 : foff Tryz.prog 52 0 = some 0 := by kernel_rfl
@[go_sem] theorem foff_54_0 : foff Tryz.prog 54 0 = some 0 := by kernel_rfl
@[go_sem] theorem foff_54_1 : foff Tryz.prog 54 1 = some 1 := by kernel_rfl
@[go_sem] theorem foff_58_0 : foff Tryz.prog 58 0 = some 0 := by kernel_rfl
@[go_sem] theorem foff_58_1 : foff Tryz.prog 58 1 = some 7 := by kernel_rfl
@[go_sem] theorem foff_58_2 : foff Tryz.prog 58 2 = some 8 := by kernel_rfl
@[go_sem] theorem foff_58_3 : foff Tryz.prog 58 3 = some 9 := by kernel_rfl
@[go_sem] theorem foff_76_0 : foff Tryz.prog 76 0 = some 0 := by kernel_rfl
@[go_sem] theorem foff_76_1 : foff Tryz.prog 76 1 = some 1 := by kernel_rfl
@[go_sem] theorem foff_81_0 : foff Tryz.prog 81 0 = some 0 := by kernel_rfl
@[go_sem] theorem foff_81_1 : foff Tryz.prog 81 1 = some 1 := by kernel_rfl
@[go_sem] theorem foff_81_2 : foff Tryz.prog 81 2 = some 2 := by kernel_rfl
@[go_sem] theorem foff_83_0 : foff Tryz.prog 83 0 = some 0 := by kernel_rfl
@[go_sem] theorem foff_83_1 : foff Tryz.prog 83 1 = some 1 := by kernel_rfl
@[go_sem] theorem foff_98_0 : foff Tryz.prog 98 0 = some 0 := by kernel_rfl
@[go_sem] theorem foff_98_1 : foff Tryz.prog 98 1 = some 1 := by kernel_rfl
@[go_sem] theorem foff_111_0 : foff Tryz.prog 111 0 = some 0 := by kernel_rfl
@[go_sem] theorem foff_111_1 : foff Tryz.prog 111 1 = some 1 := by kernel_rfl
@[go_sem] theorem foff_111_2 : foff Tryz.prog 111 2 = some 2 := by kernel_rfl
@[go_sem] theorem foff_111_3 : foff Tryz.prog 111 3 = some 3 := by kernel_rfl
@[go_sem] theorem foff_124_0 : foff Tryz.prog 124 0 = some 0 := by kernel_rfl
@[go_sem] theorem foff_124_1 : foff Tryz.prog 124 1 = some 1 := by kernel_rfl
@[go_sem] theorem foff_124_2 : foff Tryz.prog 124 2 = some 2 := by kernel_rfl
@[go_sem] theorem foff_124_3 : foff Tryz.prog 124 3 = some 3 := by kernel_rfl
@[go_sem] theorem foff_124_4 : foff Tryz.prog 124 4 = some 4 := by kernel_rfl
@[go_sem] theorem foff_124_5 : foff Tryz.prog 124 5 = some 5 := by kernel_rfl
@[go_sem] theorem foff_124_6 : foff Tryz.prog 124 6 = some 6 := by kernel_rfl
@[go_sem] theorem foff_124_7 : foff Tryz.prog 124 7 = some 7 := by kernel_rfl
@[go_sem] theorem foff_129_0 : foff Tryz.prog 129 0 = some 0 := by kernel_rfl
@[go_sem] theorem foff_129_1 : foff Tryz.prog 129 1 = some 7 := by kernel_rfl
@[go_sem] theorem foff_129_2 : foff Tryz.prog 129 2 = some 14 := by kernel_rfl
@[go_sem] theorem foff_129_3 : foff Tryz.prog 129 3 = some 15 := by kernel_rfl
@[go_sem] theorem foff_145_0 : foff Tryz.prog 145 0 = some 0 := by kernel_rfl
@[go_sem] theorem foff_145_1 : foff Tryz.prog 145 1 = some 1 := by kernel_rfl
@[go_sem] theorem foff_145_2 : foff Tryz.prog 145 2 = some 2 := by kernel_rfl
@[go_sem] theorem cvk_2_21 : cvk Tryz.prog 2 21 = some (0, IntKind.i32) := by kernel_rfl
@[go_sem] theorem cvk_2_93 : cvk Tryz.prog 2 93 = some (0, IntKind.u64) := by kernel_rfl
@[go_sem] theorem cvk_3_5 : cvk Tryz.prog 3 5 = some (0, IntKind.u8) := by kernel_rfl
@[go_sem] theorem cvk_3_93 : cvk Tryz.prog 3 93 = some (0, IntKind.u64) := by kernel_rfl
@[go_sem] theorem cvk_5_3 : cvk Tryz.prog 5 3 = some (0, IntKind.i64) := by kernel_rfl
@[go_sem] theorem cvk_5_93 : cvk Tryz.prog 5 93 = some (0, IntKind.u64) := by kernel_rfl
@[go_sem] theorem cvk_21_2 : cvk Tryz.prog 21 2 = some (0, IntKind.i64) := by kernel_rfl
@[go_sem] theorem cvk_62_9 : cvk Tryz.prog 62 9 = some (2, IntKind.u8) := by kernel_rfl
@[go_sem] theorem cvk_93_2 : cvk Tryz.prog 93 2 = some (0, IntKind.i64) := by kernel_rfl
@[go_sem] theorem cvk_93_3 : cvk Tryz.prog 93 3 = some (0, IntKind.i64) := by kernel_rfl
@[go_sem] theorem cvk_93_5 : cvk Tryz.prog 93 5 = some (0, IntKind.u8) := by kernel_rfl

end Go.Proofs.YtpblgfgcoamgmaaGreatS
namespace Go.Proofs.YtpblgfgcoamgmaaGreatS
open Go Go.Proofs.YtpblgfgcoamgmaaGreatV

variable {G : Heap}

def bs (l : List Nat) : List D := l.map fun (b : Nat) => .int .u8 b

theorem bs_length (l : List Nat) : (bs l).length = l.length := by simp [bs]
theorem bs_cells (l : List Nat) : (∀ x, x ∈ bs l → x.cells.length = 1) = True := by simp [bs, cells_int]
theorem bs_snoc (l : List Nat) (b : Nat) : bs l ++ [.int .u8 (b : Int)] = bs (l ++ [b]) := by simp [bs]

theorem bs_er (l : List Nat) : (bs l).map D.er = bs l := by simp [bs, er_int]
theorem bs_flat (l : List Nat) : flat (bs l) = bs l := by
  induction l with
  | nil => rfl
  | cons a l ih => simp only [bs, flat, List.map_cons, List.flatMap_cons, cells_int] at ih ⊢; rw [ih]; rfl
theorem bs_take (l : List Nat) (n : Nat) : (bs l).take n = bs (l.take n) := by simp [bs, List.map_take]
theorem bs_drop (l : List Nat) (n : Nat) : (bs l).drop n = bs (l.drop n) := by simp [bs, List.map_drop]
theorem bs_append (l m : List Nat) : bs l ++ bs m = bs (l ++ m) := by simp [bs]
theorem bs_solid (l : List Nat) : (∀ d, d ∈ bs l → d.cells.length = 1 ∧ d.solid = true) = True := by simp [bs, cells_int, solid_int]
theorem bs_one (l : List Nat) : ∀ d ∈ bs l, d.one = true := by simp [bs, one_int]
theorem bs_at (l : List Nat) {i : Nat} (h : i < l.length) : (bs l).getD i .any = .int .u8 ((l.getD i 0 : Nat) : Int) := by
  simp [bs, List.getD, List.getElem?_map, h]

def enc (n : Nat) : List Nat := if n < 128 then [n] else (n % 128 + 128) :: enc (n / 128)
decreasing_by omega

theorem enc_small {n : Nat} (h : n < 128) : enc n = [n] := by rw [enc, if_pos h]
theorem enc_big {n : Nat} (h : 128 ≤ n) : enc n = (n % 128 + 128) :: enc (n / 128) := by rw [enc, if_neg (by omega)]

theorem bop_or_u8 (a b : Nat) (ha : a < 256) (hb : b < 256) : bop .or .u8 a b = ((a ||| b : Nat) : Int) := by
  have h1 : (BitVec.ofInt IntKind.u8.bits (a : Int) ||| BitVec.ofInt IntKind.u8.bits (b : Int)).toNat = (a ||| b) := by
    simp only [BitVec.toNat_or, BitVec.toNat_ofInt]
    have e : IntKind.u8.bits = 8 := rfl
    rw [e]
    congr 1 <;> omega
  have h2 : a ||| b < 2 ^ 8 := Nat.or_lt_two_pow (by omega) (by omega)
  simp only [bop, wrap_u8, h1]
  omega

theorem or128 (n : Nat) : bop .or .u8 ((n : Int) % 256) 128 = ((n % 128 + 128 : Nat) : Int) := by
  have h := bop_or_u8 (n % 256) 128 (by omega) (by omega)
  have e : ((n % 256 : Nat) : Int) = (n : Int) % 256 := by omega
  rw [e] at h
  refine h.trans ?_
  congr 1
  have h3 : n % 256 = n / 128 % 2 * 128 + n % 128 := by omega
  have key : ∀ m : Fin 256, (m.val ||| 128) = m.val % 128 + 128 := by decide +kernel
  have := key ⟨n % 256, by omega⟩
  simp only at this
  rw [this]
  omega

theorem number_ok (t : Nat) (out : List Nat) (n : Nat) (hlen : out.length + (enc n).length ≤ 2^46) :
    VC P G 77 [.sl (.live t 1) (bs out), .int .u64 n] Heap.nil [t] fun o β ω => ∃ t', o = .ret (.sl (.live t' 1) (bs (out ++ enc n))) ∧ β = Heap.nil ∧ ω = [t'] := by
  refine VC.ofs (fun _ => []) [4] mixed Tryz.func77 rfl rfl rfl rfl rfl (by simp) ?_
  simp only [go_sem, reduceIte, Nat.reduceEqDiff, Nat.reduceAdd, Nat.reduceSub, Nat.reduceMul, Nat.reduceLT, Nat.reduceLeDiff, Nat.reducePow, Int.reduceToNat, Int.reduceLT, Int.reduceLE, Int.reduceEq, Int.reduceNe, Int.reduceAdd, Int.reduceSub, Int.reduceMul, Int.reduceNeg]
  refine vwq_loop (fun s => ∃ (t' : Nat) (out' : List Nat) (n' : Nat), s.σ 0 = .sl (.live t' 1) (bs out') ∧ s.σ 1 = .int .u64 n' ∧ s.β = Heap.nil ∧ s.ω = [t'] ∧ out' ++ enc n' = out ++ enc n) (fun s => (ival (s.σ 1)).toNat) ?_ ?_
  · exact ⟨t, out, n, rfl, rfl, rfl, rfl, rfl⟩
  · rintro σ β ω ⟨t', out', n', h0, h1, rfl, rfl, h2⟩
    dsimp only at h0 h1
    simp only [go_sem, reduceIte, Nat.reduceEqDiff, Nat.reduceAdd, Nat.reduceSub, Nat.reduceMul, Nat.reduceLT, Nat.reduceLeDiff, Nat.reducePow, Int.reduceToNat, Int.reduceLT, Int.reduceLE, Int.reduceEq, Int.reduceNe, Int.reduceAdd, Int.reduceSub, Int.reduceMul, Int.reduceNeg, h0, h1, ival_int, bs_length, bs_cells]
    have h3 : out'.length + (enc n').length = out.length + (enc n).length := by
      have := congrArg List.length h2
      simpa using this
    refine cd_dec (fun hn => ?_) (fun hn => ?_) <;> simp only [go_sem, reduceIte, Nat.reduceEqDiff, Nat.reduceAdd, Nat.reduceSub, Nat.reduceMul, Nat.reduceLT, Nat.reduceLeDiff, Nat.reducePow, Int.reduceToNat, Int.reduceLT, Int.reduceLE, Int.reduceEq, Int.reduceNe, Int.reduceAdd, Int.reduceSub, Int.reduceMul, Int.reduceNeg, h0, h1, ival_int, bs_length, bs_cells]
    · have hb := enc_big (n := n') (by omega)
      have h4 : 0 < (enc (n' / 128)).length := by
        unfold enc; split <;> simp
      rw [hb] at h3
      simp only [List.length_cons] at h3
      have e : (n' : Int) / 2 ^ shb .u64 7 = ((n' / 128 : Nat) : Int) := by
        have : shb .u64 7 = 7 := rfl
        rw [this]; omega
      refine ⟨by omega, fun t1 _ => ⟨⟨t1, out' ++ [n' % 128 + 128], n' / 128, ?_, ?_, rfl, ?_⟩, ?_⟩⟩
      · rw [or128, bs_snoc]
      · rw [e]
      · rw [← h2, hb]; simp
      · rw [e]; omega
    · have hs := enc_small (n := n') (by omega)
      rw [hs] at h3
      simp only [List.length_cons, List.length_nil] at h3
      refine ⟨by omega, fun t1 _ => finK_exact ⟨t1, ?_, rfl, rfl⟩⟩
      have e : (n' : Int) % 256 = (n' : Int) := by omega
      rw [e, bs_snoc, ← h2, hs]
attribute [go_sem] bs_length bs_cells bs_er bs_flat bs_take bs_drop bs_solid

theorem number_t1 (t : Nat) (out : List Nat) (n : Nat) (hlen : out.length + (enc n).length ≤ 2^46) : VT1 P G 77 [.sl (.live t 1) (bs out), .int .u64 n] t (fun t' => .sl (.live t' 1) (bs (out ++ enc n))) := number_ok t out n hlen

theorem zeros_bs (n : Nat) : zeros [.int .u8 0] n = bs (List.replicate n 0) := by
  induction n with
  | zero => rfl
  | succ n ih =>
    have : zeros [.int .u8 0] (n + 1) = .int .u8 0 :: zeros [.int .u8 0] n := by simp [zeros, List.replicate_succ]
    rw [this, ih, List.replicate_succ]
    simp [bs]

theorem room_ok (tk : Tk) (b : List Nat) (n : Nat) (hlen : b.length + n ≤ 2^46) : VT0 P G 78 [.sl tk (bs b), .int .i64 n] (fun t' => .sl (.live t' 1) (bs b)) := by
  refine VC.turn (Φ1 := fun o β ω => ∃ bx cs, o = .ret (.so bx 0 b.length (b.length + n)) ∧ β bx = some cs ∧ ω = [] ∧ isObj cs = false ∧ cs.length = b.length + n ∧ cs.take b.length = bs b) ?_ ?_ ?_
  · refine VC.ofs (fun _ => []) [4] mixed Tryz.func78 rfl rfl rfl rfl rfl (by simp) ?_
    simp only [go_sem, reduceIte, Nat.reduceEqDiff, Nat.reduceAdd, Nat.reduceSub, Nat.reduceMul, Nat.reduceLT, Nat.reduceLeDiff, Nat.reducePow, Int.reduceToNat, Int.reduceLT, Int.reduceLE, Int.reduceEq, Int.reduceNe, Int.reduceAdd, Int.reduceSub, Int.reduceMul, Int.reduceNeg]
    rw [wrap_i64 (by omega) (by omega)]
    have e : (((b.length : Int) + (n : Int))).toNat = b.length + n := by omega
    simp only [e, zeros_bs, bs_length, List.length_replicate, bs_drop, bs_append, Nat.min_self, List.take_length]
    refine ⟨by omega, by omega, by omega, by omega, fun bx => ⟨isObj_of (bs_one _), by omega, finK_exact ⟨bx, bs (b ++ List.drop (0 + b.length) (List.replicate (b.length + n) 0)), rfl, by simp only [set_at, if_true], rfl, isObj_of (bs_one _), ?_, ?_⟩⟩⟩
    · rw [bs_length]; simp
    · rw [bs_take]; simp
  · rintro d β' ω' ⟨bx, cs, h1, h2, h6, h3, h4, h5⟩
    cases h1
    refine Turn.bind (Turn.freeze (m := 1) (xs := bs b) h2 h3 (by omega) (by omega) ?_ ?_ (bs_length b) (by simp [mostLen]; omega)) ?_
    · rw [bs_flat, Nat.mul_one, h5]
    · have := bs_cells b
      simpa using this
    · rintro d β ω ⟨t, ht, rfl, rfl, rfl⟩
      refine Turn.weak ⟨_, Heap.nil, [t], Wk.refl _, fun _ _ h => (nomatch h : False).elim, fun u hu => ?_, t, rfl, rfl, rfl⟩
      simp at hu
      simp [hu]
  · rintro d β' ω' ⟨bx, cs, h1, _⟩
    cases h1

theorem U_ok (tk : Tk) (b : List Nat) (n : Nat) (hb : b.length ≤ 2^45) (he : (enc n).length ≤ 2^45) : VT0 P G 39 [.sl tk (bs b), .int .u64 n] (fun t' => .sl (.live t' 1) (bs (b ++ enc n))) := by
  refine VC.ofs (fun | 99999999 => [(0, [0, 1, 4])] | _ => []) [4] mixed Tryz.func39 rfl rfl rfl rfl (by decide +kernel) (by simp) ?_
  simp only [go_sem, reduceIte, Nat.reduceEqDiff, Nat.reduceAdd, Nat.reduceSub, Nat.reduceMul, Nat.reduceLT, Nat.reduceLeDiff, Nat.reducePow, Int.reduceToNat, Int.reduceLT, Int.reduceLE, Int.reduceEq, Int.reduceNe, Int.reduceAdd, Int.reduceSub, Int.reduceMul, Int.reduceNeg]
  refine cK_t0 (room_ok tk b 10 (by omega)) fun t _ => ?_
  simp only [go_sem, reduceIte, Nat.reduceEqDiff, Nat.reduceAdd, Nat.reduceSub, Nat.reduceMul, Nat.reduceLT, Nat.reduceLeDiff, Nat.reducePow, Int.reduceToNat, Int.reduceLT, Int.reduceLE, Int.reduceEq, Int.reduceNe, Int.reduceAdd, Int.reduceSub, Int.reduceMul, Int.reduceNeg]
  refine cK_t1 (number_t1 t b n (by omega)) (by simp) fun t' => ?_
  simp only [go_sem, reduceIte, Nat.reduceEqDiff, Nat.reduceAdd, Nat.reduceSub, Nat.reduceMul, Nat.reduceLT, Nat.reduceLeDiff, Nat.reducePow, Int.reduceToNat, Int.reduceLT, Int.reduceLE, Int.reduceEq, Int.reduceNe, Int.reduceAdd, Int.reduceSub, Int.reduceMul, Int.reduceNeg, joinT_one]
  exact finK_exact ⟨t', rfl, rfl, rfl⟩

def zig (k : Int) : Nat := if 0 ≤ k then (2 * k).toNat else (-2 * k - 1).toNat

theorem bop_xor_zero (x : Int) (h0 : 0 ≤ x) (h1 : x < 18446744073709551616) : bop .xor .u64 x 0 = x := by
  have h : (BitVec.ofInt 64 x ^^^ BitVec.ofInt 64 0).toNat = x.toNat := by
    have : BitVec.ofInt 64 0 = 0#64 := rfl
    rw [this, BitVec.xor_zero, BitVec.toNat_ofInt]
    omega
  show IntKind.u64.wrap ((BitVec.ofInt 64 x ^^^ BitVec.ofInt 64 0).toNat : Int) = x
  rw [h, wrap_u64]
  omega

theorem bop_xor_ones (x : Int) (h0 : 0 ≤ x) (h1 : x < 18446744073709551616) : bop .xor .u64 x 18446744073709551615 = 18446744073709551615 - x := by
  have h : (BitVec.ofInt 64 x ^^^ BitVec.ofInt 64 18446744073709551615).toNat = 18446744073709551615 - x.toNat := by
    have : BitVec.ofInt 64 18446744073709551615 = BitVec.allOnes 64 := by decide
    rw [this, BitVec.xor_allOnes, BitVec.toNat_not, BitVec.toNat_ofInt]
    omega
  show IntKind.u64.wrap ((BitVec.ofInt 64 x ^^^ BitVec.ofInt 64 18446744073709551615).toNat : Int) = _
  rw [h, wrap_u64]
  omega

theorem xor_zig (k : Int) (hk : -9223372036854775808 ≤ k ∧ k < 9223372036854775808) :
    bop .xor .u64 (k % 18446744073709551616 * 2 ^ shb .u64 1 % 18446744073709551616) (k / 2 ^ shb .i64 63 % 18446744073709551616) = (zig k : Int) := by
  have e1 : shb .u64 1 = 1 := rfl
  have e2 : shb .i64 63 = 63 := rfl
  rw [e1, e2]
  unfold zig
  by_cases h : 0 ≤ k
  · have e3 : k / 2 ^ 63 % 18446744073709551616 = 0 := by omega
    rw [e3, bop_xor_zero _ (by omega) (by omega), if_pos h]
    omega
  · have e3 : k / 2 ^ 63 % 18446744073709551616 = 18446744073709551615 := by omega
    rw [e3, bop_xor_ones _ (by omega) (by omega), if_neg h]
    omega

theorem S_ok (tk : Tk) (b : List Nat) (k : Int) (hk : -9223372036854775808 ≤ k ∧ k < 9223372036854775808) (hb : b.length ≤ 2^45) (he : (enc (zig k)).length ≤ 2^45) : VT0 P G 42 [.sl tk (bs b), .int .i64 k] (fun t' => .sl (.live t' 1) (bs (b ++ enc (zig k)))) := by
  refine VC.ofs (fun | 99999999 => [(0, [0, 1, 4])] | _ => []) [4] mixed Tryz.func42 rfl rfl rfl rfl (by decide +kernel) (by simp) ?_
  simp only [go_sem, reduceIte, Nat.reduceEqDiff, Nat.reduceAdd, Nat.reduceSub, Nat.reduceMul, Nat.reduceLT, Nat.reduceLeDiff, Nat.reducePow, Int.reduceToNat, Int.reduceLT, Int.reduceLE, Int.reduceEq, Int.reduceNe, Int.reduceAdd, Int.reduceSub, Int.reduceMul, Int.reduceNeg, xor_zig k hk]
  refine cK_t0 (U_ok tk b (zig k) hb he) fun t _ => ?_
  simp only [go_sem, reduceIte, Nat.reduceEqDiff, Nat.reduceAdd, Nat.reduceSub, Nat.reduceMul, Nat.reduceLT, Nat.reduceLeDiff, Nat.reducePow, Int.reduceToNat, Int.reduceLT, Int.reduceLE, Int.reduceEq, Int.reduceNe, Int.reduceAdd, Int.reduceSub, Int.reduceMul, Int.reduceNeg]
  exact finK_exact ⟨t, rfl, rfl, rfl⟩

def sb (s : ByteArray) : List Nat := s.data.toList.map (·.toNat)
theorem sb_length (s : ByteArray) : (sb s).length = s.size := by
  unfold sb
  rw [List.length_map, Array.length_toList]
  rfl
theorem bs_str (s : ByteArray) : (s.data.toList.map fun b => D.int .u8 (b.toNat : Int)) = bs (sb s) := by
  unfold bs sb
  rw [List.map_map]
  rfl

theorem sized33_ok (tk : Tk) (b : List Nat) (s : ByteArray) (hb : b.length + s.size ≤ 2^45) (he : (enc s.size).length ≤ 2^44) : VT0 P G 84 [.sl tk (bs b), .str s] (fun t' => .sl (.live t' 1) (bs (b ++ enc s.size ++ sb s))) := by
  refine VC.ofs (fun | 99999999 => [(0, [0, 1, 4, 5])] | _ => []) [4] mixed Tryz.func84 rfl rfl rfl rfl (by decide +kernel) (by simp) ?_
  simp only [go_sem, reduceIte, Nat.reduceEqDiff, Nat.reduceAdd, Nat.reduceSub, Nat.reduceMul, Nat.reduceLT, Nat.reduceLeDiff, Nat.reducePow, Int.reduceToNat, Int.reduceLT, Int.reduceLE, Int.reduceEq, Int.reduceNe, Int.reduceAdd, Int.reduceSub, Int.reduceMul, Int.reduceNeg]
  rw [wrap_i64 (by omega) (by omega)]
  have e : (10 + (s.size : Int)) = ((10 + s.size : Nat) : Int) := by omega
  rw [e]
  refine cK_t0 (room_ok tk b (10 + s.size) (by omega)) fun t _ => ?_
  simp only [go_sem, reduceIte, Nat.reduceEqDiff, Nat.reduceAdd, Nat.reduceSub, Nat.reduceMul, Nat.reduceLT, Nat.reduceLeDiff, Nat.reducePow, Int.reduceToNat, Int.reduceLT, Int.reduceLE, Int.reduceEq, Int.reduceNe, Int.reduceAdd, Int.reduceSub, Int.reduceMul, Int.reduceNeg]
  have e : ((s.size : Int) % 18446744073709551616) = (s.size : Int) := by omega
  rw [e]
  refine cK_t1 (number_t1 t b s.size (by omega)) (by simp) fun t' => ?_
  simp only [go_sem, reduceIte, Nat.reduceEqDiff, Nat.reduceAdd, Nat.reduceSub, Nat.reduceMul, Nat.reduceLT, Nat.reduceLeDiff, Nat.reducePow, Int.reduceToNat, Int.reduceLT, Int.reduceLE, Int.reduceEq, Int.reduceNe, Int.reduceAdd, Int.reduceSub, Int.reduceMul, Int.reduceNeg, joinT_one, bs_str, bs_append, sb_length, List.length_append]
  exact ⟨by omega, fun t2 _ => finK_exact ⟨t2, rfl, rfl, rfl⟩⟩

theorem Text_ok (tk : Tk) (b : List Nat) (s : ByteArray) (hb : b.length + s.size ≤ 2^45) (he : (enc s.size).length ≤ 2^44) : VT0 P G 41 [.sl tk (bs b), .str s] (fun t' => .sl (.live t' 1) (bs (b ++ enc s.size ++ sb s))) := by
  refine VC.ofs (fun | 99999999 => [(0, [0, 1, 4])] | _ => []) [4] mixed Tryz.func41 rfl rfl rfl rfl (by decide +kernel) (by simp) ?_
  simp only [go_sem, reduceIte, Nat.reduceEqDiff, Nat.reduceAdd, Nat.reduceSub, Nat.reduceMul, Nat.reduceLT, Nat.reduceLeDiff, Nat.reducePow, Int.reduceToNat, Int.reduceLT, Int.reduceLE, Int.reduceEq, Int.reduceNe, Int.reduceAdd, Int.reduceSub, Int.reduceMul, Int.reduceNeg]
  refine cK_t0 (sized33_ok tk b s hb he) fun t _ => ?_
  simp only [go_sem, reduceIte, Nat.reduceEqDiff, Nat.reduceAdd, Nat.reduceSub, Nat.reduceMul, Nat.reduceLT, Nat.reduceLeDiff, Nat.reducePow, Int.reduceToNat, Int.reduceLT, Int.reduceLE, Int.reduceEq, Int.reduceNe, Int.reduceAdd, Int.reduceSub, Int.reduceMul, Int.reduceNeg]
  exact finK_exact ⟨t, rfl, rfl, rfl⟩

def Byt (l : List Nat) : Prop := ∀ c ∈ l, c < 256

def rd (at_ : Nat) : List Nat → Nat → Nat → Nat × Nat × Nat
  | [], _, _ => (0, 0, 6)
  | c :: r, i, n => if 128 ≤ c ∧ i ≠ 9 then rd at_ r (i + 1) (n + 2 ^ (7 * i) * (c % 128)) else if (i = 9 ∧ 1 < c) ∨ (c = 0 ∧ 0 < i) then (0, 0, 5) else (n + 2 ^ (7 * i) * (c % 128), at_ + i + 1, 0)

def readU (b : List Nat) (at_ : Int) : Nat × Nat × Nat :=
  if at_ < 0 ∨ (b.length : Int) < at_ then (0, 0, 1) else rd at_.toNat (b.drop at_.toNat) 0 0

def tri (x : Nat × Nat × Nat) : D := .tup [.int .u64 x.1, .int .i64 x.2.1, .int .i64 x.2.2]

theorem bop_and_127 (c : Nat) (hc : c < 256) : bop .and .u8 c 127 = ((c % 128 : Nat) : Int) := by
  have h1 : (BitVec.ofInt 8 (c : Int) &&& BitVec.ofInt 8 127).toNat = c % 128 := by
    have h2 : (BitVec.ofInt 8 (127 : Int)).toNat = 2 ^ 7 - 1 := by decide
    rw [BitVec.toNat_and, h2, Nat.and_two_pow_sub_one_eq_mod, BitVec.toNat_ofInt]
    omega
  show IntKind.u8.wrap ((BitVec.ofInt 8 (c : Int) &&& BitVec.ofInt 8 127).toNat : Int) = _
  rw [h1, wrap_u8]
  omega

theorem bop_or_u64 (x y : Nat) (hx : x < 18446744073709551616) (hy : y < 18446744073709551616) : bop .or .u64 x y = ((x ||| y : Nat) : Int) := by
  have h1 : (BitVec.ofInt 64 (x : Int) ||| BitVec.ofInt 64 (y : Int)).toNat = (x ||| y) := by
    simp only [BitVec.toNat_or, BitVec.toNat_ofInt]
    congr 1 <;> omega
  have h2 : x ||| y < 2 ^ 64 := Nat.or_lt_two_pow (by omega) (by omega)
  show IntKind.u64.wrap ((BitVec.ofInt 64 (x : Int) ||| BitVec.ofInt 64 (y : Int)).toNat : Int) = _
  rw [h1, wrap_u64]
  omega

theorem shb_u64 (q : Nat) (h : q ≤ 64) : shb .u64 q = q := by
  show min (q : Int).toNat 64 = q
  omega

theorem acc (n c i : Nat) (hc : c < 256) (hi : i ≤ 9) (hn : n < 2 ^ (7 * i)) (hs : i ≤ 8 ∨ c ≤ 1) :
    bop .or .u64 n (bop .and .u8 c 127 % 18446744073709551616 * 2 ^ shb .u64 (7 * (i : Int)) % 18446744073709551616) = ((n + 2 ^ (7 * i) * (c % 128) : Nat) : Int) := by
  have e1 : (7 * (i : Int)) = ((7 * i : Nat) : Int) := by omega
  rw [bop_and_127 c hc, e1, shb_u64 _ (by omega)]
  have hp : 2 ^ (7 * i) * (c % 128) < 18446744073709551616 := by
    rcases hs with h | h
    · have h1 : 2 ^ (7 * i) ≤ 2 ^ 56 := Nat.pow_le_pow_right (by omega) (by omega)
      have h2 : 2 ^ (7 * i) * (c % 128) ≤ 2 ^ 56 * 127 := Nat.mul_le_mul h1 (by omega)
      omega
    · have h1 : 2 ^ (7 * i) ≤ 2 ^ 63 := Nat.pow_le_pow_right (by omega) (by omega)
      have h2 : 2 ^ (7 * i) * (c % 128) ≤ 2 ^ 63 * 1 := Nat.mul_le_mul h1 (by omega)
      omega
  have hn' : n < 18446744073709551616 := by
    have h1 : 2 ^ (7 * i) ≤ 2 ^ 63 := Nat.pow_le_pow_right (by omega) (by omega)
    omega
  have e2 : (((c % 128 : Nat) : Int) % 18446744073709551616 * 2 ^ (7 * i) % 18446744073709551616) = ((2 ^ (7 * i) * (c % 128) : Nat) : Int) := by
    have e3 : ((c % 128 : Nat) : Int) % 18446744073709551616 = ((c % 128 : Nat) : Int) := by omega
    have e4 : ((c % 128 : Nat) : Int) * 2 ^ (7 * i) = ((2 ^ (7 * i) * (c % 128) : Nat) : Int) := by
      push_cast; rw [Int.mul_comm]
    rw [e3, e4]
    omega
  rw [e2, bop_or_u64 n _ hn' hp, Nat.add_comm, Nat.two_pow_add_eq_or_of_lt hn, Nat.or_comm]

theorem ReadU_ok (tk : Tk) (b : List Nat) (at_ : Int) (hb : Byt b) : VN P G 134 [.sl tk (bs b), .int .i64 at_] (tri (readU b at_)) := by
  refine VC.small fun hsm => ?_
  have hx : b.length ≤ 281474976710656 := by have := hsm (.sl tk (bs b)) (by simp); simpa [Small, bs_length, mostLen] using this
  refine VC.ofs (fun | 99999999 => [(0, [0, 1, 4, 5, 6, 7, 8, 9, 10, 11, 19, 22, 23, 24, 25, 39, 46])] | _ => []) [4, 5, 6] mixed Tryz.func134 rfl rfl rfl rfl (by decide +kernel) (by simp) ?_
  simp only [go_sem, reduceIte, Nat.reduceEqDiff, Nat.reduceAdd, Nat.reduceSub, Nat.reduceMul, Nat.reduceLT, Nat.reduceLeDiff, Nat.reducePow, Int.reduceToNat, Int.reduceLT, Int.reduceLE, Int.reduceEq, Int.reduceNe, Int.reduceAdd, Int.reduceSub, Int.reduceMul, Int.reduceNeg]
  refine cd_dec (fun h => ?_) (fun h => ?_)
  · simp only [go_sem, reduceIte, Nat.reduceEqDiff, Nat.reduceAdd, Nat.reduceSub, Nat.reduceMul, Nat.reduceLT, Nat.reduceLeDiff, Nat.reducePow, Int.reduceToNat, Int.reduceLT, Int.reduceLE, Int.reduceEq, Int.reduceNe, Int.reduceAdd, Int.reduceSub, Int.reduceMul, Int.reduceNeg]
    exact finK_exact ⟨by simp [tri, readU, h], rfl, rfl⟩
  · simp only [go_sem, reduceIte, Nat.reduceEqDiff, Nat.reduceAdd, Nat.reduceSub, Nat.reduceMul, Nat.reduceLT, Nat.reduceLeDiff, Nat.reducePow, Int.reduceToNat, Int.reduceLT, Int.reduceLE, Int.reduceEq, Int.reduceNe, Int.reduceAdd, Int.reduceSub, Int.reduceMul, Int.reduceNeg]
    obtain ⟨k, rfl⟩ : ∃ k : Nat, at_ = k := ⟨at_.toNat, by omega⟩
    refine ⟨⟨by omega, by omega, by omega⟩, ?_⟩
    have hk : k ≤ b.length := by omega
    have hl : (b.drop k).length = b.length - k := by simp
    refine vwq_loop (fun s => ∃ (tk' : Tk) (i n : Nat), s.σ 1 = .int .i64 k ∧ s.σ 22 = .sl tk' (bs (b.drop k)) ∧ s.σ 23 = .int .i64 (b.drop k).length ∧ s.σ 24 = .int .i64 i ∧ s.σ 7 = .int .u64 n ∧ s.σ 8 = .int .i64 6 ∧ s.β = Heap.nil ∧ s.ω = [] ∧ i ≤ (b.drop k).length ∧ i ≤ 9 ∧ n < 2 ^ (7 * i) ∧ rd k ((b.drop k).drop i) i n = rd k (b.drop k) 0 0) (fun s => 9 - (ival (s.σ 24)).toNat) ?_ ?_
    · have e : List.take (b.length - (k : Int).toNat) (List.drop (k : Int).toNat b) = b.drop k := by
        have : (k : Int).toNat = k := rfl
        rw [this]; exact List.take_of_length_le (by simp)
      refine ⟨.none, 0, 0, rfl, ?_, ?_, rfl, rfl, rfl, rfl, rfl, by omega, by omega, by simp, by simp⟩
      · show D.sl .none (bs (List.take (b.length - (k : Int).toNat) (List.drop (k : Int).toNat b))) = _
        rw [e]
      · show D.int .i64 (List.take (b.length - (k : Int).toNat) (List.drop (k : Int).toNat b)).length = _
        rw [e]
    rintro σ β ω ⟨tk', i, n, h1, h22, h23, h24, h7, h8, rfl, rfl, hi, hi9, hn, hrd⟩
    dsimp only at h1 h22 h23 h24 h7 h8
    simp only [go_sem, reduceIte, Nat.reduceEqDiff, Nat.reduceAdd, Nat.reduceSub, Nat.reduceMul, Nat.reduceLT, Nat.reduceLeDiff, Nat.reducePow, Int.reduceToNat, Int.reduceLT, Int.reduceLE, Int.reduceEq, Int.reduceNe, Int.reduceAdd, Int.reduceSub, Int.reduceMul, Int.reduceNeg, h1, h22, h23, h24, h7, h8]
    refine cd_dec (fun h => ?_) (fun h => ?_)
    · have hi' : i < (b.drop k).length := by omega
      simp only [go_sem, reduceIte, Nat.reduceEqDiff, Nat.reduceAdd, Nat.reduceSub, Nat.reduceMul, Nat.reduceLT, Nat.reduceLeDiff, Nat.reducePow, Int.reduceToNat, Int.reduceLT, Int.reduceLE, Int.reduceEq, Int.reduceNe, Int.reduceAdd, Int.reduceSub, Int.reduceMul, Int.reduceNeg, h1, h22, h23, h24, h7, h8, bs_at _ hi']
      have hc : (b.drop k).getD i 0 < 256 := by
        simp only [List.getD, List.getElem?_eq_getElem hi', Option.getD_some]
        exact hb _ (List.mem_of_mem_drop (List.getElem_mem hi'))
      have hdr : (b.drop k).drop i = (b.drop k).getD i 0 :: (b.drop k).drop (i + 1) := by
        rw [List.drop_eq_getElem_cons hi']
        simp [List.getD, List.getElem?_eq_getElem hi']
      generalize (b.drop k).getD i 0 = c at hc hdr ⊢
      rw [hdr] at hrd
      rw [wrap_i64 (x := 7 * (i : Int)) (by omega) (by omega)]
      have hru : readU b k = rd k (c :: (b.drop k).drop (i + 1)) i n := by
        unfold readU
        rw [if_neg (by omega)]
        exact hrd.symm
      refine ⟨⟨by omega, by omega⟩, by omega, cd_dec (fun h2 => ?_) (fun h2 => ?_)⟩
      · simp only [go_sem, reduceIte, Nat.reduceEqDiff, Nat.reduceAdd, Nat.reduceSub, Nat.reduceMul, Nat.reduceLT, Nat.reduceLeDiff, Nat.reducePow, Int.reduceToNat, Int.reduceLT, Int.reduceLE, Int.reduceEq, Int.reduceNe, Int.reduceAdd, Int.reduceSub, Int.reduceMul, Int.reduceNeg, h1, h22, h23, h24, h7, h8]
        have h3 : 128 ≤ c ∧ i ≠ 9 := by omega
        rw [wrap_i64 (x := (i : Int) + 1) (by omega) (by omega), acc n c i hc hi9 hn (by omega)]
        refine ⟨⟨tk', i + 1, n + 2 ^ (7 * i) * (c % 128), rfl, rfl, rfl, by omega, by omega, ?_, ?_⟩, by omega⟩
        · have e : 2 ^ (7 * (i + 1)) = 2 ^ (7 * i) * 128 := by rw [Nat.mul_add, Nat.pow_add]
          have h4 : 2 ^ (7 * i) * (c % 128) ≤ 2 ^ (7 * i) * 127 := Nat.mul_le_mul_left _ (by omega)
          omega
        · rw [← hrd]
          simp only [rd, if_pos h3]
      · simp only [go_sem, reduceIte, Nat.reduceEqDiff, Nat.reduceAdd, Nat.reduceSub, Nat.reduceMul, Nat.reduceLT, Nat.reduceLeDiff, Nat.reducePow, Int.reduceToNat, Int.reduceLT, Int.reduceLE, Int.reduceEq, Int.reduceNe, Int.reduceAdd, Int.reduceSub, Int.reduceMul, Int.reduceNeg, h1, h22, h23, h24, h7, h8]
        have h3 : ¬ (128 ≤ c ∧ i ≠ 9) := by omega
        simp only [rd, if_neg h3] at hru
        have bad : (i = 9 ∧ 1 < c) ∨ (c = 0 ∧ 0 < i) → readU b k = (0, 0, 5) := fun h => by rw [hru, if_pos h]
        refine cd_dec (fun h4 => ?_) (fun h4 => ?_)
        · simp only [go_sem, reduceIte, Nat.reduceEqDiff, Nat.reduceAdd, Nat.reduceSub, Nat.reduceMul, Nat.reduceLT, Nat.reduceLeDiff, Nat.reducePow, Int.reduceToNat, Int.reduceLT, Int.reduceLE, Int.reduceEq, Int.reduceNe, Int.reduceAdd, Int.reduceSub, Int.reduceMul, Int.reduceNeg, h1, h22, h23, h24, h7, h8]
          refine cd_dec (fun h5 => ?_) (fun h5 => absurd h4 h5)
          simp only [go_sem, reduceIte, Nat.reduceEqDiff, Nat.reduceAdd, Nat.reduceSub, Nat.reduceMul, Nat.reduceLT, Nat.reduceLeDiff, Nat.reducePow, Int.reduceToNat, Int.reduceLT, Int.reduceLE, Int.reduceEq, Int.reduceNe, Int.reduceAdd, Int.reduceSub, Int.reduceMul, Int.reduceNeg, h1, h22, h23, h24, h7, h8]
          exact finK_exact ⟨by rw [bad (by omega)]; rfl, rfl, rfl⟩
        · simp only [go_sem, reduceIte, Nat.reduceEqDiff, Nat.reduceAdd, Nat.reduceSub, Nat.reduceMul, Nat.reduceLT, Nat.reduceLeDiff, Nat.reducePow, Int.reduceToNat, Int.reduceLT, Int.reduceLE, Int.reduceEq, Int.reduceNe, Int.reduceAdd, Int.reduceSub, Int.reduceMul, Int.reduceNeg, h1, h22, h23, h24, h7, h8]
          refine cd_dec (fun h5 => ?_) (fun h5 => ?_)
          · simp only [go_sem, reduceIte, Nat.reduceEqDiff, Nat.reduceAdd, Nat.reduceSub, Nat.reduceMul, Nat.reduceLT, Nat.reduceLeDiff, Nat.reducePow, Int.reduceToNat, Int.reduceLT, Int.reduceLE, Int.reduceEq, Int.reduceNe, Int.reduceAdd, Int.reduceSub, Int.reduceMul, Int.reduceNeg, h1, h22, h23, h24, h7, h8]
            exact finK_exact ⟨by rw [bad (by omega)]; rfl, rfl, rfl⟩
          · simp only [go_sem, reduceIte, Nat.reduceEqDiff, Nat.reduceAdd, Nat.reduceSub, Nat.reduceMul, Nat.reduceLT, Nat.reduceLeDiff, Nat.reducePow, Int.reduceToNat, Int.reduceLT, Int.reduceLE, Int.reduceEq, Int.reduceNe, Int.reduceAdd, Int.reduceSub, Int.reduceMul, Int.reduceNeg, h1, h22, h23, h24, h7, h8]
            have h6 : ¬ ((i = 9 ∧ 1 < c) ∨ (c = 0 ∧ 0 < i)) := by omega
            rw [if_neg h6] at hru
            rw [wrap_i64 (x := (k : Int) + i) (by omega) (by omega), wrap_i64 (by omega) (by omega), acc n c i hc hi9 hn (by omega), hru]
            exact finK_exact ⟨rfl, rfl, rfl⟩
    · simp only [go_sem, reduceIte, Nat.reduceEqDiff, Nat.reduceAdd, Nat.reduceSub, Nat.reduceMul, Nat.reduceLT, Nat.reduceLeDiff, Nat.reducePow, Int.reduceToNat, Int.reduceLT, Int.reduceLE, Int.reduceEq, Int.reduceNe, Int.reduceAdd, Int.reduceSub, Int.reduceMul, Int.reduceNeg, h1, h22, h23, h24, h7, h8]
      have hr : readU b k = (0, 0, 6) := by
        unfold readU
        rw [if_neg (by omega)]
        have : (k : Int).toNat = k := rfl
        rw [this, ← hrd, List.drop_of_length_le (by omega)]
        rfl
      exact finK_exact ⟨by rw [hr]; rfl, rfl, rfl⟩

structure RdOk (k : Nat) (len : Nat) (r : Nat × Nat × Nat) : Prop where
  val : r.1 < 18446744073709551616
  ok : r.2.2 = 0 → k < r.2.1 ∧ r.2.1 ≤ k + len
  bad : r.2.2 ≠ 0 → r.1 = 0 ∧ r.2.1 = 0
  err : r.2.2 ≤ 6

theorem rd_spec (k : Nat) : ∀ (l : List Nat) (i n : Nat), i ≤ 9 → n < 2 ^ (7 * i) → (∀ c ∈ l, c < 256) → RdOk (k + i) l.length (rd k l i n)
  | [], i, n, _, _, _ => ⟨by simp [rd], fun h => by simp [rd] at h, fun _ => by simp [rd], by simp [rd]⟩
  | c :: r, i, n, hi, hn, hb => by
    have hc := hb c (by simp)
    have e : 2 ^ (7 * (i + 1)) = 2 ^ (7 * i) * 128 := by rw [Nat.mul_add, Nat.pow_add]
    simp only [rd]
    split
    · rename_i h
      have h4 : 2 ^ (7 * i) * (c % 128) ≤ 2 ^ (7 * i) * 127 := Nat.mul_le_mul_left _ (by omega)
      have ih := rd_spec k r (i + 1) (n + 2 ^ (7 * i) * (c % 128)) (by omega) (by omega) (fun c hc => hb c (by simp [hc]))
      exact ⟨ih.val, fun h0 => by have := ih.ok h0; simp only [List.length_cons]; omega, ih.bad, ih.err⟩
    · split
      · exact ⟨by simp, fun h => by simp at h, fun _ => by simp, by simp⟩
      · rename_i h1 h2
        refine ⟨?_, fun _ => by simp only [List.length_cons]; omega, fun h => absurd rfl h, by simp⟩
        show n + 2 ^ (7 * i) * (c % 128) < 18446744073709551616
        by_cases h9 : i = 9
        · subst h9
          have h4 : 2 ^ (7 * 9) * (c % 128) ≤ 2 ^ (7 * 9) * 1 := Nat.mul_le_mul_left _ (by omega)
          omega
        · have h4 : 2 ^ (7 * i) * (c % 128) ≤ 2 ^ (7 * i) * 127 := Nat.mul_le_mul_left _ (by omega)
          have h5 : 2 ^ (7 * i) ≤ 2 ^ 56 := Nat.pow_le_pow_right (by omega) (by omega)
          omega

theorem readU_spec (b : List Nat) (at_ : Int) (hb : Byt b) : RdOk at_.toNat (b.length - at_.toNat) (readU b at_) := by
  unfold readU
  split
  · exact ⟨by simp, fun h => by simp at h, fun _ => by simp, by simp⟩
  · have := rd_spec at_.toNat (b.drop at_.toNat) 0 0 (by omega) (by simp) (fun c hc => hb c (List.mem_of_mem_drop hc))
    simpa using this

theorem readU_in {b : List Nat} {at_ : Int} (h : (readU b at_).2.2 = 0) : 0 ≤ at_ ∧ at_ ≤ b.length := by
  unfold readU at h
  split at h
  · simp at h
  · omega

def unzig (n : Nat) : Int := if n % 2 = 0 then (n / 2 : Nat) else -((n / 2 : Nat) : Int) - 1

theorem bop_and_one (n : Nat) (hn : n < 18446744073709551616) : bop .and .u64 n 1 = ((n % 2 : Nat) : Int) := by
  have h1 : (BitVec.ofInt 64 (n : Int) &&& BitVec.ofInt 64 1).toNat = n % 2 := by
    have h2 : (BitVec.ofInt 64 (1 : Int)).toNat = 2 ^ 1 - 1 := by decide
    rw [BitVec.toNat_and, h2, Nat.and_two_pow_sub_one_eq_mod, BitVec.toNat_ofInt]
    omega
  show IntKind.u64.wrap ((BitVec.ofInt 64 (n : Int) &&& BitVec.ofInt 64 1).toNat : Int) = _
  rw [h1, wrap_u64]
  omega

theorem wrap_i64_big {x : Int} (h1 : 9223372036854775808 ≤ x) (h2 : x < 18446744073709551616) : IntKind.i64.wrap x = x - 18446744073709551616 := by
  have h : IntKind.i64.signed = true := rfl
  have e0 : IntKind.i64.bits = 64 := rfl
  have e1 : (2 ^ 64 : Int) = 18446744073709551616 := rfl
  have e2 : (2 ^ (64 - 1) : Int) = 9223372036854775808 := rfl
  simp only [IntKind.wrap, h, Bool.true_and, e0, e1, e2, decide_eq_true_eq]
  split <;> omega

theorem xor_unzig (n : Nat) (hn : n < 18446744073709551616) :
    bop .xor .i64 (IntKind.i64.wrap ((n : Int) / 2 ^ shb .u64 1)) (IntKind.i64.wrap (0 - IntKind.i64.wrap (bop .and .u64 n 1))) = unzig n := by
  have e1 : shb .u64 1 = 1 := rfl
  have e2 : (n : Int) / 2 ^ 1 = ((n / 2 : Nat) : Int) := by omega
  rw [e1, e2, bop_and_one n hn, wrap_i64 (x := ((n / 2 : Nat) : Int)) (by omega) (by omega), wrap_i64 (x := ((n % 2 : Nat) : Int)) (by omega) (by omega), wrap_i64 (x := 0 - ((n % 2 : Nat) : Int)) (by omega) (by omega)]
  unfold unzig
  split
  · rename_i h
    have e3 : (0 - ((n % 2 : Nat) : Int)) = 0 := by omega
    rw [e3]
    show IntKind.i64.wrap ((BitVec.ofInt 64 ((n / 2 : Nat) : Int) ^^^ BitVec.ofInt 64 0).toNat : Int) = _
    have h1 : (BitVec.ofInt 64 ((n / 2 : Nat) : Int) ^^^ BitVec.ofInt 64 0).toNat = n / 2 := by
      have : BitVec.ofInt 64 0 = 0#64 := rfl
      rw [this, BitVec.xor_zero, BitVec.toNat_ofInt]
      omega
    rw [h1, wrap_i64 (by omega) (by omega)]
  · rename_i h
    have e3 : (0 - ((n % 2 : Nat) : Int)) = -1 := by omega
    rw [e3]
    show IntKind.i64.wrap ((BitVec.ofInt 64 ((n / 2 : Nat) : Int) ^^^ BitVec.ofInt 64 (-1)).toNat : Int) = _
    have h1 : (BitVec.ofInt 64 ((n / 2 : Nat) : Int) ^^^ BitVec.ofInt 64 (-1)).toNat = 18446744073709551615 - n / 2 := by
      have : BitVec.ofInt 64 (-1) = BitVec.allOnes 64 := by decide
      rw [this, BitVec.xor_allOnes, BitVec.toNat_not, BitVec.toNat_ofInt]
      omega
    rw [h1, wrap_i64_big (by omega) (by omega)]
    omega

def triS (x : Nat × Nat × Nat) : D := .tup [.int .i64 (unzig x.1), .int .i64 x.2.1, .int .i64 x.2.2]

theorem ReadS_ok (tk : Tk) (b : List Nat) (at_ : Int) (hb : Byt b) : VN P G 91 [.sl tk (bs b), .int .i64 at_] (triS (readU b at_)) := by
  have hU := ReadU_ok (G := G) tk b at_ hb
  have hv := (readU_spec b at_ hb).val
  generalize readU b at_ = r at hU hv ⊢
  obtain ⟨v, nx, er⟩ := r
  simp only [tri, triS] at hU hv ⊢
  have hz := xor_unzig v hv
  generalize unzig v = z at hz ⊢
  refine VC.ofs (fun | 99999999 => [(0, [0, 1, 4, 5, 6, 7, 8, 9])] | _ => []) [4, 5, 6] mixed Tryz.func91 rfl rfl rfl rfl (by decide +kernel) (by simp) ?_
  simp only [go_sem, reduceIte, Nat.reduceEqDiff, Nat.reduceAdd, Nat.reduceSub, Nat.reduceMul, Nat.reduceLT, Nat.reduceLeDiff, Nat.reducePow, Int.reduceToNat, Int.reduceLT, Int.reduceLE, Int.reduceEq, Int.reduceNe, Int.reduceAdd, Int.reduceSub, Int.reduceMul, Int.reduceNeg]
  refine cK_vn hU ?_
  simp only [go_sem, reduceIte, Nat.reduceEqDiff, Nat.reduceAdd, Nat.reduceSub, Nat.reduceMul, Nat.reduceLT, Nat.reduceLeDiff, Nat.reducePow, Int.reduceToNat, Int.reduceLT, Int.reduceLE, Int.reduceEq, Int.reduceNe, Int.reduceAdd, Int.reduceSub, Int.reduceMul, Int.reduceNeg, hz]
  exact finK_exact ⟨rfl, rfl, rfl⟩

def spanF (b : List Nat) (at_ : Int) : Nat × Nat × Nat :=
  let r := readU b at_
  if r.2.2 ≠ 0 then (0, 0, r.2.2) else if 1048576 < r.1 then (0, 0, 2) else if b.length < r.2.1 + r.1 then (0, 0, 6) else (r.2.1, r.2.1 + r.1, 0)

def triI (x : Nat × Nat × Nat) : D := .tup [.int .i64 x.1, .int .i64 x.2.1, .int .i64 x.2.2]

theorem span_ok (tk : Tk) (b : List Nat) (at_ : Int) (hb : Byt b) : VN P G 135 [.sl tk (bs b), .int .i64 at_] (triI (spanF b at_)) := by
  refine VC.small fun hsm => ?_
  have hx : b.length ≤ 281474976710656 := by have := hsm (.sl tk (bs b)) (by simp); simpa [Small, bs_length, mostLen] using this
  have hU := ReadU_ok (G := G) tk b at_ hb
  have hs := readU_spec b at_ hb
  have hin := readU_in (b := b) (at_ := at_)
  unfold spanF
  generalize readU b at_ = r at hU hs hin ⊢
  obtain ⟨v, nx, er⟩ := r
  obtain ⟨h1, h2, h3, h4⟩ := hs
  simp only [tri] at hU h1 h2 h3 h4 hin ⊢
  refine VC.ofs (fun | 99999999 => [(0, [0, 1, 4, 5, 6, 7, 8, 9, 17, 21, 24])] | _ => []) [4, 5, 6] mixed Tryz.func135 rfl rfl rfl rfl (by decide +kernel) (by simp) ?_
  simp only [go_sem, reduceIte, Nat.reduceEqDiff, Nat.reduceAdd, Nat.reduceSub, Nat.reduceMul, Nat.reduceLT, Nat.reduceLeDiff, Nat.reducePow, Int.reduceToNat, Int.reduceLT, Int.reduceLE, Int.reduceEq, Int.reduceNe, Int.reduceAdd, Int.reduceSub, Int.reduceMul, Int.reduceNeg]
  refine cK_vn hU ?_
  simp only [go_sem, reduceIte, Nat.reduceEqDiff, Nat.reduceAdd, Nat.reduceSub, Nat.reduceMul, Nat.reduceLT, Nat.reduceLeDiff, Nat.reducePow, Int.reduceToNat, Int.reduceLT, Int.reduceLE, Int.reduceEq, Int.reduceNe, Int.reduceAdd, Int.reduceSub, Int.reduceMul, Int.reduceNeg]
  refine cd_dec (fun h => ?_) (fun h => ?_)
  · simp only [go_sem, reduceIte, Nat.reduceEqDiff, Nat.reduceAdd, Nat.reduceSub, Nat.reduceMul, Nat.reduceLT, Nat.reduceLeDiff, Nat.reducePow, Int.reduceToNat, Int.reduceLT, Int.reduceLE, Int.reduceEq, Int.reduceNe, Int.reduceAdd, Int.reduceSub, Int.reduceMul, Int.reduceNeg]
    have : er ≠ 0 := by omega
    rw [if_pos this]
    exact finK_exact ⟨rfl, rfl, rfl⟩
  · simp only [go_sem, reduceIte, Nat.reduceEqDiff, Nat.reduceAdd, Nat.reduceSub, Nat.reduceMul, Nat.reduceLT, Nat.reduceLeDiff, Nat.reducePow, Int.reduceToNat, Int.reduceLT, Int.reduceLE, Int.reduceEq, Int.reduceNe, Int.reduceAdd, Int.reduceSub, Int.reduceMul, Int.reduceNeg]
    have he : ¬ er ≠ 0 := by omega
    have he0 : er = 0 := by omega
    rw [if_neg he]
    refine cd_dec (fun h5 => ?_) (fun h5 => ?_)
    · simp only [go_sem, reduceIte, Nat.reduceEqDiff, Nat.reduceAdd, Nat.reduceSub, Nat.reduceMul, Nat.reduceLT, Nat.reduceLeDiff, Nat.reducePow, Int.reduceToNat, Int.reduceLT, Int.reduceLE, Int.reduceEq, Int.reduceNe, Int.reduceAdd, Int.reduceSub, Int.reduceMul, Int.reduceNeg]
      rw [if_pos (by omega)]
      exact finK_exact ⟨rfl, rfl, rfl⟩
    · simp only [go_sem, reduceIte, Nat.reduceEqDiff, Nat.reduceAdd, Nat.reduceSub, Nat.reduceMul, Nat.reduceLT, Nat.reduceLeDiff, Nat.reducePow, Int.reduceToNat, Int.reduceLT, Int.reduceLE, Int.reduceEq, Int.reduceNe, Int.reduceAdd, Int.reduceSub, Int.reduceMul, Int.reduceNeg]
      rw [if_neg (by omega)]
      have := h2 he0
      have := hin he0
      rw [wrap_i64 (x := (v : Int)) (by omega) (by omega), wrap_i64 (x := (b.length : Int) - nx) (by omega) (by omega)]
      refine cd_dec (fun h6 => ?_) (fun h6 => ?_)
      · simp only [go_sem, reduceIte, Nat.reduceEqDiff, Nat.reduceAdd, Nat.reduceSub, Nat.reduceMul, Nat.reduceLT, Nat.reduceLeDiff, Nat.reducePow, Int.reduceToNat, Int.reduceLT, Int.reduceLE, Int.reduceEq, Int.reduceNe, Int.reduceAdd, Int.reduceSub, Int.reduceMul, Int.reduceNeg]
        rw [if_pos (by omega)]
        exact finK_exact ⟨rfl, rfl, rfl⟩
      · simp only [go_sem, reduceIte, Nat.reduceEqDiff, Nat.reduceAdd, Nat.reduceSub, Nat.reduceMul, Nat.reduceLT, Nat.reduceLeDiff, Nat.reducePow, Int.reduceToNat, Int.reduceLT, Int.reduceLE, Int.reduceEq, Int.reduceNe, Int.reduceAdd, Int.reduceSub, Int.reduceMul, Int.reduceNeg]
        rw [if_neg (by omega)]
        rw [wrap_i64 (x := (v : Int)) (by omega) (by omega), wrap_i64 (x := (nx : Int) + v) (by omega) (by omega)]
        exact finK_exact ⟨rfl, rfl, rfl⟩

theorem spanF_spec (b : List Nat) (at_ : Int) (hb : Byt b) : (spanF b at_).1 ≤ (spanF b at_).2.1 ∧ (spanF b at_).2.1 ≤ b.length := by
  have hs := readU_spec b at_ hb
  have hin := readU_in (b := b) (at_ := at_)
  unfold spanF
  generalize readU b at_ = r at hs hin ⊢
  obtain ⟨v, nx, er⟩ := r
  obtain ⟨h1, h2, h3, h4⟩ := hs
  simp only at h1 h2 h3 h4 hin ⊢
  split
  · simp
  · split
    · simp
    · split
      · simp
      · simp only; omega

def strN (l : List Nat) : ByteArray := strOfI ((bs l).map byteOfD)

def triT (b : List Nat) (x : Nat × Nat × Nat) : D := .tup [.str (strN ((b.drop x.1).take (x.2.1 - x.1))), .int .i64 x.2.1, .int .i64 x.2.2]

theorem bs_isByte (l : List Nat) (h : ∀ c ∈ l, c < 256) : (bs l).all isByte = true := by
  rw [List.all_eq_true]
  intro d hd
  simp only [bs, List.mem_map] at hd
  obtain ⟨c, hc, rfl⟩ := hd
  rfl

theorem ReadText_ok (tk : Tk) (b : List Nat) (at_ : Int) (hb : Byt b) : VN P G 93 [.sl tk (bs b), .int .i64 at_] (triT b (spanF b at_)) := by
  have hU := span_ok (G := G) tk b at_ hb
  have hs := spanF_spec b at_ hb
  generalize spanF b at_ = r at hU hs ⊢
  obtain ⟨f, t, er⟩ := r
  obtain ⟨h1, h2⟩ := hs
  simp only [triI, triT] at hU h1 h2 ⊢
  refine VC.ofs (fun | 99999999 => [(0, [0, 1, 4, 5, 6, 7, 8, 9])] | _ => []) [4, 5, 6] mixed Tryz.func93 rfl rfl rfl rfl (by decide +kernel) (by simp) ?_
  simp only [go_sem, reduceIte, Nat.reduceEqDiff, Nat.reduceAdd, Nat.reduceSub, Nat.reduceMul, Nat.reduceLT, Nat.reduceLeDiff, Nat.reducePow, Int.reduceToNat, Int.reduceLT, Int.reduceLE, Int.reduceEq, Int.reduceNe, Int.reduceAdd, Int.reduceSub, Int.reduceMul, Int.reduceNeg]
  refine cK_vn hU ?_
  simp only [go_sem, reduceIte, Nat.reduceEqDiff, Nat.reduceAdd, Nat.reduceSub, Nat.reduceMul, Nat.reduceLT, Nat.reduceLeDiff, Nat.reducePow, Int.reduceToNat, Int.reduceLT, Int.reduceLE, Int.reduceEq, Int.reduceNe, Int.reduceAdd, Int.reduceSub, Int.reduceMul, Int.reduceNeg]
  exact ⟨by omega, bs_isByte _ fun c hc => hb c (List.mem_of_mem_drop (List.mem_of_mem_take hc)), finK_exact ⟨rfl, rfl, rfl⟩⟩

theorem byt_all {l : List Nat} (h : l.all (· < 256) = true) : Byt l := fun c hc => of_decide_eq_true (List.all_eq_true.1 h c hc)
theorem U_vn (tk : Tk) (b : List Nat) (n : Nat) (hb : b.length ≤ 2^45) (he : (enc n).length ≤ 2^45) : VN P G 39 [.sl tk (bs b), .int .u64 n] (.sl .none (bs (b ++ enc n))) := (U_ok tk b n hb he).vn fun t => rfl
theorem S_vn (tk : Tk) (b : List Nat) (k : Int) (hk : -9223372036854775808 ≤ k ∧ k < 9223372036854775808) (hb : b.length ≤ 2^45) (he : (enc (zig k)).length ≤ 2^45) : VN P G 42 [.sl tk (bs b), .int .i64 k] (.sl .none (bs (b ++ enc (zig k)))) := (S_ok tk b k hk hb he).vn fun t => rfl
theorem Text_vn (tk : Tk) (b : List Nat) (s : ByteArray) (hb : b.length + s.size ≤ 2^45) (he : (enc s.size).length ≤ 2^44) : VN P G 41 [.sl tk (bs b), .str s] (.sl .none (bs (b ++ enc s.size ++ sb s))) := (Text_ok tk b s hb he).vn fun t => rfl
theorem enc_len_pow : ∀ (k n : Nat), n < 128 ^ (k + 1) → (enc n).length ≤ k + 1
  | 0, n, h => by rw [enc_small (by simpa using h)]; simp
  | k + 1, n, h => by
    by_cases hn : n < 128
    · rw [enc_small hn]; simp
    · rw [enc_big (by omega)]
      have := enc_len_pow k (n / 128) (by rw [Nat.pow_succ] at h; omega)
      simp only [List.length_cons]
      omega
theorem enc_len {n : Nat} (h : n < 18446744073709551616) : (enc n).length ≤ 10 := enc_len_pow 9 n (by omega)
theorem U_vn' (tk : Tk) (b : List Nat) (n : Nat) (r : List Nat) (hb : b.length ≤ 2^45) (hn : n < 18446744073709551616) (he : b ++ enc n = r) : VN P G 39 [.sl tk (bs b), .int .u64 n] (.sl .none (bs r)) := by
  have := U_vn (G := G) tk b n hb (by have := enc_len hn; omega)
  rw [he] at this
  exact this
theorem S_vn' (tk : Tk) (b : List Nat) (k : Int) (r : List Nat) (hk : -9223372036854775808 ≤ k ∧ k < 9223372036854775808) (hb : b.length ≤ 2^45) (he : b ++ enc (zig k) = r) : VN P G 42 [.sl tk (bs b), .int .i64 k] (.sl .none (bs r)) := by
  have hz : zig k < 18446744073709551616 := by unfold zig; split <;> omega
  have := S_vn (G := G) tk b k hk hb (by have := enc_len hz; omega)
  rw [he] at this
  exact this
theorem Text_vn' (tk : Tk) (b : List Nat) (s : ByteArray) (r : List Nat) (hb : b.length + s.size ≤ 2^45) (he : b ++ enc s.size ++ sb s = r) : VN P G 41 [.sl tk (bs b), .str s] (.sl .none (bs r)) := by
  have := Text_vn (G := G) tk b s hb (by have := enc_len (n := s.size) (by omega); omega)
  rw [he] at this
  exact this
structure Val where
  n : Nat
  k : Int
  s : ByteArray
  p : List Nat
def Val.cells (v : Val) : List D := [.int .u64 v.n, .int .i64 v.k, .str v.s, .sl .none (bs v.p)]
structure Val.ok (v : Val) : Prop where
  n : v.n < 18446744073709551616
  k : -9223372036854775808 ≤ v.k ∧ v.k < 9223372036854775808
  s : v.s.size ≤ 1048576
  p : v.p.length ≤ 1048576
  b : Byt v.p
theorem zig_lt {k : Int} (h : -9223372036854775808 ≤ k ∧ k < 9223372036854775808) : zig k < 18446744073709551616 := by unfold zig; split <;> omega

theorem byt_enc : ∀ n, Byt (enc n) := fun n => by
  induction n using Nat.strongRecOn with
  | _ n ih =>
    by_cases h : n < 128
    · rw [enc_small h]; intro c hc; simp at hc; omega
    · rw [enc_big (by omega)]
      intro c hc
      rcases List.mem_cons.1 hc with rfl | hc
      · omega
      · exact ih (n / 128) (by omega) c hc
theorem Byt.append {a b : List Nat} (h : Byt a) (h' : Byt b) : Byt (a ++ b) := fun c hc => by
  rcases List.mem_append.1 hc with hc | hc
  · exact h c hc
  · exact h' c hc
theorem Byt.take {a : List Nat} (h : Byt a) (n : Nat) : Byt (a.take n) := fun c hc => h c (List.mem_of_mem_take hc)
theorem Byt.drop {a : List Nat} (h : Byt a) (n : Nat) : Byt (a.drop n) := fun c hc => h c (List.mem_of_mem_drop hc)
theorem Byt.nil : Byt [] := fun c hc => by simp at hc

theorem rd_enc (k : Nat) (after : List Nat) : ∀ (m i acc : Nat), i ≤ 9 → m < 2 ^ (64 - 7 * i) → (0 < i → 0 < m) → rd k (enc m ++ after) i acc = (acc + 2 ^ (7 * i) * m, k + i + (enc m).length, 0) := fun m => by
  induction m using Nat.strongRecOn with
  | _ m ih =>
    intro i acc hi hm h0
    by_cases h : m < 128
    · rw [enc_small h]
      have h1 : ¬ (128 ≤ m ∧ i ≠ 9) := by omega
      have h2 : ¬ ((i = 9 ∧ 1 < m) ∨ (m = 0 ∧ 0 < i)) := by
        rintro (⟨rfl, h3⟩ | ⟨rfl, h3⟩)
        · have : m < 2 := by simpa using hm
          omega
        · have := h0 h3; omega
      simp only [List.singleton_append, rd, if_neg h1, if_neg h2, List.length_singleton, Nat.mod_eq_of_lt h]
    · have h9 : i ≠ 9 := by
        rintro rfl
        have : m < 2 := by simpa using hm
        omega
      have hm' : m / 128 < 2 ^ (64 - 7 * (i + 1)) := by
        have e : 64 - 7 * i = (64 - 7 * (i + 1)) + 7 := by omega
        rw [e, Nat.pow_add] at hm
        exact Nat.div_lt_of_lt_mul (by rw [Nat.mul_comm]; exact hm)
      have := ih (m / 128) (by omega) (i + 1) (acc + 2 ^ (7 * i) * (m % 128)) (by omega) hm' (by omega)
      rw [enc_big (by omega)]
      have h1 : 128 ≤ m % 128 + 128 ∧ i ≠ 9 := ⟨by omega, h9⟩
      have h2 : (m % 128 + 128) % 128 = m % 128 := by omega
      simp only [List.cons_append, rd, if_pos h1, h2, this, List.length_cons]
      have e : 2 ^ (7 * (i + 1)) = 2 ^ (7 * i) * 128 := by rw [Nat.mul_add, Nat.pow_add]
      have e2 : 2 ^ (7 * i) * m = 2 ^ (7 * i) * (m % 128) + 2 ^ (7 * i) * 128 * (m / 128) := by
        rw [Nat.mul_assoc, ← Nat.mul_add]; congr 1; omega
      rw [e, e2]
      simp only [Prod.mk.injEq, and_true]
      omega

theorem readU_enc (before after : List Nat) (n : Nat) (hn : n < 18446744073709551616) : readU (before ++ enc n ++ after) before.length = (n, before.length + (enc n).length, 0) := by
  unfold readU
  rw [if_neg (by simp; omega)]
  have e : ((before.length : Nat) : Int).toNat = before.length := rfl
  rw [e, List.append_assoc, List.drop_left, rd_enc _ _ n 0 0 (by omega) (by simpa using hn) (by omega)]
  simp

theorem unzig_zig (k : Int) : unzig (zig k) = k := by
  unfold unzig zig
  split <;> split <;> omega

theorem spanF_enc (before p after : List Nat) (hp : p.length ≤ 1048576) : spanF (before ++ enc p.length ++ p ++ after) before.length = (before.length + (enc p.length).length, before.length + (enc p.length).length + p.length, 0) := by
  unfold spanF
  have h := readU_enc before (p ++ after) p.length (by omega)
  rw [← List.append_assoc] at h
  simp only [h]
  rw [if_neg (by simp), if_neg (by omega), if_neg (by simp; omega)]

theorem strN_sb (s : ByteArray) : strN (sb s) = s := by
  have h1 : ∀ (l : List UInt8) (r : ByteArray), ((l.map fun c => (c.toNat : Int)).foldl (fun r n => r.push (UInt8.ofNat n.toNat)) r).data.toList = r.data.toList ++ l := by
    intro l
    induction l with
    | nil => intro r; simp
    | cons c l ih =>
      intro r
      rw [List.map_cons, List.foldl_cons, ih]
      have : UInt8.ofNat ((c.toNat : Int)).toNat = c := by simp
      rw [this]
      simp [ByteArray.push]
  refine WideShapes.bytes_inj ?_
  have e : (bs (sb s)).map byteOfD = s.data.toList.map fun c => (c.toNat : Int) := by
    simp [bs, sb, byteOfD, Function.comp_def]
  unfold strN strOfI
  rw [e, h1]
  rfl

theorem byt_sb (s : ByteArray) : Byt (sb s) := fun c hc => by
  simp only [sb, List.mem_map] at hc
  obtain ⟨x, _, rfl⟩ := hc
  exact x.toNat_lt

theorem rd_uniq (k : Nat) : ∀ (l : List Nat) (i acc v nx : Nat), (∀ c ∈ l, c < 256) → i ≤ 9 → rd k l i acc = (v, nx, 0) → ∃ m, v = acc + 2 ^ (7 * i) * m ∧ (0 < i → 0 < m) ∧ k + i < nx ∧ nx ≤ k + i + l.length ∧ enc m = l.take (nx - (k + i))
  | [], i, acc, v, nx, _, _, h => by simp [rd] at h
  | c :: r, i, acc, v, nx, hb, hi, h => by
    have hc := hb c (by simp)
    simp only [rd] at h
    split at h
    · rename_i h1
      obtain ⟨m, e1, e2, e3, e4, e5⟩ := rd_uniq k r (i + 1) _ v nx (fun c hc => hb c (by simp [hc])) (by omega) h
      have hm := e2 (by omega)
      refine ⟨m * 128 + c % 128, ?_, fun _ => by omega, by omega, by simp only [List.length_cons]; omega, ?_⟩
      · rw [e1]
        have e : 2 ^ (7 * (i + 1)) = 2 ^ (7 * i) * 128 := by rw [Nat.mul_add, Nat.pow_add]
        rw [e, Nat.mul_add, ← Nat.mul_assoc, Nat.mul_assoc, Nat.mul_comm 128 m, ← Nat.mul_assoc]
        omega
      · rw [enc_big (by omega)]
        have d1 : (m * 128 + c % 128) % 128 + 128 = c := by omega
        have d2 : (m * 128 + c % 128) / 128 = m := by omega
        have d3 : nx - (k + i) = (nx - (k + (i + 1))) + 1 := by omega
        rw [d1, d2, d3, List.take_succ_cons, e5]
    · split at h
      · simp at h
      · rename_i h1 h2
        simp only [Prod.mk.injEq, and_true] at h
        obtain ⟨rfl, rfl⟩ := h
        have hc2 : c < 128 := by omega
        refine ⟨c, by rw [Nat.mod_eq_of_lt hc2], fun _ => by omega, by omega, by simp only [List.length_cons]; omega, ?_⟩
        have d3 : k + i + 1 - (k + i) = 0 + 1 := by omega
        rw [enc_small hc2, d3, List.take_succ_cons, List.take_zero]

theorem readU_uniq {b : List Nat} {k : Nat} {v nx : Nat} (hb : Byt b) (hk : k ≤ b.length) (h : readU b k = (v, nx, 0)) : k < nx ∧ nx ≤ b.length ∧ b.take k ++ enc v = b.take nx := by
  unfold readU at h
  rw [if_neg (by omega)] at h
  have e : ((k : Nat) : Int).toNat = k := rfl
  rw [e] at h
  obtain ⟨m, e1, e2, e3, e4, e5⟩ := rd_uniq k (b.drop k) 0 0 v nx (fun c hc => hb c (List.mem_of_mem_drop hc)) (by omega) h
  simp only [Nat.mul_zero, Nat.pow_zero, Nat.one_mul, Nat.zero_add, Nat.add_zero, List.length_drop] at e1 e3 e4 e5
  subst e1
  refine ⟨e3, by omega, ?_⟩
  rw [e5, ← List.drop_take, ]
  have : b.take k = (b.take nx).take k := by rw [List.take_take, Nat.min_eq_left (by omega)]
  rw [this, List.take_append_drop]

theorem zig_unzig {n : Nat} : zig (unzig n) = n := by
  unfold unzig zig
  split <;> split <;> omega

theorem ne_self {α : Type} (a : α) : (a ≠ a) = False := by simp
theorem VN.tk {f : FuncId} {xs : List D} {rest : List D} {d : D} {tk : Tk} (h : VN P G f (.sl .none xs :: rest) d) : VN P G f (.sl tk xs :: rest) d := fun K w vargs hr ha => h K w vargs hr (by
  cases ha with
  | cons h1 h2 => exact .cons h1.er1 h2)

end Go.Proofs.YtpblgfgcoamgmaaGreatS
namespace Go.Proofs.YtpblgfgcoamgmaaGreatS
open Go Go.Proofs.YtpblgfgcoamgmaaGreatV

variable {G : Heap}

attribute [go_sem] ne_self Tryz.underlying4

structure Vl where
  null : Bool
  n : Int
  s : ByteArray
  deriving DecidableEq
def Vl.cells (v : Vl) : List D := [.bool v.null, .int .i64 v.n, .str v.s]
def Vl.d (v : Vl) : D := .agg v.cells

def cmpN (a b : Int) : Int := if a < b then -1 else if b < a then 1 else 0
def cmpS (a b : ByteArray) : Int := Lib.compareBytes a.data.toList b.data.toList
def cmpV (a b : Vl) : Int := if a.null ≠ b.null then (if a.null then -1 else 1) else if cmpN a.n b.n ≠ 0 then cmpN a.n b.n else cmpS a.s b.s

end Go.Proofs.YtpblgfgcoamgmaaGreatS
namespace Go.Proofs.YtpblgfgcoamgmaaGreatS
open Go Go.Proofs.YtpblgfgcoamgmaaGreatV

variable {G : Heap}

theorem sAt_nat (s : ByteArray) (j : Nat) : sAt s (j : Int) = ((s.data.toList.getD j 0).toNat : Int) := (rfl)
attribute [go_sem] sAt_nat Tryz.underlying9

theorem cmpB_take : ∀ (j : Nat) (x y : List UInt8), j ≤ x.length → j ≤ y.length → x.take j = y.take j → Lib.compareBytes x y = Lib.compareBytes (x.drop j) (y.drop j)
  | 0, x, y, _, _, _ => by simp
  | j + 1, [], _, h, _, _ => by simp at h
  | j + 1, _ :: _, [], _, h, _ => by simp at h
  | j + 1, a :: x, b :: y, h1, h2, h => by
    simp only [List.take_succ_cons, List.cons.injEq] at h
    obtain ⟨rfl, h⟩ := h
    have ih := cmpB_take j x y (by simpa using h1) (by simpa using h2) h
    conv => lhs; unfold Lib.compareBytes
    simp only [UInt8.lt_irrefl, if_false, List.drop_succ_cons]
    exact ih

theorem cmpB_at {x y : List UInt8} {j : Nat} (h1 : j < x.length) (h2 : j < y.length) (h : x.take j = y.take j) :
    Lib.compareBytes x y = (if (x.getD j 0).toNat < (y.getD j 0).toNat then -1 else if (y.getD j 0).toNat < (x.getD j 0).toNat then 1 else Lib.compareBytes x y) ∧ ((x.getD j 0).toNat = (y.getD j 0).toNat → x.take (j + 1) = y.take (j + 1)) := by
  have e1 : x.getD j 0 = x[j] := by simp [List.getD, h1]
  have e2 : y.getD j 0 = y[j] := by simp [List.getD, h2]
  rw [e1, e2]
  constructor
  · rw [cmpB_take j x y (by omega) (by omega) h, List.drop_eq_getElem_cons h1, List.drop_eq_getElem_cons h2]
    conv => lhs; unfold Lib.compareBytes
    simp only [UInt8.lt_iff_toNat_lt]
    split
    · rfl
    · split
      · rfl
      · rename_i q1 q2
        have e : x[j] = y[j] := UInt8.toNat_inj.1 (by omega)
        conv => rhs; unfold Lib.compareBytes
        simp only [e, UInt8.lt_irrefl, if_false]
  · intro e
    rw [List.take_add_one, List.take_add_one, h, List.getElem?_eq_getElem h1, List.getElem?_eq_getElem h2, UInt8.toNat_inj.1 e]
theorem cmpB_end {x y : List UInt8} (h : x.take (min x.length y.length) = y.take (min x.length y.length)) : Lib.compareBytes x y = if x.length < y.length then -1 else if y.length < x.length then 1 else 0 := by
  rw [cmpB_take _ x y (Nat.min_le_left _ _) (Nat.min_le_right _ _) h]
  rcases Nat.lt_trichotomy x.length y.length with h1 | h1 | h1
  · rw [Nat.min_eq_left (by omega), List.drop_length, if_pos h1]
    cases hd : y.drop x.length with
    | nil => have := congrArg List.length hd; simp at this; omega
    | cons a l => rfl
  · rw [h1, Nat.min_self, List.drop_length]
    rw [← h1, List.drop_length]
    simp [Lib.compareBytes]
  · rw [Nat.min_eq_right (by omega), List.drop_length, if_neg (by omega), if_pos h1]
    cases hd : x.drop y.length with
    | nil => have := congrArg List.length hd; simp at this; omega
    | cons a l => rfl

theorem VC.small2 {P : Program} {f : FuncId} {args : List D} {β : Heap} {ω : List Nat} {Φ : Out → Heap → List Nat → Prop} (h : (∀ d ∈ args, ∀ c ∈ d.cells, Small c) → VC P G f args β ω Φ) : VC P G f args β ω Φ :=
  fun K w vargs hr ha => h (fun d hd c hc => by
    obtain ⟨i, hi⟩ := List.getElem?_of_mem hd
    obtain ⟨v, _, hv⟩ := ha.get i d hi
    cases hv with
    | agg hl =>
      obtain ⟨j, hj⟩ := List.getElem?_of_mem hc
      obtain ⟨u, _, hu⟩ := hl.get j c hj
      exact hu.small
    | sl a b c' d' e => simp only [D.cells, List.mem_singleton] at hc; subst hc; exact (Rep.sl a b c' d' e).small
    | str s hs => simp only [D.cells, List.mem_singleton] at hc; subst hc; exact hs
    | _ => simp only [D.cells, List.mem_singleton] at hc; subst hc; trivial) K w vargs hr ha

set_option maxHeartbeats 4000000 in
theorem refCompare_ok (a b : Vl) : VN P G 170 [a.d, b.d] (.int .i64 (cmpV a b)) := by
  obtain ⟨an, ai, as_⟩ := a
  obtain ⟨bn, bi, bs_⟩ := b
  simp only [Vl.d, Vl.cells]
  refine VC.small2 fun hsm => ?_
  have z1 : as_.size ≤ 281474976710656 := hsm (.agg [.bool an, .int .i64 ai, .str as_]) (by simp) (.str as_) (by simp [D.cells])
  have z2 : bs_.size ≤ 281474976710656 := hsm (.agg [.bool bn, .int .i64 bi, .str bs_]) (by simp) (.str bs_) (by simp [D.cells])
  clear hsm
  refine VC.ofs (fun | 12 => [(0, []), (1, []), (2, []), (3, []), (4, []), (5, []), (6, []), (7, []), (8, [])] | 14 => [(0, []), (1, []), (2, []), (3, []), (4, []), (5, []), (6, []), (7, []), (8, [])] | 99999999 => [(0, [0, 1, 2, 3, 4, 5, 6, 14, 22, 28, 45, 56, 65, 72, 79])] | _ => []) [4] mixed Tryz.func170 rfl rfl rfl rfl (by decide +kernel) (by simp) ?_
  cases an <;> cases bn
  all_goals simp only [go_sem, reduceIte, Nat.reduceEqDiff, Nat.reduceAdd, Nat.reduceSub, Nat.reduceMul, Nat.reduceLT, Nat.reduceLeDiff, Nat.reducePow, Int.reduceToNat, Int.reduceLT, Int.reduceLE, Int.reduceEq, Int.reduceNe, Int.reduceAdd, Int.reduceSub, Int.reduceMul, Int.reduceNeg]
  all_goals intro b0
  all_goals refine new_1 fun b1 h1 h2 => ?_
  all_goals simp only [go_sem, reduceIte, Nat.reduceEqDiff, Nat.reduceAdd, Nat.reduceSub, Nat.reduceMul, Nat.reduceLT, Nat.reduceLeDiff, Nat.reducePow, Int.reduceToNat, Int.reduceLT, Int.reduceLE, Int.reduceEq, Int.reduceNe, Int.reduceAdd, Int.reduceSub, Int.reduceMul, Int.reduceNeg, h1, h2, beq_self_eq_true]
  all_goals first | exact finK_drop ⟨rfl, rfl, rfl⟩ | skip
  all_goals refine cd_dec (fun h => ?_) (fun h => ?_)
  all_goals simp only [go_sem, reduceIte, Nat.reduceEqDiff, Nat.reduceAdd, Nat.reduceSub, Nat.reduceMul, Nat.reduceLT, Nat.reduceLeDiff, Nat.reducePow, Int.reduceToNat, Int.reduceLT, Int.reduceLE, Int.reduceEq, Int.reduceNe, Int.reduceAdd, Int.reduceSub, Int.reduceMul, Int.reduceNeg, h1, h2]
  all_goals first | exact finK_drop ⟨by simp [cmpV, cmpN, h, er_int], rfl, rfl⟩ | skip
  all_goals refine cd_dec (fun h3 => ?_) (fun h3 => ?_)
  all_goals simp only [go_sem, reduceIte, Nat.reduceEqDiff, Nat.reduceAdd, Nat.reduceSub, Nat.reduceMul, Nat.reduceLT, Nat.reduceLeDiff, Nat.reducePow, Int.reduceToNat, Int.reduceLT, Int.reduceLE, Int.reduceEq, Int.reduceNe, Int.reduceAdd, Int.reduceSub, Int.reduceMul, Int.reduceNeg, h1, h2]
  all_goals first | exact finK_drop ⟨by simp [cmpV, cmpN, h, h3, er_int], rfl, rfl⟩ | skip
  all_goals
    have hV : ∀ nn, cmpV ⟨nn, ai, as_⟩ ⟨nn, bi, bs_⟩ = cmpS as_ bs_ := fun nn => by simp [cmpV, cmpN, h, h3]
    have hl1 : as_.size = as_.data.toList.length := rfl
    have hl2 : bs_.size = bs_.data.toList.length := rfl
  all_goals
    generalize hβ : Heap.set (Heap.set Heap.nil b0 _) b1 _ = β0
    obtain ⟨n0, e0⟩ : ∃ nn, β0 b0 = some [.bool nn, .int .i64 ai, .str as_] := ⟨_, by rw [← hβ]; simp only [Heap.set, if_neg h2, if_true]; rfl⟩
    obtain ⟨n1, e1⟩ : ∃ nn, β0 b1 = some [.bool nn, .int .i64 bi, .str bs_] := ⟨_, by rw [← hβ]; simp only [Heap.set, if_true]; rfl⟩
    refine vwq_loop (fun u => ∃ (j : Nat), j ≤ as_.size ∧ j ≤ bs_.size ∧ as_.data.toList.take j = bs_.data.toList.take j ∧ u.σ 2 = .pb b0 0 ∧ u.σ 3 = .pb b1 0 ∧ u.σ 5 = .int .i64 j ∧ u.β = β0 ∧ u.ω = []) (fun u => as_.size - (ival (u.σ 5)).toNat) ⟨0, by omega, by omega, by simp, rfl, rfl, rfl, rfl, rfl⟩ ?_
    rintro σ β ω ⟨j, j1, j2, j3, q2, q3, q5, rfl, rfl⟩
    dsimp only at q2 q3 q5 e0 e1
    simp only [go_sem, reduceIte, Nat.reduceEqDiff, Nat.reduceAdd, Nat.reduceSub, Nat.reduceMul, Nat.reduceLT, Nat.reduceLeDiff, Nat.reducePow, Int.reduceToNat, Int.reduceLT, Int.reduceLE, Int.reduceEq, Int.reduceNe, Int.reduceAdd, Int.reduceSub, Int.reduceMul, Int.reduceNeg, q2, q3, q5, e0, e1]
    refine cd_dec (fun g => ?_) (fun g => ?_)
    · obtain ⟨k1, k2⟩ := cmpB_at (x := as_.data.toList) (y := bs_.data.toList) (j := j) (by omega) (by omega) j3
      simp only [go_sem, reduceIte, Nat.reduceEqDiff, Nat.reduceAdd, Nat.reduceSub, Nat.reduceMul, Nat.reduceLT, Nat.reduceLeDiff, Nat.reducePow, Int.reduceToNat, Int.reduceLT, Int.reduceLE, Int.reduceEq, Int.reduceNe, Int.reduceAdd, Int.reduceSub, Int.reduceMul, Int.reduceNeg, q2, q3, q5, e0, e1]
      refine ⟨⟨by omega, by omega⟩, ⟨by omega, by omega⟩, cd_dec (fun g1 => ?_) (fun g1 => ?_)⟩
      · simp only [go_sem, reduceIte, Nat.reduceEqDiff, Nat.reduceAdd, Nat.reduceSub, Nat.reduceMul, Nat.reduceLT, Nat.reduceLeDiff, Nat.reducePow, Int.reduceToNat, Int.reduceLT, Int.reduceLE, Int.reduceEq, Int.reduceNe, Int.reduceAdd, Int.reduceSub, Int.reduceMul, Int.reduceNeg, q2, q3, q5, e0, e1]
        refine finK_drop ⟨?_, rfl, rfl⟩
        rw [hV, cmpS, k1, if_pos (by omega)]; rfl
      · simp only [go_sem, reduceIte, Nat.reduceEqDiff, Nat.reduceAdd, Nat.reduceSub, Nat.reduceMul, Nat.reduceLT, Nat.reduceLeDiff, Nat.reducePow, Int.reduceToNat, Int.reduceLT, Int.reduceLE, Int.reduceEq, Int.reduceNe, Int.reduceAdd, Int.reduceSub, Int.reduceMul, Int.reduceNeg, q2, q3, q5, e0, e1]
        refine ⟨⟨by omega, by omega⟩, ⟨by omega, by omega⟩, cd_dec (fun g2 => ?_) (fun g2 => ?_)⟩
        · simp only [go_sem, reduceIte, Nat.reduceEqDiff, Nat.reduceAdd, Nat.reduceSub, Nat.reduceMul, Nat.reduceLT, Nat.reduceLeDiff, Nat.reducePow, Int.reduceToNat, Int.reduceLT, Int.reduceLE, Int.reduceEq, Int.reduceNe, Int.reduceAdd, Int.reduceSub, Int.reduceMul, Int.reduceNeg, q2, q3, q5, e0, e1]
          refine finK_drop ⟨?_, rfl, rfl⟩
          rw [hV, cmpS, k1, if_neg (by omega), if_pos (by omega)]; rfl
        · simp only [go_sem, reduceIte, Nat.reduceEqDiff, Nat.reduceAdd, Nat.reduceSub, Nat.reduceMul, Nat.reduceLT, Nat.reduceLeDiff, Nat.reducePow, Int.reduceToNat, Int.reduceLT, Int.reduceLE, Int.reduceEq, Int.reduceNe, Int.reduceAdd, Int.reduceSub, Int.reduceMul, Int.reduceNeg, q2, q3, q5, e0, e1]
          rw [wrap_i64 (x := (j : Int) + 1) (by omega) (by omega)]
          exact ⟨⟨j + 1, by omega, by omega, k2 (by omega), rfl⟩, by omega⟩
    · have k3 := cmpB_end (x := as_.data.toList) (y := bs_.data.toList) (by
        have : min as_.data.toList.length bs_.data.toList.length = j := by omega
        rw [this]; exact j3)
      simp only [go_sem, reduceIte, Nat.reduceEqDiff, Nat.reduceAdd, Nat.reduceSub, Nat.reduceMul, Nat.reduceLT, Nat.reduceLeDiff, Nat.reducePow, Int.reduceToNat, Int.reduceLT, Int.reduceLE, Int.reduceEq, Int.reduceNe, Int.reduceAdd, Int.reduceSub, Int.reduceMul, Int.reduceNeg, q2, q3, q5, e0, e1]
      refine cd_dec (fun g1 => ?_) (fun g1 => ?_)
      · simp only [go_sem, reduceIte, Nat.reduceEqDiff, Nat.reduceAdd, Nat.reduceSub, Nat.reduceMul, Nat.reduceLT, Nat.reduceLeDiff, Nat.reducePow, Int.reduceToNat, Int.reduceLT, Int.reduceLE, Int.reduceEq, Int.reduceNe, Int.reduceAdd, Int.reduceSub, Int.reduceMul, Int.reduceNeg, q2, q3, q5, e0, e1]
        refine finK_drop ⟨?_, rfl, rfl⟩
        rw [hV, cmpS, k3, if_pos (by omega)]; rfl
      · simp only [go_sem, reduceIte, Nat.reduceEqDiff, Nat.reduceAdd, Nat.reduceSub, Nat.reduceMul, Nat.reduceLT, Nat.reduceLeDiff, Nat.reducePow, Int.reduceToNat, Int.reduceLT, Int.reduceLE, Int.reduceEq, Int.reduceNe, Int.reduceAdd, Int.reduceSub, Int.reduceMul, Int.reduceNeg, q2, q3, q5, e0, e1]
        refine cd_dec (fun g2 => ?_) (fun g2 => ?_)
        · simp only [go_sem, reduceIte, Nat.reduceEqDiff, Nat.reduceAdd, Nat.reduceSub, Nat.reduceMul, Nat.reduceLT, Nat.reduceLeDiff, Nat.reducePow, Int.reduceToNat, Int.reduceLT, Int.reduceLE, Int.reduceEq, Int.reduceNe, Int.reduceAdd, Int.reduceSub, Int.reduceMul, Int.reduceNeg, q2, q3, q5, e0, e1]
          refine finK_drop ⟨?_, rfl, rfl⟩
          rw [hV, cmpS, k3, if_neg (by omega), if_pos (by omega)]; rfl
        · simp only [go_sem, reduceIte, Nat.reduceEqDiff, Nat.reduceAdd, Nat.reduceSub, Nat.reduceMul, Nat.reduceLT, Nat.reduceLeDiff, Nat.reducePow, Int.reduceToNat, Int.reduceLT, Int.reduceLE, Int.reduceEq, Int.reduceNe, Int.reduceAdd, Int.reduceSub, Int.reduceMul, Int.reduceNeg, q2, q3, q5, e0, e1]
          refine finK_drop ⟨?_, rfl, rfl⟩
          rw [hV, cmpS, k3, if_neg (by omega), if_neg (by omega)]; rfl
end Go.Proofs.YtpblgfgcoamgmaaGreatS
namespace Go.Proofs.YtpblgfgcoamgmaaGreatS
open Go Go.Proofs.YtpblgfgcoamgmaaGreatV

variable {G : Heap}

def pre (s t : ByteArray) : Bool := decide (t.data.toList <+: s.data.toList)

theorem pre_eq (s t : ByteArray) : decide ((t.size : Int) ≤ s.size ∧ s.extract 0 t.size = t) = pre s t := by
  unfold pre
  congr 1
  apply propext
  have hs : s.size = s.data.toList.length := rfl
  have ht : t.size = t.data.toList.length := rfl
  have e : (s.extract 0 t.size = t) ↔ s.data.toList.take t.data.toList.length = t.data.toList := by
    constructor
    · intro h
      have := congrArg (fun x : ByteArray => x.data.toList) h
      rw [ByteArray.data_extract, Array.toList_extract, List.extract_eq_take_drop, ht] at this
      simpa using this
    · intro h
      apply ByteArray.ext
      apply Array.toList_inj.1
      rw [ByteArray.data_extract, Array.toList_extract, List.extract_eq_take_drop, ht]
      simpa using h
  rw [e]
  constructor
  · rintro ⟨_, h⟩
    rw [List.prefix_iff_eq_take]; exact h.symm
  · intro h
    refine ⟨?_, (List.prefix_iff_eq_take.1 h).symm⟩
    have := h.length_le
    omega

theorem slHas_ok (s t : ByteArray) : VN P G 157 [.str s, .str t] (.bool (pre s t)) := by
  refine VC.ofs (fun | 99999999 => [(0, [0, 1, 4])] | _ => []) [4] mixed Tryz.func157 rfl rfl rfl rfl (by decide +kernel) (by simp) ?_
  simp only [go_sem, reduceIte, Nat.reduceEqDiff, Nat.reduceAdd, Nat.reduceSub, Nat.reduceMul, Nat.reduceLT, Nat.reduceLeDiff, Nat.reducePow, Int.reduceToNat, Int.reduceLT, Int.reduceLE, Int.reduceEq, Int.reduceNe, Int.reduceAdd, Int.reduceSub, Int.reduceMul, Int.reduceNeg]
  exact ⟨fun _ => by omega, finK_drop ⟨by rw [pre_eq]; rfl, rfl, rfl⟩⟩
theorem HasPrefix_ok (s t : ByteArray) : VN P G 121 [.str s, .str t] (.bool (pre s t)) := by
  refine VC.ofs (fun | 99999999 => [(0, [0, 1, 4])] | _ => []) [4] mixed Tryz.func121 rfl rfl rfl rfl (by decide +kernel) (by simp) ?_
  simp only [go_sem, reduceIte, Nat.reduceEqDiff, Nat.reduceAdd, Nat.reduceSub, Nat.reduceMul, Nat.reduceLT, Nat.reduceLeDiff, Nat.reducePow, Int.reduceToNat, Int.reduceLT, Int.reduceLE, Int.reduceEq, Int.reduceNe, Int.reduceAdd, Int.reduceSub, Int.reduceMul, Int.reduceNeg]
  refine cK_vn (slHas_ok s t) ?_
  simp only [go_sem, reduceIte, Nat.reduceEqDiff, Nat.reduceAdd, Nat.reduceSub, Nat.reduceMul, Nat.reduceLT, Nat.reduceLeDiff, Nat.reducePow, Int.reduceToNat, Int.reduceLT, Int.reduceLE, Int.reduceEq, Int.reduceNe, Int.reduceAdd, Int.reduceSub, Int.reduceMul, Int.reduceNeg]
  exact finK_drop ⟨rfl, rfl, rfl⟩
end Go.Proofs.YtpblgfgcoamgmaaGreatS
namespace Go.Proofs.YtpblgfgcoamgmaaGreatS
open Go Go.Proofs.YtpblgfgcoamgmaaGreatV

section
variable {P : Program} {G : Heap} {β : Heap} {ω : List Nat} {f : FuncId} {args : List D} {k q : D → Heap → List Nat → Prop} {R : D → Prop} {U : List Nat} {i : Nat} {rd : Rd}
def VX (P : Program) (G : Heap) (f : FuncId) (args : List D) (R : D → Prop) : Prop := VC P G f args Heap.nil [] fun o β ω => ∃ d, R d ∧ o = .ret d ∧ β = Heap.nil ∧ ω = []
theorem callK_vx (h : VX P G f args R) (hk : ∀ d, R d → k d β ω) : callK P G (.clo (.func f) [] []) args β ω k q :=
  callK_vc h (Part.nil β ω) (fun d β' ω' ⟨β1, ω1, ⟨d1, h0, h1, h2, h3⟩, _, _, h4, h5⟩ => by
    cases h1; subst h2 h3 h4 h5
    simpa using hk d h0) (fun d β' ω' ⟨β1, ω1, ⟨d1, h0, h1, h2, h3⟩, _, _, h4, h5⟩ => by cases h1)
theorem callE_vx (h : VX P G f args R) (hn : ∃ d, R d) (hk : ∀ d, R d → k d β ω) : callE P G U i (.clo (.func f) [] []) True args rd β ω k q :=
  callE_vc h (Part.nil β ω) (fun _ _ => rfl) (fun _ N => ⟨hn.choose, Heap.nil, [], ⟨hn.choose, hn.choose_spec, rfl, rfl, rfl⟩, Fini.nil, fun b hb => absurd rfl hb, fun t ht => by simp at ht⟩)
    (fun d β' ω' ⟨β1, ω1, ⟨d1, h0, h1, h2, h3⟩, _, _, h4, h5⟩ => by
    cases h1; subst h2 h3 h4 h5
    simpa using hk d h0) (fun d β' ω' ⟨β1, ω1, ⟨d1, h0, h1, h2, h3⟩, _, _, h4, h5⟩ => by cases h1)
variable {ops : Array Oper} {rest : List Oper} {es : List Ent} {Q : VE → St → Prop} {dst : Option Tmp} {σ : Sg}
theorem cK_vx (h : VX P G f args R) (hk : ∀ d, R d → Ko P G ops rest Q dst σ d β ω) : cK P G (.clo (.func f) [] []) args β ω ops rest Q dst σ := callK_vx h hk
theorem cE_vx (h : VX P G f args R) (hn : ∃ d, R d) (hk : ∀ d, R d → Kd P G ops es Q dst σ d rd β ω) : cE P G U i (.clo (.func f) [] []) True args rd β ω ops es Q dst σ := callE_vx h hn hk
end

variable {G : Heap}

structure Bd where
  id : Int
  nulls : Int
  min : Vl
  max : Vl
  deriving DecidableEq
def Bd.cells (b : Bd) : List D := [.int .i64 b.id, .int .i64 b.nulls, .bool b.min.null, .int .i64 b.min.n, .str b.min.s, .bool b.max.null, .int .i64 b.max.n, .str b.max.s]
def Bd.d (b : Bd) : D := .agg b.cells
structure Sm where
  rows : Int
  l : List Bd
def Sm.cells (u : Sm) : List D := [.int .i64 u.rows, .sl .none (u.l.map Bd.d)]
def Sm.d (u : Sm) : D := .agg u.cells
inductive Pr where
  | mk (op id lo hi : Int) (set : List Vl) (text : ByteArray) (kids : List Pr)
mutual
def Pr.d : Pr → D
  | .mk op id lo hi set text kids => .agg [.int .i64 op, .int .i64 id, .int .i64 lo, .int .i64 hi, .sl .none (set.map Vl.d), .str text, .sl .none (Pr.ds kids)]
def Pr.ds : List Pr → List D
  | [] => []
  | p :: l => Pr.d p :: Pr.ds l
end
theorem Pr.ds_eq : ∀ l : List Pr, Pr.ds l = l.map Pr.d
  | [] => by simp only [Pr.ds, List.map_nil]
  | p :: l => by simp only [Pr.ds, Pr.ds_eq l, List.map_cons]
def Pr.op : Pr → Int | .mk op _ _ _ _ _ _ => op
def Pr.id : Pr → Int | .mk _ id _ _ _ _ _ => id
def Pr.lo : Pr → Int | .mk _ _ lo _ _ _ _ => lo
def Pr.hi : Pr → Int | .mk _ _ _ hi _ _ _ => hi
def Pr.set : Pr → List Vl | .mk _ _ _ _ set _ _ => set
def Pr.text : Pr → ByteArray | .mk _ _ _ _ _ text _ => text
def Pr.kids : Pr → List Pr | .mk _ _ _ _ _ _ kids => kids
def Pr.cells (p : Pr) : List D := [.int .i64 p.op, .int .i64 p.id, .int .i64 p.lo, .int .i64 p.hi, .sl .none (p.set.map Vl.d), .str p.text, .sl .none (p.kids.map Pr.d)]
theorem Pr.d_eq (p : Pr) : p.d = .agg p.cells := by cases p; simp only [Pr.d, Pr.ds_eq]; rfl
theorem Pr.kid_lt {p k : Pr} (h : k ∈ p.kids) : SizeOf.sizeOf k < SizeOf.sizeOf p := by
  cases p with
  | mk op id lo hi set text kids =>
    have := List.sizeOf_lt_of_mem (show k ∈ kids from h)
    simp; omega

theorem at_map {α : Type} {f : α → D} {l : List α} {j : Nat} (h : j < l.length) : ∃ x, l[j]? = some x ∧ (l.map f).getD j .any = f x := ⟨l[j], by simp [h], by simp [List.getD, h]⟩
theorem Vl_at {l : List Vl} {j : Nat} (h : (j : Int) < ((l.map Vl.d).length : Nat)) : ∃ v, l[j]? = some v ∧ (l.map Vl.d).getD j .any = .agg [.bool v.null, .int .i64 v.n, .str v.s] :=
  at_map (by rw [List.length_map] at h; omega)
theorem Pr_at {l : List Pr} {j : Nat} (h : (j : Int) < ((l.map Pr.d).length : Nat)) : ∃ p, l[j]? = some p ∧ (l.map Pr.d).getD j .any = .agg [.int .i64 p.op, .int .i64 p.id, .int .i64 p.lo, .int .i64 p.hi, .sl .none (p.set.map Vl.d), .str p.text, .sl .none (p.kids.map Pr.d)] := by
  obtain ⟨x, h1, h2⟩ := at_map (f := Pr.d) (l := l) (j := j) (by rw [List.length_map] at h; omega)
  exact ⟨x, h1, h2.trans x.d_eq⟩
def isB (d : D) : Prop := ∃ b, d = .bool b

def isI (d : D) : Prop := ∃ k, d = .int .i64 k
end Go.Proofs.YtpblgfgcoamgmaaGreatS
namespace Go.Proofs.YtpblgfgcoamgmaaGreatS
open Go Go.Proofs.YtpblgfgcoamgmaaGreatV

section
variable {P : Program} {G : Heap} {β : Heap} {ω : List Nat} {f : FuncId} {fs args cs : List D} {k q : D → Heap → List Nat → Prop} {d : D} {x : List D} {b : Nat}
def VQ (P : Program) (G : Heap) (f : FuncId) (args : List D) (b : Nat) (x : List D) (d : D) : Prop :=
  VC P G f args (Heap.nil.set b x) [] fun o β ω => o = .ret d ∧ β = Heap.nil.set b x ∧ ω = []
theorem set_self (hb : β b = some x) : β.set b x = β := by
  funext b'
  unfold Heap.set
  split
  · rename_i e; rw [e, hb]
  · rfl
theorem callK_vq (h : VQ P G f (fs ++ args ++ cs) b x d) (hb : β b = some x) (hk : k d β ω) : callK P G (.clo (.func f) fs cs) args β ω k q := by
  show VC P G f (fs ++ args ++ cs) β ω (fun o β' ω' => match o with | .ret d => k d β' ω' | .pan d => q d β' ω')
  refine (VC.frame h (Part.var hb)).mono fun o β' ω' hf => ?_
  obtain ⟨β1, ω1, ⟨h1, h2, h3⟩, _, _, h4, h5⟩ := hf
  cases h1; subst h2 h3 h4 h5
  rw [joinH_box hb, set_self hb]
  simpa using hk
theorem finK_var {Φ : Out → Heap → List Nat → Prop} (hb : β b = some x) (h : Φ (.ret d.er) (Heap.nil.set b x) []) : finK Φ d β ω :=
  ⟨d.er, Heap.nil.set b x, [], Wk.er d, (fun b' cs hh => by
    unfold Heap.set at hh
    by_cases e : b' = b
    · rw [if_pos e] at hh; rw [e, hb]; exact hh
    · rw [if_neg e] at hh; cases hh), fun _ h => (List.not_mem_nil h).elim, h⟩
variable {ops : Array Oper} {rest : List Oper} {es : List Ent} {Q : VE → St → Prop} {dst : Option Tmp} {σ : Sg}
theorem cK_vq (h : VQ P G f (fs ++ args ++ cs) b x d) (hb : β b = some x) (hk : Ko P G ops rest Q dst σ d β ω) : cK P G (.clo (.func f) fs cs) args β ω ops rest Q dst σ := callK_vq h hb hk
end

variable {G : Heap}

def idx {α : Type} (q : α → Bool) (l : List α) : Int := if l.findIdx q < l.length then (l.findIdx q : Nat) else -1
theorem idx_hit {α : Type} {q : α → Bool} : ∀ {l : List α} {j : Nat} {x : α}, l[j]? = some x → j ≤ l.findIdx q → q x = true → l.findIdx q = j
  | [], j, x, h, _, _ => by simp at h
  | a :: l, 0, x, h, _, hq => by
    simp at h; subst h
    simp [List.findIdx_cons, hq]
  | a :: l, j + 1, x, h, hj, hq => by
    rw [List.findIdx_cons] at hj ⊢
    cases ha : q a with
    | true => simp [ha] at hj
    | false =>
      simp only [ha, cond_false] at hj ⊢
      rw [idx_hit (by simpa using h) (by omega) hq]
theorem idx_miss {α : Type} {q : α → Bool} : ∀ {l : List α} {j : Nat} {x : α}, l[j]? = some x → j ≤ l.findIdx q → q x = false → j + 1 ≤ l.findIdx q
  | [], j, x, h, _, _ => by simp at h
  | a :: l, 0, x, h, _, hq => by
    simp at h; subst h
    simp [List.findIdx_cons, hq]
  | a :: l, j + 1, x, h, hj, hq => by
    rw [List.findIdx_cons] at hj ⊢
    cases ha : q a with
    | true => simp [ha] at hj
    | false =>
      simp only [ha, cond_false] at hj ⊢
      have := idx_miss (by simpa using h) (Nat.le_of_succ_le_succ hj) hq
      omega

def Vl.zero : Vl := ⟨false, 0, ByteArray.empty⟩
def Bd.zero : Bd := ⟨0, 0, Vl.zero, Vl.zero⟩

def findB (l : List Bd) (id : Int) : Option Bd := l.find? (fun b => decide (b.id = id))
theorem idx_find {α : Type} (q : α → Bool) : ∀ l : List α, (idx q l < 0 ∧ l.find? q = none) ∨ (∃ j x, idx q l = (j : Nat) ∧ j < l.length ∧ l[j]? = some x ∧ l.find? q = some x)
  | [] => .inl ⟨by simp [idx], rfl⟩
  | a :: l => by
    cases ha : q a with
    | true => exact .inr ⟨0, a, by simp [idx, List.findIdx_cons, ha], by simp, by simp, by simp [List.find?_cons, ha]⟩
    | false =>
      rcases idx_find q l with ⟨h1, h2⟩ | ⟨j, x, h1, h2, h3, h4⟩
      · refine .inl ⟨?_, by simp [List.find?_cons, ha, h2]⟩
        unfold idx at h1 ⊢
        simp only [List.findIdx_cons, ha, cond_false, List.length_cons]
        split at h1
        · omega
        · rw [if_neg (by omega)]; omega
      · refine .inr ⟨j + 1, x, ?_, by simp; omega, by simpa using h3, by simp [List.find?_cons, ha, h4]⟩
        unfold idx at h1 ⊢
        simp only [List.findIdx_cons, ha, cond_false, List.length_cons]
        split at h1
        · rw [if_pos (by omega)]; omega
        · omega

end Go.Proofs.YtpblgfgcoamgmaaGreatS
namespace Go.Proofs.YtpblgfgcoamgmaaGreatS
open Go Go.Proofs.YtpblgfgcoamgmaaGreatV

variable {G : Heap}

structure Tr where
  y : Bool
  n : Bool
  u : Bool
  deriving DecidableEq
def Tr.code (t : Tr) : Int := (if t.n then 1 else 0) + (if t.y then 2 else 0) + (if t.u then 4 else 0)
def btw (b : Bd) (p : Pr) : Tr := ⟨decide ((p.lo ≤ p.hi ∧ p.lo ≤ b.max.n) ∧ b.min.n ≤ p.hi), decide (b.min.n < p.lo ∨ p.hi < b.max.n), false⟩
def inside (bd : Bd) (v : Vl) : Bool := !v.null && decide (cmpV bd.min v ≤ 0) && decide (cmpV v bd.max ≤ 0)
theorem ContainsFunc_ok (tk : Tk) (l : List Vl) (q : Vl → Bool) {f : FuncId} {fs cs : List D} (b : Nat) (X : List D) (hq : ∀ x ∈ l, VQ P G f (fs ++ [.agg x.cells] ++ cs) b X (.bool (q x))) :
    VQ P G 165 [.sl .none (l.map Vl.d), .clo (.func f) fs cs] b X (.int .i64 (idx q l)) := by
  refine VC.small2 fun hsm => ?_
  have z1 := hsm (.sl .none (l.map Vl.d)) (List.mem_cons_self ..) (.sl .none (l.map Vl.d)) (by simp [D.cells])
  simp only [Small, mostLen, List.length_map] at z1
  clear hsm
  refine VC.ofs (fun | 99999999 => [(0, [0, 1, 4, 5, 7, 8, 9, 16])] | _ => []) [4] mixed Tryz.func165 rfl rfl rfl rfl (by decide +kernel) (by simp) ?_
  simp only [go_sem, reduceIte, Nat.reduceEqDiff, Nat.reduceAdd, Nat.reduceSub, Nat.reduceMul, Nat.reduceLT, Nat.reduceLeDiff, Nat.reducePow, Int.reduceToNat, Int.reduceLT, Int.reduceLE, Int.reduceEq, Int.reduceNe, Int.reduceAdd, Int.reduceSub, Int.reduceMul, Int.reduceNeg]
  refine vwq_loop (fun u => ∃ (j : Nat), j ≤ l.length ∧ j ≤ l.findIdx q ∧ u.σ 0 = .sl .none (l.map Vl.d) ∧ u.σ 1 = .clo (.func f) fs cs ∧ u.σ 7 = .int .i64 l.length ∧ u.σ 8 = .int .i64 j ∧ u.β = Heap.nil.set b X ∧ u.ω = []) (fun u => l.length - (ival (u.σ 8)).toNat) ⟨0, by omega, by omega, rfl, rfl, by rw [← List.length_map (f := Vl.d)]; rfl, rfl, rfl, rfl⟩ ?_
  rintro σ β ω ⟨j, j1, j2, q0, q1, q7, q8, rfl, rfl⟩
  dsimp only at q0 q1 q7 q8
  simp only [go_sem, reduceIte, Nat.reduceEqDiff, Nat.reduceAdd, Nat.reduceSub, Nat.reduceMul, Nat.reduceLT, Nat.reduceLeDiff, Nat.reducePow, Int.reduceToNat, Int.reduceLT, Int.reduceLE, Int.reduceEq, Int.reduceNe, Int.reduceAdd, Int.reduceSub, Int.reduceMul, Int.reduceNeg, q0, q1, q7, q8]
  refine cd_dec (fun g => ?_) (fun g => ?_)
  · have g' : (j : Int) < ((l.map Vl.d).length : Nat) := by rw [List.length_map]; exact g
    obtain ⟨x, hx, ex⟩ := Vl_at g'
    simp only [go_sem, reduceIte, Nat.reduceEqDiff, Nat.reduceAdd, Nat.reduceSub, Nat.reduceMul, Nat.reduceLT, Nat.reduceLeDiff, Nat.reducePow, Int.reduceToNat, Int.reduceLT, Int.reduceLE, Int.reduceEq, Int.reduceNe, Int.reduceAdd, Int.reduceSub, Int.reduceMul, Int.reduceNeg, q0, q1, q7, q8, ex]
    refine ⟨by omega, cK_vq (hq x (List.mem_of_getElem? hx)) (by simp [Heap.set]) ?_⟩
    cases hqx : q x
    · simp only [go_sem, reduceIte, Nat.reduceEqDiff, Nat.reduceAdd, Nat.reduceSub, Nat.reduceMul, Nat.reduceLT, Nat.reduceLeDiff, Nat.reducePow, Int.reduceToNat, Int.reduceLT, Int.reduceLE, Int.reduceEq, Int.reduceNe, Int.reduceAdd, Int.reduceSub, Int.reduceMul, Int.reduceNeg, q0, q1, q7, q8, ex]
      rw [wrap_i64 (x := (j : Int) + 1) (by omega) (by omega)]
      have := idx_miss hx j2 hqx
      exact ⟨⟨j + 1, by omega, by omega, rfl⟩, by omega⟩
    · simp only [go_sem, reduceIte, Nat.reduceEqDiff, Nat.reduceAdd, Nat.reduceSub, Nat.reduceMul, Nat.reduceLT, Nat.reduceLeDiff, Nat.reducePow, Int.reduceToNat, Int.reduceLT, Int.reduceLE, Int.reduceEq, Int.reduceNe, Int.reduceAdd, Int.reduceSub, Int.reduceMul, Int.reduceNeg, q0, q1, q7, q8, ex]
      have e : idx q l = j := by
        have := idx_hit hx j2 hqx
        unfold idx
        rw [if_pos (by omega), this]
      refine finK_var (by simp [Heap.set]) ⟨by rw [e]; rfl, rfl, rfl⟩
  · simp only [go_sem, reduceIte, Nat.reduceEqDiff, Nat.reduceAdd, Nat.reduceSub, Nat.reduceMul, Nat.reduceLT, Nat.reduceLeDiff, Nat.reducePow, Int.reduceToNat, Int.reduceLT, Int.reduceLE, Int.reduceEq, Int.reduceNe, Int.reduceAdd, Int.reduceSub, Int.reduceMul, Int.reduceNeg, q0, q1, q7, q8]
    have e : idx q l = -1 := by
      unfold idx
      rw [if_neg]
      omega
    refine finK_var (by simp [Heap.set]) ⟨by rw [e]; rfl, rfl, rfl⟩
theorem idx_any {α : Type} (q : α → Bool) (l : List α) : decide (0 ≤ idx q l) = l.any q := by
  rcases idx_find q l with ⟨h1, h2⟩ | ⟨j, x, h1, h2, h3, h4⟩
  · rw [decide_eq_false (by omega)]
    symm
    rw [List.any_eq_false]
    exact fun x hx => by simpa using List.find?_eq_none.1 h2 x hx
  · rw [decide_eq_true (by omega)]
    symm
    rw [List.any_eq_true]
    exact ⟨x, List.mem_of_find?_eq_some h4, List.find?_some h4⟩
theorem ContainsF_ok (l : List Vl) (q : Vl → Bool) {f : FuncId} {fs cs : List D} (b : Nat) (X : List D) (hq : ∀ x ∈ l, VQ P G f (fs ++ [.agg x.cells] ++ cs) b X (.bool (q x))) :
    VQ P G 139 [.sl .none (l.map Vl.d), .clo (.func f) fs cs] b X (.bool (l.any q)) := by
  refine VC.ofs (fun | 99999999 => [(0, [0, 1, 4])] | _ => []) [4] mixed Tryz.func139 rfl rfl rfl rfl (by decide +kernel) (by simp) ?_
  simp only [go_sem, reduceIte, Nat.reduceEqDiff, Nat.reduceAdd, Nat.reduceSub, Nat.reduceMul, Nat.reduceLT, Nat.reduceLeDiff, Nat.reducePow, Int.reduceToNat, Int.reduceLT, Int.reduceLE, Int.reduceEq, Int.reduceNe, Int.reduceAdd, Int.reduceSub, Int.reduceMul, Int.reduceNeg]
  refine cK_vq (fs := []) (cs := []) (ContainsFunc_ok .none l q b X hq) (by simp [Heap.set]) ?_
  simp only [go_sem, reduceIte, Nat.reduceEqDiff, Nat.reduceAdd, Nat.reduceSub, Nat.reduceMul, Nat.reduceLT, Nat.reduceLeDiff, Nat.reducePow, Int.reduceToNat, Int.reduceLT, Int.reduceLE, Int.reduceEq, Int.reduceNe, Int.reduceAdd, Int.reduceSub, Int.reduceMul, Int.reduceNeg]
  exact finK_var (by simp [Heap.set]) ⟨by rw [idx_any]; rfl, rfl, rfl⟩
end Go.Proofs.YtpblgfgcoamgmaaGreatS
namespace Go.Proofs.YtpblgfgcoamgmaaGreatS
open Go Go.Proofs.YtpblgfgcoamgmaaGreatV

variable {G : Heap}

theorem guardVl : P.eqGuardType P.depth 81 = false := by decide +kernel
theorem stoodVl : P.stoodInHeld 81 = false := by decide +kernel
theorem eqvVl (a a' : Bool) (b b' : Int) (s s' : ByteArray) : eqv P 6 81 (.agg [.bool a, .int .i64 b, .str s]) (.agg [.bool a', .int .i64 b', .str s']) = (decide (a = a' ∧ b = b' ∧ s = s'), True) := by
  simp only [eqv, eqF, Tryz.underlying81, Tryz.underlying4, Tryz.underlying2, Tryz.underlying9, stoodVl]
  simp only [go_sem, reduceIte, Nat.reduceEqDiff, Nat.reduceAdd, Nat.reduceSub, Nat.reduceMul, Nat.reduceLT, Nat.reduceLeDiff, Nat.reducePow, Int.reduceToNat, Int.reduceLT, Int.reduceLE, Int.reduceEq, Int.reduceNe, Int.reduceAdd, Int.reduceSub, Int.reduceMul, Int.reduceNeg]
  simp only [eqv, Tryz.underlying4, Tryz.underlying2, Tryz.underlying9]
  refine Prod.ext ?_ (by simp)
  dsimp only
  rw [Bool.eq_iff_iff]
  simp only [Bool.and_eq_true, beq_iff_eq, decide_eq_true_eq]
  have : (s == s') = true ↔ s = s' := by
    show (s.data == s'.data) = true ↔ _
    simp [ByteArray.ext_iff]
  rw [this]
attribute [go_sem] eqvVl guardVl
theorem vl_eq (a b : Vl) : (a.null = b.null ∧ a.n = b.n ∧ a.s = b.s) = (a = b) := by
  obtain ⟨a1, a2, a3⟩ := a; obtain ⟨b1, b2, b3⟩ := b
  simp
theorem Index_ok (l : List Vl) (v : Vl) : VN P G 156 [.sl .none (l.map Vl.d), .agg v.cells] (.int .i64 (idx (fun x => decide (v = x)) l)) := by
  simp only [Vl.cells]
  refine VC.small2 fun hsm => ?_
  have z1 := hsm (.sl .none (l.map Vl.d)) (List.mem_cons_self ..) (.sl .none (l.map Vl.d)) (by simp [D.cells])
  simp only [Small, mostLen, List.length_map] at z1
  clear hsm
  refine VC.ofs (fun | 4 => [(0, []), (1, []), (2, []), (3, []), (4, []), (5, [])] | 99999999 => [(0, [0, 1, 3, 4, 5, 7, 8, 9, 16])] | _ => []) [4] mixed Tryz.func156 rfl rfl rfl rfl (by decide +kernel) (by simp) ?_
  simp only [go_sem, reduceIte, Nat.reduceEqDiff, Nat.reduceAdd, Nat.reduceSub, Nat.reduceMul, Nat.reduceLT, Nat.reduceLeDiff, Nat.reducePow, Int.reduceToNat, Int.reduceLT, Int.reduceLE, Int.reduceEq, Int.reduceNe, Int.reduceAdd, Int.reduceSub, Int.reduceMul, Int.reduceNeg]
  intro b0
  refine vwq_loop (fun u => ∃ (j : Nat), j ≤ l.length ∧ j ≤ l.findIdx (fun x => decide (v = x)) ∧ u.σ 0 = .sl .none (l.map Vl.d) ∧ u.σ 3 = .pb b0 0 ∧ u.σ 7 = .int .i64 l.length ∧ u.σ 8 = .int .i64 j ∧ u.β = Heap.nil.set b0 [.bool v.null, .int .i64 v.n, .str v.s] ∧ u.ω = []) (fun u => l.length - (ival (u.σ 8)).toNat) ⟨0, by omega, by omega, rfl, rfl, by rw [← List.length_map (f := Vl.d)]; rfl, rfl, rfl, rfl⟩ ?_
  rintro σ β ω ⟨j, j1, j2, q0, q1, q7, q8, rfl, rfl⟩
  dsimp only at q0 q1 q7 q8
  simp only [go_sem, reduceIte, Nat.reduceEqDiff, Nat.reduceAdd, Nat.reduceSub, Nat.reduceMul, Nat.reduceLT, Nat.reduceLeDiff, Nat.reducePow, Int.reduceToNat, Int.reduceLT, Int.reduceLE, Int.reduceEq, Int.reduceNe, Int.reduceAdd, Int.reduceSub, Int.reduceMul, Int.reduceNeg, q0, q1, q7, q8]
  refine cd_dec (fun g => ?_) (fun g => ?_)
  · have g' : (j : Int) < ((l.map Vl.d).length : Nat) := by rw [List.length_map]; exact g
    obtain ⟨x, hx, ex⟩ := Vl_at g'
    simp only [go_sem, reduceIte, Nat.reduceEqDiff, Nat.reduceAdd, Nat.reduceSub, Nat.reduceMul, Nat.reduceLT, Nat.reduceLeDiff, Nat.reducePow, Int.reduceToNat, Int.reduceLT, Int.reduceLE, Int.reduceEq, Int.reduceNe, Int.reduceAdd, Int.reduceSub, Int.reduceMul, Int.reduceNeg, q0, q1, q7, q8, ex]
    refine ⟨by omega, cd_dec (fun g1 => ?_) (fun g1 => ?_)⟩
    · rw [vl_eq] at g1
      simp only [go_sem, reduceIte, Nat.reduceEqDiff, Nat.reduceAdd, Nat.reduceSub, Nat.reduceMul, Nat.reduceLT, Nat.reduceLeDiff, Nat.reducePow, Int.reduceToNat, Int.reduceLT, Int.reduceLE, Int.reduceEq, Int.reduceNe, Int.reduceAdd, Int.reduceSub, Int.reduceMul, Int.reduceNeg, q0, q1, q7, q8, ex]
      have e : idx (fun x => decide (v = x)) l = j := by
        have := idx_hit hx j2 (by simpa using g1)
        unfold idx
        rw [if_pos (by omega), this]
      exact finK_drop ⟨by rw [e]; rfl, rfl, rfl⟩
    · rw [vl_eq] at g1
      simp only [go_sem, reduceIte, Nat.reduceEqDiff, Nat.reduceAdd, Nat.reduceSub, Nat.reduceMul, Nat.reduceLT, Nat.reduceLeDiff, Nat.reducePow, Int.reduceToNat, Int.reduceLT, Int.reduceLE, Int.reduceEq, Int.reduceNe, Int.reduceAdd, Int.reduceSub, Int.reduceMul, Int.reduceNeg, q0, q1, q7, q8, ex]
      rw [wrap_i64 (x := (j : Int) + 1) (by omega) (by omega)]
      have := idx_miss hx j2 (by simpa using g1)
      exact ⟨⟨j + 1, by omega, by omega, rfl⟩, by omega⟩
  · simp only [go_sem, reduceIte, Nat.reduceEqDiff, Nat.reduceAdd, Nat.reduceSub, Nat.reduceMul, Nat.reduceLT, Nat.reduceLeDiff, Nat.reducePow, Int.reduceToNat, Int.reduceLT, Int.reduceLE, Int.reduceEq, Int.reduceNe, Int.reduceAdd, Int.reduceSub, Int.reduceMul, Int.reduceNeg, q0, q1, q7, q8]
    have e : idx (fun x => decide (v = x)) l = -1 := by
      unfold idx
      rw [if_neg]
      omega
    exact finK_drop ⟨by rw [e]; rfl, rfl, rfl⟩
theorem Contains_ok (l : List Vl) (v : Vl) : VN P G 120 [.sl .none (l.map Vl.d), .agg v.cells] (.bool (l.any fun x => decide (v = x))) := by
  simp only [Vl.cells]
  refine VC.ofs (fun | 99999999 => [(0, [0, 1, 3, 4])] | _ => []) [4] mixed Tryz.func120 rfl rfl rfl rfl (by decide +kernel) (by simp) ?_
  simp only [go_sem, reduceIte, Nat.reduceEqDiff, Nat.reduceAdd, Nat.reduceSub, Nat.reduceMul, Nat.reduceLT, Nat.reduceLeDiff, Nat.reducePow, Int.reduceToNat, Int.reduceLT, Int.reduceLE, Int.reduceEq, Int.reduceNe, Int.reduceAdd, Int.reduceSub, Int.reduceMul, Int.reduceNeg]
  intro b0
  refine cK_vn (Index_ok l v) ?_
  simp only [go_sem, reduceIte, Nat.reduceEqDiff, Nat.reduceAdd, Nat.reduceSub, Nat.reduceMul, Nat.reduceLT, Nat.reduceLeDiff, Nat.reducePow, Int.reduceToNat, Int.reduceLT, Int.reduceLE, Int.reduceEq, Int.reduceNe, Int.reduceAdd, Int.reduceSub, Int.reduceMul, Int.reduceNeg]
  exact finK_drop ⟨by rw [idx_any]; rfl, rfl, rfl⟩
def inn (b : Bd) (p : Pr) : Tr := ⟨p.set.any (inside b), !(decide (b.min = b.max) && p.set.any fun x => decide (b.min = x)), false⟩
def pfx (b : Bd) (p : Pr) : Tr := if b.min.n = b.max.n then
    ⟨decide (¬ b.max.s.data.toList < p.text.data.toList) && (pre b.min.s p.text || decide (¬ p.text.data.toList < b.min.s.data.toList)), !pre b.min.s p.text || !pre b.max.s p.text, false⟩
  else ⟨true, true, false⟩
theorem cmpS_le (x y : ByteArray) : (cmpS x y ≤ 0) = ¬ y.data.toList < x.data.toList := by
  have := (compareBytes_lt x.data.toList y.data.toList).2.1
  unfold cmpS
  rw [← this]
  simp
end Go.Proofs.YtpblgfgcoamgmaaGreatS
namespace Go.Proofs.YtpblgfgcoamgmaaGreatS
open Go Go.Proofs.YtpblgfgcoamgmaaGreatV

variable {G : Heap}

end Go.Proofs.YtpblgfgcoamgmaaGreatS
namespace Go.Proofs.YtpblgfgcoamgmaaGreatS
open Go Go.Proofs.YtpblgfgcoamgmaaGreatV

variable {G : Heap}

theorem one_int (k : IntKind) (n : Int) : (D.int k n).one = true := (rfl)
theorem one_bool (b : Bool) : (D.bool b).one = true := (rfl)
theorem one_str (b : ByteArray) : (D.str b).one = true := (rfl)
theorem one_sl (t : Tk) (l : List D) : (D.sl t l).one = true := (rfl)
attribute [go_sem] one_int one_bool one_str one_sl List.all_cons List.all_nil Bool.and_true Bool.true_and
theorem cd_b {pb : Bool} {ct : Cert} {Q : VE → St → Prop} {b : Bool} {x y : Code} {s : St} (hx : b = true → vwq pb ct P G x Q s) (hy : b = false → vwq pb ct P G y Q s) : cdK (.bool b) True (vwq pb ct P G x Q (lk' s)) (vwq pb ct P G y Q (lk' s)) := ⟨trivial, hx, hy⟩
def atomT (u : Sm) (p : Pr) : Tr := match findB u.l p.id with
  | none => if p.op = 4 then ⟨true, true, false⟩ else ⟨true, true, true⟩
  | some b => if p.op = 4 then ⟨decide (0 < b.nulls), decide (b.nulls < u.rows), false⟩
    else if (u.rows ≤ b.nulls ∨ b.min.null = true) ∨ b.max.null = true then ⟨false, false, decide (0 < b.nulls)⟩
    else
      let t := if p.op = 2 then inn b p else if p.op = 3 then pfx b p else btw b p
      ⟨t.y, t.n, decide (0 < b.nulls)⟩
end Go.Proofs.YtpblgfgcoamgmaaGreatS
namespace Go.Proofs.YtpblgfgcoamgmaaGreatS
open Go Go.Proofs.YtpblgfgcoamgmaaGreatV

variable {G : Heap}

def Tr.turn (t : Tr) : Tr := ⟨t.n, t.y, t.u⟩
def bothS (s : Tr × Bool) (t : Tr) : Tr × Bool := (⟨s.1.y && t.y, s.1.n || t.n, s.1.u || t.u⟩, s.2 && (t.y || t.u))
def bothT (l : List Tr) : Tr := let s := l.foldl bothS (⟨true, false, false⟩, true); ⟨s.1.y, s.1.n, s.2 && s.1.u⟩
end Go.Proofs.YtpblgfgcoamgmaaGreatS
namespace Go.Proofs.YtpblgfgcoamgmaaGreatS
open Go Go.Proofs.YtpblgfgcoamgmaaGreatV

variable {G : Heap}

mutual
def possT (u : Sm) : Pr → Tr
  | .mk op id lo hi set text kids =>
    if op = 0 then ⟨true, false, false⟩
    else if op = 1 ∨ op = 2 ∨ op = 3 ∨ op = 4 then atomT u (.mk op id lo hi set text kids)
    else if op = 5 then bothT (possTs u kids)
    else if op = 6 then (bothT ((possTs u kids).map Tr.turn)).turn
    else if op = 7 ∧ kids.length = 1 then (((possTs u kids).map Tr.turn)[0]?).getD ⟨false, false, true⟩
    else ⟨false, false, true⟩
def possTs (u : Sm) : List Pr → List Tr
  | [] => []
  | p :: l => possT u p :: possTs u l
end
inductive Pr.Lim : Pr → Prop where
  | mk (p : Pr) : p.kids.length ≤ 1048576 → (∀ k ∈ p.kids, Pr.Lim k) → Pr.Lim p
end Go.Proofs.YtpblgfgcoamgmaaGreatS
namespace Go.Proofs.YtpblgfgcoamgmaaGreatS
open Go Go.Proofs.YtpblgfgcoamgmaaGreatV

variable {G : Heap}
attribute [local irreducible] VN VC VX VQ

theorem cmpB_anti : ∀ x y : List UInt8, (0 ≤ Lib.compareBytes x y ↔ Lib.compareBytes y x ≤ 0) := fun x y => by
  have h1 := compareBytes_lt x y
  have h2 := compareBytes_lt y x
  constructor
  · intro h
    rcases Int.lt_trichotomy (Lib.compareBytes y x) 0 with g | g | g
    · omega
    · omega
    · have := h1.1.2 (h2.2.1.1 g); omega
  · intro h
    rcases Int.lt_trichotomy (Lib.compareBytes x y) 0 with g | g | g
    · have := h2.2.1.2 (h1.1.1 g); omega
    · omega
    · omega
theorem cmpV_anti (a b : Vl) : (0 ≤ cmpV a b ↔ cmpV b a ≤ 0) := by
  obtain ⟨an, ai, as_⟩ := a
  obtain ⟨bn, bi, bs_⟩ := b
  have := cmpB_anti as_.data.toList bs_.data.toList
  simp only [cmpV, cmpN, cmpS]
  cases an <;> cases bn <;> simp
  all_goals repeat' split
  all_goals first | omega | simp_all
def Tr.cells (t : Tr) : List D := [.bool t.y, .bool t.n, .bool t.u]
end Go.Proofs.YtpblgfgcoamgmaaGreatS
namespace Go.Proofs.YtpblgfgcoamgmaaGreatS
open Go Go.Proofs.YtpblgfgcoamgmaaGreatV

variable {G : Heap}
attribute [local irreducible] VN VC VX VQ

theorem set_none {β : Heap} {a b : Nat} {cs : List D} : ((β.set a cs) b = none) = ((a ≠ b ∧ b ≠ a) ∧ β b = none) := by
  unfold Heap.set
  by_cases h : b = a
  · simp [h]
  · simp [h, Ne.symm h]
theorem box_ne {β : Heap} {a b : Nat} {x : List D} (h : β b = none) (e : β a = some x) : a ≠ b ∧ b ≠ a := by
  constructor <;> (rintro rfl; rw [e] at h; cases h)

end Go.Proofs.YtpblgfgcoamgmaaGreatS
namespace Go.Proofs.YtpblgfgcoamgmaaGreatS
open Go Go.Proofs.YtpblgfgcoamgmaaGreatV

variable {G : Heap}
attribute [local irreducible] VN VC VX VQ

def Vl.nul : Vl := ⟨true, 0, ByteArray.empty⟩
abbrev Cl := Int × Vl
def clD (c : Cl) : D := .agg [.int .i64 c.1, .bool c.2.null, .int .i64 c.2.n, .str c.2.s]
theorem Cl_at {l : List Cl} {j : Nat} (h : j < l.length) : ∃ c, l[j]? = some c ∧ (l.map clD).getD j .any = .agg [.int .i64 c.1, .bool c.2.null, .int .i64 c.2.n, .str c.2.s] := at_map h
theorem drop_at {α : Type} {l : List α} {j : Nat} {x : α} (hx : l[j]? = some x) : l.drop j = x :: l.drop (j + 1) := by
  obtain ⟨h1, h2⟩ := List.getElem?_eq_some_iff.1 hx
  rw [List.drop_eq_getElem_cons h1, h2]
def TW (m : Nat) (tk : Tk) (ω : List Nat) : Prop := (tk = .full ∧ ω = []) ∨ ∃ t, tk = .live t m ∧ ω = [t]
theorem TW.ok {m : Nat} {tk : Tk} {ω : List Nat} (h : TW m tk ω) : tokOk m ω tk = True := by
  rcases h with ⟨rfl, rfl⟩ | ⟨t, rfl, rfl⟩
  · rfl
  · simp [tokOk]
theorem TW.gone {m : Nat} {tk : Tk} {ω : List Nat} (h : TW m tk ω) : tokGone ω tk = [] := by
  rcases h with ⟨rfl, rfl⟩ | ⟨t, rfl, rfl⟩
  · rfl
  · simp [tokGone]
theorem TW.full (m : Nat) : TW m .full [] := .inl ⟨rfl, rfl⟩
theorem TW.live (m t : Nat) : TW m (.live t m) [t] := .inr ⟨t, rfl, rfl⟩

structure Fd where
  id : Int
  name : ByteArray
  type : Int
  parent : Int
  deriving DecidableEq
def fdD (f : Fd) : D := .agg [.int .i64 f.id, .str f.name, .int .i64 f.type, .int .i64 f.parent]
theorem Fd_at {l : List Fd} {j : Nat} (h : j < l.length) : ∃ f, l[j]? = some f ∧ (l.map fdD).getD j .any = .agg [.int .i64 f.id, .str f.name, .int .i64 f.type, .int .i64 f.parent] := at_map h
def leavesF (l : List Fd) : List Int := (l.filter fun f => !decide (f.type = 6)).map (·.id)
end Go.Proofs.YtpblgfgcoamgmaaGreatS
namespace Go.Proofs.YtpblgfgcoamgmaaGreatS
open Go Go.Proofs.YtpblgfgcoamgmaaGreatV

variable {G : Heap}
attribute [local irreducible] VN VC VX VQ

abbrev Rw := List Cl
def rwD (r : Rw) : D := .agg [.sl .none (r.map clD)]
theorem Rw_at {l : List Rw} {j : Nat} (h : j < l.length) : ∃ r, l[j]? = some r ∧ (l.map rwD).getD j .any = .agg [.sl .none (r.map clD)] := at_map h
end Go.Proofs.YtpblgfgcoamgmaaGreatS
namespace Go.Proofs.YtpblgfgcoamgmaaGreatS
open Go Go.Proofs.YtpblgfgcoamgmaaGreatV

variable {G : Heap}
theorem VN.er {P : Program} {f : FuncId} {args : List D} {d : D} (h : VN P G f (args.map D.er) d) : VN P G f args d :=
  fun K w vargs hr ha => h K w vargs hr (ha.map fun _ _ h => h.er)
attribute [local irreducible] VN VC VX VQ

theorem str_beq (s s' : ByteArray) : (s == s') = true ↔ s = s' := by
  show (s.data == s'.data) = true ↔ _
  simp [ByteArray.ext_iff]
abbrev I64 (k : Int) : Prop := -9223372036854775808 ≤ k ∧ k < 9223372036854775808
def Bd.I (b : Bd) : Prop := I64 b.id ∧ I64 b.nulls ∧ I64 b.min.n ∧ I64 b.max.n
end Go.Proofs.YtpblgfgcoamgmaaGreatS
namespace Go.Proofs.YtpblgfgcoamgmaaGreatS
open Go Go.Proofs.YtpblgfgcoamgmaaGreatV

variable {G : Heap}
attribute [local irreducible] VN VC VX VQ

def scD (fs : List Fd) (nx : Int) : D := .agg [.sl .none (fs.map fdD), .int .i64 nx]
def fdC (f : Fd) : List D := [.int .i64 f.id, .str f.name, .int .i64 f.type, .int .i64 f.parent]
def Fd.zero : Fd := ⟨0, ByteArray.empty, 0, 0⟩
def findFd (l : List Fd) (id : Int) : Option Fd := l.find? fun f => decide (f.id = id)
def orF (o : Option Fd) : Fd := o.getD Fd.zero
theorem sep_ok (s : ByteArray) : VX P G 112 [.str s] isB := by
  unfold VX
  refine VC.ofs (fun | 99999999 => [(0, [0, 2])] | _ => []) [2] mixed Tryz.func112 rfl rfl rfl rfl (by decide +kernel) (by simp) ?_
  simp only [go_sem, reduceIte, Nat.reduceEqDiff, Nat.reduceAdd, Nat.reduceSub, Nat.reduceMul, Nat.reduceLT, Nat.reduceLeDiff, Nat.reducePow, Int.reduceToNat, Int.reduceLT, Int.reduceLE, Int.reduceEq, Int.reduceNe, Int.reduceAdd, Int.reduceSub, Int.reduceMul, Int.reduceNeg]
  exact finK_drop ⟨_, ⟨_, rfl⟩, rfl, rfl, rfl⟩
theorem New_ok : VN P G 66 [] (scD [] 1) := by
  unfold VN
  refine VC.ofc (fun | 99999999 => [(0, [0])] | _ => []) [.cell 0 30] mixed Tryz.func66 rfl rfl rfl rfl (by decide +kernel) (by simp) ?_
  simp only [go_sem, reduceIte, Nat.reduceEqDiff, Nat.reduceAdd, Nat.reduceSub, Nat.reduceMul, Nat.reduceLT, Nat.reduceLeDiff, Nat.reducePow, Int.reduceToNat, Int.reduceLT, Int.reduceLE, Int.reduceEq, Int.reduceNe, Int.reduceAdd, Int.reduceSub, Int.reduceMul, Int.reduceNeg]
  intro b0
  try simp only [go_sem, reduceIte, Nat.reduceEqDiff, Nat.reduceAdd, Nat.reduceSub, Nat.reduceMul, Nat.reduceLT, Nat.reduceLeDiff, Nat.reducePow, Int.reduceToNat, Int.reduceLT, Int.reduceLE, Int.reduceEq, Int.reduceNe, Int.reduceAdd, Int.reduceSub, Int.reduceMul, Int.reduceNeg, scD]
  exact finK_drop ⟨rfl, rfl, rfl⟩
theorem mod_ok (x n : Int) : VX P G 110 [.int .i64 x, .int .i64 n] isI := by
  unfold VX
  refine VC.ofs (fun | 99999999 => [(0, [0, 1, 4, 6])] | _ => []) [4] mixed Tryz.func110 rfl rfl rfl rfl (by decide +kernel) (by simp) ?_
  simp only [go_sem, reduceIte, Nat.reduceEqDiff, Nat.reduceAdd, Nat.reduceSub, Nat.reduceMul, Nat.reduceLT, Nat.reduceLeDiff, Nat.reducePow, Int.reduceToNat, Int.reduceLT, Int.reduceLE, Int.reduceEq, Int.reduceNe, Int.reduceAdd, Int.reduceSub, Int.reduceMul, Int.reduceNeg]
  refine cd_dec (fun k => ?_) (fun k => ?_)
  · simp only [go_sem, reduceIte, Nat.reduceEqDiff, Nat.reduceAdd, Nat.reduceSub, Nat.reduceMul, Nat.reduceLT, Nat.reduceLeDiff, Nat.reducePow, Int.reduceToNat, Int.reduceLT, Int.reduceLE, Int.reduceEq, Int.reduceNe, Int.reduceAdd, Int.reduceSub, Int.reduceMul, Int.reduceNeg]
    exact finK_drop ⟨_, ⟨_, rfl⟩, rfl, rfl, rfl⟩
  · have e := eq_false (show ¬ n = 0 by omega)
    try simp only [go_sem, reduceIte, Nat.reduceEqDiff, Nat.reduceAdd, Nat.reduceSub, Nat.reduceMul, Nat.reduceLT, Nat.reduceLeDiff, Nat.reducePow, Int.reduceToNat, Int.reduceLT, Int.reduceLE, Int.reduceEq, Int.reduceNe, Int.reduceAdd, Int.reduceSub, Int.reduceMul, Int.reduceNeg, e]
    exact ⟨by omega, by omega, finK_drop ⟨_, ⟨_, rfl⟩, rfl, rfl, rfl⟩⟩
theorem Field_ok (fs : List Fd) (nx id : Int) (z : fs.length ≤ 1048576) : VN P G 147 [.agg [.sl .none (fs.map fdD), .int .i64 nx], .int .i64 id] (.tup [.agg (fdC (orF (findFd fs id))), .bool (findFd fs id).isSome]) := by
  unfold VN
  refine VC.ofc (fun | 99999999 => [(0, [0, 1, 2, 4, 5, 6, 11, 21])] | _ => []) [.cell 4 111, .tmp 5] mixed Tryz.func147 rfl rfl rfl rfl (by decide +kernel) (by simp) ?_
  simp only [go_sem, reduceIte, Nat.reduceEqDiff, Nat.reduceAdd, Nat.reduceSub, Nat.reduceMul, Nat.reduceLT, Nat.reduceLeDiff, Nat.reducePow, Int.reduceToNat, Int.reduceLT, Int.reduceLE, Int.reduceEq, Int.reduceNe, Int.reduceAdd, Int.reduceSub, Int.reduceMul, Int.reduceNeg]
  intro b0
  refine new_1 fun b1 h1 h2 => ?_
  try simp only [go_sem, reduceIte, Nat.reduceEqDiff, Nat.reduceAdd, Nat.reduceSub, Nat.reduceMul, Nat.reduceLT, Nat.reduceLeDiff, Nat.reducePow, Int.reduceToNat, Int.reduceLT, Int.reduceLE, Int.reduceEq, Int.reduceNe, Int.reduceAdd, Int.reduceSub, Int.reduceMul, Int.reduceNeg, h1, h2]
  generalize hβ : Heap.set _ b1 _ = β0
  have e0 : β0 b0 = some [.sl .none (fs.map fdD), .int .i64 nx] := by rw [← hβ]; simp [Heap.set, h1, h2]
  have e1 : β0 b1 = some [.int .i64 0, .str ByteArray.empty, .int .i64 0, .int .i64 0] := by rw [← hβ]; simp [Heap.set]
  clear hβ
  refine vwq_loop (fun v => ∃ (j : Nat), j ≤ fs.length ∧ findFd (fs.drop j) id = findFd fs id ∧ v.σ 1 = .int .i64 id ∧ v.σ 2 = .pb b0 0 ∧ v.σ 4 = .pb b1 0 ∧ v.σ 6 = .int .i64 j ∧ v.β = β0 ∧ v.ω = []) (fun v => fs.length - (ival (v.σ 6)).toNat) ⟨0, by omega, rfl, rfl, rfl, rfl, rfl, rfl, rfl⟩ ?_
  rintro σ β ω ⟨j, j1, j2, q1, q2, q4, q6, rfl, rfl⟩
  dsimp only at q1 q2 q4 q6 e0 e1
  try simp only [go_sem, reduceIte, Nat.reduceEqDiff, Nat.reduceAdd, Nat.reduceSub, Nat.reduceMul, Nat.reduceLT, Nat.reduceLeDiff, Nat.reducePow, Int.reduceToNat, Int.reduceLT, Int.reduceLE, Int.reduceEq, Int.reduceNe, Int.reduceAdd, Int.reduceSub, Int.reduceMul, Int.reduceNeg, q1, q2, q4, q6, e0, e1]
  refine cd_dec (fun g => ?_) (fun g => ?_)
  · obtain ⟨x, hx, ex⟩ := Fd_at (l := fs) (j := j) (by rw [List.length_map] at g; omega)
    have g1 := eq_true g
    rw [List.length_map] at g
    rw [drop_at hx, findFd, List.find?_cons] at j2
    have wj := wrap_i64 (x := (j : Int) + 1) (by omega) (by omega)
    have c1 : ((0 : Int) ≤ j) = True := eq_true (by omega)
    try simp only [go_sem, reduceIte, Nat.reduceEqDiff, Nat.reduceAdd, Nat.reduceSub, Nat.reduceMul, Nat.reduceLT, Nat.reduceLeDiff, Nat.reducePow, Int.reduceToNat, Int.reduceLT, Int.reduceLE, Int.reduceEq, Int.reduceNe, Int.reduceAdd, Int.reduceSub, Int.reduceMul, Int.reduceNeg, q1, q2, q4, q6, e0, e1, ex, g1, c1]
    refine cd_dec (fun k => ?_) (fun k => ?_)
    · try simp only [go_sem, reduceIte, Nat.reduceEqDiff, Nat.reduceAdd, Nat.reduceSub, Nat.reduceMul, Nat.reduceLT, Nat.reduceLeDiff, Nat.reducePow, Int.reduceToNat, Int.reduceLT, Int.reduceLE, Int.reduceEq, Int.reduceNe, Int.reduceAdd, Int.reduceSub, Int.reduceMul, Int.reduceNeg, q1, q2, q4, q6, e0, e1, ex, g1, c1, h1, h2]
      exact finK_drop ⟨by rw [← j2]; simp [k, orF, fdC, D.er, D.er1], rfl, rfl⟩
    · try simp only [go_sem, reduceIte, Nat.reduceEqDiff, Nat.reduceAdd, Nat.reduceSub, Nat.reduceMul, Nat.reduceLT, Nat.reduceLeDiff, Nat.reducePow, Int.reduceToNat, Int.reduceLT, Int.reduceLE, Int.reduceEq, Int.reduceNe, Int.reduceAdd, Int.reduceSub, Int.reduceMul, Int.reduceNeg, q1, q2, q4, q6, e0, e1, ex, wj]
      exact ⟨⟨j + 1, by omega, by rw [← j2]; simp [k, findFd], rfl⟩, by omega⟩
  · try simp only [go_sem, reduceIte, Nat.reduceEqDiff, Nat.reduceAdd, Nat.reduceSub, Nat.reduceMul, Nat.reduceLT, Nat.reduceLeDiff, Nat.reducePow, Int.reduceToNat, Int.reduceLT, Int.reduceLE, Int.reduceEq, Int.reduceNe, Int.reduceAdd, Int.reduceSub, Int.reduceMul, Int.reduceNeg, q1, q2, q4, q6, e0, e1]
    rw [List.length_map] at g
    rw [List.drop_eq_nil_of_le (by omega), findFd] at j2
    exact finK_drop ⟨by rw [← j2]; rfl, rfl, rfl⟩
theorem Name_ok (s : ByteArray) : VX P G 151 [.str s] isB := by
  unfold VX
  refine VC.small fun hsm => ?_
  have z1 := hsm (.str s) (List.mem_cons_self ..)
  simp only [Small, mostLen] at z1
  refine VC.ofs (fun | 99999999 => [(0, [0, 2, 3, 4, 8, 32])] | _ => []) [2] mixed Tryz.func151 rfl rfl rfl rfl (by decide +kernel) (by simp) ?_
  simp only [go_sem, reduceIte, Nat.reduceEqDiff, Nat.reduceAdd, Nat.reduceSub, Nat.reduceMul, Nat.reduceLT, Nat.reduceLeDiff, Nat.reducePow, Int.reduceToNat, Int.reduceLT, Int.reduceLE, Int.reduceEq, Int.reduceNe, Int.reduceAdd, Int.reduceSub, Int.reduceMul, Int.reduceNeg]
  refine vwq_loop (fun v => ∃ (j : Nat), j ≤ s.size ∧ v.σ 0 = .str s ∧ v.σ 3 = .int .i64 j ∧ v.β = Heap.nil ∧ v.ω = []) (fun v => s.size - (ival (v.σ 3)).toNat) ⟨0, by omega, rfl, rfl, rfl, rfl⟩ ?_
  rintro σ β ω ⟨j, j1, q0, q3, rfl, rfl⟩
  dsimp only at q0 q3
  try simp only [go_sem, reduceIte, Nat.reduceEqDiff, Nat.reduceAdd, Nat.reduceSub, Nat.reduceMul, Nat.reduceLT, Nat.reduceLeDiff, Nat.reducePow, Int.reduceToNat, Int.reduceLT, Int.reduceLE, Int.reduceEq, Int.reduceNe, Int.reduceAdd, Int.reduceSub, Int.reduceMul, Int.reduceNeg, q0, q3]
  refine cd_dec (fun g => ?_) (fun g => ?_)
  · have g1 := eq_true g
    have c1 : ((0 : Int) ≤ j) = True := eq_true (by omega)
    have wj := wrap_i64 (x := (j : Int) + 1) (by omega) (by omega)
    try simp only [go_sem, reduceIte, Nat.reduceEqDiff, Nat.reduceAdd, Nat.reduceSub, Nat.reduceMul, Nat.reduceLT, Nat.reduceLeDiff, Nat.reducePow, Int.reduceToNat, Int.reduceLT, Int.reduceLE, Int.reduceEq, Int.reduceNe, Int.reduceAdd, Int.reduceSub, Int.reduceMul, Int.reduceNeg, q0, q3, g1, c1]
    refine ⟨fun h => ⟨h, fun h2 => ⟨h, h2⟩⟩, cd_dec (fun k => ?_) (fun k => ?_)⟩
    · try simp only [go_sem, reduceIte, Nat.reduceEqDiff, Nat.reduceAdd, Nat.reduceSub, Nat.reduceMul, Nat.reduceLT, Nat.reduceLeDiff, Nat.reducePow, Int.reduceToNat, Int.reduceLT, Int.reduceLE, Int.reduceEq, Int.reduceNe, Int.reduceAdd, Int.reduceSub, Int.reduceMul, Int.reduceNeg, q0, q3]
      exact finK_drop ⟨_, ⟨_, rfl⟩, rfl, rfl, rfl⟩
    · try simp only [go_sem, reduceIte, Nat.reduceEqDiff, Nat.reduceAdd, Nat.reduceSub, Nat.reduceMul, Nat.reduceLT, Nat.reduceLeDiff, Nat.reducePow, Int.reduceToNat, Int.reduceLT, Int.reduceLE, Int.reduceEq, Int.reduceNe, Int.reduceAdd, Int.reduceSub, Int.reduceMul, Int.reduceNeg, q0, q3, wj]
      exact ⟨⟨j + 1, by omega, rfl⟩, by omega⟩
  · try simp only [go_sem, reduceIte, Nat.reduceEqDiff, Nat.reduceAdd, Nat.reduceSub, Nat.reduceMul, Nat.reduceLT, Nat.reduceLeDiff, Nat.reducePow, Int.reduceToNat, Int.reduceLT, Int.reduceLE, Int.reduceEq, Int.reduceNe, Int.reduceAdd, Int.reduceSub, Int.reduceMul, Int.reduceNeg, q0, q3]
    exact finK_drop ⟨_, ⟨_, rfl⟩, rfl, rfl, rfl⟩
theorem group_ok (fs : List Fd) (nx id : Int) (z : fs.length ≤ 1048576) : VX P G 113 [.agg [.sl .none (fs.map fdD), .int .i64 nx], .int .i64 id] isB := by
  have hf := Field_ok (G := G) fs nx id z
  simp only [fdC] at hf
  generalize orF (findFd fs id) = f at hf
  generalize (findFd fs id).isSome = ok at hf
  unfold VX
  refine VC.ofs (fun | 99999999 => [(0, [0, 1, 2, 4, 5, 6])] | _ => []) [4] mixed Tryz.func113 rfl rfl rfl rfl (by decide +kernel) (by simp) ?_
  simp only [go_sem, reduceIte, Nat.reduceEqDiff, Nat.reduceAdd, Nat.reduceSub, Nat.reduceMul, Nat.reduceLT, Nat.reduceLeDiff, Nat.reducePow, Int.reduceToNat, Int.reduceLT, Int.reduceLE, Int.reduceEq, Int.reduceNe, Int.reduceAdd, Int.reduceSub, Int.reduceMul, Int.reduceNeg]
  intro b0
  refine cK_vn hf ?_
  simp only [go_sem, reduceIte, Nat.reduceEqDiff, Nat.reduceAdd, Nat.reduceSub, Nat.reduceMul, Nat.reduceLT, Nat.reduceLeDiff, Nat.reducePow, Int.reduceToNat, Int.reduceLT, Int.reduceLE, Int.reduceEq, Int.reduceNe, Int.reduceAdd, Int.reduceSub, Int.reduceMul, Int.reduceNeg]
  refine new_1 fun b1 h1 h2 => ?_
  try simp only [go_sem, reduceIte, Nat.reduceEqDiff, Nat.reduceAdd, Nat.reduceSub, Nat.reduceMul, Nat.reduceLT, Nat.reduceLeDiff, Nat.reducePow, Int.reduceToNat, Int.reduceLT, Int.reduceLE, Int.reduceEq, Int.reduceNe, Int.reduceAdd, Int.reduceSub, Int.reduceMul, Int.reduceNeg, h1, h2]
  exact ⟨fun h => ⟨h, fun h2 => by simp [h, h2]⟩, finK_drop ⟨_, ⟨_, rfl⟩, rfl, rfl, rfl⟩⟩
theorem depth6_ok (fs : List Fd) (nx id : Int) (z : fs.length ≤ 1048576) : VX P G 144 [.agg [.sl .none (fs.map fdD), .int .i64 nx], .int .i64 id] isI := by
  unfold VX
  refine VC.ofs (fun | 99999999 => [(0, [0, 1, 2, 4, 5, 6, 7, 13, 21])] | _ => []) [4] mixed Tryz.func144 rfl rfl rfl rfl (by decide +kernel) (by simp) ?_
  simp only [go_sem, reduceIte, Nat.reduceEqDiff, Nat.reduceAdd, Nat.reduceSub, Nat.reduceMul, Nat.reduceLT, Nat.reduceLeDiff, Nat.reducePow, Int.reduceToNat, Int.reduceLT, Int.reduceLE, Int.reduceEq, Int.reduceNe, Int.reduceAdd, Int.reduceSub, Int.reduceMul, Int.reduceNeg]
  intro b0
  generalize hβ : Heap.set Heap.nil b0 _ = β0
  have e0 : β0 b0 = some [.sl .none (fs.map fdD), .int .i64 nx] := by rw [← hβ]; simp only [Heap.set, if_true]
  refine vwq_loop (fun v => ∃ (j : Nat) (k : Int), j ≤ 9 ∧ v.σ 1 = .int .i64 k ∧ v.σ 2 = .pb b0 0 ∧ v.σ 5 = .int .i64 j ∧ v.β b0 = some [.sl .none (fs.map fdD), .int .i64 nx] ∧ v.ω = []) (fun v => 9 - (ival (v.σ 5)).toNat) ⟨0, id, by omega, rfl, rfl, rfl, e0, rfl⟩ ?_
  clear hβ e0 β0
  rintro σ β ω ⟨j, k, j1, q1, q2, q5, e0, rfl⟩
  dsimp only at q1 q2 q5 e0
  have hf := Field_ok (G := G) fs nx k z
  simp only [fdC] at hf
  generalize orF (findFd fs k) = f at hf
  generalize (findFd fs k).isSome = ok at hf
  have wj := wrap_i64 (x := (j : Int) + 1) (by omega) (by omega)
  try simp only [go_sem, reduceIte, Nat.reduceEqDiff, Nat.reduceAdd, Nat.reduceSub, Nat.reduceMul, Nat.reduceLT, Nat.reduceLeDiff, Nat.reducePow, Int.reduceToNat, Int.reduceLT, Int.reduceLE, Int.reduceEq, Int.reduceNe, Int.reduceAdd, Int.reduceSub, Int.reduceMul, Int.reduceNeg, q1, q2, q5, e0]
  refine cd_dec (fun g => ?_) (fun g => ?_)
  · try simp only [go_sem, reduceIte, Nat.reduceEqDiff, Nat.reduceAdd, Nat.reduceSub, Nat.reduceMul, Nat.reduceLT, Nat.reduceLeDiff, Nat.reducePow, Int.reduceToNat, Int.reduceLT, Int.reduceLE, Int.reduceEq, Int.reduceNe, Int.reduceAdd, Int.reduceSub, Int.reduceMul, Int.reduceNeg, q1, q2, q5, e0]
    refine cK_vn hf ?_
    try simp only [go_sem, reduceIte, Nat.reduceEqDiff, Nat.reduceAdd, Nat.reduceSub, Nat.reduceMul, Nat.reduceLT, Nat.reduceLeDiff, Nat.reducePow, Int.reduceToNat, Int.reduceLT, Int.reduceLE, Int.reduceEq, Int.reduceNe, Int.reduceAdd, Int.reduceSub, Int.reduceMul, Int.reduceNeg, q1, q2, q5, e0]
    refine new_any fun b1 hb => ?_
    have m0 := box_ne hb e0
    cases ok
    all_goals try simp only [go_sem, reduceIte, Nat.reduceEqDiff, Nat.reduceAdd, Nat.reduceSub, Nat.reduceMul, Nat.reduceLT, Nat.reduceLeDiff, Nat.reducePow, Int.reduceToNat, Int.reduceLT, Int.reduceLE, Int.reduceEq, Int.reduceNe, Int.reduceAdd, Int.reduceSub, Int.reduceMul, Int.reduceNeg, q1, q2, q5, e0, m0, wj]
    · exact finK_drop ⟨_, ⟨_, rfl⟩, rfl, rfl, rfl⟩
    · exact ⟨⟨j + 1, _, by omega, rfl, by simp [Heap.set, m0, e0]⟩, by omega⟩
  · try simp only [go_sem, reduceIte, Nat.reduceEqDiff, Nat.reduceAdd, Nat.reduceSub, Nat.reduceMul, Nat.reduceLT, Nat.reduceLeDiff, Nat.reducePow, Int.reduceToNat, Int.reduceLT, Int.reduceLE, Int.reduceEq, Int.reduceNe, Int.reduceAdd, Int.reduceSub, Int.reduceMul, Int.reduceNeg, q1, q2, q5, e0]
    exact finK_drop ⟨_, ⟨_, rfl⟩, rfl, rfl, rfl⟩
theorem inside_ok (fs : List Fd) (nx id gr : Int) (z : fs.length ≤ 1048576) : VX P G 167 [.agg [.sl .none (fs.map fdD), .int .i64 nx], .int .i64 id, .int .i64 gr] isB := by
  unfold VX
  refine VC.ofs (fun | 99999999 => [(0, [0, 1, 2, 3, 6, 7, 8, 15, 20])] | _ => []) [6] mixed Tryz.func167 rfl rfl rfl rfl (by decide +kernel) (by simp) ?_
  simp only [go_sem, reduceIte, Nat.reduceEqDiff, Nat.reduceAdd, Nat.reduceSub, Nat.reduceMul, Nat.reduceLT, Nat.reduceLeDiff, Nat.reducePow, Int.reduceToNat, Int.reduceLT, Int.reduceLE, Int.reduceEq, Int.reduceNe, Int.reduceAdd, Int.reduceSub, Int.reduceMul, Int.reduceNeg]
  intro b0
  generalize hβ : Heap.set Heap.nil b0 _ = β0
  have e0 : β0 b0 = some [.sl .none (fs.map fdD), .int .i64 nx] := by rw [← hβ]; simp only [Heap.set, if_true]
  refine vwq_loop (fun v => ∃ (j : Nat) (k : Int), j ≤ 9 ∧ v.σ 1 = .int .i64 k ∧ v.σ 2 = .int .i64 gr ∧ v.σ 3 = .pb b0 0 ∧ v.σ 7 = .int .i64 j ∧ v.β b0 = some [.sl .none (fs.map fdD), .int .i64 nx] ∧ v.ω = []) (fun v => 9 - (ival (v.σ 7)).toNat) ⟨0, id, by omega, rfl, rfl, rfl, rfl, e0, rfl⟩ ?_
  clear hβ e0 β0
  rintro σ β ω ⟨j, k, j1, q1, q2, q3, q7, e0, rfl⟩
  dsimp only at q1 q2 q3 q7 e0
  have hf := Field_ok (G := G) fs nx k z
  simp only [fdC] at hf
  generalize orF (findFd fs k) = f at hf
  generalize (findFd fs k).isSome = ok at hf
  have wj := wrap_i64 (x := (j : Int) + 1) (by omega) (by omega)
  try simp only [go_sem, reduceIte, Nat.reduceEqDiff, Nat.reduceAdd, Nat.reduceSub, Nat.reduceMul, Nat.reduceLT, Nat.reduceLeDiff, Nat.reducePow, Int.reduceToNat, Int.reduceLT, Int.reduceLE, Int.reduceEq, Int.reduceNe, Int.reduceAdd, Int.reduceSub, Int.reduceMul, Int.reduceNeg, q1, q2, q3, q7, e0]
  refine cd_dec (fun g => ?_) (fun g => ?_)
  · try simp only [go_sem, reduceIte, Nat.reduceEqDiff, Nat.reduceAdd, Nat.reduceSub, Nat.reduceMul, Nat.reduceLT, Nat.reduceLeDiff, Nat.reducePow, Int.reduceToNat, Int.reduceLT, Int.reduceLE, Int.reduceEq, Int.reduceNe, Int.reduceAdd, Int.reduceSub, Int.reduceMul, Int.reduceNeg, q1, q2, q3, q7, e0]
    refine cd_dec (fun g2 => ?_) (fun g2 => ?_)
    · try simp only [go_sem, reduceIte, Nat.reduceEqDiff, Nat.reduceAdd, Nat.reduceSub, Nat.reduceMul, Nat.reduceLT, Nat.reduceLeDiff, Nat.reducePow, Int.reduceToNat, Int.reduceLT, Int.reduceLE, Int.reduceEq, Int.reduceNe, Int.reduceAdd, Int.reduceSub, Int.reduceMul, Int.reduceNeg, q1, q2, q3, q7, e0]
      exact finK_drop ⟨_, ⟨_, rfl⟩, rfl, rfl, rfl⟩
    try simp only [go_sem, reduceIte, Nat.reduceEqDiff, Nat.reduceAdd, Nat.reduceSub, Nat.reduceMul, Nat.reduceLT, Nat.reduceLeDiff, Nat.reducePow, Int.reduceToNat, Int.reduceLT, Int.reduceLE, Int.reduceEq, Int.reduceNe, Int.reduceAdd, Int.reduceSub, Int.reduceMul, Int.reduceNeg, q1, q2, q3, q7, e0]
    refine cK_vn hf ?_
    try simp only [go_sem, reduceIte, Nat.reduceEqDiff, Nat.reduceAdd, Nat.reduceSub, Nat.reduceMul, Nat.reduceLT, Nat.reduceLeDiff, Nat.reducePow, Int.reduceToNat, Int.reduceLT, Int.reduceLE, Int.reduceEq, Int.reduceNe, Int.reduceAdd, Int.reduceSub, Int.reduceMul, Int.reduceNeg, q1, q2, q3, q7, e0]
    refine new_any fun b1 hb => ?_
    have m0 := box_ne hb e0
    try simp only [go_sem, reduceIte, Nat.reduceEqDiff, Nat.reduceAdd, Nat.reduceSub, Nat.reduceMul, Nat.reduceLT, Nat.reduceLeDiff, Nat.reducePow, Int.reduceToNat, Int.reduceLT, Int.reduceLE, Int.reduceEq, Int.reduceNe, Int.reduceAdd, Int.reduceSub, Int.reduceMul, Int.reduceNeg, q1, q2, q3, q7, e0, m0, wj]
    exact ⟨⟨j + 1, _, by omega, rfl, by simp [Heap.set, m0, e0]⟩, by omega⟩
  · try simp only [go_sem, reduceIte, Nat.reduceEqDiff, Nat.reduceAdd, Nat.reduceSub, Nat.reduceMul, Nat.reduceLT, Nat.reduceLeDiff, Nat.reducePow, Int.reduceToNat, Int.reduceLT, Int.reduceLE, Int.reduceEq, Int.reduceNe, Int.reduceAdd, Int.reduceSub, Int.reduceMul, Int.reduceNeg, q1, q2, q3, q7, e0]
    exact finK_drop ⟨_, ⟨_, rfl⟩, rfl, rfl, rfl⟩
theorem taken_ok (fs : List Fd) (nx : Int) (f : Fd) (i k : Int) (z : fs.length ≤ 1048576) : VX P G 145 [.agg [.sl .none (fs.map fdD), .int .i64 nx], .agg (fdC f), .agg [.int .i64 i, .int .i64 k]] isB := by
  have hn := Name_ok (G := G) f.name
  simp only [fdC]
  unfold VX
  refine VC.ofs (fun | 99999999 => [(0, [0, 1, 2, 3, 4, 5, 6, 7, 8, 9, 14, 47])] | _ => []) [6] mixed Tryz.func145 rfl rfl rfl rfl (by decide +kernel) (by simp) ?_
  simp only [go_sem, reduceIte, Nat.reduceEqDiff, Nat.reduceAdd, Nat.reduceSub, Nat.reduceMul, Nat.reduceLT, Nat.reduceLeDiff, Nat.reducePow, Int.reduceToNat, Int.reduceLT, Int.reduceLE, Int.reduceEq, Int.reduceNe, Int.reduceAdd, Int.reduceSub, Int.reduceMul, Int.reduceNeg]
  intro b0
  refine new_1 fun b1 h1 h2 => ?_
  refine new_2 fun b2 h3 h4 h5 => ?_
  generalize hβ : Heap.set _ b2 _ = β0
  have e0 : β0 b0 = some [.sl .none (fs.map fdD), .int .i64 nx] := by rw [← hβ]; simp [Heap.set, h1, h2, h3, h4, h5]
  have e1 : β0 b1 = some (fdC f) := by rw [← hβ]; simp [Heap.set, h1, h2, h3, h4, h5, fdC]
  have e2 : β0 b2 = some [.int .i64 i, .int .i64 k] := by rw [← hβ]; simp [Heap.set]
  clear hβ
  simp only [fdC] at e1
  refine vwq_loop (fun v => ∃ (j : Nat), j ≤ fs.length ∧ v.σ 3 = .pb b0 0 ∧ v.σ 4 = .pb b1 0 ∧ v.σ 5 = .pb b2 0 ∧ v.σ 7 = .int .i64 j ∧ v.β b0 = some [.sl .none (fs.map fdD), .int .i64 nx] ∧ v.β b1 = some [.int .i64 f.id, .str f.name, .int .i64 f.type, .int .i64 f.parent] ∧ v.β b2 = some [.int .i64 i, .int .i64 k] ∧ v.ω = []) (fun v => fs.length - (ival (v.σ 7)).toNat) ⟨0, by omega, rfl, rfl, rfl, rfl, e0, e1, e2, rfl⟩ ?_
  clear e0 e1 e2 β0
  rintro σ β ω ⟨j, j1, q3, q4, q5, q7, e0, e1, e2, rfl⟩
  dsimp only at q3 q4 q5 q7 e0 e1 e2
  try simp only [go_sem, reduceIte, Nat.reduceEqDiff, Nat.reduceAdd, Nat.reduceSub, Nat.reduceMul, Nat.reduceLT, Nat.reduceLeDiff, Nat.reducePow, Int.reduceToNat, Int.reduceLT, Int.reduceLE, Int.reduceEq, Int.reduceNe, Int.reduceAdd, Int.reduceSub, Int.reduceMul, Int.reduceNeg, q3, q4, q5, q7, e0, e1, e2]
  refine cd_dec (fun g => ?_) (fun g => ?_)
  · obtain ⟨x, hx, ex⟩ := Fd_at (l := fs) (j := j) (by rw [List.length_map] at g; omega)
    have g1 := eq_true g
    rw [List.length_map] at g
    have wj := wrap_i64 (x := (j : Int) + 1) (by omega) (by omega)
    have c1 : ((0 : Int) ≤ j) = True := eq_true (by omega)
    try simp only [go_sem, reduceIte, Nat.reduceEqDiff, Nat.reduceAdd, Nat.reduceSub, Nat.reduceMul, Nat.reduceLT, Nat.reduceLeDiff, Nat.reducePow, Int.reduceToNat, Int.reduceLT, Int.reduceLE, Int.reduceEq, Int.reduceNe, Int.reduceAdd, Int.reduceSub, Int.reduceMul, Int.reduceNeg, q3, q4, q5, q7, e0, e1, e2, ex, g1, c1]
    refine new_any fun b3 hb => ?_
    have m0 := box_ne hb e0
    have m1 := box_ne hb e1
    have m2 := box_ne hb e2
    try simp only [go_sem, reduceIte, Nat.reduceEqDiff, Nat.reduceAdd, Nat.reduceSub, Nat.reduceMul, Nat.reduceLT, Nat.reduceLeDiff, Nat.reducePow, Int.reduceToNat, Int.reduceLT, Int.reduceLE, Int.reduceEq, Int.reduceNe, Int.reduceAdd, Int.reduceSub, Int.reduceMul, Int.reduceNeg, q3, q4, q5, q7, e0, e1, e2, ex, m0, m1, m2]
    refine cd_dec (fun k => ?_) (fun k => ?_)
    · try simp only [go_sem, reduceIte, Nat.reduceEqDiff, Nat.reduceAdd, Nat.reduceSub, Nat.reduceMul, Nat.reduceLT, Nat.reduceLeDiff, Nat.reducePow, Int.reduceToNat, Int.reduceLT, Int.reduceLE, Int.reduceEq, Int.reduceNe, Int.reduceAdd, Int.reduceSub, Int.reduceMul, Int.reduceNeg, q3, q4, q5, q7, e0, e1, e2]
      exact finK_drop ⟨_, ⟨_, rfl⟩, rfl, rfl, rfl⟩
    · try simp only [go_sem, reduceIte, Nat.reduceEqDiff, Nat.reduceAdd, Nat.reduceSub, Nat.reduceMul, Nat.reduceLT, Nat.reduceLeDiff, Nat.reducePow, Int.reduceToNat, Int.reduceLT, Int.reduceLE, Int.reduceEq, Int.reduceNe, Int.reduceAdd, Int.reduceSub, Int.reduceMul, Int.reduceNeg, q3, q4, q5, q7, e0, e1, e2, wj]
      exact ⟨⟨j + 1, by omega, rfl, by simp [Heap.set, m0, e0], by simp [Heap.set, m1, e1], by simp [Heap.set, m2, e2]⟩, by omega⟩
  · try simp only [go_sem, reduceIte, Nat.reduceEqDiff, Nat.reduceAdd, Nat.reduceSub, Nat.reduceMul, Nat.reduceLT, Nat.reduceLeDiff, Nat.reducePow, Int.reduceToNat, Int.reduceLT, Int.reduceLE, Int.reduceEq, Int.reduceNe, Int.reduceAdd, Int.reduceSub, Int.reduceMul, Int.reduceNeg, q3, q4, q5, q7, e0, e1, e2]
    refine cK_vx hn ?_
    rintro _ ⟨b, rfl⟩
    try simp only [go_sem, reduceIte, Nat.reduceEqDiff, Nat.reduceAdd, Nat.reduceSub, Nat.reduceMul, Nat.reduceLT, Nat.reduceLeDiff, Nat.reducePow, Int.reduceToNat, Int.reduceLT, Int.reduceLE, Int.reduceEq, Int.reduceNe, Int.reduceAdd, Int.reduceSub, Int.reduceMul, Int.reduceNeg, q3, q4, q5, q7, e0, e1, e2]
    exact finK_drop ⟨_, ⟨_, rfl⟩, rfl, rfl, rfl⟩
end Go.Proofs.YtpblgfgcoamgmaaGreatS
namespace Go.Proofs.YtpblgfgcoamgmaaGreatS
open Go Go.Proofs.YtpblgfgcoamgmaaGreatV

variable {G : Heap}
attribute [local irreducible] VN VC VX VQ

theorem Fd6_cells4 (l : List Fd) : ∀ x ∈ l.map fdD, x.cells.length = 4 := fun x hx => by
  obtain ⟨y, _, rfl⟩ := List.mem_map.1 hx; rfl
theorem fd_er (l : List Fd) : (l.map fdD).map D.er = l.map fdD := by
  rw [List.map_map]; exact List.map_congr_left fun b _ => rfl
def plusF (fs : List Fd) (nx : Int) (f : Fd) : List Fd := fs ++ [⟨nx, f.name, f.type, f.parent⟩]
set_option maxHeartbeats 2000000 in
theorem plus_ok (fs : List Fd) (nx : Int) (f : Fd) (z : fs.length ≤ 1048576) (hn : 0 ≤ nx ∧ nx ≤ 2147483648) : VN P G 146 [.agg [.sl .none (fs.map fdD), .int .i64 nx], .agg (fdC f)] (.agg [.sl .none ((plusF fs nx f).map fdD), .int .i64 (nx + 1)]) := by
  have wn := wrap_i64 (x := nx + 1) (by omega) (by omega)
  simp only [fdC]
  unfold VN
  refine VC.ofc (fun | 2 => [(0, []), (1, []), (2, []), (3, []), (4, []), (5, []), (6, []), (7, []), (8, []), (9, [])] | 99999999 => [(0, [0, 1, 2, 3, 4, 5])] | _ => []) [.cell 4 30] mixed Tryz.func146 rfl rfl rfl rfl (by decide +kernel) (by simp) ?_
  simp only [go_sem, reduceIte, Nat.reduceEqDiff, Nat.reduceAdd, Nat.reduceSub, Nat.reduceMul, Nat.reduceLT, Nat.reduceLeDiff, Nat.reducePow, Int.reduceToNat, Int.reduceLT, Int.reduceLE, Int.reduceEq, Int.reduceNe, Int.reduceAdd, Int.reduceSub, Int.reduceMul, Int.reduceNeg]
  intro b0
  refine new_1 fun b1 h1 h2 => ?_
  refine new_2 fun b2 h3 h4 h5 => ?_
  try simp only [go_sem, reduceIte, Nat.reduceEqDiff, Nat.reduceAdd, Nat.reduceSub, Nat.reduceMul, Nat.reduceLT, Nat.reduceLeDiff, Nat.reducePow, Int.reduceToNat, Int.reduceLT, Int.reduceLE, Int.reduceEq, Int.reduceNe, Int.reduceAdd, Int.reduceSub, Int.reduceMul, Int.reduceNeg, h1, h2, h3, h4, h5, wn]
  refine ⟨fun d hd => by obtain ⟨y, _, rfl⟩ := List.mem_map.1 hd; exact ⟨rfl, rfl⟩, by simp only [List.length_map]; omega, fun t' => ?_⟩
  refine new_any fun b3 h6 => ?_
  simp only [set_none] at h6
  try simp only [go_sem, reduceIte, Nat.reduceEqDiff, Nat.reduceAdd, Nat.reduceSub, Nat.reduceMul, Nat.reduceLT, Nat.reduceLeDiff, Nat.reducePow, Int.reduceToNat, Int.reduceLT, Int.reduceLE, Int.reduceEq, Int.reduceNe, Int.reduceAdd, Int.reduceSub, Int.reduceMul, Int.reduceNeg, h1, h2, h3, h4, h5, h6, wn, fd_er]
  exact ⟨Fd6_cells4 _, by rw [List.length_map]; omega, fun t'' _ => finK_drop ⟨by rw [plusF, List.map_append]; rfl, rfl, rfl⟩⟩
def withoutF (fs : List Fd) (i k : Int) : List Fd := fs.filter fun f => decide (f.id ≠ i ∧ f.id ≠ k)
set_option maxHeartbeats 2000000 in
theorem without_ok (fs : List Fd) (nx i k : Int) (z : fs.length ≤ 1048576) : VN P G 148 [.agg [.sl .none (fs.map fdD), .int .i64 nx], .agg [.int .i64 i, .int .i64 k]] (.agg [.sl .none ((withoutF fs i k).map fdD), .int .i64 nx]) := by
  unfold VN
  refine VC.ofc (fun | 5 => [(0, []), (1, []), (2, []), (3, []), (4, []), (5, []), (6, []), (7, []), (8, []), (9, []), (10, []), (11, []), (12, []), (13, []), (14, []), (15, []), (16, []), (17, []), (18, []), (19, [])] | 6 => [(0, []), (1, []), (2, []), (3, []), (4, []), (5, []), (6, []), (7, []), (8, []), (9, []), (10, [])] | 99999999 => [(0, [0, 1, 2, 3, 4, 5, 6, 14, 36])] | _ => []) [.cell 4 30] mixed Tryz.func148 rfl rfl rfl rfl (by decide +kernel) (by simp) ?_
  simp only [go_sem, reduceIte, Nat.reduceEqDiff, Nat.reduceAdd, Nat.reduceSub, Nat.reduceMul, Nat.reduceLT, Nat.reduceLeDiff, Nat.reducePow, Int.reduceToNat, Int.reduceLT, Int.reduceLE, Int.reduceEq, Int.reduceNe, Int.reduceAdd, Int.reduceSub, Int.reduceMul, Int.reduceNeg]
  intro b0
  refine new_1 fun b1 h1 h2 => ?_
  refine new_2 fun b2 h3 h4 h5 => ?_
  try simp only [go_sem, reduceIte, Nat.reduceEqDiff, Nat.reduceAdd, Nat.reduceSub, Nat.reduceMul, Nat.reduceLT, Nat.reduceLeDiff, Nat.reducePow, Int.reduceToNat, Int.reduceLT, Int.reduceLE, Int.reduceEq, Int.reduceNe, Int.reduceAdd, Int.reduceSub, Int.reduceMul, Int.reduceNeg, h1, h2, h3, h4, h5]
  refine new_any fun b3 h6 => ?_
  simp only [set_none] at h6
  generalize hβ : Heap.set _ b3 _ = β0
  have e0 : β0 b0 = some [.sl .none (fs.map fdD), .int .i64 nx] := by rw [← hβ]; simp [Heap.set, h1, h2, h3, h4, h5, h6]
  have e1 : β0 b1 = some [.int .i64 i, .int .i64 k] := by rw [← hβ]; simp [Heap.set, h1, h2, h3, h4, h5, h6]
  have e2 : β0 b2 = some [.sl .full [], .int .i64 0] := by rw [← hβ]; simp [Heap.set, h1, h2, h3, h4, h5, h6]
  have e3 : β0 b3 = some [.sl .full [], .int .i64 nx] := by rw [← hβ]; simp [Heap.set]
  clear hβ
  refine vwq_loop (fun v => ∃ (j : Nat) (tk : Tk), j ≤ fs.length ∧ TW 4 tk v.ω ∧ v.σ 2 = .pb b0 0 ∧ v.σ 3 = .pb b1 0 ∧ v.σ 4 = .pb b2 0 ∧ v.σ 5 = .pb b3 0 ∧ v.σ 6 = .int .i64 j ∧ v.β b0 = some [.sl .none (fs.map fdD), .int .i64 nx] ∧ v.β b1 = some [.int .i64 i, .int .i64 k] ∧ v.β b2 = some [.sl .full [], .int .i64 0] ∧ v.β b3 = some [.sl tk ((withoutF (fs.take j) i k).map fdD), .int .i64 nx]) (fun v => fs.length - (ival (v.σ 6)).toNat) ?_ ?_
  · exact ⟨0, .full, by omega, TW.full 4, rfl, rfl, rfl, rfl, rfl, e0, e1, e2, e3⟩
  clear e0 e1 e2 e3 β0
  rintro σ β ω ⟨j, tk, j1, hw, q2, q3, q4, q5, q6, e0, e1, e2, e3⟩
  dsimp only at hw q2 q3 q4 q5 q6 e0 e1 e2 e3
  have ho := hw.ok
  have hg := hw.gone
  try simp only [go_sem, reduceIte, Nat.reduceEqDiff, Nat.reduceAdd, Nat.reduceSub, Nat.reduceMul, Nat.reduceLT, Nat.reduceLeDiff, Nat.reducePow, Int.reduceToNat, Int.reduceLT, Int.reduceLE, Int.reduceEq, Int.reduceNe, Int.reduceAdd, Int.reduceSub, Int.reduceMul, Int.reduceNeg, q2, q3, q4, q5, q6, e0, e1, e2, e3]
  refine cd_dec (fun g => ?_) (fun g => ?_)
  · obtain ⟨x, hx, ex⟩ := Fd_at (l := fs) (j := j) (by rw [List.length_map] at g; omega)
    have g1 := eq_true g
    rw [List.length_map] at g
    have wj := wrap_i64 (x := (j : Int) + 1) (by omega) (by omega)
    have c1 : ((0 : Int) ≤ j) = True := eq_true (by omega)
    have hl : (withoutF (fs.take j) i k).length ≤ j := Nat.le_trans (List.length_filter_le ..) (by rw [List.length_take]; omega)
    have ht : withoutF (fs.take (j + 1)) i k = withoutF (fs.take j) i k ++ (if x.id ≠ i ∧ x.id ≠ k then [x] else []) := by
      rw [List.take_add_one, hx]
      simp only [withoutF, List.filter_append, Option.toList_some]
      by_cases h : x.id ≠ i ∧ x.id ≠ k <;> simp [h]
    try simp only [go_sem, reduceIte, Nat.reduceEqDiff, Nat.reduceAdd, Nat.reduceSub, Nat.reduceMul, Nat.reduceLT, Nat.reduceLeDiff, Nat.reducePow, Int.reduceToNat, Int.reduceLT, Int.reduceLE, Int.reduceEq, Int.reduceNe, Int.reduceAdd, Int.reduceSub, Int.reduceMul, Int.reduceNeg, q2, q3, q4, q5, q6, e0, e1, e2, e3, ex, g1, c1]
    refine cd_dec (fun kk => ?_) (fun kk => ?_)
    · rw [if_pos kk] at ht
      try simp only [go_sem, reduceIte, Nat.reduceEqDiff, Nat.reduceAdd, Nat.reduceSub, Nat.reduceMul, Nat.reduceLT, Nat.reduceLeDiff, Nat.reducePow, Int.reduceToNat, Int.reduceLT, Int.reduceLE, Int.reduceEq, Int.reduceNe, Int.reduceAdd, Int.reduceSub, Int.reduceMul, Int.reduceNeg, q2, q3, q4, q5, q6, e0, e1, e2, e3, ex, g1, c1, ho, hg, wj]
      refine ⟨Fd6_cells4 _, by rw [List.length_map]; omega, fun t' _ => ⟨⟨j + 1, .live t' 4, by omega, TW.live 4 t', ?_⟩, by omega⟩⟩
      simp [Heap.set, e0, e1, e2, h6, ht, fdD]
    · rw [if_neg kk] at ht
      try simp only [go_sem, reduceIte, Nat.reduceEqDiff, Nat.reduceAdd, Nat.reduceSub, Nat.reduceMul, Nat.reduceLT, Nat.reduceLeDiff, Nat.reducePow, Int.reduceToNat, Int.reduceLT, Int.reduceLE, Int.reduceEq, Int.reduceNe, Int.reduceAdd, Int.reduceSub, Int.reduceMul, Int.reduceNeg, q2, q3, q4, q5, q6, e0, e1, e2, e3, ex, g1, c1, wj]
      refine ⟨⟨j + 1, tk, by omega, hw, ?_⟩, by omega⟩
      rw [ht, List.append_nil]
      simp [e0, e1, e2, e3]
  · try simp only [go_sem, reduceIte, Nat.reduceEqDiff, Nat.reduceAdd, Nat.reduceSub, Nat.reduceMul, Nat.reduceLT, Nat.reduceLeDiff, Nat.reducePow, Int.reduceToNat, Int.reduceLT, Int.reduceLE, Int.reduceEq, Int.reduceNe, Int.reduceAdd, Int.reduceSub, Int.reduceMul, Int.reduceNeg, q2, q3, q4, q5, q6, e0, e1, e2, e3]
    rw [List.length_map] at g
    rw [List.take_of_length_le (by omega)]
    exact finK_drop ⟨rfl, rfl, rfl⟩
def withF (fs : List Fd) (f : Fd) : List Fd := fs.map fun x => if x.id = f.id then f else x
set_option maxHeartbeats 2000000 in
theorem with_ok (fs : List Fd) (nx : Int) (f : Fd) (z : fs.length ≤ 1048576) : VN P G 149 [.agg [.sl .none (fs.map fdD), .int .i64 nx], .agg (fdC f)] (.agg [.sl .none ((withF fs f).map fdD), .int .i64 nx]) := by
  simp only [fdC]
  unfold VN
  refine VC.ofc (fun | 5 => [(0, []), (1, []), (2, []), (3, []), (4, []), (5, []), (6, []), (7, []), (8, [])] | 7 => [(0, []), (1, []), (2, []), (3, []), (4, []), (5, []), (6, []), (7, []), (8, []), (9, []), (10, [])] | 99999999 => [(0, [0, 1, 2, 3, 4, 5, 6, 14, 25])] | _ => []) [.cell 4 30] mixed Tryz.func149 rfl rfl rfl rfl (by decide +kernel) (by simp) ?_
  simp only [go_sem, reduceIte, Nat.reduceEqDiff, Nat.reduceAdd, Nat.reduceSub, Nat.reduceMul, Nat.reduceLT, Nat.reduceLeDiff, Nat.reducePow, Int.reduceToNat, Int.reduceLT, Int.reduceLE, Int.reduceEq, Int.reduceNe, Int.reduceAdd, Int.reduceSub, Int.reduceMul, Int.reduceNeg]
  intro b0
  refine new_1 fun b1 h1 h2 => ?_
  refine new_2 fun b2 h3 h4 h5 => ?_
  try simp only [go_sem, reduceIte, Nat.reduceEqDiff, Nat.reduceAdd, Nat.reduceSub, Nat.reduceMul, Nat.reduceLT, Nat.reduceLeDiff, Nat.reducePow, Int.reduceToNat, Int.reduceLT, Int.reduceLE, Int.reduceEq, Int.reduceNe, Int.reduceAdd, Int.reduceSub, Int.reduceMul, Int.reduceNeg, h1, h2, h3, h4, h5]
  refine new_any fun b3 h6 => ?_
  simp only [set_none] at h6
  generalize hβ : Heap.set _ b3 _ = β0
  have e0 : β0 b0 = some [.sl .none (fs.map fdD), .int .i64 nx] := by rw [← hβ]; simp [Heap.set, h1, h2, h3, h4, h5, h6]
  have e1 : β0 b1 = some [.int .i64 f.id, .str f.name, .int .i64 f.type, .int .i64 f.parent] := by rw [← hβ]; simp [Heap.set, h1, h2, h3, h4, h5, h6]
  have e2 : β0 b2 = some [.sl .full [], .int .i64 0] := by rw [← hβ]; simp [Heap.set, h1, h2, h3, h4, h5, h6]
  have e3 : β0 b3 = some [.sl .full [], .int .i64 nx] := by rw [← hβ]; simp [Heap.set]
  clear hβ
  refine vwq_loop (fun v => ∃ (j : Nat) (tk : Tk), j ≤ fs.length ∧ TW 4 tk v.ω ∧ v.σ 2 = .pb b0 0 ∧ v.σ 3 = .pb b1 0 ∧ v.σ 4 = .pb b2 0 ∧ v.σ 5 = .pb b3 0 ∧ v.σ 6 = .int .i64 j ∧ v.β b0 = some [.sl .none (fs.map fdD), .int .i64 nx] ∧ v.β b1 = some [.int .i64 f.id, .str f.name, .int .i64 f.type, .int .i64 f.parent] ∧ v.β b2 = some [.sl .full [], .int .i64 0] ∧ v.β b3 = some [.sl tk ((withF (fs.take j) f).map fdD), .int .i64 nx]) (fun v => fs.length - (ival (v.σ 6)).toNat) ?_ ?_
  · exact ⟨0, .full, by omega, TW.full 4, rfl, rfl, rfl, rfl, rfl, e0, e1, e2, e3⟩
  clear e0 e1 e2 e3 β0
  rintro σ β ω ⟨j, tk, j1, hw, q2, q3, q4, q5, q6, e0, e1, e2, e3⟩
  dsimp only at hw q2 q3 q4 q5 q6 e0 e1 e2 e3
  have ho := hw.ok
  have hg := hw.gone
  try simp only [go_sem, reduceIte, Nat.reduceEqDiff, Nat.reduceAdd, Nat.reduceSub, Nat.reduceMul, Nat.reduceLT, Nat.reduceLeDiff, Nat.reducePow, Int.reduceToNat, Int.reduceLT, Int.reduceLE, Int.reduceEq, Int.reduceNe, Int.reduceAdd, Int.reduceSub, Int.reduceMul, Int.reduceNeg, q2, q3, q4, q5, q6, e0, e1, e2, e3]
  refine cd_dec (fun g => ?_) (fun g => ?_)
  · obtain ⟨x, hx, ex⟩ := Fd_at (l := fs) (j := j) (by rw [List.length_map] at g; omega)
    have g1 := eq_true g
    rw [List.length_map] at g
    have wj := wrap_i64 (x := (j : Int) + 1) (by omega) (by omega)
    have c1 : ((0 : Int) ≤ j) = True := eq_true (by omega)
    have hl : (withF (fs.take j) f).length ≤ j := by rw [withF, List.length_map, List.length_take]; omega
    have ht : withF (fs.take (j + 1)) f = withF (fs.take j) f ++ [if x.id = f.id then f else x] := by
      rw [List.take_add_one, hx]
      simp only [withF, List.map_append, Option.toList_some]
      rfl
    try simp only [go_sem, reduceIte, Nat.reduceEqDiff, Nat.reduceAdd, Nat.reduceSub, Nat.reduceMul, Nat.reduceLT, Nat.reduceLeDiff, Nat.reducePow, Int.reduceToNat, Int.reduceLT, Int.reduceLE, Int.reduceEq, Int.reduceNe, Int.reduceAdd, Int.reduceSub, Int.reduceMul, Int.reduceNeg, q2, q3, q4, q5, q6, e0, e1, e2, e3, ex, g1, c1]
    refine cd_dec (fun kk => ?_) (fun kk => ?_)
    · rw [if_pos kk] at ht
      try simp only [go_sem, reduceIte, Nat.reduceEqDiff, Nat.reduceAdd, Nat.reduceSub, Nat.reduceMul, Nat.reduceLT, Nat.reduceLeDiff, Nat.reducePow, Int.reduceToNat, Int.reduceLT, Int.reduceLE, Int.reduceEq, Int.reduceNe, Int.reduceAdd, Int.reduceSub, Int.reduceMul, Int.reduceNeg, q2, q3, q4, q5, q6, e0, e1, e2, e3, ex, g1, c1, ho, hg, wj]
      refine ⟨Fd6_cells4 _, by rw [List.length_map]; omega, fun t' _ => ⟨⟨j + 1, .live t' 4, by omega, TW.live 4 t', ?_⟩, by omega⟩⟩
      simp [Heap.set, e0, e1, e2, h6, ht, fdD]
    · rw [if_neg kk] at ht
      try simp only [go_sem, reduceIte, Nat.reduceEqDiff, Nat.reduceAdd, Nat.reduceSub, Nat.reduceMul, Nat.reduceLT, Nat.reduceLeDiff, Nat.reducePow, Int.reduceToNat, Int.reduceLT, Int.reduceLE, Int.reduceEq, Int.reduceNe, Int.reduceAdd, Int.reduceSub, Int.reduceMul, Int.reduceNeg, q2, q3, q4, q5, q6, e0, e1, e2, e3, ex, g1, c1, ho, hg, wj]
      refine ⟨Fd6_cells4 _, by rw [List.length_map]; omega, fun t' _ => ⟨⟨j + 1, .live t' 4, by omega, TW.live 4 t', ?_⟩, by omega⟩⟩
      simp [Heap.set, e0, e1, e2, h6, ht, fdD]
  · try simp only [go_sem, reduceIte, Nat.reduceEqDiff, Nat.reduceAdd, Nat.reduceSub, Nat.reduceMul, Nat.reduceLT, Nat.reduceLeDiff, Nat.reducePow, Int.reduceToNat, Int.reduceLT, Int.reduceLE, Int.reduceEq, Int.reduceNe, Int.reduceAdd, Int.reduceSub, Int.reduceMul, Int.reduceNeg, q2, q3, q4, q5, q6, e0, e1, e2, e3]
    rw [List.length_map] at g
    rw [List.take_of_length_le (by omega)]
    exact finK_drop ⟨rfl, rfl, rfl⟩
end Go.Proofs.YtpblgfgcoamgmaaGreatS
namespace Go.Proofs.YtpblgfgcoamgmaaGreatS
open Go Go.Proofs.YtpblgfgcoamgmaaGreatV

variable {G : Heap}
attribute [local irreducible] VN VC VX VQ

structure SOk (fs : List Fd) (nx : Int) : Prop where
  len : fs.length ≤ 64
  lo : 1 ≤ nx
  hi : nx ≤ 1073741824
  asc : fs.Pairwise fun a b => a.id < b.id
  ids : ∀ f ∈ fs, 1 ≤ f.id ∧ f.id < nx
  ty : ∀ f ∈ fs, 1 ≤ f.type ∧ f.type ≤ 6
theorem SOk.new : SOk [] 1 := ⟨by simp, by omega, by omega, List.Pairwise.nil, by simp, by simp⟩
theorem SOk.plus {fs : List Fd} {nx : Int} (h : SOk fs nx) (f : Fd) (ht : 1 ≤ f.type ∧ f.type ≤ 6) (hl : fs.length < 64) (hn : nx < 1073741824) : SOk (plusF fs nx f) (nx + 1) := by
  refine ⟨by simp [plusF]; omega, by have := h.lo; omega, by omega, ?_, fun g hg => ?_, fun g hg => ?_⟩
  · rw [plusF, List.pairwise_append]
    refine ⟨h.asc, List.pairwise_singleton _ _, fun a ha b hb => ?_⟩
    simp at hb; subst hb
    exact (h.ids a ha).2
  · rcases List.mem_append.1 hg with hg | hg
    · have := h.ids g hg; omega
    · simp at hg; subst hg; have := h.lo; simp only; omega
  · rcases List.mem_append.1 hg with hg | hg
    · exact h.ty g hg
    · simp at hg; subst hg; exact ht
theorem SOk.without {fs : List Fd} {nx : Int} (h : SOk fs nx) (i k : Int) : SOk (withoutF fs i k) nx :=
  ⟨Nat.le_trans (List.length_filter_le ..) h.len, h.lo, h.hi, h.asc.filter _, fun f hf => h.ids f (List.mem_filter.1 hf).1, fun f hf => h.ty f (List.mem_filter.1 hf).1⟩
theorem findFd_some {l : List Fd} {id : Int} {f : Fd} (h : findFd l id = some f) : f ∈ l ∧ f.id = id := by
  unfold findFd at h
  exact ⟨List.mem_of_find?_eq_some h, by simpa using List.find?_some h⟩
theorem without_less {fs : List Fd} {f : Fd} {id k : Int} (h : findFd fs id = some f) : (withoutF fs id k).length < fs.length := by
  obtain ⟨h1, h2⟩ := findFd_some h
  apply Classical.byContradiction
  intro q
  have e : (withoutF fs id k).length = fs.length := Nat.le_antisymm (List.length_filter_le ..) (by omega)
  have := (List.length_filter_eq_length_iff.1 e) f h1
  simp [h2] at this
theorem SOk.with {fs : List Fd} {nx : Int} (h : SOk fs nx) (f : Fd) (ht : 1 ≤ f.type ∧ f.type ≤ 6) : SOk (withF fs f) nx := by
  have e : ∀ x : Fd, (if x.id = f.id then f else x).id = x.id := fun x => by split <;> simp_all
  refine ⟨by simp [withF, h.len], h.lo, h.hi, ?_, fun g hg => ?_, fun g hg => ?_⟩
  · rw [withF, List.pairwise_map]
    exact h.asc.imp fun {a b} hab => by rw [e, e]; exact hab
  · obtain ⟨x, hx, rfl⟩ := List.mem_map.1 hg
    rw [e]; exact h.ids x hx
  · obtain ⟨x, hx, rfl⟩ := List.mem_map.1 hg
    split
    · exact ht
    · exact h.ty x hx
def isS (d : D) : Prop := ∃ fs nx e, d = .tup [.agg [.sl .none (fs.map fdD), .int .i64 nx], .int .i64 e] ∧ (e = 0 → SOk fs nx)
structure Ch where
  kind : Int
  id : Int
  wit : Int
  name : ByteArray
  other : ByteArray
  type : Int
  parent : Int
  sep : ByteArray
def Ch.cells (c : Ch) : List D := [.int .i64 c.kind, .int .i64 c.id, .int .i64 c.wit, .str c.name, .str c.other, .int .i64 c.type, .int .i64 c.parent, .str c.sep]
set_option maxHeartbeats 4000000 in
theorem add6_ok (fs : List Fd) (nx : Int) (c : Ch) (h : SOk fs nx) : VX P G 106 [.agg [.sl .none (fs.map fdD), .int .i64 nx], .agg c.cells] isS := by
  have z := h.len
  have hlm : (fs.map fdD).length = fs.length := List.length_map ..
  have hlo := h.lo
  have hhi := h.hi
  have hgr := group_ok (G := G) fs nx c.parent (by omega)
  have hd := depth6_ok (G := G) fs nx c.parent (by omega)
  have ht := taken_ok (G := G) fs nx ⟨0, c.name, c.type, c.parent⟩ 0 0 (by omega)
  have hp := plus_ok (G := G) fs nx ⟨0, c.name, c.type, c.parent⟩ (by omega) (by omega)
  simp only [fdC] at ht hp
  simp only [Ch.cells]
  unfold VX
  refine VC.ofc (fun | 99999999 => [(0, [0, 1, 2, 3, 4, 5, 6, 14, 27, 39, 49])] | _ => []) [.cell 4 30, .tmp 5] mixed Tryz.func106 rfl rfl rfl rfl (by decide +kernel) (by simp) ?_
  simp only [go_sem, reduceIte, Nat.reduceEqDiff, Nat.reduceAdd, Nat.reduceSub, Nat.reduceMul, Nat.reduceLT, Nat.reduceLeDiff, Nat.reducePow, Int.reduceToNat, Int.reduceLT, Int.reduceLE, Int.reduceEq, Int.reduceNe, Int.reduceAdd, Int.reduceSub, Int.reduceMul, Int.reduceNeg]
  intro b0
  refine new_1 fun b1 h1 h2 => ?_
  refine new_2 fun b2 h3 h4 h5 => ?_
  repeat' (first | simp only [go_sem, reduceIte, Nat.reduceEqDiff, Nat.reduceAdd, Nat.reduceSub, Nat.reduceMul, Nat.reduceLT, Nat.reduceLeDiff, Nat.reducePow, Int.reduceToNat, Int.reduceLT, Int.reduceLE, Int.reduceEq, Int.reduceNe, Int.reduceAdd, Int.reduceSub, Int.reduceMul, Int.reduceNeg, h1, h2, h3, h4, h5] | refine cd_dec (fun _ => ?_) (fun _ => ?_) | (refine cK_vx hgr ?_; rintro _ ⟨bb, rfl⟩; cases bb) | (refine cK_vx hd ?_; rintro _ ⟨k, rfl⟩) | fail)
  all_goals first | exact finK_drop ⟨_, ⟨[], 0, _, rfl, fun h => (by simp at h)⟩, rfl, rfl, rfl⟩ | skip
  refine new_any fun b3 h6 => ?_
  simp only [set_none] at h6
  repeat' (first | simp only [go_sem, reduceIte, Nat.reduceEqDiff, Nat.reduceAdd, Nat.reduceSub, Nat.reduceMul, Nat.reduceLT, Nat.reduceLeDiff, Nat.reducePow, Int.reduceToNat, Int.reduceLT, Int.reduceLE, Int.reduceEq, Int.reduceNe, Int.reduceAdd, Int.reduceSub, Int.reduceMul, Int.reduceNeg, h1, h2, h3, h4, h5, h6] | refine cd_dec (fun _ => ?_) (fun _ => ?_) | (refine cK_vx ht ?_; rintro _ ⟨bb, rfl⟩; cases bb) | refine cK_vn hp ?_ | refine cE_vn hp ?_ | fail)
  all_goals first | exact finK_drop ⟨_, ⟨[], 0, _, rfl, fun h => (by simp at h)⟩, rfl, rfl, rfl⟩ | skip
  exact finK_drop ⟨_, ⟨_, _, _, rfl, fun _ => h.plus _ ⟨by dsimp only; omega, by dsimp only; omega⟩ (by omega) (by omega)⟩, rfl, rfl, rfl⟩
set_option maxHeartbeats 4000000 in
theorem move_ok (fs : List Fd) (nx : Int) (f : Fd) (pa : Int) (h : SOk fs nx) (hty : 1 ≤ f.type ∧ f.type ≤ 6) : VX P G 150 [.agg [.sl .none (fs.map fdD), .int .i64 nx], .agg (fdC f), .int .i64 pa] isS := by
  have z := h.len
  have hlm : (fs.map fdD).length = fs.length := List.length_map ..
  have hgr := group_ok (G := G) fs nx pa (by omega)
  have hin := inside_ok (G := G) fs nx pa f.id (by omega)
  have hw := with_ok (G := G) fs nx ⟨f.id, f.name, f.type, pa⟩ (by omega)
  have ht := taken_ok (G := G) fs nx ⟨f.id, f.name, f.type, pa⟩ f.id f.id (by omega)
  have hk := h.with ⟨f.id, f.name, f.type, pa⟩ hty
  generalize withF fs ⟨f.id, f.name, f.type, pa⟩ = ws at hw hk
  have zw := hk.len
  simp only [fdC] at ht hw ⊢
  unfold VX
  refine VC.ofc (fun | 8 => [(0, []), (1, []), (2, []), (3, []), (4, []), (5, []), (6, []), (7, []), (8, [])] | 99999999 => [(0, [0, 1, 2, 3, 4, 6, 7, 8, 9, 20, 31, 42, 51])] | _ => []) [.cell 6 30, .tmp 7] mixed Tryz.func150 rfl rfl rfl rfl (by decide +kernel) (by simp) ?_
  simp only [go_sem, reduceIte, Nat.reduceEqDiff, Nat.reduceAdd, Nat.reduceSub, Nat.reduceMul, Nat.reduceLT, Nat.reduceLeDiff, Nat.reducePow, Int.reduceToNat, Int.reduceLT, Int.reduceLE, Int.reduceEq, Int.reduceNe, Int.reduceAdd, Int.reduceSub, Int.reduceMul, Int.reduceNeg]
  intro b0
  refine new_1 fun b1 h1 h2 => ?_
  refine new_2 fun b2 h3 h4 h5 => ?_
  repeat' (first | simp only [go_sem, reduceIte, Nat.reduceEqDiff, Nat.reduceAdd, Nat.reduceSub, Nat.reduceMul, Nat.reduceLT, Nat.reduceLeDiff, Nat.reducePow, Int.reduceToNat, Int.reduceLT, Int.reduceLE, Int.reduceEq, Int.reduceNe, Int.reduceAdd, Int.reduceSub, Int.reduceMul, Int.reduceNeg, h1, h2, h3, h4, h5] | refine cd_dec (fun _ => ?_) (fun _ => ?_) | (refine cK_vx hgr ?_; rintro _ ⟨bb, rfl⟩; cases bb) | (refine cK_vx hin ?_; rintro _ ⟨bb, rfl⟩; cases bb) | refine cK_vn hw ?_ | fail)
  all_goals first | exact finK_drop ⟨_, ⟨[], 0, _, rfl, fun h => (by simp at h)⟩, rfl, rfl, rfl⟩ | skip
  refine new_any fun b3 h6 => ?_
  simp only [set_none] at h6
  try simp only [go_sem, reduceIte, Nat.reduceEqDiff, Nat.reduceAdd, Nat.reduceSub, Nat.reduceMul, Nat.reduceLT, Nat.reduceLeDiff, Nat.reducePow, Int.reduceToNat, Int.reduceLT, Int.reduceLE, Int.reduceEq, Int.reduceNe, Int.reduceAdd, Int.reduceSub, Int.reduceMul, Int.reduceNeg, h1, h2, h3, h4, h5, h6]
  generalize hβ : Heap.set _ b3 _ = β0
  have e0 : β0 b0 = some [.sl .none (fs.map fdD), .int .i64 nx] := by rw [← hβ]; simp [Heap.set, h1, h2, h3, h4, h5, h6]
  have e1 : β0 b1 = some [.int .i64 f.id, .str f.name, .int .i64 f.type, .int .i64 pa] := by rw [← hβ]; simp [Heap.set, h1, h2, h3, h4, h5, h6]
  have e2 : β0 b2 = some [.sl .full [], .int .i64 0] := by rw [← hβ]; simp [Heap.set, h1, h2, h3, h4, h5, h6]
  have e3 : β0 b3 = some [.sl .none (ws.map fdD), .int .i64 nx] := by rw [← hβ]; simp [Heap.set]
  have n23 : b2 ≠ b3 ∧ b3 ≠ b2 := by simp [h6]
  clear hβ
  refine vwq_loop (fun v => ∃ (j : Nat), j ≤ ws.length ∧ v.σ 3 = .pb b0 0 ∧ v.σ 4 = .pb b1 0 ∧ v.σ 6 = .pb b2 0 ∧ v.σ 8 = .pb b3 0 ∧ v.σ 9 = .int .i64 j ∧ v.β = β0 ∧ v.ω = []) (fun v => ws.length - (ival (v.σ 9)).toNat) ⟨0, by omega, rfl, rfl, rfl, rfl, rfl, rfl, rfl⟩ ?_
  rintro σ β ω ⟨j, j1, q3, q4, q6, q8, q9, rfl, rfl⟩
  dsimp only at q3 q4 q6 q8 q9 e0 e1 e2 e3
  try simp only [go_sem, reduceIte, Nat.reduceEqDiff, Nat.reduceAdd, Nat.reduceSub, Nat.reduceMul, Nat.reduceLT, Nat.reduceLeDiff, Nat.reducePow, Int.reduceToNat, Int.reduceLT, Int.reduceLE, Int.reduceEq, Int.reduceNe, Int.reduceAdd, Int.reduceSub, Int.reduceMul, Int.reduceNeg, q3, q4, q6, q8, q9, e0, e1, e2, e3]
  refine cd_dec (fun g => ?_) (fun g => ?_)
  · obtain ⟨x, hx, ex⟩ := Fd_at (l := ws) (j := j) (by rw [List.length_map] at g; omega)
    have g1 := eq_true g
    rw [List.length_map] at g
    have wj := wrap_i64 (x := (j : Int) + 1) (by omega) (by omega)
    have c1 : ((0 : Int) ≤ j) = True := eq_true (by omega)
    have hd := depth6_ok (G := G) ws nx x.id (by omega)
    try simp only [go_sem, reduceIte, Nat.reduceEqDiff, Nat.reduceAdd, Nat.reduceSub, Nat.reduceMul, Nat.reduceLT, Nat.reduceLeDiff, Nat.reducePow, Int.reduceToNat, Int.reduceLT, Int.reduceLE, Int.reduceEq, Int.reduceNe, Int.reduceAdd, Int.reduceSub, Int.reduceMul, Int.reduceNeg, q3, q4, q6, q8, q9, e0, e1, e2, e3, ex, g1, c1]
    refine cE_vx hd ⟨_, 0, rfl⟩ ?_
    rintro _ ⟨k, rfl⟩
    try simp only [go_sem, reduceIte, Nat.reduceEqDiff, Nat.reduceAdd, Nat.reduceSub, Nat.reduceMul, Nat.reduceLT, Nat.reduceLeDiff, Nat.reducePow, Int.reduceToNat, Int.reduceLT, Int.reduceLE, Int.reduceEq, Int.reduceNe, Int.reduceAdd, Int.reduceSub, Int.reduceMul, Int.reduceNeg, q3, q4, q6, q8, q9, e0, e1, e2, e3, ex, g1, c1]
    refine cd_dec (fun k => ?_) (fun k => ?_)
    · try simp only [go_sem, reduceIte, Nat.reduceEqDiff, Nat.reduceAdd, Nat.reduceSub, Nat.reduceMul, Nat.reduceLT, Nat.reduceLeDiff, Nat.reducePow, Int.reduceToNat, Int.reduceLT, Int.reduceLE, Int.reduceEq, Int.reduceNe, Int.reduceAdd, Int.reduceSub, Int.reduceMul, Int.reduceNeg, q3, q4, q6, q8, q9, e0, e1, e2, e3, ex, g1, c1]
      exact finK_drop ⟨_, ⟨[], 0, _, rfl, fun h => (by simp at h)⟩, rfl, rfl, rfl⟩
    · try simp only [go_sem, reduceIte, Nat.reduceEqDiff, Nat.reduceAdd, Nat.reduceSub, Nat.reduceMul, Nat.reduceLT, Nat.reduceLeDiff, Nat.reducePow, Int.reduceToNat, Int.reduceLT, Int.reduceLE, Int.reduceEq, Int.reduceNe, Int.reduceAdd, Int.reduceSub, Int.reduceMul, Int.reduceNeg, q3, q4, q6, q8, q9, e0, e1, e2, e3, ex, g1, c1, wj]
      exact ⟨⟨j + 1, by omega, rfl⟩, by omega⟩
  · try simp only [go_sem, reduceIte, Nat.reduceEqDiff, Nat.reduceAdd, Nat.reduceSub, Nat.reduceMul, Nat.reduceLT, Nat.reduceLeDiff, Nat.reducePow, Int.reduceToNat, Int.reduceLT, Int.reduceLE, Int.reduceEq, Int.reduceNe, Int.reduceAdd, Int.reduceSub, Int.reduceMul, Int.reduceNeg, q3, q4, q6, q8, q9, e0, e1, e2, e3]
    refine cK_vx ht ?_
    rintro _ ⟨bb, rfl⟩
    cases bb
    all_goals try simp only [go_sem, reduceIte, Nat.reduceEqDiff, Nat.reduceAdd, Nat.reduceSub, Nat.reduceMul, Nat.reduceLT, Nat.reduceLeDiff, Nat.reducePow, Int.reduceToNat, Int.reduceLT, Int.reduceLE, Int.reduceEq, Int.reduceNe, Int.reduceAdd, Int.reduceSub, Int.reduceMul, Int.reduceNeg, q3, q4, q6, q8, q9, e0, e1, e2, e3]
    · exact finK_drop ⟨_, ⟨_, _, _, rfl, fun _ => hk⟩, rfl, rfl, rfl⟩
    · exact finK_drop ⟨_, ⟨[], 0, _, rfl, fun h => (by simp at h)⟩, rfl, rfl, rfl⟩
end Go.Proofs.YtpblgfgcoamgmaaGreatS
namespace Go.Proofs.YtpblgfgcoamgmaaGreatS
open Go Go.Proofs.YtpblgfgcoamgmaaGreatV

variable {G : Heap}
attribute [local irreducible] VN VC VX VQ

set_option maxHeartbeats 8000000 in
theorem one6_ok (fs : List Fd) (nx : Int) (c : Ch) (h : SOk fs nx) : VX P G 107 [.agg [.sl .none (fs.map fdD), .int .i64 nx], .agg c.cells] isS := by
  have z := h.len
  have hlm : (fs.map fdD).length = fs.length := List.length_map ..
  have hf := Field_ok (G := G) fs nx c.id (by omega)
  cases hff : findFd fs c.id
  all_goals rw [hff] at hf
  all_goals simp only [orF, Option.getD_none, Option.getD_some, Option.isSome_none, Option.isSome_some, fdC, Fd.zero] at hf
  all_goals simp only [Ch.cells]
  all_goals unfold VX
  all_goals refine VC.ofc (fun | 9 => [(0, []), (1, []), (2, []), (3, []), (4, []), (5, []), (6, []), (7, []), (8, [])] | 99999999 => [(0, [0, 1, 2, 3, 4, 5, 6, 7, 8, 17, 20, 21, 27, 38, 47, 59, 64, 68])] | _ => []) [.cell 4 30, .tmp 5] mixed Tryz.func107 rfl rfl rfl rfl (by decide +kernel) (by simp) ?_
  all_goals simp only [go_sem, reduceIte, Nat.reduceEqDiff, Nat.reduceAdd, Nat.reduceSub, Nat.reduceMul, Nat.reduceLT, Nat.reduceLeDiff, Nat.reducePow, Int.reduceToNat, Int.reduceLT, Int.reduceLE, Int.reduceEq, Int.reduceNe, Int.reduceAdd, Int.reduceSub, Int.reduceMul, Int.reduceNeg]
  all_goals intro b0
  all_goals refine new_1 fun b1 h1 h2 => ?_
  all_goals refine new_2 fun b2 h3 h4 h5 => ?_
  all_goals try simp only [go_sem, reduceIte, Nat.reduceEqDiff, Nat.reduceAdd, Nat.reduceSub, Nat.reduceMul, Nat.reduceLT, Nat.reduceLeDiff, Nat.reducePow, Int.reduceToNat, Int.reduceLT, Int.reduceLE, Int.reduceEq, Int.reduceNe, Int.reduceAdd, Int.reduceSub, Int.reduceMul, Int.reduceNeg, h1, h2, h3, h4, h5]
  all_goals refine cK_vn hf ?_
  all_goals try simp only [go_sem, reduceIte, Nat.reduceEqDiff, Nat.reduceAdd, Nat.reduceSub, Nat.reduceMul, Nat.reduceLT, Nat.reduceLeDiff, Nat.reducePow, Int.reduceToNat, Int.reduceLT, Int.reduceLE, Int.reduceEq, Int.reduceNe, Int.reduceAdd, Int.reduceSub, Int.reduceMul, Int.reduceNeg, h1, h2, h3, h4, h5]
  all_goals refine new_any fun b3 h6 => ?_
  all_goals simp only [set_none] at h6
  · repeat' (first | simp only [go_sem, reduceIte, Nat.reduceEqDiff, Nat.reduceAdd, Nat.reduceSub, Nat.reduceMul, Nat.reduceLT, Nat.reduceLeDiff, Nat.reducePow, Int.reduceToNat, Int.reduceLT, Int.reduceLE, Int.reduceEq, Int.reduceNe, Int.reduceAdd, Int.reduceSub, Int.reduceMul, Int.reduceNeg, h1, h2, h3, h4, h5, h6] | fail)
    exact finK_drop ⟨_, ⟨[], 0, _, rfl, fun h => (by simp at h)⟩, rfl, rfl, rfl⟩
  rename_i f
  have ho := without_ok (G := G) fs nx f.id f.id (by omega)
  have hw1 := with_ok (G := G) fs nx ⟨f.id, c.name, f.type, f.parent⟩ (by omega)
  have ht := taken_ok (G := G) fs nx ⟨f.id, c.name, f.type, f.parent⟩ f.id f.id (by omega)
  have hw2 := with_ok (G := G) fs nx ⟨f.id, f.name, 3, f.parent⟩ (by omega)
  have hty := h.ty f (findFd_some hff).1
  have hm := move_ok (G := G) fs nx f c.parent h hty
  simp only [fdC] at hw1 ht hw2 hm
  by_cases k2 : c.kind = 2
  · try simp only [go_sem, reduceIte, Nat.reduceEqDiff, Nat.reduceAdd, Nat.reduceSub, Nat.reduceMul, Nat.reduceLT, Nat.reduceLeDiff, Nat.reducePow, Int.reduceToNat, Int.reduceLT, Int.reduceLE, Int.reduceEq, Int.reduceNe, Int.reduceAdd, Int.reduceSub, Int.reduceMul, Int.reduceNeg, h1, h2, h3, h4, h5, h6, k2]
    generalize hβ : Heap.set _ b3 _ = β0
    have e0 : β0 b0 = some [.sl .none (fs.map fdD), .int .i64 nx] := by rw [← hβ]; simp [Heap.set, h1, h2, h3, h4, h5, h6]
    have e2 : β0 b2 = some [.sl .full [], .int .i64 0] := by rw [← hβ]; simp [Heap.set, h1, h2, h3, h4, h5, h6]
    have e3 : β0 b3 = some [.int .i64 f.id, .str f.name, .int .i64 f.type, .int .i64 f.parent] := by rw [← hβ]; simp [Heap.set]
    clear hβ
    refine vwq_loop (fun v => ∃ (j : Nat), j ≤ fs.length ∧ v.σ 2 = .pb b0 0 ∧ v.σ 4 = .pb b2 0 ∧ v.σ 6 = .pb b3 0 ∧ v.σ 8 = .int .i64 j ∧ v.β = β0 ∧ v.ω = []) (fun v => fs.length - (ival (v.σ 8)).toNat) ⟨0, by omega, rfl, rfl, rfl, rfl, rfl, rfl⟩ ?_
    rintro σ β ω ⟨j, j1, q2, q4, q6, q8, rfl, rfl⟩
    dsimp only at q2 q4 q6 q8 e0 e2 e3
    try simp only [go_sem, reduceIte, Nat.reduceEqDiff, Nat.reduceAdd, Nat.reduceSub, Nat.reduceMul, Nat.reduceLT, Nat.reduceLeDiff, Nat.reducePow, Int.reduceToNat, Int.reduceLT, Int.reduceLE, Int.reduceEq, Int.reduceNe, Int.reduceAdd, Int.reduceSub, Int.reduceMul, Int.reduceNeg, q2, q4, q6, q8, e0, e2, e3]
    refine cd_dec (fun g => ?_) (fun g => ?_)
    · obtain ⟨x, hx, ex⟩ := Fd_at (l := fs) (j := j) (by omega)
      have g1 := eq_true g
      rw [List.length_map] at g
      have wj := wrap_i64 (x := (j : Int) + 1) (by omega) (by omega)
      have c1 : ((0 : Int) ≤ j) = True := eq_true (by omega)
      try simp only [go_sem, reduceIte, Nat.reduceEqDiff, Nat.reduceAdd, Nat.reduceSub, Nat.reduceMul, Nat.reduceLT, Nat.reduceLeDiff, Nat.reducePow, Int.reduceToNat, Int.reduceLT, Int.reduceLE, Int.reduceEq, Int.reduceNe, Int.reduceAdd, Int.reduceSub, Int.reduceMul, Int.reduceNeg, q2, q4, q6, q8, e0, e2, e3, ex, g1, c1]
      refine cd_dec (fun k => ?_) (fun k => ?_)
      · try simp only [go_sem, reduceIte, Nat.reduceEqDiff, Nat.reduceAdd, Nat.reduceSub, Nat.reduceMul, Nat.reduceLT, Nat.reduceLeDiff, Nat.reducePow, Int.reduceToNat, Int.reduceLT, Int.reduceLE, Int.reduceEq, Int.reduceNe, Int.reduceAdd, Int.reduceSub, Int.reduceMul, Int.reduceNeg, q2, q4, q6, q8, e0, e2, e3]
        exact finK_drop ⟨_, ⟨[], 0, _, rfl, fun h => (by simp at h)⟩, rfl, rfl, rfl⟩
      · try simp only [go_sem, reduceIte, Nat.reduceEqDiff, Nat.reduceAdd, Nat.reduceSub, Nat.reduceMul, Nat.reduceLT, Nat.reduceLeDiff, Nat.reducePow, Int.reduceToNat, Int.reduceLT, Int.reduceLE, Int.reduceEq, Int.reduceNe, Int.reduceAdd, Int.reduceSub, Int.reduceMul, Int.reduceNeg, q2, q4, q6, q8, e0, e2, e3, wj]
        exact ⟨⟨j + 1, by omega, rfl⟩, by omega⟩
    · repeat' (first | simp only [go_sem, reduceIte, Nat.reduceEqDiff, Nat.reduceAdd, Nat.reduceSub, Nat.reduceMul, Nat.reduceLT, Nat.reduceLeDiff, Nat.reducePow, Int.reduceToNat, Int.reduceLT, Int.reduceLE, Int.reduceEq, Int.reduceNe, Int.reduceAdd, Int.reduceSub, Int.reduceMul, Int.reduceNeg, q2, q4, q6, q8, e0, e2, e3] | refine cK_vn ho ?_ | refine cE_vn ho ?_ | fail)
      exact finK_drop ⟨_, ⟨_, _, _, rfl, fun _ => h.without _ _⟩, rfl, rfl, rfl⟩
  by_cases k3 : c.kind = 3
  · try simp only [go_sem, reduceIte, Nat.reduceEqDiff, Nat.reduceAdd, Nat.reduceSub, Nat.reduceMul, Nat.reduceLT, Nat.reduceLeDiff, Nat.reducePow, Int.reduceToNat, Int.reduceLT, Int.reduceLE, Int.reduceEq, Int.reduceNe, Int.reduceAdd, Int.reduceSub, Int.reduceMul, Int.reduceNeg, h1, h2, h3, h4, h5, h6, k3]
    refine cK_vx ht ?_
    rintro _ ⟨bb, rfl⟩
    cases bb
    all_goals repeat' (first | simp only [go_sem, reduceIte, Nat.reduceEqDiff, Nat.reduceAdd, Nat.reduceSub, Nat.reduceMul, Nat.reduceLT, Nat.reduceLeDiff, Nat.reducePow, Int.reduceToNat, Int.reduceLT, Int.reduceLE, Int.reduceEq, Int.reduceNe, Int.reduceAdd, Int.reduceSub, Int.reduceMul, Int.reduceNeg, h1, h2, h3, h4, h5, h6] | refine cK_vn hw1 ?_ | refine cE_vn hw1 ?_ | fail)
    · exact finK_drop ⟨_, ⟨_, _, _, rfl, fun _ => h.with ⟨f.id, c.name, f.type, f.parent⟩ hty⟩, rfl, rfl, rfl⟩
    · exact finK_drop ⟨_, ⟨[], 0, _, rfl, fun h => (by simp at h)⟩, rfl, rfl, rfl⟩
  by_cases k4 : c.kind = 4
  · repeat' (first | simp only [go_sem, reduceIte, Nat.reduceEqDiff, Nat.reduceAdd, Nat.reduceSub, Nat.reduceMul, Nat.reduceLT, Nat.reduceLeDiff, Nat.reducePow, Int.reduceToNat, Int.reduceLT, Int.reduceLE, Int.reduceEq, Int.reduceNe, Int.reduceAdd, Int.reduceSub, Int.reduceMul, Int.reduceNeg, h1, h2, h3, h4, h5, h6, k4] | refine cd_dec (fun _ => ?_) (fun _ => ?_) | refine cK_vn hw2 ?_ | refine cE_vn hw2 ?_ | fail)
    · exact finK_drop ⟨_, ⟨[], 0, _, rfl, fun h => (by simp at h)⟩, rfl, rfl, rfl⟩
    · exact finK_drop ⟨_, ⟨_, _, _, rfl, fun _ => h.with ⟨f.id, f.name, 3, f.parent⟩ ⟨by dsimp only; omega, by dsimp only; omega⟩⟩, rfl, rfl, rfl⟩
  try simp only [go_sem, reduceIte, Nat.reduceEqDiff, Nat.reduceAdd, Nat.reduceSub, Nat.reduceMul, Nat.reduceLT, Nat.reduceLeDiff, Nat.reducePow, Int.reduceToNat, Int.reduceLT, Int.reduceLE, Int.reduceEq, Int.reduceNe, Int.reduceAdd, Int.reduceSub, Int.reduceMul, Int.reduceNeg, h1, h2, h3, h4, h5, h6, k2, k3, k4]
  refine cK_vx hm ?_
  rintro _ ⟨ws, m, e, rfl, he⟩
  repeat' (first | simp only [go_sem, reduceIte, Nat.reduceEqDiff, Nat.reduceAdd, Nat.reduceSub, Nat.reduceMul, Nat.reduceLT, Nat.reduceLeDiff, Nat.reducePow, Int.reduceToNat, Int.reduceLT, Int.reduceLE, Int.reduceEq, Int.reduceNe, Int.reduceAdd, Int.reduceSub, Int.reduceMul, Int.reduceNeg, h1, h2, h3, h4, h5, h6] | fail)
  exact finK_drop ⟨_, ⟨ws, m, e, rfl, he⟩, rfl, rfl, rfl⟩
set_option maxHeartbeats 8000000 in
theorem split_ok (fs : List Fd) (nx : Int) (c : Ch) (h : SOk fs nx) : VX P G 108 [.agg [.sl .none (fs.map fdD), .int .i64 nx], .agg c.cells] isS := by
  have z := h.len
  have hlo := h.lo
  have hhi := h.hi
  have hlm : (fs.map fdD).length = fs.length := List.length_map ..
  have hf := Field_ok (G := G) fs nx c.id (by omega)
  cases hff : findFd fs c.id
  all_goals rw [hff] at hf
  all_goals simp only [orF, Option.getD_none, Option.getD_some, Option.isSome_none, Option.isSome_some, fdC, Fd.zero] at hf
  all_goals simp only [Ch.cells]
  all_goals unfold VX
  all_goals refine VC.ofc (fun | 14 => [(0, []), (1, []), (2, []), (3, []), (4, []), (5, []), (7, [6]), (9, [6, 8]), (6, []), (8, []), (10, []), (11, []), (12, [])] | 99999999 => [(0, [0, 1, 2, 3, 4, 5, 6, 7, 8, 9, 18, 22, 27, 63, 73])] | _ => []) [.cell 4 30, .tmp 5] mixed Tryz.func108 rfl rfl rfl rfl (by decide +kernel) (by simp) ?_
  all_goals simp only [go_sem, reduceIte, Nat.reduceEqDiff, Nat.reduceAdd, Nat.reduceSub, Nat.reduceMul, Nat.reduceLT, Nat.reduceLeDiff, Nat.reducePow, Int.reduceToNat, Int.reduceLT, Int.reduceLE, Int.reduceEq, Int.reduceNe, Int.reduceAdd, Int.reduceSub, Int.reduceMul, Int.reduceNeg]
  all_goals intro b0
  all_goals refine new_1 fun b1 h1 h2 => ?_
  all_goals refine new_2 fun b2 h3 h4 h5 => ?_
  all_goals try simp only [go_sem, reduceIte, Nat.reduceEqDiff, Nat.reduceAdd, Nat.reduceSub, Nat.reduceMul, Nat.reduceLT, Nat.reduceLeDiff, Nat.reducePow, Int.reduceToNat, Int.reduceLT, Int.reduceLE, Int.reduceEq, Int.reduceNe, Int.reduceAdd, Int.reduceSub, Int.reduceMul, Int.reduceNeg, h1, h2, h3, h4, h5]
  all_goals refine cK_vn hf ?_
  all_goals try simp only [go_sem, reduceIte, Nat.reduceEqDiff, Nat.reduceAdd, Nat.reduceSub, Nat.reduceMul, Nat.reduceLT, Nat.reduceLeDiff, Nat.reducePow, Int.reduceToNat, Int.reduceLT, Int.reduceLE, Int.reduceEq, Int.reduceNe, Int.reduceAdd, Int.reduceSub, Int.reduceMul, Int.reduceNeg, h1, h2, h3, h4, h5]
  all_goals refine new_any fun b3 h6 => ?_
  all_goals simp only [set_none] at h6
  · repeat' (first | simp only [go_sem, reduceIte, Nat.reduceEqDiff, Nat.reduceAdd, Nat.reduceSub, Nat.reduceMul, Nat.reduceLT, Nat.reduceLeDiff, Nat.reducePow, Int.reduceToNat, Int.reduceLT, Int.reduceLE, Int.reduceEq, Int.reduceNe, Int.reduceAdd, Int.reduceSub, Int.reduceMul, Int.reduceNeg, h1, h2, h3, h4, h5, h6] | fail)
    exact finK_drop ⟨_, ⟨[], 0, _, rfl, fun h => (by simp at h)⟩, rfl, rfl, rfl⟩
  rename_i f
  have hl : (withoutF fs f.id f.id).length < fs.length := by rw [(findFd_some hff).2]; exact without_less hff
  have hs := sep_ok (G := G) c.sep
  have ta := taken_ok (G := G) fs nx ⟨0, c.name, 4, f.parent⟩ f.id f.id (by omega)
  have tb := taken_ok (G := G) fs nx ⟨0, c.other, 4, f.parent⟩ f.id f.id (by omega)
  have ho := without_ok (G := G) fs nx f.id f.id (by omega)
  have hso := h.without f.id f.id
  generalize withoutF fs f.id f.id = ws at hl ho hso
  have p1 := plus_ok (G := G) ws nx ⟨0, c.name, 4, f.parent⟩ (by omega) (by omega)
  have hpl : (plusF ws nx ⟨0, c.name, 4, f.parent⟩).length = ws.length + 1 := by simp [plusF]
  have p2 := plus_ok (G := G) (plusF ws nx ⟨0, c.name, 4, f.parent⟩) (nx + 1) ⟨0, c.other, 4, f.parent⟩ (by omega) (by omega)
  have fin : fs.length < 64 → nx ≤ 1073741822 → SOk (plusF (plusF ws nx ⟨0, c.name, 4, f.parent⟩) (nx + 1) ⟨0, c.other, 4, f.parent⟩) (nx + 1 + 1) := fun q1 q2 => (hso.plus _ ⟨by dsimp only; omega, by dsimp only; omega⟩ (by omega) (by omega)).plus _ ⟨by dsimp only; omega, by dsimp only; omega⟩ (by omega) (by omega)
  simp only [fdC] at ta tb p1 p2
  repeat' (first | simp only [go_sem, reduceIte, Nat.reduceEqDiff, Nat.reduceAdd, Nat.reduceSub, Nat.reduceMul, Nat.reduceLT, Nat.reduceLeDiff, Nat.reducePow, Int.reduceToNat, Int.reduceLT, Int.reduceLE, Int.reduceEq, Int.reduceNe, Int.reduceAdd, Int.reduceSub, Int.reduceMul, Int.reduceNeg, h1, h2, h3, h4, h5, h6] | refine cd_dec (fun _ => ?_) (fun _ => ?_) | (refine cK_vx hs ?_; rintro _ ⟨bb, rfl⟩; cases bb) | fail)
  all_goals first | exact finK_drop ⟨_, ⟨[], 0, _, rfl, fun h => (by simp at h)⟩, rfl, rfl, rfl⟩ | skip
  refine new_any fun b4 h7 => ?_
  simp only [set_none] at h7
  try simp only [go_sem, reduceIte, Nat.reduceEqDiff, Nat.reduceAdd, Nat.reduceSub, Nat.reduceMul, Nat.reduceLT, Nat.reduceLeDiff, Nat.reducePow, Int.reduceToNat, Int.reduceLT, Int.reduceLE, Int.reduceEq, Int.reduceNe, Int.reduceAdd, Int.reduceSub, Int.reduceMul, Int.reduceNeg, h1, h2, h3, h4, h5, h6, h7]
  refine new_any fun b5 h8 => ?_
  simp only [set_none] at h8
  repeat' (first | simp only [go_sem, reduceIte, Nat.reduceEqDiff, Nat.reduceAdd, Nat.reduceSub, Nat.reduceMul, Nat.reduceLT, Nat.reduceLeDiff, Nat.reducePow, Int.reduceToNat, Int.reduceLT, Int.reduceLE, Int.reduceEq, Int.reduceNe, Int.reduceAdd, Int.reduceSub, Int.reduceMul, Int.reduceNeg, h1, h2, h3, h4, h5, h6, h7, h8] | refine cd_dec (fun _ => ?_) (fun _ => ?_) | (refine cK_vx ta ?_; rintro _ ⟨bb, rfl⟩; cases bb) | (refine cK_vx tb ?_; rintro _ ⟨bb, rfl⟩; cases bb) | refine cK_vn ho ?_ | refine cK_vn p1 ?_ | refine cK_vn p2 ?_ | refine cE_vn ho ?_ | refine cE_vn p1 ?_ | refine cE_vn p2 ?_ | fail)
  all_goals first | exact finK_drop ⟨_, ⟨[], 0, _, rfl, fun h => (by simp at h)⟩, rfl, rfl, rfl⟩ | skip
  refine ⟨(show ¬ rdAdd _ _ _ _ _ from by simp [rdAdd, h1, h2, h3, h4, h5, h6, h7, h8]), ?_⟩
  exact finK_drop ⟨_, ⟨_, _, _, rfl, fun _ => fin (by omega) (by omega)⟩, rfl, rfl, rfl⟩
end Go.Proofs.YtpblgfgcoamgmaaGreatS
