/-
  What this seat's type table says of the types that its functions use. Printed by wip/tools/facts.py.
-/
import Derived.Test.YtpblgfgcoamgmaaVC
import Derived.Test.YtpblgfgcoamgmaaRows
set_option linter.unusedVariables false
namespace Go.Proofs.YtpblgfgcoamgmaaS
open Go Go.Proofs.YtpblgfgcoamgmaaV

noncomputable abbrev P : Program := Try.prog
theorem mixed : Try.prog.follows .mixedOrders = true := by kernel_rfl

@[go_sem] theorem lk_0 : lk Try.prog 0 = some (false, 1) := by kernel_rfl
@[go_sem] theorem zer_0 : zer Try.prog 0 = some [D.any] := by kernel_rfl
@[go_sem] theorem concrete_0 : concrete Try.prog 0 = true := by kernel_rfl
@[go_sem] theorem lk_1 : lk Try.prog 1 = some (false, 1) := by kernel_rfl
@[go_sem] theorem zer_1 : zer Try.prog 1 = some [D.nilfunc] := by kernel_rfl
@[go_sem] theorem concrete_1 : concrete Try.prog 1 = true := by kernel_rfl
@[go_sem] theorem lk_2 : lk Try.prog 2 = some (false, 1) := by kernel_rfl
@[go_sem] theorem zer_2 : zer Try.prog 2 = some [D.int IntKind.i64 (0)] := by kernel_rfl
@[go_sem] theorem concrete_2 : concrete Try.prog 2 = true := by kernel_rfl
@[go_sem] theorem lk_3 : lk Try.prog 3 = some (false, 1) := by kernel_rfl
@[go_sem] theorem zer_3 : zer Try.prog 3 = some [D.int IntKind.i64 (0)] := by kernel_rfl
@[go_sem] theorem concrete_3 : concrete Try.prog 3 = true := by kernel_rfl
@[go_sem] theorem lk_4 : lk Try.prog 4 = some (false, 1) := by kernel_rfl
@[go_sem] theorem zer_4 : zer Try.prog 4 = some [D.bool false] := by kernel_rfl
@[go_sem] theorem concrete_4 : concrete Try.prog 4 = true := by kernel_rfl
@[go_sem] theorem lk_5 : lk Try.prog 5 = some (false, 1) := by kernel_rfl
@[go_sem] theorem zer_5 : zer Try.prog 5 = some [D.int IntKind.u8 (0)] := by kernel_rfl
@[go_sem] theorem concrete_5 : concrete Try.prog 5 = true := by kernel_rfl
@[go_sem] theorem lk_6 : lk Try.prog 6 = some (false, 1) := by kernel_rfl
@[go_sem] theorem zer_6 : zer Try.prog 6 = some [D.int IntKind.u8 (0)] := by kernel_rfl
@[go_sem] theorem concrete_6 : concrete Try.prog 6 = true := by kernel_rfl
@[go_sem] theorem lk_7 : lk Try.prog 7 = some (true, 4) := by kernel_rfl
@[go_sem] theorem zer_7 : zer Try.prog 7 = some [D.int IntKind.i64 (0), D.int IntKind.i64 (0), D.bool false, D.int IntKind.u8 (0)] := by kernel_rfl
@[go_sem] theorem plc_7 : plc Try.prog 7 = some [(0, 1), (1, 1), (2, 1), (3, 1)] := by kernel_rfl
@[go_sem] theorem concrete_7 : concrete Try.prog 7 = true := by kernel_rfl
@[go_sem] theorem lk_8 : lk Try.prog 8 = some (true, 4) := by kernel_rfl
@[go_sem] theorem zer_8 : zer Try.prog 8 = some [D.int IntKind.i64 (0), D.int IntKind.i64 (0), D.bool false, D.int IntKind.u8 (0)] := by kernel_rfl
@[go_sem] theorem plc_8 : plc Try.prog 8 = some [(0, 1), (1, 1), (2, 1), (3, 1)] := by kernel_rfl
@[go_sem] theorem concrete_8 : concrete Try.prog 8 = true := by kernel_rfl
@[go_sem] theorem lk_9 : lk Try.prog 9 = some (false, 1) := by kernel_rfl
@[go_sem] theorem zer_9 : zer Try.prog 9 = some [D.str ByteArray.empty] := by kernel_rfl
@[go_sem] theorem cutk_9 : cutk Try.prog 9 = some (0, 0, 0) := by kernel_rfl
@[go_sem] theorem concrete_9 : concrete Try.prog 9 = true := by kernel_rfl
@[go_sem] theorem lk_10 : lk Try.prog 10 = some (false, 1) := by kernel_rfl
@[go_sem] theorem zer_10 : zer Try.prog 10 = some [D.str ByteArray.empty] := by kernel_rfl
@[go_sem] theorem cutk_10 : cutk Try.prog 10 = some (0, 0, 0) := by kernel_rfl
@[go_sem] theorem concrete_10 : concrete Try.prog 10 = true := by kernel_rfl
@[go_sem] theorem lk_11 : lk Try.prog 11 = some (false, 1) := by kernel_rfl
@[go_sem] theorem zer_11 : zer Try.prog 11 = some [D.str ByteArray.empty] := by kernel_rfl
@[go_sem] theorem cutk_11 : cutk Try.prog 11 = some (0, 0, 0) := by kernel_rfl
@[go_sem] theorem concrete_11 : concrete Try.prog 11 = true := by kernel_rfl
@[go_sem] theorem lk_12 : lk Try.prog 12 = some (false, 1) := by kernel_rfl
@[go_sem] theorem zer_12 : zer Try.prog 12 = some [D.int IntKind.u64 (0)] := by kernel_rfl
@[go_sem] theorem concrete_12 : concrete Try.prog 12 = true := by kernel_rfl
@[go_sem] theorem lk_13 : lk Try.prog 13 = some (true, 2) := by kernel_rfl
@[go_sem] theorem zer_13 : zer Try.prog 13 = some [D.str ByteArray.empty, D.int IntKind.u64 (0)] := by kernel_rfl
@[go_sem] theorem plc_13 : plc Try.prog 13 = some [(0, 1), (1, 1)] := by kernel_rfl
@[go_sem] theorem concrete_13 : concrete Try.prog 13 = true := by kernel_rfl
@[go_sem] theorem lk_14 : lk Try.prog 14 = some (true, 2) := by kernel_rfl
@[go_sem] theorem zer_14 : zer Try.prog 14 = some [D.str ByteArray.empty, D.int IntKind.u64 (0)] := by kernel_rfl
@[go_sem] theorem plc_14 : plc Try.prog 14 = some [(0, 1), (1, 1)] := by kernel_rfl
@[go_sem] theorem concrete_14 : concrete Try.prog 14 = true := by kernel_rfl
@[go_sem] theorem lk_15 : lk Try.prog 15 = some (false, 1) := by kernel_rfl
@[go_sem] theorem zer_15 : zer Try.prog 15 = some [D.nilp] := by kernel_rfl
@[go_sem] theorem concrete_15 : concrete Try.prog 15 = true := by kernel_rfl
@[go_sem] theorem lk_16 : lk Try.prog 16 = some (false, 1) := by kernel_rfl
@[go_sem] theorem zer_16 : zer Try.prog 16 = some [D.nilp] := by kernel_rfl
@[go_sem] theorem concrete_16 : concrete Try.prog 16 = true := by kernel_rfl
@[go_sem] theorem lk_17 : lk Try.prog 17 = some (false, 1) := by kernel_rfl
@[go_sem] theorem zer_17 : zer Try.prog 17 = some [D.nilp] := by kernel_rfl
@[go_sem] theorem concrete_17 : concrete Try.prog 17 = true := by kernel_rfl
@[go_sem] theorem lk_18 : lk Try.prog 18 = some (true, 1) := by kernel_rfl
@[go_sem] theorem zer_18 : zer Try.prog 18 = some [D.nilp] := by kernel_rfl
@[go_sem] theorem plc_18 : plc Try.prog 18 = some [(0, 1)] := by kernel_rfl
@[go_sem] theorem concrete_18 : concrete Try.prog 18 = true := by kernel_rfl
@[go_sem] theorem lk_19 : lk Try.prog 19 = some (true, 1) := by kernel_rfl
@[go_sem] theorem zer_19 : zer Try.prog 19 = some [D.nilp] := by kernel_rfl
@[go_sem] theorem plc_19 : plc Try.prog 19 = some [(0, 1)] := by kernel_rfl
@[go_sem] theorem concrete_19 : concrete Try.prog 19 = true := by kernel_rfl
@[go_sem] theorem lk_20 : lk Try.prog 20 = some (false, 1) := by kernel_rfl
@[go_sem] theorem zer_20 : zer Try.prog 20 = some [D.nilif] := by kernel_rfl
@[go_sem] theorem lk_21 : lk Try.prog 21 = some (false, 1) := by kernel_rfl
@[go_sem] theorem zer_21 : zer Try.prog 21 = some [D.int IntKind.i32 (0)] := by kernel_rfl
@[go_sem] theorem concrete_21 : concrete Try.prog 21 = true := by kernel_rfl
@[go_sem] theorem lk_22 : lk Try.prog 22 = some (false, 1) := by kernel_rfl
@[go_sem] theorem elt_22 : elt Try.prog 22 = some (1, 1) := by kernel_rfl
@[go_sem] theorem zel_22 : zel Try.prog 22 = some ([D.int IntKind.u8 (0)], 1) := by kernel_rfl
@[go_sem] theorem zer_22 : zer Try.prog 22 = some [D.sl Tk.full []] := by kernel_rfl
@[go_sem] theorem ixt_22 : ixt Try.prog 22 = some (false, 0, 1) := by kernel_rfl
@[go_sem] theorem cutk_22 : cutk Try.prog 22 = some (1, 1, 0) := by kernel_rfl
@[go_sem] theorem concrete_22 : concrete Try.prog 22 = true := by kernel_rfl
@[go_sem] theorem lk_23 : lk Try.prog 23 = some (false, 1) := by kernel_rfl
@[go_sem] theorem zer_23 : zer Try.prog 23 = some [D.nilfunc] := by kernel_rfl
@[go_sem] theorem concrete_23 : concrete Try.prog 23 = true := by kernel_rfl
@[go_sem] theorem lk_24 : lk Try.prog 24 = some (false, 1) := by kernel_rfl
@[go_sem] theorem elt_24 : elt Try.prog 24 = some (3, 32) := by kernel_rfl
@[go_sem] theorem zel_24 : zel Try.prog 24 = some ([D.bool false, D.int IntKind.i64 (0), D.str ByteArray.empty], 32) := by kernel_rfl
@[go_sem] theorem zer_24 : zer Try.prog 24 = some [D.sl Tk.full []] := by kernel_rfl
@[go_sem] theorem ixt_24 : ixt Try.prog 24 = some (false, 0, 3) := by kernel_rfl
@[go_sem] theorem cutk_24 : cutk Try.prog 24 = some (1, 3, 0) := by kernel_rfl
@[go_sem] theorem concrete_24 : concrete Try.prog 24 = true := by kernel_rfl
@[go_sem] theorem lk_25 : lk Try.prog 25 = some (false, 1) := by kernel_rfl
@[go_sem] theorem elt_25 : elt Try.prog 25 = some (7, 96) := by kernel_rfl
@[go_sem] theorem zel_25 : zel Try.prog 25 = some ([D.int IntKind.i64 (0), D.int IntKind.i64 (0), D.int IntKind.i64 (0), D.int IntKind.i64 (0), D.sl Tk.full [], D.str ByteArray.empty, D.sl Tk.full []], 96) := by kernel_rfl
@[go_sem] theorem zer_25 : zer Try.prog 25 = some [D.sl Tk.full []] := by kernel_rfl
@[go_sem] theorem ixt_25 : ixt Try.prog 25 = some (false, 0, 7) := by kernel_rfl
@[go_sem] theorem cutk_25 : cutk Try.prog 25 = some (1, 7, 0) := by kernel_rfl
@[go_sem] theorem concrete_25 : concrete Try.prog 25 = true := by kernel_rfl
@[go_sem] theorem lk_26 : lk Try.prog 26 = some (true, 7) := by kernel_rfl
@[go_sem] theorem zer_26 : zer Try.prog 26 = some [D.int IntKind.i64 (0), D.int IntKind.i64 (0), D.int IntKind.i64 (0), D.int IntKind.i64 (0), D.sl Tk.full [], D.str ByteArray.empty, D.sl Tk.full []] := by kernel_rfl
@[go_sem] theorem plc_26 : plc Try.prog 26 = some [(0, 1), (1, 1), (2, 1), (3, 1), (4, 1), (5, 1), (6, 1)] := by kernel_rfl
@[go_sem] theorem concrete_26 : concrete Try.prog 26 = true := by kernel_rfl
@[go_sem] theorem lk_27 : lk Try.prog 27 = some (true, 7) := by kernel_rfl
@[go_sem] theorem zer_27 : zer Try.prog 27 = some [D.int IntKind.i64 (0), D.int IntKind.i64 (0), D.int IntKind.i64 (0), D.int IntKind.i64 (0), D.sl Tk.full [], D.str ByteArray.empty, D.sl Tk.full []] := by kernel_rfl
@[go_sem] theorem plc_27 : plc Try.prog 27 = some [(0, 1), (1, 1), (2, 1), (3, 1), (4, 1), (5, 1), (6, 1)] := by kernel_rfl
@[go_sem] theorem concrete_27 : concrete Try.prog 27 = true := by kernel_rfl
@[go_sem] theorem lk_28 : lk Try.prog 28 = some (false, 1) := by kernel_rfl
@[go_sem] theorem elt_28 : elt Try.prog 28 = some (1, 24) := by kernel_rfl
@[go_sem] theorem zel_28 : zel Try.prog 28 = some ([D.sl Tk.full []], 24) := by kernel_rfl
@[go_sem] theorem zer_28 : zer Try.prog 28 = some [D.sl Tk.full []] := by kernel_rfl
@[go_sem] theorem ixt_28 : ixt Try.prog 28 = some (false, 0, 1) := by kernel_rfl
@[go_sem] theorem cutk_28 : cutk Try.prog 28 = some (1, 1, 0) := by kernel_rfl
@[go_sem] theorem concrete_28 : concrete Try.prog 28 = true := by kernel_rfl
@[go_sem] theorem lk_29 : lk Try.prog 29 = some (false, 1) := by kernel_rfl
@[go_sem] theorem elt_29 : elt Try.prog 29 = some (10, 120) := by kernel_rfl
@[go_sem] theorem zel_29 : zel Try.prog 29 = some ([D.int IntKind.i64 (0), D.int IntKind.i64 (0), D.int IntKind.i64 (0), D.int IntKind.i64 (0), D.sl Tk.full [], D.str ByteArray.empty, D.sl Tk.full [], D.int IntKind.i64 (0), D.int IntKind.i64 (0), D.int IntKind.i64 (0)], 120) := by kernel_rfl
@[go_sem] theorem zer_29 : zer Try.prog 29 = some [D.sl Tk.full []] := by kernel_rfl
@[go_sem] theorem ixt_29 : ixt Try.prog 29 = some (false, 0, 10) := by kernel_rfl
@[go_sem] theorem cutk_29 : cutk Try.prog 29 = some (1, 10, 0) := by kernel_rfl
@[go_sem] theorem concrete_29 : concrete Try.prog 29 = true := by kernel_rfl
@[go_sem] theorem lk_30 : lk Try.prog 30 = some (true, 16) := by kernel_rfl
@[go_sem] theorem zer_30 : zer Try.prog 30 = some [D.int IntKind.i64 (0), D.int IntKind.i64 (0), D.int IntKind.i64 (0), D.int IntKind.i64 (0), D.sl Tk.full [], D.str ByteArray.empty, D.sl Tk.full [], D.int IntKind.i64 (0), D.int IntKind.i64 (0), D.int IntKind.i64 (0), D.int IntKind.i64 (0), D.sl Tk.full [], D.str ByteArray.empty, D.sl Tk.full [], D.sl Tk.full [], D.sl Tk.full []] := by kernel_rfl
@[go_sem] theorem plc_30 : plc Try.prog 30 = some [(0, 7), (7, 7), (14, 1), (15, 1)] := by kernel_rfl
@[go_sem] theorem concrete_30 : concrete Try.prog 30 = true := by kernel_rfl
@[go_sem] theorem lk_31 : lk Try.prog 31 = some (true, 16) := by kernel_rfl
@[go_sem] theorem zer_31 : zer Try.prog 31 = some [D.int IntKind.i64 (0), D.int IntKind.i64 (0), D.int IntKind.i64 (0), D.int IntKind.i64 (0), D.sl Tk.full [], D.str ByteArray.empty, D.sl Tk.full [], D.int IntKind.i64 (0), D.int IntKind.i64 (0), D.int IntKind.i64 (0), D.int IntKind.i64 (0), D.sl Tk.full [], D.str ByteArray.empty, D.sl Tk.full [], D.sl Tk.full [], D.sl Tk.full []] := by kernel_rfl
@[go_sem] theorem plc_31 : plc Try.prog 31 = some [(0, 7), (7, 7), (14, 1), (15, 1)] := by kernel_rfl
@[go_sem] theorem concrete_31 : concrete Try.prog 31 = true := by kernel_rfl
@[go_sem] theorem lk_32 : lk Try.prog 32 = some (false, 1) := by kernel_rfl
@[go_sem] theorem zer_32 : zer Try.prog 32 = some [D.int IntKind.i64 (0)] := by kernel_rfl
@[go_sem] theorem concrete_32 : concrete Try.prog 32 = true := by kernel_rfl
@[go_sem] theorem lk_33 : lk Try.prog 33 = some (false, 1) := by kernel_rfl
@[go_sem] theorem zer_33 : zer Try.prog 33 = some [D.any] := by kernel_rfl
@[go_sem] theorem concrete_33 : concrete Try.prog 33 = true := by kernel_rfl
@[go_sem] theorem lk_34 : lk Try.prog 34 = some (false, 1) := by kernel_rfl
@[go_sem] theorem zer_34 : zer Try.prog 34 = some [D.nilfunc] := by kernel_rfl
@[go_sem] theorem concrete_34 : concrete Try.prog 34 = true := by kernel_rfl
@[go_sem] theorem lk_35 : lk Try.prog 35 = some (false, 1) := by kernel_rfl
@[go_sem] theorem zer_35 : zer Try.prog 35 = some [D.nilfunc] := by kernel_rfl
@[go_sem] theorem concrete_35 : concrete Try.prog 35 = true := by kernel_rfl
@[go_sem] theorem lk_36 : lk Try.prog 36 = some (false, 1) := by kernel_rfl
@[go_sem] theorem zer_36 : zer Try.prog 36 = some [D.nilfunc] := by kernel_rfl
@[go_sem] theorem concrete_36 : concrete Try.prog 36 = true := by kernel_rfl
@[go_sem] theorem lk_37 : lk Try.prog 37 = some (true, 3) := by kernel_rfl
@[go_sem] theorem zer_37 : zer Try.prog 37 = some [D.bool false, D.int IntKind.i64 (0), D.str ByteArray.empty] := by kernel_rfl
@[go_sem] theorem plc_37 : plc Try.prog 37 = some [(0, 1), (1, 1), (2, 1)] := by kernel_rfl
@[go_sem] theorem concrete_37 : concrete Try.prog 37 = true := by kernel_rfl
@[go_sem] theorem lk_38 : lk Try.prog 38 = some (true, 3) := by kernel_rfl
@[go_sem] theorem zer_38 : zer Try.prog 38 = some [D.bool false, D.int IntKind.i64 (0), D.str ByteArray.empty] := by kernel_rfl
@[go_sem] theorem plc_38 : plc Try.prog 38 = some [(0, 1), (1, 1), (2, 1)] := by kernel_rfl
@[go_sem] theorem concrete_38 : concrete Try.prog 38 = true := by kernel_rfl
@[go_sem] theorem lk_39 : lk Try.prog 39 = some (true, 4) := by kernel_rfl
@[go_sem] theorem zer_39 : zer Try.prog 39 = some [D.int IntKind.i64 (0), D.bool false, D.int IntKind.i64 (0), D.str ByteArray.empty] := by kernel_rfl
@[go_sem] theorem plc_39 : plc Try.prog 39 = some [(0, 1), (1, 3)] := by kernel_rfl
@[go_sem] theorem concrete_39 : concrete Try.prog 39 = true := by kernel_rfl
@[go_sem] theorem lk_40 : lk Try.prog 40 = some (true, 4) := by kernel_rfl
@[go_sem] theorem zer_40 : zer Try.prog 40 = some [D.int IntKind.i64 (0), D.bool false, D.int IntKind.i64 (0), D.str ByteArray.empty] := by kernel_rfl
@[go_sem] theorem plc_40 : plc Try.prog 40 = some [(0, 1), (1, 3)] := by kernel_rfl
@[go_sem] theorem concrete_40 : concrete Try.prog 40 = true := by kernel_rfl
@[go_sem] theorem lk_41 : lk Try.prog 41 = some (false, 1) := by kernel_rfl
@[go_sem] theorem elt_41 : elt Try.prog 41 = some (4, 40) := by kernel_rfl
@[go_sem] theorem zel_41 : zel Try.prog 41 = some ([D.int IntKind.i64 (0), D.bool false, D.int IntKind.i64 (0), D.str ByteArray.empty], 40) := by kernel_rfl
@[go_sem] theorem zer_41 : zer Try.prog 41 = some [D.sl Tk.full []] := by kernel_rfl
@[go_sem] theorem ixt_41 : ixt Try.prog 41 = some (false, 0, 4) := by kernel_rfl
@[go_sem] theorem cutk_41 : cutk Try.prog 41 = some (1, 4, 0) := by kernel_rfl
@[go_sem] theorem concrete_41 : concrete Try.prog 41 = true := by kernel_rfl
@[go_sem] theorem lk_42 : lk Try.prog 42 = some (true, 1) := by kernel_rfl
@[go_sem] theorem zer_42 : zer Try.prog 42 = some [D.sl Tk.full []] := by kernel_rfl
@[go_sem] theorem plc_42 : plc Try.prog 42 = some [(0, 1)] := by kernel_rfl
@[go_sem] theorem concrete_42 : concrete Try.prog 42 = true := by kernel_rfl
@[go_sem] theorem lk_43 : lk Try.prog 43 = some (true, 1) := by kernel_rfl
@[go_sem] theorem zer_43 : zer Try.prog 43 = some [D.sl Tk.full []] := by kernel_rfl
@[go_sem] theorem plc_43 : plc Try.prog 43 = some [(0, 1)] := by kernel_rfl
@[go_sem] theorem concrete_43 : concrete Try.prog 43 = true := by kernel_rfl
@[go_sem] theorem lk_44 : lk Try.prog 44 = some (true, 2) := by kernel_rfl
@[go_sem] theorem zer_44 : zer Try.prog 44 = some [D.int IntKind.i64 (0), D.sl Tk.full []] := by kernel_rfl
@[go_sem] theorem plc_44 : plc Try.prog 44 = some [(0, 1), (1, 1)] := by kernel_rfl
@[go_sem] theorem concrete_44 : concrete Try.prog 44 = true := by kernel_rfl
@[go_sem] theorem lk_45 : lk Try.prog 45 = some (true, 2) := by kernel_rfl
@[go_sem] theorem zer_45 : zer Try.prog 45 = some [D.int IntKind.i64 (0), D.sl Tk.full []] := by kernel_rfl
@[go_sem] theorem plc_45 : plc Try.prog 45 = some [(0, 1), (1, 1)] := by kernel_rfl
@[go_sem] theorem concrete_45 : concrete Try.prog 45 = true := by kernel_rfl
@[go_sem] theorem lk_46 : lk Try.prog 46 = some (false, 1) := by kernel_rfl
@[go_sem] theorem elt_46 : elt Try.prog 46 = some (2, 32) := by kernel_rfl
@[go_sem] theorem zel_46 : zel Try.prog 46 = some ([D.int IntKind.i64 (0), D.sl Tk.full []], 32) := by kernel_rfl
@[go_sem] theorem zer_46 : zer Try.prog 46 = some [D.sl Tk.full []] := by kernel_rfl
@[go_sem] theorem ixt_46 : ixt Try.prog 46 = some (false, 0, 2) := by kernel_rfl
@[go_sem] theorem cutk_46 : cutk Try.prog 46 = some (1, 2, 0) := by kernel_rfl
@[go_sem] theorem concrete_46 : concrete Try.prog 46 = true := by kernel_rfl
@[go_sem] theorem lk_47 : lk Try.prog 47 = some (true, 2) := by kernel_rfl
@[go_sem] theorem zer_47 : zer Try.prog 47 = some [D.int IntKind.i64 (0), D.sl Tk.full []] := by kernel_rfl
@[go_sem] theorem plc_47 : plc Try.prog 47 = some [(0, 1), (1, 1)] := by kernel_rfl
@[go_sem] theorem concrete_47 : concrete Try.prog 47 = true := by kernel_rfl
@[go_sem] theorem lk_48 : lk Try.prog 48 = some (true, 2) := by kernel_rfl
@[go_sem] theorem zer_48 : zer Try.prog 48 = some [D.int IntKind.i64 (0), D.sl Tk.full []] := by kernel_rfl
@[go_sem] theorem plc_48 : plc Try.prog 48 = some [(0, 1), (1, 1)] := by kernel_rfl
@[go_sem] theorem concrete_48 : concrete Try.prog 48 = true := by kernel_rfl
@[go_sem] theorem lk_49 : lk Try.prog 49 = some (false, 1) := by kernel_rfl
@[go_sem] theorem zer_49 : zer Try.prog 49 = some [D.any] := by kernel_rfl
@[go_sem] theorem concrete_49 : concrete Try.prog 49 = true := by kernel_rfl
@[go_sem] theorem lk_50 : lk Try.prog 50 = some (false, 1) := by kernel_rfl
@[go_sem] theorem zer_50 : zer Try.prog 50 = some [D.nilfunc] := by kernel_rfl
@[go_sem] theorem concrete_50 : concrete Try.prog 50 = true := by kernel_rfl
@[go_sem] theorem lk_51 : lk Try.prog 51 = some (true, 10) := by kernel_rfl
@[go_sem] theorem zer_51 : zer Try.prog 51 = some [D.int IntKind.i64 (0), D.int IntKind.i64 (0), D.int IntKind.i64 (0), D.int IntKind.i64 (0), D.sl Tk.full [], D.str ByteArray.empty, D.sl Tk.full [], D.int IntKind.i64 (0), D.int IntKind.i64 (0), D.int IntKind.i64 (0)] := by kernel_rfl
@[go_sem] theorem plc_51 : plc Try.prog 51 = some [(0, 7), (7, 1), (8, 1), (9, 1)] := by kernel_rfl
@[go_sem] theorem concrete_51 : concrete Try.prog 51 = true := by kernel_rfl
@[go_sem] theorem lk_52 : lk Try.prog 52 = some (true, 10) := by kernel_rfl
@[go_sem] theorem zer_52 : zer Try.prog 52 = some [D.int IntKind.i64 (0), D.int IntKind.i64 (0), D.int IntKind.i64 (0), D.int IntKind.i64 (0), D.sl Tk.full [], D.str ByteArray.empty, D.sl Tk.full [], D.int IntKind.i64 (0), D.int IntKind.i64 (0), D.int IntKind.i64 (0)] := by kernel_rfl
@[go_sem] theorem plc_52 : plc Try.prog 52 = some [(0, 7), (7, 1), (8, 1), (9, 1)] := by kernel_rfl
@[go_sem] theorem concrete_52 : concrete Try.prog 52 = true := by kernel_rfl
@[go_sem] theorem lk_53 : lk Try.prog 53 = some (false, 1) := by kernel_rfl
@[go_sem] theorem zer_53 : zer Try.prog 53 = some [D.any] := by kernel_rfl
@[go_sem] theorem concrete_53 : concrete Try.prog 53 = true := by kernel_rfl
@[go_sem] theorem lk_54 : lk Try.prog 54 = some (false, 1) := by kernel_rfl
@[go_sem] theorem zer_54 : zer Try.prog 54 = some [D.nilfunc] := by kernel_rfl
@[go_sem] theorem concrete_54 : concrete Try.prog 54 = true := by kernel_rfl
@[go_sem] theorem lk_55 : lk Try.prog 55 = some (false, 1) := by kernel_rfl
@[go_sem] theorem zer_55 : zer Try.prog 55 = some [D.nilfunc] := by kernel_rfl
@[go_sem] theorem concrete_55 : concrete Try.prog 55 = true := by kernel_rfl
@[go_sem] theorem lk_56 : lk Try.prog 56 = some (false, 1) := by kernel_rfl
@[go_sem] theorem zer_56 : zer Try.prog 56 = some [D.nilfunc] := by kernel_rfl
@[go_sem] theorem concrete_56 : concrete Try.prog 56 = true := by kernel_rfl
@[go_sem] theorem lk_57 : lk Try.prog 57 = some (false, 1) := by kernel_rfl
@[go_sem] theorem zer_57 : zer Try.prog 57 = some [D.nilp] := by kernel_rfl
@[go_sem] theorem concrete_57 : concrete Try.prog 57 = true := by kernel_rfl
@[go_sem] theorem lk_58 : lk Try.prog 58 = some (true, 2) := by kernel_rfl
@[go_sem] theorem zer_58 : zer Try.prog 58 = some [D.sl Tk.full [], D.int IntKind.i64 (0)] := by kernel_rfl
@[go_sem] theorem plc_58 : plc Try.prog 58 = some [(0, 1), (1, 1)] := by kernel_rfl
@[go_sem] theorem concrete_58 : concrete Try.prog 58 = true := by kernel_rfl
@[go_sem] theorem lk_59 : lk Try.prog 59 = some (true, 2) := by kernel_rfl
@[go_sem] theorem zer_59 : zer Try.prog 59 = some [D.sl Tk.full [], D.int IntKind.i64 (0)] := by kernel_rfl
@[go_sem] theorem plc_59 : plc Try.prog 59 = some [(0, 1), (1, 1)] := by kernel_rfl
@[go_sem] theorem concrete_59 : concrete Try.prog 59 = true := by kernel_rfl
@[go_sem] theorem lk_60 : lk Try.prog 60 = some (false, 1) := by kernel_rfl
@[go_sem] theorem zer_60 : zer Try.prog 60 = some [D.nilfunc] := by kernel_rfl
@[go_sem] theorem concrete_60 : concrete Try.prog 60 = true := by kernel_rfl
@[go_sem] theorem lk_61 : lk Try.prog 61 = some (false, 1) := by kernel_rfl
@[go_sem] theorem zer_61 : zer Try.prog 61 = some [D.nilfunc] := by kernel_rfl
@[go_sem] theorem concrete_61 : concrete Try.prog 61 = true := by kernel_rfl
@[go_sem] theorem lk_62 : lk Try.prog 62 = some (false, 1) := by kernel_rfl
@[go_sem] theorem zer_62 : zer Try.prog 62 = some [D.nilfunc] := by kernel_rfl
@[go_sem] theorem concrete_62 : concrete Try.prog 62 = true := by kernel_rfl
@[go_sem] theorem lk_63 : lk Try.prog 63 = some (false, 1) := by kernel_rfl
@[go_sem] theorem zer_63 : zer Try.prog 63 = some [D.nilfunc] := by kernel_rfl
@[go_sem] theorem concrete_63 : concrete Try.prog 63 = true := by kernel_rfl
@[go_sem] theorem lk_64 : lk Try.prog 64 = some (false, 1) := by kernel_rfl
@[go_sem] theorem zer_64 : zer Try.prog 64 = some [D.nilfunc] := by kernel_rfl
@[go_sem] theorem concrete_64 : concrete Try.prog 64 = true := by kernel_rfl
@[go_sem] theorem lk_65 : lk Try.prog 65 = some (false, 1) := by kernel_rfl
@[go_sem] theorem zer_65 : zer Try.prog 65 = some [D.nilfunc] := by kernel_rfl
@[go_sem] theorem concrete_65 : concrete Try.prog 65 = true := by kernel_rfl
@[go_sem] theorem lk_66 : lk Try.prog 66 = some (false, 1) := by kernel_rfl
@[go_sem] theorem zer_66 : zer Try.prog 66 = some [D.nilfunc] := by kernel_rfl
@[go_sem] theorem concrete_66 : concrete Try.prog 66 = true := by kernel_rfl
@[go_sem] theorem lk_67 : lk Try.prog 67 = some (false, 1) := by kernel_rfl
@[go_sem] theorem zer_67 : zer Try.prog 67 = some [D.nilp] := by kernel_rfl
@[go_sem] theorem concrete_67 : concrete Try.prog 67 = true := by kernel_rfl
@[go_sem] theorem lk_68 : lk Try.prog 68 = some (true, 3) := by kernel_rfl
@[go_sem] theorem zer_68 : zer Try.prog 68 = some [D.sl Tk.full [], D.int IntKind.i64 (0), D.int IntKind.i64 (0)] := by kernel_rfl
@[go_sem] theorem plc_68 : plc Try.prog 68 = some [(0, 1), (1, 1), (2, 1)] := by kernel_rfl
@[go_sem] theorem concrete_68 : concrete Try.prog 68 = true := by kernel_rfl
@[go_sem] theorem lk_69 : lk Try.prog 69 = some (true, 3) := by kernel_rfl
@[go_sem] theorem zer_69 : zer Try.prog 69 = some [D.sl Tk.full [], D.int IntKind.i64 (0), D.int IntKind.i64 (0)] := by kernel_rfl
@[go_sem] theorem plc_69 : plc Try.prog 69 = some [(0, 1), (1, 1), (2, 1)] := by kernel_rfl
@[go_sem] theorem concrete_69 : concrete Try.prog 69 = true := by kernel_rfl
@[go_sem] theorem lk_70 : lk Try.prog 70 = some (false, 1) := by kernel_rfl
@[go_sem] theorem zer_70 : zer Try.prog 70 = some [D.nilfunc] := by kernel_rfl
@[go_sem] theorem concrete_70 : concrete Try.prog 70 = true := by kernel_rfl
@[go_sem] theorem lk_71 : lk Try.prog 71 = some (false, 1) := by kernel_rfl
@[go_sem] theorem zer_71 : zer Try.prog 71 = some [D.nilfunc] := by kernel_rfl
@[go_sem] theorem concrete_71 : concrete Try.prog 71 = true := by kernel_rfl
@[go_sem] theorem lk_72 : lk Try.prog 72 = some (false, 1) := by kernel_rfl
@[go_sem] theorem zer_72 : zer Try.prog 72 = some [D.nilfunc] := by kernel_rfl
@[go_sem] theorem concrete_72 : concrete Try.prog 72 = true := by kernel_rfl
@[go_sem] theorem lk_73 : lk Try.prog 73 = some (false, 1) := by kernel_rfl
@[go_sem] theorem zer_73 : zer Try.prog 73 = some [D.nilfunc] := by kernel_rfl
@[go_sem] theorem concrete_73 : concrete Try.prog 73 = true := by kernel_rfl
@[go_sem] theorem lk_74 : lk Try.prog 74 = some (false, 1) := by kernel_rfl
@[go_sem] theorem zer_74 : zer Try.prog 74 = some [D.nilfunc] := by kernel_rfl
@[go_sem] theorem concrete_74 : concrete Try.prog 74 = true := by kernel_rfl
@[go_sem] theorem lk_75 : lk Try.prog 75 = some (false, 1) := by kernel_rfl
@[go_sem] theorem zer_75 : zer Try.prog 75 = some [D.nilfunc] := by kernel_rfl
@[go_sem] theorem concrete_75 : concrete Try.prog 75 = true := by kernel_rfl
@[go_sem] theorem lk_76 : lk Try.prog 76 = some (false, 1) := by kernel_rfl
@[go_sem] theorem zer_76 : zer Try.prog 76 = some [D.nilfunc] := by kernel_rfl
@[go_sem] theorem concrete_76 : concrete Try.prog 76 = true := by kernel_rfl
@[go_sem] theorem lk_77 : lk Try.prog 77 = some (false, 1) := by kernel_rfl
@[go_sem] theorem zer_77 : zer Try.prog 77 = some [D.nilfunc] := by kernel_rfl
@[go_sem] theorem concrete_77 : concrete Try.prog 77 = true := by kernel_rfl
@[go_sem] theorem lk_78 : lk Try.prog 78 = some (false, 1) := by kernel_rfl
@[go_sem] theorem zer_78 : zer Try.prog 78 = some [D.nilfunc] := by kernel_rfl
@[go_sem] theorem concrete_78 : concrete Try.prog 78 = true := by kernel_rfl
@[go_sem] theorem lk_79 : lk Try.prog 79 = some (false, 1) := by kernel_rfl
@[go_sem] theorem zer_79 : zer Try.prog 79 = some [D.int IntKind.u64 (0)] := by kernel_rfl
@[go_sem] theorem concrete_79 : concrete Try.prog 79 = true := by kernel_rfl
@[go_sem] theorem lk_80 : lk Try.prog 80 = some (false, 1) := by kernel_rfl
@[go_sem] theorem zer_80 : zer Try.prog 80 = some [D.nilfunc] := by kernel_rfl
@[go_sem] theorem concrete_80 : concrete Try.prog 80 = true := by kernel_rfl
@[go_sem] theorem lk_81 : lk Try.prog 81 = some (false, 1) := by kernel_rfl
@[go_sem] theorem zer_81 : zer Try.prog 81 = some [D.nilfunc] := by kernel_rfl
@[go_sem] theorem concrete_81 : concrete Try.prog 81 = true := by kernel_rfl
@[go_sem] theorem lk_82 : lk Try.prog 82 = some (false, 1) := by kernel_rfl
@[go_sem] theorem zer_82 : zer Try.prog 82 = some [D.nilfunc] := by kernel_rfl
@[go_sem] theorem concrete_82 : concrete Try.prog 82 = true := by kernel_rfl
@[go_sem] theorem lk_83 : lk Try.prog 83 = some (false, 1) := by kernel_rfl
@[go_sem] theorem zer_83 : zer Try.prog 83 = some [D.any] := by kernel_rfl
@[go_sem] theorem concrete_83 : concrete Try.prog 83 = true := by kernel_rfl
@[go_sem] theorem lk_84 : lk Try.prog 84 = some (false, 1) := by kernel_rfl
@[go_sem] theorem zer_84 : zer Try.prog 84 = some [D.nilp] := by kernel_rfl
@[go_sem] theorem concrete_84 : concrete Try.prog 84 = true := by kernel_rfl
@[go_sem] theorem lk_85 : lk Try.prog 85 = some (true, 3) := by kernel_rfl
@[go_sem] theorem zer_85 : zer Try.prog 85 = some [D.sl Tk.full [], D.int IntKind.i64 (0), D.int IntKind.i64 (0)] := by kernel_rfl
@[go_sem] theorem plc_85 : plc Try.prog 85 = some [(0, 1), (1, 1), (2, 1)] := by kernel_rfl
@[go_sem] theorem concrete_85 : concrete Try.prog 85 = true := by kernel_rfl
@[go_sem] theorem lk_86 : lk Try.prog 86 = some (true, 3) := by kernel_rfl
@[go_sem] theorem zer_86 : zer Try.prog 86 = some [D.sl Tk.full [], D.int IntKind.i64 (0), D.int IntKind.i64 (0)] := by kernel_rfl
@[go_sem] theorem plc_86 : plc Try.prog 86 = some [(0, 1), (1, 1), (2, 1)] := by kernel_rfl
@[go_sem] theorem concrete_86 : concrete Try.prog 86 = true := by kernel_rfl
@[go_sem] theorem lk_87 : lk Try.prog 87 = some (false, 1) := by kernel_rfl
@[go_sem] theorem zer_87 : zer Try.prog 87 = some [D.nilfunc] := by kernel_rfl
@[go_sem] theorem concrete_87 : concrete Try.prog 87 = true := by kernel_rfl
@[go_sem] theorem lk_88 : lk Try.prog 88 = some (false, 1) := by kernel_rfl
@[go_sem] theorem zer_88 : zer Try.prog 88 = some [D.nilfunc] := by kernel_rfl
@[go_sem] theorem concrete_88 : concrete Try.prog 88 = true := by kernel_rfl
@[go_sem] theorem lk_89 : lk Try.prog 89 = some (false, 1) := by kernel_rfl
@[go_sem] theorem zer_89 : zer Try.prog 89 = some [D.nilfunc] := by kernel_rfl
@[go_sem] theorem concrete_89 : concrete Try.prog 89 = true := by kernel_rfl
@[go_sem] theorem lk_90 : lk Try.prog 90 = some (false, 1) := by kernel_rfl
@[go_sem] theorem zer_90 : zer Try.prog 90 = some [D.nilfunc] := by kernel_rfl
@[go_sem] theorem concrete_90 : concrete Try.prog 90 = true := by kernel_rfl
@[go_sem] theorem lk_91 : lk Try.prog 91 = some (false, 1) := by kernel_rfl
@[go_sem] theorem zer_91 : zer Try.prog 91 = some [D.nilfunc] := by kernel_rfl
@[go_sem] theorem concrete_91 : concrete Try.prog 91 = true := by kernel_rfl
@[go_sem] theorem lk_92 : lk Try.prog 92 = some (false, 1) := by kernel_rfl
@[go_sem] theorem zer_92 : zer Try.prog 92 = some [D.nilfunc] := by kernel_rfl
@[go_sem] theorem concrete_92 : concrete Try.prog 92 = true := by kernel_rfl
@[go_sem] theorem lk_93 : lk Try.prog 93 = some (false, 1) := by kernel_rfl
@[go_sem] theorem zer_93 : zer Try.prog 93 = some [D.nilfunc] := by kernel_rfl
@[go_sem] theorem concrete_93 : concrete Try.prog 93 = true := by kernel_rfl
@[go_sem] theorem lk_94 : lk Try.prog 94 = some (false, 1) := by kernel_rfl
@[go_sem] theorem zer_94 : zer Try.prog 94 = some [D.any] := by kernel_rfl
@[go_sem] theorem concrete_94 : concrete Try.prog 94 = true := by kernel_rfl
@[go_sem] theorem lk_95 : lk Try.prog 95 = some (false, 1) := by kernel_rfl
@[go_sem] theorem zer_95 : zer Try.prog 95 = some [D.nilfunc] := by kernel_rfl
@[go_sem] theorem concrete_95 : concrete Try.prog 95 = true := by kernel_rfl
@[go_sem] theorem lk_96 : lk Try.prog 96 = some (false, 1) := by kernel_rfl
@[go_sem] theorem zer_96 : zer Try.prog 96 = some [D.nilfunc] := by kernel_rfl
@[go_sem] theorem concrete_96 : concrete Try.prog 96 = true := by kernel_rfl
@[go_sem] theorem lk_97 : lk Try.prog 97 = some (false, 1) := by kernel_rfl
@[go_sem] theorem zer_97 : zer Try.prog 97 = some [D.any] := by kernel_rfl
@[go_sem] theorem concrete_97 : concrete Try.prog 97 = true := by kernel_rfl
@[go_sem] theorem lk_98 : lk Try.prog 98 = some (false, 1) := by kernel_rfl
@[go_sem] theorem zer_98 : zer Try.prog 98 = some [D.nilfunc] := by kernel_rfl
@[go_sem] theorem concrete_98 : concrete Try.prog 98 = true := by kernel_rfl
@[go_sem] theorem lk_99 : lk Try.prog 99 = some (false, 1) := by kernel_rfl
@[go_sem] theorem zer_99 : zer Try.prog 99 = some [D.nilfunc] := by kernel_rfl
@[go_sem] theorem concrete_99 : concrete Try.prog 99 = true := by kernel_rfl
@[go_sem] theorem lk_100 : lk Try.prog 100 = some (false, 1) := by kernel_rfl
@[go_sem] theorem zer_100 : zer Try.prog 100 = some [D.nilfunc] := by kernel_rfl
@[go_sem] theorem concrete_100 : concrete Try.prog 100 = true := by kernel_rfl
@[go_sem] theorem lk_101 : lk Try.prog 101 = some (false, 1) := by kernel_rfl
@[go_sem] theorem zer_101 : zer Try.prog 101 = some [D.nilfunc] := by kernel_rfl
@[go_sem] theorem concrete_101 : concrete Try.prog 101 = true := by kernel_rfl
@[go_sem] theorem lk_102 : lk Try.prog 102 = some (false, 1) := by kernel_rfl
@[go_sem] theorem zer_102 : zer Try.prog 102 = some [D.nilfunc] := by kernel_rfl
@[go_sem] theorem concrete_102 : concrete Try.prog 102 = true := by kernel_rfl
@[go_sem] theorem lk_103 : lk Try.prog 103 = some (false, 1) := by kernel_rfl
@[go_sem] theorem zer_103 : zer Try.prog 103 = some [D.nilfunc] := by kernel_rfl
@[go_sem] theorem concrete_103 : concrete Try.prog 103 = true := by kernel_rfl
@[go_sem] theorem lk_104 : lk Try.prog 104 = some (false, 1) := by kernel_rfl
@[go_sem] theorem zer_104 : zer Try.prog 104 = some [D.nilfunc] := by kernel_rfl
@[go_sem] theorem concrete_104 : concrete Try.prog 104 = true := by kernel_rfl
@[go_sem] theorem lk_105 : lk Try.prog 105 = some (false, 1) := by kernel_rfl
@[go_sem] theorem zer_105 : zer Try.prog 105 = some [D.nilfunc] := by kernel_rfl
@[go_sem] theorem concrete_105 : concrete Try.prog 105 = true := by kernel_rfl
@[go_sem] theorem lk_106 : lk Try.prog 106 = some (false, 1) := by kernel_rfl
@[go_sem] theorem zer_106 : zer Try.prog 106 = some [D.nilfunc] := by kernel_rfl
@[go_sem] theorem concrete_106 : concrete Try.prog 106 = true := by kernel_rfl
@[go_sem] theorem lk_107 : lk Try.prog 107 = some (false, 1) := by kernel_rfl
@[go_sem] theorem zer_107 : zer Try.prog 107 = some [D.nilfunc] := by kernel_rfl
@[go_sem] theorem concrete_107 : concrete Try.prog 107 = true := by kernel_rfl
@[go_sem] theorem lk_108 : lk Try.prog 108 = some (false, 1) := by kernel_rfl
@[go_sem] theorem zer_108 : zer Try.prog 108 = some [D.nilfunc] := by kernel_rfl
@[go_sem] theorem concrete_108 : concrete Try.prog 108 = true := by kernel_rfl
@[go_sem] theorem lk_109 : lk Try.prog 109 = some (false, 1) := by kernel_rfl
@[go_sem] theorem zer_109 : zer Try.prog 109 = some [D.int IntKind.u64 (0)] := by kernel_rfl
@[go_sem] theorem concrete_109 : concrete Try.prog 109 = true := by kernel_rfl
@[go_sem] theorem lk_110 : lk Try.prog 110 = some (false, 1) := by kernel_rfl
@[go_sem] theorem zer_110 : zer Try.prog 110 = some [D.nilfunc] := by kernel_rfl
@[go_sem] theorem concrete_110 : concrete Try.prog 110 = true := by kernel_rfl
@[go_sem] theorem lk_111 : lk Try.prog 111 = some (false, 1) := by kernel_rfl
@[go_sem] theorem zer_111 : zer Try.prog 111 = some [D.nilfunc] := by kernel_rfl
@[go_sem] theorem concrete_111 : concrete Try.prog 111 = true := by kernel_rfl
@[go_sem] theorem lk_112 : lk Try.prog 112 = some (false, 1) := by kernel_rfl
@[go_sem] theorem zer_112 : zer Try.prog 112 = some [D.nilfunc] := by kernel_rfl
@[go_sem] theorem concrete_112 : concrete Try.prog 112 = true := by kernel_rfl
@[go_sem] theorem lk_113 : lk Try.prog 113 = some (false, 1) := by kernel_rfl
@[go_sem] theorem zer_113 : zer Try.prog 113 = some [D.nilfunc] := by kernel_rfl
@[go_sem] theorem concrete_113 : concrete Try.prog 113 = true := by kernel_rfl
@[go_sem] theorem lk_114 : lk Try.prog 114 = some (false, 1) := by kernel_rfl
@[go_sem] theorem zer_114 : zer Try.prog 114 = some [D.nilfunc] := by kernel_rfl
@[go_sem] theorem concrete_114 : concrete Try.prog 114 = true := by kernel_rfl
@[go_sem] theorem lk_115 : lk Try.prog 115 = some (false, 1) := by kernel_rfl
@[go_sem] theorem zer_115 : zer Try.prog 115 = some [D.any] := by kernel_rfl
@[go_sem] theorem concrete_115 : concrete Try.prog 115 = true := by kernel_rfl
@[go_sem] theorem lk_116 : lk Try.prog 116 = some (false, 1) := by kernel_rfl
@[go_sem] theorem zer_116 : zer Try.prog 116 = some [D.any] := by kernel_rfl
@[go_sem] theorem concrete_116 : concrete Try.prog 116 = true := by kernel_rfl
@[go_sem] theorem lk_117 : lk Try.prog 117 = some (false, 1) := by kernel_rfl
@[go_sem] theorem zer_117 : zer Try.prog 117 = some [D.nilfunc] := by kernel_rfl
@[go_sem] theorem concrete_117 : concrete Try.prog 117 = true := by kernel_rfl
@[go_sem] theorem lk_118 : lk Try.prog 118 = some (true, 3) := by kernel_rfl
@[go_sem] theorem zer_118 : zer Try.prog 118 = some [D.sl Tk.full [], D.int IntKind.i64 (0), D.int IntKind.i64 (0)] := by kernel_rfl
@[go_sem] theorem plc_118 : plc Try.prog 118 = some [(0, 1), (1, 1), (2, 1)] := by kernel_rfl
@[go_sem] theorem concrete_118 : concrete Try.prog 118 = true := by kernel_rfl
@[go_sem] theorem lk_119 : lk Try.prog 119 = some (true, 3) := by kernel_rfl
@[go_sem] theorem zer_119 : zer Try.prog 119 = some [D.sl Tk.full [], D.int IntKind.i64 (0), D.int IntKind.i64 (0)] := by kernel_rfl
@[go_sem] theorem plc_119 : plc Try.prog 119 = some [(0, 1), (1, 1), (2, 1)] := by kernel_rfl
@[go_sem] theorem concrete_119 : concrete Try.prog 119 = true := by kernel_rfl
@[go_sem] theorem lk_120 : lk Try.prog 120 = some (false, 1) := by kernel_rfl
@[go_sem] theorem zer_120 : zer Try.prog 120 = some [D.any] := by kernel_rfl
@[go_sem] theorem concrete_120 : concrete Try.prog 120 = true := by kernel_rfl
@[go_sem] theorem lk_121 : lk Try.prog 121 = some (false, 1) := by kernel_rfl
@[go_sem] theorem zer_121 : zer Try.prog 121 = some [D.nilfunc] := by kernel_rfl
@[go_sem] theorem concrete_121 : concrete Try.prog 121 = true := by kernel_rfl
@[go_sem] theorem lk_122 : lk Try.prog 122 = some (false, 1) := by kernel_rfl
@[go_sem] theorem zer_122 : zer Try.prog 122 = some [D.nilfunc] := by kernel_rfl
@[go_sem] theorem concrete_122 : concrete Try.prog 122 = true := by kernel_rfl
@[go_sem] theorem lk_123 : lk Try.prog 123 = some (false, 1) := by kernel_rfl
@[go_sem] theorem zer_123 : zer Try.prog 123 = some [D.nilfunc] := by kernel_rfl
@[go_sem] theorem concrete_123 : concrete Try.prog 123 = true := by kernel_rfl
@[go_sem] theorem lk_124 : lk Try.prog 124 = some (false, 1) := by kernel_rfl
@[go_sem] theorem zer_124 : zer Try.prog 124 = some [D.nilfunc] := by kernel_rfl
@[go_sem] theorem concrete_124 : concrete Try.prog 124 = true := by kernel_rfl
@[go_sem] theorem lk_125 : lk Try.prog 125 = some (false, 1) := by kernel_rfl
@[go_sem] theorem zer_125 : zer Try.prog 125 = some [D.nilfunc] := by kernel_rfl
@[go_sem] theorem concrete_125 : concrete Try.prog 125 = true := by kernel_rfl
@[go_sem] theorem lk_126 : lk Try.prog 126 = some (false, 1) := by kernel_rfl
@[go_sem] theorem zer_126 : zer Try.prog 126 = some [D.nilfunc] := by kernel_rfl
@[go_sem] theorem concrete_126 : concrete Try.prog 126 = true := by kernel_rfl
@[go_sem] theorem lk_127 : lk Try.prog 127 = some (false, 1) := by kernel_rfl
@[go_sem] theorem zer_127 : zer Try.prog 127 = some [D.nilfunc] := by kernel_rfl
@[go_sem] theorem concrete_127 : concrete Try.prog 127 = true := by kernel_rfl
@[go_sem] theorem lk_128 : lk Try.prog 128 = some (false, 1) := by kernel_rfl
@[go_sem] theorem zer_128 : zer Try.prog 128 = some [D.nilfunc] := by kernel_rfl
@[go_sem] theorem concrete_128 : concrete Try.prog 128 = true := by kernel_rfl
@[go_sem] theorem lk_129 : lk Try.prog 129 = some (false, 1) := by kernel_rfl
@[go_sem] theorem zer_129 : zer Try.prog 129 = some [D.nilfunc] := by kernel_rfl
@[go_sem] theorem concrete_129 : concrete Try.prog 129 = true := by kernel_rfl
@[go_sem] theorem lk_130 : lk Try.prog 130 = some (false, 1) := by kernel_rfl
@[go_sem] theorem zer_130 : zer Try.prog 130 = some [D.nilfunc] := by kernel_rfl
@[go_sem] theorem concrete_130 : concrete Try.prog 130 = true := by kernel_rfl
@[go_sem] theorem lk_131 : lk Try.prog 131 = some (false, 1) := by kernel_rfl
@[go_sem] theorem zer_131 : zer Try.prog 131 = some [D.nilfunc] := by kernel_rfl
@[go_sem] theorem concrete_131 : concrete Try.prog 131 = true := by kernel_rfl
@[go_sem] theorem lk_132 : lk Try.prog 132 = some (false, 1) := by kernel_rfl
@[go_sem] theorem zer_132 : zer Try.prog 132 = some [D.any] := by kernel_rfl
@[go_sem] theorem concrete_132 : concrete Try.prog 132 = true := by kernel_rfl
@[go_sem] theorem lk_133 : lk Try.prog 133 = some (false, 1) := by kernel_rfl
@[go_sem] theorem zer_133 : zer Try.prog 133 = some [D.nilfunc] := by kernel_rfl
@[go_sem] theorem concrete_133 : concrete Try.prog 133 = true := by kernel_rfl
@[go_sem] theorem lk_134 : lk Try.prog 134 = some (false, 1) := by kernel_rfl
@[go_sem] theorem zer_134 : zer Try.prog 134 = some [D.any] := by kernel_rfl
@[go_sem] theorem concrete_134 : concrete Try.prog 134 = true := by kernel_rfl
@[go_sem] theorem lk_135 : lk Try.prog 135 = some (false, 1) := by kernel_rfl
@[go_sem] theorem zer_135 : zer Try.prog 135 = some [D.nilfunc] := by kernel_rfl
@[go_sem] theorem concrete_135 : concrete Try.prog 135 = true := by kernel_rfl
@[go_sem] theorem lk_136 : lk Try.prog 136 = some (false, 1) := by kernel_rfl
@[go_sem] theorem zer_136 : zer Try.prog 136 = some [D.any] := by kernel_rfl
@[go_sem] theorem concrete_136 : concrete Try.prog 136 = true := by kernel_rfl
@[go_sem] theorem lk_137 : lk Try.prog 137 = some (false, 1) := by kernel_rfl
@[go_sem] theorem zer_137 : zer Try.prog 137 = some [D.nilfunc] := by kernel_rfl
@[go_sem] theorem concrete_137 : concrete Try.prog 137 = true := by kernel_rfl
@[go_sem] theorem lk_138 : lk Try.prog 138 = some (false, 1) := by kernel_rfl
@[go_sem] theorem zer_138 : zer Try.prog 138 = some [D.any] := by kernel_rfl
@[go_sem] theorem concrete_138 : concrete Try.prog 138 = true := by kernel_rfl
@[go_sem] theorem lk_139 : lk Try.prog 139 = some (false, 1) := by kernel_rfl
@[go_sem] theorem zer_139 : zer Try.prog 139 = some [D.nilfunc] := by kernel_rfl
@[go_sem] theorem concrete_139 : concrete Try.prog 139 = true := by kernel_rfl
@[go_sem] theorem lk_140 : lk Try.prog 140 = some (false, 1) := by kernel_rfl
@[go_sem] theorem zer_140 : zer Try.prog 140 = some [D.any] := by kernel_rfl
@[go_sem] theorem concrete_140 : concrete Try.prog 140 = true := by kernel_rfl
@[go_sem] theorem lk_141 : lk Try.prog 141 = some (false, 1) := by kernel_rfl
@[go_sem] theorem zer_141 : zer Try.prog 141 = some [D.nilfunc] := by kernel_rfl
@[go_sem] theorem concrete_141 : concrete Try.prog 141 = true := by kernel_rfl
@[go_sem] theorem lk_142 : lk Try.prog 142 = some (false, 1) := by kernel_rfl
@[go_sem] theorem zer_142 : zer Try.prog 142 = some [D.any] := by kernel_rfl
@[go_sem] theorem concrete_142 : concrete Try.prog 142 = true := by kernel_rfl
@[go_sem] theorem lk_143 : lk Try.prog 143 = some (false, 1) := by kernel_rfl
@[go_sem] theorem zer_143 : zer Try.prog 143 = some [D.nilfunc] := by kernel_rfl
@[go_sem] theorem concrete_143 : concrete Try.prog 143 = true := by kernel_rfl
@[go_sem] theorem lk_144 : lk Try.prog 144 = some (false, 1) := by kernel_rfl
@[go_sem] theorem zer_144 : zer Try.prog 144 = some [D.nilfunc] := by kernel_rfl
@[go_sem] theorem concrete_144 : concrete Try.prog 144 = true := by kernel_rfl
@[go_sem] theorem lk_145 : lk Try.prog 145 = some (false, 1) := by kernel_rfl
@[go_sem] theorem zer_145 : zer Try.prog 145 = some [D.nilfunc] := by kernel_rfl
@[go_sem] theorem concrete_145 : concrete Try.prog 145 = true := by kernel_rfl
@[go_sem] theorem lk_146 : lk Try.prog 146 = some (false, 1) := by kernel_rfl
@[go_sem] theorem zer_146 : zer Try.prog 146 = some [D.nilfunc] := by kernel_rfl
@[go_sem] theorem concrete_146 : concrete Try.prog 146 = true := by kernel_rfl
@[go_sem] theorem lk_147 : lk Try.prog 147 = some (false, 1) := by kernel_rfl
@[go_sem] theorem zer_147 : zer Try.prog 147 = some [D.nilfunc] := by kernel_rfl
@[go_sem] theorem concrete_147 : concrete Try.prog 147 = true := by kernel_rfl
@[go_sem] theorem lk_148 : lk Try.prog 148 = some (false, 1) := by kernel_rfl
@[go_sem] theorem zer_148 : zer Try.prog 148 = some [D.nilfunc] := by kernel_rfl
@[go_sem] theorem concrete_148 : concrete Try.prog 148 = true := by kernel_rfl
@[go_sem] theorem lk_149 : lk Try.prog 149 = some (true, 4) := by kernel_rfl
@[go_sem] theorem zer_149 : zer Try.prog 149 = some [D.nilp, D.nilp, D.nilp, D.str ByteArray.empty] := by kernel_rfl
@[go_sem] theorem plc_149 : plc Try.prog 149 = some [(0, 1), (1, 1), (2, 1), (3, 1)] := by kernel_rfl
@[go_sem] theorem concrete_149 : concrete Try.prog 149 = true := by kernel_rfl
@[go_sem] theorem lk_150 : lk Try.prog 150 = some (true, 4) := by kernel_rfl
@[go_sem] theorem zer_150 : zer Try.prog 150 = some [D.nilp, D.nilp, D.nilp, D.str ByteArray.empty] := by kernel_rfl
@[go_sem] theorem plc_150 : plc Try.prog 150 = some [(0, 1), (1, 1), (2, 1), (3, 1)] := by kernel_rfl
@[go_sem] theorem concrete_150 : concrete Try.prog 150 = true := by kernel_rfl
@[go_sem] theorem lk_151 : lk Try.prog 151 = some (true, 0) := by kernel_rfl
@[go_sem] theorem zer_151 : zer Try.prog 151 = some [] := by kernel_rfl
@[go_sem] theorem plc_151 : plc Try.prog 151 = some [] := by kernel_rfl
@[go_sem] theorem ixt_151 : ixt Try.prog 151 = some (true, 0, 1) := by kernel_rfl
@[go_sem] theorem cutk_151 : cutk Try.prog 151 = some (2, 1, 0) := by kernel_rfl
@[go_sem] theorem concrete_151 : concrete Try.prog 151 = true := by kernel_rfl
@[go_sem] theorem lk_152 : lk Try.prog 152 = some (true, 0) := by kernel_rfl
@[go_sem] theorem zer_152 : zer Try.prog 152 = some [] := by kernel_rfl
@[go_sem] theorem plc_152 : plc Try.prog 152 = some [(0, 0)] := by kernel_rfl
@[go_sem] theorem concrete_152 : concrete Try.prog 152 = true := by kernel_rfl
@[go_sem] theorem lk_153 : lk Try.prog 153 = some (true, 0) := by kernel_rfl
@[go_sem] theorem zer_153 : zer Try.prog 153 = some [] := by kernel_rfl
@[go_sem] theorem plc_153 : plc Try.prog 153 = some [(0, 0)] := by kernel_rfl
@[go_sem] theorem concrete_153 : concrete Try.prog 153 = true := by kernel_rfl
@[go_sem] theorem lk_154 : lk Try.prog 154 = some (false, 1) := by kernel_rfl
@[go_sem] theorem zer_154 : zer Try.prog 154 = some [D.int IntKind.u32 (0)] := by kernel_rfl
@[go_sem] theorem concrete_154 : concrete Try.prog 154 = true := by kernel_rfl
@[go_sem] theorem lk_155 : lk Try.prog 155 = some (false, 1) := by kernel_rfl
@[go_sem] theorem zer_155 : zer Try.prog 155 = some [D.int IntKind.u8 (0)] := by kernel_rfl
@[go_sem] theorem concrete_155 : concrete Try.prog 155 = true := by kernel_rfl
@[go_sem] theorem lk_156 : lk Try.prog 156 = some (false, 1) := by kernel_rfl
@[go_sem] theorem zer_156 : zer Try.prog 156 = some [D.int IntKind.u8 (0)] := by kernel_rfl
@[go_sem] theorem concrete_156 : concrete Try.prog 156 = true := by kernel_rfl
@[go_sem] theorem lk_157 : lk Try.prog 157 = some (false, 1) := by kernel_rfl
@[go_sem] theorem zer_157 : zer Try.prog 157 = some [D.nilfunc] := by kernel_rfl
@[go_sem] theorem concrete_157 : concrete Try.prog 157 = true := by kernel_rfl
@[go_sem] theorem lk_158 : lk Try.prog 158 = some (false, 1) := by kernel_rfl
@[go_sem] theorem zer_158 : zer Try.prog 158 = some [D.nilp] := by kernel_rfl
@[go_sem] theorem concrete_158 : concrete Try.prog 158 = true := by kernel_rfl
@[go_sem] theorem lk_159 : lk Try.prog 159 = some (false, 1) := by kernel_rfl
@[go_sem] theorem zer_159 : zer Try.prog 159 = some [D.int IntKind.i32 (0)] := by kernel_rfl
@[go_sem] theorem concrete_159 : concrete Try.prog 159 = true := by kernel_rfl
@[go_sem] theorem lk_160 : lk Try.prog 160 = some (false, 1) := by kernel_rfl
@[go_sem] theorem zer_160 : zer Try.prog 160 = some [D.int IntKind.i32 (0)] := by kernel_rfl
@[go_sem] theorem concrete_160 : concrete Try.prog 160 = true := by kernel_rfl
@[go_sem] theorem lk_161 : lk Try.prog 161 = some (true, 11) := by kernel_rfl
@[go_sem] theorem zer_161 : zer Try.prog 161 = some [D.int IntKind.u64 (0), D.int IntKind.u64 (0), D.int IntKind.u32 (0), D.int IntKind.u8 (0), D.int IntKind.u8 (0), D.int IntKind.u8 (0), D.int IntKind.u8 (0), D.nilfunc, D.nilp, D.int IntKind.i32 (0), D.int IntKind.i32 (0)] := by kernel_rfl
@[go_sem] theorem plc_161 : plc Try.prog 161 = some [(0, 1), (1, 1), (2, 1), (3, 1), (4, 1), (5, 1), (6, 1), (7, 1), (8, 1), (9, 1), (10, 1)] := by kernel_rfl
@[go_sem] theorem concrete_161 : concrete Try.prog 161 = true := by kernel_rfl
@[go_sem] theorem lk_162 : lk Try.prog 162 = some (true, 11) := by kernel_rfl
@[go_sem] theorem zer_162 : zer Try.prog 162 = some [D.int IntKind.u64 (0), D.int IntKind.u64 (0), D.int IntKind.u32 (0), D.int IntKind.u8 (0), D.int IntKind.u8 (0), D.int IntKind.u8 (0), D.int IntKind.u8 (0), D.nilfunc, D.nilp, D.int IntKind.i32 (0), D.int IntKind.i32 (0)] := by kernel_rfl
@[go_sem] theorem plc_162 : plc Try.prog 162 = some [(0, 1), (1, 1), (2, 1), (3, 1), (4, 1), (5, 1), (6, 1), (7, 1), (8, 1), (9, 1), (10, 1)] := by kernel_rfl
@[go_sem] theorem concrete_162 : concrete Try.prog 162 = true := by kernel_rfl
@[go_sem] theorem lk_163 : lk Try.prog 163 = some (false, 1) := by kernel_rfl
@[go_sem] theorem zer_163 : zer Try.prog 163 = some [D.nilp] := by kernel_rfl
@[go_sem] theorem concrete_163 : concrete Try.prog 163 = true := by kernel_rfl
@[go_sem] theorem foff_27_0 : foff Try.prog 27 0 = some 0 := by kernel_rfl
@[go_sem] theorem foff_27_1 : foff Try.prog 27 1 = some 1 := by kernel_rfl
@[go_sem] theorem foff_27_2 : foff Try.prog 27 2 = some 2 := by kernel_rfl
@[go_sem] theorem foff_27_3 : foff Try.prog 27 3 = some 3 := by kernel_rfl
@[go_sem] theorem foff_27_4 : foff Try.prog 27 4 = some 4 := by kernel_rfl
@[go_sem] theorem foff_27_5 : foff Try.prog 27 5 = some 5 := by kernel_rfl
@[go_sem] theorem foff_27_6 : foff Try.prog 27 6 = some 6 := by kernel_rfl
@[go_sem] theorem foff_31_0 : foff Try.prog 31 0 = some 0 := by kernel_rfl
@[go_sem] theorem foff_31_1 : foff Try.prog 31 1 = some 7 := by kernel_rfl
@[go_sem] theorem foff_31_2 : foff Try.prog 31 2 = some 14 := by kernel_rfl
@[go_sem] theorem foff_31_3 : foff Try.prog 31 3 = some 15 := by kernel_rfl
@[go_sem] theorem foff_38_0 : foff Try.prog 38 0 = some 0 := by kernel_rfl
@[go_sem] theorem foff_38_1 : foff Try.prog 38 1 = some 1 := by kernel_rfl
@[go_sem] theorem foff_38_2 : foff Try.prog 38 2 = some 2 := by kernel_rfl
@[go_sem] theorem foff_40_0 : foff Try.prog 40 0 = some 0 := by kernel_rfl
@[go_sem] theorem foff_40_1 : foff Try.prog 40 1 = some 1 := by kernel_rfl
@[go_sem] theorem foff_43_0 : foff Try.prog 43 0 = some 0 := by kernel_rfl
@[go_sem] theorem foff_45_0 : foff Try.prog 45 0 = some 0 := by kernel_rfl
@[go_sem] theorem foff_45_1 : foff Try.prog 45 1 = some 1 := by kernel_rfl
@[go_sem] theorem foff_48_0 : foff Try.prog 48 0 = some 0 := by kernel_rfl
@[go_sem] theorem foff_48_1 : foff Try.prog 48 1 = some 1 := by kernel_rfl
@[go_sem] theorem foff_52_0 : foff Try.prog 52 0 = some 0 := by kernel_rfl
@[go_sem] theorem foff_52_1 : foff Try.prog 52 1 = some 7 := by kernel_rfl
@[go_sem] theorem foff_52_2 : foff Try.prog 52 2 = some 8 := by kernel_rfl
@[go_sem] theorem foff_52_3 : foff Try.prog 52 3 = some 9 := by kernel_rfl
@[go_sem] theorem foff_59_0 : foff Try.prog 59 0 = some 0 := by kernel_rfl
@[go_sem] theorem foff_59_1 : foff Try.prog 59 1 = some 1 := by kernel_rfl
@[go_sem] theorem foff_69_0 : foff Try.prog 69 0 = some 0 := by kernel_rfl
@[go_sem] theorem foff_69_1 : foff Try.prog 69 1 = some 1 := by kernel_rfl
@[go_sem] theorem foff_69_2 : foff Try.prog 69 2 = some 2 := by kernel_rfl
@[go_sem] theorem foff_86_0 : foff Try.prog 86 0 = some 0 := by kernel_rfl
@[go_sem] theorem foff_86_1 : foff Try.prog 86 1 = some 1 := by kernel_rfl
@[go_sem] theorem foff_86_2 : foff Try.prog 86 2 = some 2 := by kernel_rfl
@[go_sem] theorem foff_119_0 : foff Try.prog 119 0 = some 0 := by kernel_rfl
@[go_sem] theorem foff_119_1 : foff Try.prog 119 1 = some 1 := by kernel_rfl
@[go_sem] theorem foff_119_2 : foff Try.prog 119 2 = some 2 := by kernel_rfl
@[go_sem] theorem cvk_2_79 : cvk Try.prog 2 79 = some (0, IntKind.u64) := by kernel_rfl
@[go_sem] theorem cvk_3_5 : cvk Try.prog 3 5 = some (0, IntKind.u8) := by kernel_rfl
@[go_sem] theorem cvk_3_79 : cvk Try.prog 3 79 = some (0, IntKind.u64) := by kernel_rfl
@[go_sem] theorem cvk_5_3 : cvk Try.prog 5 3 = some (0, IntKind.i64) := by kernel_rfl
@[go_sem] theorem cvk_5_79 : cvk Try.prog 5 79 = some (0, IntKind.u64) := by kernel_rfl
@[go_sem] theorem cvk_22_9 : cvk Try.prog 22 9 = some (2, IntKind.u8) := by kernel_rfl
@[go_sem] theorem cvk_79_2 : cvk Try.prog 79 2 = some (0, IntKind.i64) := by kernel_rfl
@[go_sem] theorem cvk_79_3 : cvk Try.prog 79 3 = some (0, IntKind.i64) := by kernel_rfl
@[go_sem] theorem cvk_79_5 : cvk Try.prog 79 5 = some (0, IntKind.u8) := by kernel_rfl

end Go.Proofs.YtpblgfgcoamgmaaS
