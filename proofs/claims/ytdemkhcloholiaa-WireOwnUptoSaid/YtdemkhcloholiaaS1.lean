/-
  What this seat's type table says of the types that its functions use. Printed by wip/tools/facts.py.
-/
import Derived.Test.YtdemkhcloholiaaV25
import Derived.Test.YtdemkhcloholiaaRows
set_option linter.unusedVariables false
namespace Go.Proofs.YtdemkhcloholiaaS
open Go Go.Proofs.YtdemkhcloholiaaV

noncomputable abbrev P : Program := Try.prog
theorem mixed : Try.prog.follows .mixedOrders = true := by kernel_rfl

@[go_sem] theorem lk_0 : lk Try.prog 0 = some (false, 1) := by kernel_rfl
@[go_sem] theorem zer_0 : zer Try.prog 0 = some [D.any] := by kernel_rfl
@[go_sem] theorem concrete_0 : concrete Try.prog 0 = true := by kernel_rfl
@[go_sem] theorem lk_1 : lk Try.prog 1 = some (false, 1) := by kernel_rfl
@[go_sem] theorem zer_1 : zer Try.prog 1 = some [D.nilfunc] := by kernel_rfl
@[go_sem] theorem concrete_1 : concrete Try.prog 1 = true := by kernel_rfl
@[go_sem] theorem lk_2 : lk Try.prog 2 = some (false, 1) := by kernel_rfl
@[go_sem] theorem zer_2 : zer Try.prog 2 = some [D.int IntKind.i64 (0)] := by kernel_rfl
@[go_sem] theorem concrete_2 : concrete Try.prog 2 = true := by kernel_rfl
@[go_sem] theorem lk_3 : lk Try.prog 3 = some (false, 1) := by kernel_rfl
@[go_sem] theorem zer_3 : zer Try.prog 3 = some [D.int IntKind.i64 (0)] := by kernel_rfl
@[go_sem] theorem concrete_3 : concrete Try.prog 3 = true := by kernel_rfl
@[go_sem] theorem lk_4 : lk Try.prog 4 = some (false, 1) := by kernel_rfl
@[go_sem] theorem zer_4 : zer Try.prog 4 = some [D.bool false] := by kernel_rfl
@[go_sem] theorem concrete_4 : concrete Try.prog 4 = true := by kernel_rfl
@[go_sem] theorem lk_5 : lk Try.prog 5 = some (false, 1) := by kernel_rfl
@[go_sem] theorem zer_5 : zer Try.prog 5 = some [D.int IntKind.u8 (0)] := by kernel_rfl
@[go_sem] theorem concrete_5 : concrete Try.prog 5 = true := by kernel_rfl
@[go_sem] theorem lk_6 : lk Try.prog 6 = some (false, 1) := by kernel_rfl
@[go_sem] theorem zer_6 : zer Try.prog 6 = some [D.int IntKind.u8 (0)] := by kernel_rfl
@[go_sem] theorem concrete_6 : concrete Try.prog 6 = true := by kernel_rfl
@[go_sem] theorem lk_7 : lk Try.prog 7 = some (true, 4) := by kernel_rfl
@[go_sem] theorem zer_7 : zer Try.prog 7 = some [D.int IntKind.i64 (0), D.int IntKind.i64 (0), D.bool false, D.int IntKind.u8 (0)] := by kernel_rfl
@[go_sem] theorem plc_7 : plc Try.prog 7 = some [(0, 1), (1, 1), (2, 1), (3, 1)] := by kernel_rfl
@[go_sem] theorem concrete_7 : concrete Try.prog 7 = true := by kernel_rfl
@[go_sem] theorem lk_8 : lk Try.prog 8 = some (true, 4) := by kernel_rfl
@[go_sem] theorem zer_8 : zer Try.prog 8 = some [D.int IntKind.i64 (0), D.int IntKind.i64 (0), D.bool false, D.int IntKind.u8 (0)] := by kernel_rfl
@[go_sem] theorem plc_8 : plc Try.prog 8 = some [(0, 1), (1, 1), (2, 1), (3, 1)] := by kernel_rfl
@[go_sem] theorem concrete_8 : concrete Try.prog 8 = true := by kernel_rfl
@[go_sem] theorem lk_9 : lk Try.prog 9 = some (false, 1) := by kernel_rfl
@[go_sem] theorem zer_9 : zer Try.prog 9 = some [D.str ByteArray.empty] := by kernel_rfl
@[go_sem] theorem cutk_9 : cutk Try.prog 9 = some (0, 0, 0) := by kernel_rfl
@[go_sem] theorem concrete_9 : concrete Try.prog 9 = true := by kernel_rfl
@[go_sem] theorem lk_10 : lk Try.prog 10 = some (false, 1) := by kernel_rfl
@[go_sem] theorem zer_10 : zer Try.prog 10 = some [D.str ByteArray.empty] := by kernel_rfl
@[go_sem] theorem cutk_10 : cutk Try.prog 10 = some (0, 0, 0) := by kernel_rfl
@[go_sem] theorem concrete_10 : concrete Try.prog 10 = true := by kernel_rfl
@[go_sem] theorem lk_11 : lk Try.prog 11 = some (false, 1) := by kernel_rfl
@[go_sem] theorem zer_11 : zer Try.prog 11 = some [D.str ByteArray.empty] := by kernel_rfl
@[go_sem] theorem cutk_11 : cutk Try.prog 11 = some (0, 0, 0) := by kernel_rfl
@[go_sem] theorem concrete_11 : concrete Try.prog 11 = true := by kernel_rfl
@[go_sem] theorem lk_12 : lk Try.prog 12 = some (false, 1) := by kernel_rfl
@[go_sem] theorem zer_12 : zer Try.prog 12 = some [D.int IntKind.u64 (0)] := by kernel_rfl
@[go_sem] theorem concrete_12 : concrete Try.prog 12 = true := by kernel_rfl
@[go_sem] theorem lk_13 : lk Try.prog 13 = some (true, 2) := by kernel_rfl
@[go_sem] theorem zer_13 : zer Try.prog 13 = some [D.str ByteArray.empty, D.int IntKind.u64 (0)] := by kernel_rfl
@[go_sem] theorem plc_13 : plc Try.prog 13 = some [(0, 1), (1, 1)] := by kernel_rfl
@[go_sem] theorem concrete_13 : concrete Try.prog 13 = true := by kernel_rfl
@[go_sem] theorem lk_14 : lk Try.prog 14 = some (true, 2) := by kernel_rfl
@[go_sem] theorem zer_14 : zer Try.prog 14 = some [D.str ByteArray.empty, D.int IntKind.u64 (0)] := by kernel_rfl
@[go_sem] theorem plc_14 : plc Try.prog 14 = some [(0, 1), (1, 1)] := by kernel_rfl
@[go_sem] theorem concrete_14 : concrete Try.prog 14 = true := by kernel_rfl
@[go_sem] theorem lk_15 : lk Try.prog 15 = some (false, 1) := by kernel_rfl
@[go_sem] theorem zer_15 : zer Try.prog 15 = some [D.nilp] := by kernel_rfl
@[go_sem] theorem concrete_15 : concrete Try.prog 15 = true := by kernel_rfl
@[go_sem] theorem lk_16 : lk Try.prog 16 = some (false, 1) := by kernel_rfl
@[go_sem] theorem zer_16 : zer Try.prog 16 = some [D.nilp] := by kernel_rfl
@[go_sem] theorem concrete_16 : concrete Try.prog 16 = true := by kernel_rfl
@[go_sem] theorem lk_17 : lk Try.prog 17 = some (false, 1) := by kernel_rfl
@[go_sem] theorem zer_17 : zer Try.prog 17 = some [D.nilp] := by kernel_rfl
@[go_sem] theorem concrete_17 : concrete Try.prog 17 = true := by kernel_rfl
@[go_sem] theorem lk_18 : lk Try.prog 18 = some (true, 1) := by kernel_rfl
@[go_sem] theorem zer_18 : zer Try.prog 18 = some [D.nilp] := by kernel_rfl
@[go_sem] theorem plc_18 : plc Try.prog 18 = some [(0, 1)] := by kernel_rfl
@[go_sem] theorem concrete_18 : concrete Try.prog 18 = true := by kernel_rfl
@[go_sem] theorem lk_19 : lk Try.prog 19 = some (true, 1) := by kernel_rfl
@[go_sem] theorem zer_19 : zer Try.prog 19 = some [D.nilp] := by kernel_rfl
@[go_sem] theorem plc_19 : plc Try.prog 19 = some [(0, 1)] := by kernel_rfl
@[go_sem] theorem concrete_19 : concrete Try.prog 19 = true := by kernel_rfl
@[go_sem] theorem lk_20 : lk Try.prog 20 = some (false, 1) := by kernel_rfl
@[go_sem] theorem zer_20 : zer Try.prog 20 = some [D.nilif] := by kernel_rfl
@[go_sem] theorem lk_21 : lk Try.prog 21 = some (false, 1) := by kernel_rfl
@[go_sem] theorem zer_21 : zer Try.prog 21 = some [D.int IntKind.i32 (0)] := by kernel_rfl
@[go_sem] theorem concrete_21 : concrete Try.prog 21 = true := by kernel_rfl
@[go_sem] theorem lk_22 : lk Try.prog 22 = some (false, 1) := by kernel_rfl
@[go_sem] theorem elt_22 : elt Try.prog 22 = some (1, 1) := by kernel_rfl
@[go_sem] theorem zel_22 : zel Try.prog 22 = some ([D.int IntKind.u8 (0)], 1) := by kernel_rfl
@[go_sem] theorem zer_22 : zer Try.prog 22 = some [D.sl Tk.full []] := by kernel_rfl
@[go_sem] theorem ixt_22 : ixt Try.prog 22 = some (false, 0, 1) := by kernel_rfl
@[go_sem] theorem cutk_22 : cutk Try.prog 22 = some (1, 1, 0) := by kernel_rfl
@[go_sem] theorem concrete_22 : concrete Try.prog 22 = true := by kernel_rfl
@[go_sem] theorem lk_23 : lk Try.prog 23 = some (false, 1) := by kernel_rfl
@[go_sem] theorem zer_23 : zer Try.prog 23 = some [D.int IntKind.u64 (0)] := by kernel_rfl
@[go_sem] theorem concrete_23 : concrete Try.prog 23 = true := by kernel_rfl
@[go_sem] theorem lk_24 : lk Try.prog 24 = some (true, 4) := by kernel_rfl
@[go_sem] theorem zer_24 : zer Try.prog 24 = some [D.int IntKind.u64 (0), D.int IntKind.i64 (0), D.str ByteArray.empty, D.sl Tk.full []] := by kernel_rfl
@[go_sem] theorem plc_24 : plc Try.prog 24 = some [(0, 1), (1, 1), (2, 1), (3, 1)] := by kernel_rfl
@[go_sem] theorem concrete_24 : concrete Try.prog 24 = true := by kernel_rfl
@[go_sem] theorem lk_25 : lk Try.prog 25 = some (true, 4) := by kernel_rfl
@[go_sem] theorem zer_25 : zer Try.prog 25 = some [D.int IntKind.u64 (0), D.int IntKind.i64 (0), D.str ByteArray.empty, D.sl Tk.full []] := by kernel_rfl
@[go_sem] theorem plc_25 : plc Try.prog 25 = some [(0, 1), (1, 1), (2, 1), (3, 1)] := by kernel_rfl
@[go_sem] theorem concrete_25 : concrete Try.prog 25 = true := by kernel_rfl
@[go_sem] theorem lk_26 : lk Try.prog 26 = some (false, 1) := by kernel_rfl
@[go_sem] theorem zer_26 : zer Try.prog 26 = some [D.nilfunc] := by kernel_rfl
@[go_sem] theorem concrete_26 : concrete Try.prog 26 = true := by kernel_rfl
@[go_sem] theorem lk_27 : lk Try.prog 27 = some (false, 1) := by kernel_rfl
@[go_sem] theorem zer_27 : zer Try.prog 27 = some [D.nilfunc] := by kernel_rfl
@[go_sem] theorem concrete_27 : concrete Try.prog 27 = true := by kernel_rfl
@[go_sem] theorem lk_28 : lk Try.prog 28 = some (false, 1) := by kernel_rfl
@[go_sem] theorem zer_28 : zer Try.prog 28 = some [D.nilfunc] := by kernel_rfl
@[go_sem] theorem concrete_28 : concrete Try.prog 28 = true := by kernel_rfl
@[go_sem] theorem lk_29 : lk Try.prog 29 = some (false, 1) := by kernel_rfl
@[go_sem] theorem zer_29 : zer Try.prog 29 = some [D.nilfunc] := by kernel_rfl
@[go_sem] theorem concrete_29 : concrete Try.prog 29 = true := by kernel_rfl
@[go_sem] theorem lk_30 : lk Try.prog 30 = some (false, 1) := by kernel_rfl
@[go_sem] theorem zer_30 : zer Try.prog 30 = some [D.nilfunc] := by kernel_rfl
@[go_sem] theorem concrete_30 : concrete Try.prog 30 = true := by kernel_rfl
@[go_sem] theorem lk_31 : lk Try.prog 31 = some (false, 1) := by kernel_rfl
@[go_sem] theorem zer_31 : zer Try.prog 31 = some [D.nilfunc] := by kernel_rfl
@[go_sem] theorem concrete_31 : concrete Try.prog 31 = true := by kernel_rfl
@[go_sem] theorem lk_32 : lk Try.prog 32 = some (false, 1) := by kernel_rfl
@[go_sem] theorem zer_32 : zer Try.prog 32 = some [D.nilfunc] := by kernel_rfl
@[go_sem] theorem concrete_32 : concrete Try.prog 32 = true := by kernel_rfl
@[go_sem] theorem lk_33 : lk Try.prog 33 = some (false, 1) := by kernel_rfl
@[go_sem] theorem zer_33 : zer Try.prog 33 = some [D.int IntKind.i64 (0)] := by kernel_rfl
@[go_sem] theorem concrete_33 : concrete Try.prog 33 = true := by kernel_rfl
@[go_sem] theorem lk_34 : lk Try.prog 34 = some (false, 1) := by kernel_rfl
@[go_sem] theorem zer_34 : zer Try.prog 34 = some [D.any] := by kernel_rfl
@[go_sem] theorem concrete_34 : concrete Try.prog 34 = true := by kernel_rfl
@[go_sem] theorem lk_35 : lk Try.prog 35 = some (false, 1) := by kernel_rfl
@[go_sem] theorem zer_35 : zer Try.prog 35 = some [D.nilfunc] := by kernel_rfl
@[go_sem] theorem concrete_35 : concrete Try.prog 35 = true := by kernel_rfl
@[go_sem] theorem lk_36 : lk Try.prog 36 = some (false, 1) := by kernel_rfl
@[go_sem] theorem zer_36 : zer Try.prog 36 = some [D.any] := by kernel_rfl
@[go_sem] theorem concrete_36 : concrete Try.prog 36 = true := by kernel_rfl
@[go_sem] theorem lk_37 : lk Try.prog 37 = some (false, 1) := by kernel_rfl
@[go_sem] theorem zer_37 : zer Try.prog 37 = some [D.nilfunc] := by kernel_rfl
@[go_sem] theorem concrete_37 : concrete Try.prog 37 = true := by kernel_rfl
@[go_sem] theorem lk_38 : lk Try.prog 38 = some (false, 1) := by kernel_rfl
@[go_sem] theorem zer_38 : zer Try.prog 38 = some [D.any] := by kernel_rfl
@[go_sem] theorem concrete_38 : concrete Try.prog 38 = true := by kernel_rfl
@[go_sem] theorem lk_39 : lk Try.prog 39 = some (false, 1) := by kernel_rfl
@[go_sem] theorem zer_39 : zer Try.prog 39 = some [D.nilfunc] := by kernel_rfl
@[go_sem] theorem concrete_39 : concrete Try.prog 39 = true := by kernel_rfl
@[go_sem] theorem lk_40 : lk Try.prog 40 = some (false, 1) := by kernel_rfl
@[go_sem] theorem zer_40 : zer Try.prog 40 = some [D.any] := by kernel_rfl
@[go_sem] theorem concrete_40 : concrete Try.prog 40 = true := by kernel_rfl
@[go_sem] theorem lk_41 : lk Try.prog 41 = some (false, 1) := by kernel_rfl
@[go_sem] theorem zer_41 : zer Try.prog 41 = some [D.nilfunc] := by kernel_rfl
@[go_sem] theorem concrete_41 : concrete Try.prog 41 = true := by kernel_rfl
@[go_sem] theorem lk_42 : lk Try.prog 42 = some (false, 1) := by kernel_rfl
@[go_sem] theorem zer_42 : zer Try.prog 42 = some [D.nilfunc] := by kernel_rfl
@[go_sem] theorem concrete_42 : concrete Try.prog 42 = true := by kernel_rfl
@[go_sem] theorem lk_43 : lk Try.prog 43 = some (false, 1) := by kernel_rfl
@[go_sem] theorem zer_43 : zer Try.prog 43 = some [D.nilfunc] := by kernel_rfl
@[go_sem] theorem concrete_43 : concrete Try.prog 43 = true := by kernel_rfl
@[go_sem] theorem lk_44 : lk Try.prog 44 = some (false, 1) := by kernel_rfl
@[go_sem] theorem zer_44 : zer Try.prog 44 = some [D.nilfunc] := by kernel_rfl
@[go_sem] theorem concrete_44 : concrete Try.prog 44 = true := by kernel_rfl
@[go_sem] theorem lk_45 : lk Try.prog 45 = some (false, 1) := by kernel_rfl
@[go_sem] theorem zer_45 : zer Try.prog 45 = some [D.nilfunc] := by kernel_rfl
@[go_sem] theorem concrete_45 : concrete Try.prog 45 = true := by kernel_rfl
@[go_sem] theorem lk_46 : lk Try.prog 46 = some (false, 1) := by kernel_rfl
@[go_sem] theorem elt_46 : elt Try.prog 46 = some (1, 24) := by kernel_rfl
@[go_sem] theorem zel_46 : zel Try.prog 46 = some ([D.sl Tk.full []], 24) := by kernel_rfl
@[go_sem] theorem zer_46 : zer Try.prog 46 = some [D.sl Tk.full []] := by kernel_rfl
@[go_sem] theorem ixt_46 : ixt Try.prog 46 = some (false, 0, 1) := by kernel_rfl
@[go_sem] theorem cutk_46 : cutk Try.prog 46 = some (1, 1, 0) := by kernel_rfl
@[go_sem] theorem concrete_46 : concrete Try.prog 46 = true := by kernel_rfl
@[go_sem] theorem lk_47 : lk Try.prog 47 = some (false, 1) := by kernel_rfl
@[go_sem] theorem zer_47 : zer Try.prog 47 = some [D.nilfunc] := by kernel_rfl
@[go_sem] theorem concrete_47 : concrete Try.prog 47 = true := by kernel_rfl
@[go_sem] theorem lk_48 : lk Try.prog 48 = some (false, 1) := by kernel_rfl
@[go_sem] theorem elt_48 : elt Try.prog 48 = some (4, 56) := by kernel_rfl
@[go_sem] theorem zel_48 : zel Try.prog 48 = some ([D.int IntKind.u64 (0), D.int IntKind.i64 (0), D.str ByteArray.empty, D.sl Tk.full []], 56) := by kernel_rfl
@[go_sem] theorem zer_48 : zer Try.prog 48 = some [D.sl Tk.full []] := by kernel_rfl
@[go_sem] theorem ixt_48 : ixt Try.prog 48 = some (false, 0, 4) := by kernel_rfl
@[go_sem] theorem cutk_48 : cutk Try.prog 48 = some (1, 4, 0) := by kernel_rfl
@[go_sem] theorem concrete_48 : concrete Try.prog 48 = true := by kernel_rfl
@[go_sem] theorem lk_49 : lk Try.prog 49 = some (false, 1) := by kernel_rfl
@[go_sem] theorem zer_49 : zer Try.prog 49 = some [D.nilfunc] := by kernel_rfl
@[go_sem] theorem concrete_49 : concrete Try.prog 49 = true := by kernel_rfl
@[go_sem] theorem lk_50 : lk Try.prog 50 = some (false, 1) := by kernel_rfl
@[go_sem] theorem zer_50 : zer Try.prog 50 = some [D.nilfunc] := by kernel_rfl
@[go_sem] theorem concrete_50 : concrete Try.prog 50 = true := by kernel_rfl
@[go_sem] theorem lk_51 : lk Try.prog 51 = some (false, 1) := by kernel_rfl
@[go_sem] theorem zer_51 : zer Try.prog 51 = some [D.int IntKind.u64 (0)] := by kernel_rfl
@[go_sem] theorem concrete_51 : concrete Try.prog 51 = true := by kernel_rfl
@[go_sem] theorem lk_52 : lk Try.prog 52 = some (false, 1) := by kernel_rfl
@[go_sem] theorem zer_52 : zer Try.prog 52 = some [D.any] := by kernel_rfl
@[go_sem] theorem concrete_52 : concrete Try.prog 52 = true := by kernel_rfl
@[go_sem] theorem lk_53 : lk Try.prog 53 = some (false, 1) := by kernel_rfl
@[go_sem] theorem zer_53 : zer Try.prog 53 = some [D.nilfunc] := by kernel_rfl
@[go_sem] theorem concrete_53 : concrete Try.prog 53 = true := by kernel_rfl
@[go_sem] theorem lk_54 : lk Try.prog 54 = some (false, 1) := by kernel_rfl
@[go_sem] theorem zer_54 : zer Try.prog 54 = some [D.nilfunc] := by kernel_rfl
@[go_sem] theorem concrete_54 : concrete Try.prog 54 = true := by kernel_rfl
@[go_sem] theorem lk_55 : lk Try.prog 55 = some (true, 4) := by kernel_rfl
@[go_sem] theorem zer_55 : zer Try.prog 55 = some [D.nilp, D.nilp, D.nilp, D.str ByteArray.empty] := by kernel_rfl
@[go_sem] theorem plc_55 : plc Try.prog 55 = some [(0, 1), (1, 1), (2, 1), (3, 1)] := by kernel_rfl
@[go_sem] theorem concrete_55 : concrete Try.prog 55 = true := by kernel_rfl
@[go_sem] theorem lk_56 : lk Try.prog 56 = some (true, 4) := by kernel_rfl
@[go_sem] theorem zer_56 : zer Try.prog 56 = some [D.nilp, D.nilp, D.nilp, D.str ByteArray.empty] := by kernel_rfl
@[go_sem] theorem plc_56 : plc Try.prog 56 = some [(0, 1), (1, 1), (2, 1), (3, 1)] := by kernel_rfl
@[go_sem] theorem concrete_56 : concrete Try.prog 56 = true := by kernel_rfl
@[go_sem] theorem lk_57 : lk Try.prog 57 = some (true, 0) := by kernel_rfl
@[go_sem] theorem zer_57 : zer Try.prog 57 = some [] := by kernel_rfl
@[go_sem] theorem plc_57 : plc Try.prog 57 = some [] := by kernel_rfl
@[go_sem] theorem ixt_57 : ixt Try.prog 57 = some (true, 0, 1) := by kernel_rfl
@[go_sem] theorem cutk_57 : cutk Try.prog 57 = some (2, 1, 0) := by kernel_rfl
@[go_sem] theorem concrete_57 : concrete Try.prog 57 = true := by kernel_rfl
@[go_sem] theorem lk_58 : lk Try.prog 58 = some (true, 0) := by kernel_rfl
@[go_sem] theorem zer_58 : zer Try.prog 58 = some [] := by kernel_rfl
@[go_sem] theorem plc_58 : plc Try.prog 58 = some [(0, 0)] := by kernel_rfl
@[go_sem] theorem concrete_58 : concrete Try.prog 58 = true := by kernel_rfl
@[go_sem] theorem lk_59 : lk Try.prog 59 = some (true, 0) := by kernel_rfl
@[go_sem] theorem zer_59 : zer Try.prog 59 = some [] := by kernel_rfl
@[go_sem] theorem plc_59 : plc Try.prog 59 = some [(0, 0)] := by kernel_rfl
@[go_sem] theorem concrete_59 : concrete Try.prog 59 = true := by kernel_rfl
@[go_sem] theorem lk_60 : lk Try.prog 60 = some (false, 1) := by kernel_rfl
@[go_sem] theorem zer_60 : zer Try.prog 60 = some [D.nilfunc] := by kernel_rfl
@[go_sem] theorem concrete_60 : concrete Try.prog 60 = true := by kernel_rfl
@[go_sem] theorem lk_61 : lk Try.prog 61 = some (false, 1) := by kernel_rfl
@[go_sem] theorem zer_61 : zer Try.prog 61 = some [D.int IntKind.u32 (0)] := by kernel_rfl
@[go_sem] theorem concrete_61 : concrete Try.prog 61 = true := by kernel_rfl
@[go_sem] theorem lk_62 : lk Try.prog 62 = some (false, 1) := by kernel_rfl
@[go_sem] theorem zer_62 : zer Try.prog 62 = some [D.int IntKind.u8 (0)] := by kernel_rfl
@[go_sem] theorem concrete_62 : concrete Try.prog 62 = true := by kernel_rfl
@[go_sem] theorem lk_63 : lk Try.prog 63 = some (false, 1) := by kernel_rfl
@[go_sem] theorem zer_63 : zer Try.prog 63 = some [D.int IntKind.u8 (0)] := by kernel_rfl
@[go_sem] theorem concrete_63 : concrete Try.prog 63 = true := by kernel_rfl
@[go_sem] theorem lk_64 : lk Try.prog 64 = some (false, 1) := by kernel_rfl
@[go_sem] theorem zer_64 : zer Try.prog 64 = some [D.nilfunc] := by kernel_rfl
@[go_sem] theorem concrete_64 : concrete Try.prog 64 = true := by kernel_rfl
@[go_sem] theorem lk_65 : lk Try.prog 65 = some (false, 1) := by kernel_rfl
@[go_sem] theorem zer_65 : zer Try.prog 65 = some [D.nilp] := by kernel_rfl
@[go_sem] theorem concrete_65 : concrete Try.prog 65 = true := by kernel_rfl
@[go_sem] theorem lk_66 : lk Try.prog 66 = some (false, 1) := by kernel_rfl
@[go_sem] theorem zer_66 : zer Try.prog 66 = some [D.int IntKind.i32 (0)] := by kernel_rfl
@[go_sem] theorem concrete_66 : concrete Try.prog 66 = true := by kernel_rfl
@[go_sem] theorem lk_67 : lk Try.prog 67 = some (false, 1) := by kernel_rfl
@[go_sem] theorem zer_67 : zer Try.prog 67 = some [D.int IntKind.i32 (0)] := by kernel_rfl
@[go_sem] theorem concrete_67 : concrete Try.prog 67 = true := by kernel_rfl
@[go_sem] theorem lk_68 : lk Try.prog 68 = some (true, 11) := by kernel_rfl
@[go_sem] theorem zer_68 : zer Try.prog 68 = some [D.int IntKind.u64 (0), D.int IntKind.u64 (0), D.int IntKind.u32 (0), D.int IntKind.u8 (0), D.int IntKind.u8 (0), D.int IntKind.u8 (0), D.int IntKind.u8 (0), D.nilfunc, D.nilp, D.int IntKind.i32 (0), D.int IntKind.i32 (0)] := by kernel_rfl
@[go_sem] theorem plc_68 : plc Try.prog 68 = some [(0, 1), (1, 1), (2, 1), (3, 1), (4, 1), (5, 1), (6, 1), (7, 1), (8, 1), (9, 1), (10, 1)] := by kernel_rfl
@[go_sem] theorem concrete_68 : concrete Try.prog 68 = true := by kernel_rfl
@[go_sem] theorem lk_69 : lk Try.prog 69 = some (true, 11) := by kernel_rfl
@[go_sem] theorem zer_69 : zer Try.prog 69 = some [D.int IntKind.u64 (0), D.int IntKind.u64 (0), D.int IntKind.u32 (0), D.int IntKind.u8 (0), D.int IntKind.u8 (0), D.int IntKind.u8 (0), D.int IntKind.u8 (0), D.nilfunc, D.nilp, D.int IntKind.i32 (0), D.int IntKind.i32 (0)] := by kernel_rfl
@[go_sem] theorem plc_69 : plc Try.prog 69 = some [(0, 1), (1, 1), (2, 1), (3, 1), (4, 1), (5, 1), (6, 1), (7, 1), (8, 1), (9, 1), (10, 1)] := by kernel_rfl
@[go_sem] theorem concrete_69 : concrete Try.prog 69 = true := by kernel_rfl
@[go_sem] theorem lk_70 : lk Try.prog 70 = some (false, 1) := by kernel_rfl
@[go_sem] theorem zer_70 : zer Try.prog 70 = some [D.nilp] := by kernel_rfl
@[go_sem] theorem concrete_70 : concrete Try.prog 70 = true := by kernel_rfl
@[go_sem] theorem foff_25_0 : foff Try.prog 25 0 = some 0 := by kernel_rfl
@[go_sem] theorem foff_25_1 : foff Try.prog 25 1 = some 1 := by kernel_rfl
@[go_sem] theorem foff_25_2 : foff Try.prog 25 2 = some 2 := by kernel_rfl
@[go_sem] theorem foff_25_3 : foff Try.prog 25 3 = some 3 := by kernel_rfl
@[go_sem] theorem cvk_2_23 : cvk Try.prog 2 23 = some (0, IntKind.u64) := by kernel_rfl
@[go_sem] theorem cvk_3_23 : cvk Try.prog 3 23 = some (0, IntKind.u64) := by kernel_rfl
@[go_sem] theorem cvk_5_23 : cvk Try.prog 5 23 = some (0, IntKind.u64) := by kernel_rfl
@[go_sem] theorem cvk_22_9 : cvk Try.prog 22 9 = some (2, IntKind.u8) := by kernel_rfl
@[go_sem] theorem cvk_23_2 : cvk Try.prog 23 2 = some (0, IntKind.i64) := by kernel_rfl
@[go_sem] theorem cvk_23_3 : cvk Try.prog 23 3 = some (0, IntKind.i64) := by kernel_rfl
@[go_sem] theorem cvk_23_5 : cvk Try.prog 23 5 = some (0, IntKind.u8) := by kernel_rfl

end Go.Proofs.YtdemkhcloholiaaS
