/-
  The twenty-second text of the program logic: rows for the values.
  Conditions: none; it speaks of every program.
-/
import Derived.Test.YtgkfcgfobckaaaaV21
import Derived.Laws.Strings
import Derived.WideShapes
set_option linter.unusedVariables false
set_option linter.unusedSimpArgs false
namespace Go.Proofs.YtgkfcgfobckaaaaV
open Go

variable {P : Program} {G : Heap}

theorem cells_int (k : IntKind) (n : Int) : (D.int k n).cells = [(D.int k n)] := (rfl)
theorem one_int (k : IntKind) (n : Int) : (D.int k n).one = true := (rfl)
theorem solid_int (k : IntKind) (n : Int) : (D.int k n).solid = true := (rfl)
theorem er_int (k : IntKind) (n : Int) : (D.int k n).er = (D.int k n) := rfl
theorem er1_int (k : IntKind) (n : Int) : (D.int k n).er1 = (D.int k n) := (rfl)
theorem cells_bool (b : Bool) : (D.bool b).cells = [(D.bool b)] := (rfl)
theorem one_bool (b : Bool) : (D.bool b).one = true := (rfl)
theorem solid_bool (b : Bool) : (D.bool b).solid = true := (rfl)
theorem er_bool (b : Bool) : (D.bool b).er = (D.bool b) := rfl
theorem er1_bool (b : Bool) : (D.bool b).er1 = (D.bool b) := (rfl)
theorem cells_str (s : ByteArray) : (D.str s).cells = [(D.str s)] := (rfl)
theorem one_str (s : ByteArray) : (D.str s).one = true := (rfl)
theorem solid_str (s : ByteArray) : (D.str s).solid = true := (rfl)
theorem er_str (s : ByteArray) : (D.str s).er = (D.str s) := rfl
theorem er1_str (s : ByteArray) : (D.str s).er1 = (D.str s) := (rfl)
theorem cells_sl (t : Tk) (xs : List D) : (D.sl t xs).cells = [(D.sl t xs)] := (rfl)
theorem one_sl (t : Tk) (xs : List D) : (D.sl t xs).one = true := (rfl)
theorem solid_sl (t : Tk) (xs : List D) : (D.sl t xs).solid = true := (rfl)
theorem er1_sl (t : Tk) (xs : List D) : (D.sl t xs).er1 = .sl .none xs := rfl
theorem er_sl (t : Tk) (xs : List D) : (D.sl t xs).er = .sl .none xs := (rfl)
theorem cells_so (b o l c : Nat) : (D.so b o l c).cells = [(D.so b o l c)] := (rfl)
theorem one_so (b o l c : Nat) : (D.so b o l c).one = true := (rfl)
theorem solid_so (b o l c : Nat) : (D.so b o l c).solid = true := (rfl)
theorem er_so (b o l c : Nat) : (D.so b o l c).er = (D.so b o l c) := rfl
theorem er1_so (b o l c : Nat) : (D.so b o l c).er1 = (D.so b o l c) := (rfl)
theorem cells_agg (cs : List D) : (D.agg cs).cells = cs := (rfl)
theorem one_agg (cs : List D) : (D.agg cs).one = false := (rfl)
theorem solid_agg (cs : List D) : (D.agg cs).solid = cs.all D.one := (rfl)
theorem er_agg (cs : List D) : (D.agg cs).er = .agg (cs.map D.er1) := rfl
theorem er1_agg (cs : List D) : (D.agg cs).er1 = (D.agg cs) := (rfl)
theorem cells_tup (cs : List D) : (D.tup cs).cells = [(D.tup cs)] := (rfl)
theorem one_tup (cs : List D) : (D.tup cs).one = false := (rfl)
theorem er1_tup (cs : List D) : (D.tup cs).er1 = (D.tup cs) := (rfl)
theorem cells_pb (b o : Nat) : (D.pb b o).cells = [(D.pb b o)] := (rfl)
theorem one_pb (b o : Nat) : (D.pb b o).one = true := (rfl)
theorem solid_pb (b o : Nat) : (D.pb b o).solid = true := (rfl)
theorem er_pb (b o : Nat) : (D.pb b o).er = (D.pb b o) := rfl
theorem er1_pb (b o : Nat) : (D.pb b o).er1 = (D.pb b o) := (rfl)
theorem cells_pf (cs : List D) : (D.pf cs).cells = [(D.pf cs)] := (rfl)
theorem one_pf (cs : List D) : (D.pf cs).one = true := (rfl)
theorem solid_pf (cs : List D) : (D.pf cs).solid = true := (rfl)
theorem er_pf (cs : List D) : (D.pf cs).er = (D.pf cs) := rfl
theorem er1_pf (cs : List D) : (D.pf cs).er1 = (D.pf cs) := (rfl)
theorem cells_nilp  : D.nilp.cells = [D.nilp] := (rfl)
theorem one_nilp  : D.nilp.one = true := (rfl)
theorem solid_nilp  : D.nilp.solid = true := (rfl)
theorem er_nilp  : D.nilp.er = D.nilp := rfl
theorem er1_nilp  : D.nilp.er1 = D.nilp := (rfl)
theorem cells_clo (f : Fn) (x y : List D) : (D.clo f x y).cells = [(D.clo f x y)] := (rfl)
theorem one_clo (f : Fn) (x y : List D) : (D.clo f x y).one = true := (rfl)
theorem solid_clo (f : Fn) (x y : List D) : (D.clo f x y).solid = true := (rfl)
theorem er_clo (f : Fn) (x y : List D) : (D.clo f x y).er = (D.clo f x y) := rfl
theorem er1_clo (f : Fn) (x y : List D) : (D.clo f x y).er1 = (D.clo f x y) := (rfl)
theorem cells_nilfunc  : D.nilfunc.cells = [D.nilfunc] := (rfl)
theorem one_nilfunc  : D.nilfunc.one = true := (rfl)
theorem solid_nilfunc  : D.nilfunc.solid = true := (rfl)
theorem er_nilfunc  : D.nilfunc.er = D.nilfunc := rfl
theorem er1_nilfunc  : D.nilfunc.er1 = D.nilfunc := (rfl)
theorem cells_iface (t : TypeId) (d : D) : (D.iface t d).cells = [(D.iface t d)] := (rfl)
theorem one_iface (t : TypeId) (d : D) : (D.iface t d).one = true := (rfl)
theorem solid_iface (t : TypeId) (d : D) : (D.iface t d).solid = true := (rfl)
theorem er_iface (t : TypeId) (d : D) : (D.iface t d).er = (D.iface t d) := rfl
theorem er1_iface (t : TypeId) (d : D) : (D.iface t d).er1 = (D.iface t d) := (rfl)
theorem cells_nilif  : D.nilif.cells = [D.nilif] := (rfl)
theorem one_nilif  : D.nilif.one = true := (rfl)
theorem solid_nilif  : D.nilif.solid = true := (rfl)
theorem er_nilif  : D.nilif.er = D.nilif := rfl
theorem er1_nilif  : D.nilif.er1 = D.nilif := (rfl)
theorem cells_nilmap  : D.nilmap.cells = [D.nilmap] := (rfl)
theorem one_nilmap  : D.nilmap.one = true := (rfl)
theorem solid_nilmap  : D.nilmap.solid = true := (rfl)
theorem er_nilmap  : D.nilmap.er = D.nilmap := rfl
theorem er1_nilmap  : D.nilmap.er1 = D.nilmap := (rfl)
theorem range_0 : List.range 0 = [] := (rfl)
theorem range_1 : List.range 1 = [0] := (rfl)
theorem range_2 : List.range 2 = [0, 1] := (rfl)
theorem range_3 : List.range 3 = [0, 1, 2] := (rfl)
theorem range_4 : List.range 4 = [0, 1, 2, 3] := (rfl)
theorem range_5 : List.range 5 = [0, 1, 2, 3, 4] := (rfl)
theorem range_6 : List.range 6 = [0, 1, 2, 3, 4, 5] := (rfl)
theorem range_7 : List.range 7 = [0, 1, 2, 3, 4, 5, 6] := (rfl)
theorem range_8 : List.range 8 = [0, 1, 2, 3, 4, 5, 6, 7] := (rfl)
theorem range_9 : List.range 9 = [0, 1, 2, 3, 4, 5, 6, 7, 8] := (rfl)
theorem range_10 : List.range 10 = [0, 1, 2, 3, 4, 5, 6, 7, 8, 9] := (rfl)
theorem range_11 : List.range 11 = [0, 1, 2, 3, 4, 5, 6, 7, 8, 9, 10] := (rfl)
theorem range_12 : List.range 12 = [0, 1, 2, 3, 4, 5, 6, 7, 8, 9, 10, 11] := (rfl)
theorem range_13 : List.range 13 = [0, 1, 2, 3, 4, 5, 6, 7, 8, 9, 10, 11, 12] := (rfl)
theorem range_14 : List.range 14 = [0, 1, 2, 3, 4, 5, 6, 7, 8, 9, 10, 11, 12, 13] := (rfl)
theorem range_15 : List.range 15 = [0, 1, 2, 3, 4, 5, 6, 7, 8, 9, 10, 11, 12, 13, 14] := (rfl)
theorem range_16 : List.range 16 = [0, 1, 2, 3, 4, 5, 6, 7, 8, 9, 10, 11, 12, 13, 14, 15] := (rfl)
theorem range_17 : List.range 17 = [0, 1, 2, 3, 4, 5, 6, 7, 8, 9, 10, 11, 12, 13, 14, 15, 16] := (rfl)
theorem range_18 : List.range 18 = [0, 1, 2, 3, 4, 5, 6, 7, 8, 9, 10, 11, 12, 13, 14, 15, 16, 17] := (rfl)
theorem range_19 : List.range 19 = [0, 1, 2, 3, 4, 5, 6, 7, 8, 9, 10, 11, 12, 13, 14, 15, 16, 17, 18] := (rfl)
theorem range_20 : List.range 20 = [0, 1, 2, 3, 4, 5, 6, 7, 8, 9, 10, 11, 12, 13, 14, 15, 16, 17, 18, 19] := (rfl)
theorem range_21 : List.range 21 = [0, 1, 2, 3, 4, 5, 6, 7, 8, 9, 10, 11, 12, 13, 14, 15, 16, 17, 18, 19, 20] := (rfl)
theorem range_22 : List.range 22 = [0, 1, 2, 3, 4, 5, 6, 7, 8, 9, 10, 11, 12, 13, 14, 15, 16, 17, 18, 19, 20, 21] := (rfl)
theorem range_23 : List.range 23 = [0, 1, 2, 3, 4, 5, 6, 7, 8, 9, 10, 11, 12, 13, 14, 15, 16, 17, 18, 19, 20, 21, 22] := (rfl)
theorem range_24 : List.range 24 = [0, 1, 2, 3, 4, 5, 6, 7, 8, 9, 10, 11, 12, 13, 14, 15, 16, 17, 18, 19, 20, 21, 22, 23] := (rfl)
theorem bits_u8 : IntKind.u8.bits = 8 := (rfl)
theorem wrap_u8 (x : Int) : IntKind.u8.wrap x = x % 256 := by
  have h : IntKind.u8.signed = false := rfl
  simp only [IntKind.wrap, h, Bool.false_and, Bool.false_eq_true, if_false, bits_u8]
  rfl
theorem bits_u16 : IntKind.u16.bits = 16 := (rfl)
theorem wrap_u16 (x : Int) : IntKind.u16.wrap x = x % 65536 := by
  have h : IntKind.u16.signed = false := rfl
  simp only [IntKind.wrap, h, Bool.false_and, Bool.false_eq_true, if_false, bits_u16]
  rfl
theorem bits_u32 : IntKind.u32.bits = 32 := (rfl)
theorem wrap_u32 (x : Int) : IntKind.u32.wrap x = x % 4294967296 := by
  have h : IntKind.u32.signed = false := rfl
  simp only [IntKind.wrap, h, Bool.false_and, Bool.false_eq_true, if_false, bits_u32]
  rfl
theorem bits_u64 : IntKind.u64.bits = 64 := (rfl)
theorem wrap_u64 (x : Int) : IntKind.u64.wrap x = x % 18446744073709551616 := by
  have h : IntKind.u64.signed = false := rfl
  simp only [IntKind.wrap, h, Bool.false_and, Bool.false_eq_true, if_false, bits_u64]
  rfl
theorem bits_i8 : IntKind.i8.bits = 8 := (rfl)
theorem wrap_i8 {x : Int} (h1 : -128 ≤ x) (h2 : x < 128) : IntKind.i8.wrap x = x := by
  have h : IntKind.i8.signed = true := rfl
  have e1 : (2 ^ 8 : Int) = 256 := rfl
  have e2 : (2 ^ (8 - 1) : Int) = 128 := rfl
  simp only [IntKind.wrap, h, Bool.true_and, bits_i8, e1, e2, decide_eq_true_eq]
  split <;> omega
theorem bits_i16 : IntKind.i16.bits = 16 := (rfl)
theorem wrap_i16 {x : Int} (h1 : -32768 ≤ x) (h2 : x < 32768) : IntKind.i16.wrap x = x := by
  have h : IntKind.i16.signed = true := rfl
  have e1 : (2 ^ 16 : Int) = 65536 := rfl
  have e2 : (2 ^ (16 - 1) : Int) = 32768 := rfl
  simp only [IntKind.wrap, h, Bool.true_and, bits_i16, e1, e2, decide_eq_true_eq]
  split <;> omega
theorem bits_i32 : IntKind.i32.bits = 32 := (rfl)
theorem wrap_i32 {x : Int} (h1 : -2147483648 ≤ x) (h2 : x < 2147483648) : IntKind.i32.wrap x = x := by
  have h : IntKind.i32.signed = true := rfl
  have e1 : (2 ^ 32 : Int) = 4294967296 := rfl
  have e2 : (2 ^ (32 - 1) : Int) = 2147483648 := rfl
  simp only [IntKind.wrap, h, Bool.true_and, bits_i32, e1, e2, decide_eq_true_eq]
  split <;> omega
theorem bits_i64 : IntKind.i64.bits = 64 := (rfl)
theorem wrap_i64 {x : Int} (h1 : -9223372036854775808 ≤ x) (h2 : x < 9223372036854775808) : IntKind.i64.wrap x = x := by
  have h : IntKind.i64.signed = true := rfl
  have e1 : (2 ^ 64 : Int) = 18446744073709551616 := rfl
  have e2 : (2 ^ (64 - 1) : Int) = 9223372036854775808 := rfl
  simp only [IntKind.wrap, h, Bool.true_and, bits_i64, e1, e2, decide_eq_true_eq]
  split <;> omega
theorem isObj_int (k : IntKind) (n : Int) : isObj [(D.int k n)] = false := (rfl)
theorem isObj_bool (b : Bool) : isObj [(D.bool b)] = false := (rfl)
theorem isObj_str (s : ByteArray) : isObj [(D.str s)] = false := (rfl)
theorem isObj_sl (t : Tk) (xs : List D) : isObj [(D.sl t xs)] = false := (rfl)
theorem isObj_so (b o l c : Nat) : isObj [(D.so b o l c)] = false := (rfl)
theorem isObj_agg (cs : List D) : isObj [(D.agg cs)] = false := (rfl)
theorem isObj_tup (cs : List D) : isObj [(D.tup cs)] = false := (rfl)
theorem isObj_pb (b o : Nat) : isObj [(D.pb b o)] = false := (rfl)
theorem isObj_pf (cs : List D) : isObj [(D.pf cs)] = false := (rfl)
theorem isObj_nilp  : isObj [D.nilp] = false := (rfl)
theorem isObj_clo (f : Fn) (x y : List D) : isObj [(D.clo f x y)] = false := (rfl)
theorem isObj_nilfunc  : isObj [D.nilfunc] = false := (rfl)
theorem isObj_iface (t : TypeId) (d : D) : isObj [(D.iface t d)] = false := (rfl)
theorem isObj_nilif  : isObj [D.nilif] = false := (rfl)
theorem isObj_nilmap  : isObj [D.nilmap] = false := (rfl)

theorem or_dec (p q : Prop) [Decidable p] [Decidable q] : (decide p || decide q) = decide (p ∨ q) := by simp
theorem and_dec (p q : Prop) [Decidable p] [Decidable q] : (decide p && decide q) = decide (p ∧ q) := by simp
theorem not_dec (p : Prop) [Decidable p] : (!decide p) = decide (¬ p) := by simp
theorem cond_tt (c q : Bool) : (bif c then true else q) = (c || q) := by cases c <;> rfl
theorem cond_ff (c q : Bool) : (bif c then q else false) = (c && q) := by cases c <;> rfl
theorem cond_tf (c q : Bool) : (bif c then false else q) = (!c && q) := by cases c <;> rfl
theorem cond_ft (c q : Bool) : (bif c then q else true) = (!c || q) := by cases c <;> rfl
theorem beq_f (b : Bool) : (b == false) = !b := by cases b <;> rfl
theorem beq_t (b : Bool) : (b == true) = b := by cases b <;> rfl
theorem imp_same (p : Prop) : (p → p) = True := by simp
theorem dec_f (p : Prop) [Decidable p] : (decide p = false) = ¬ p := by simp
theorem dec_t (p : Prop) [Decidable p] : (decide p = true) = p := by simp
theorem vun_not (b : Bool) : vun .not (.bool b) = (.bool (!b), True) := (rfl)
theorem vun_neg (k : IntKind) (i : Int) : vun .neg (.int k i) = (.int k (k.wrap (0 - i)), True) := (rfl)
theorem isObj_nil : isObj [] = false := (rfl)
theorem isObj_cons2 (a b : D) (l : List D) : isObj (a :: b :: l) = false := by
  cases a <;> rfl
theorem isObj_of {cs : List D} (h : ∀ d ∈ cs, d.one = true) : isObj cs = false := by
  cases cs with
  | nil => rfl
  | cons a l => cases l with
    | nil =>
      have := h a (by simp)
      cases a <;> first | rfl | simp [D.one] at this
    | cons b l => exact isObj_cons2 a b l
theorem set_at (β : Heap) (b c : Nat) (cs : List D) : (β.set b cs) c = if c = b then some cs else β c := (rfl)
theorem nil_at (b : Nat) : Heap.nil b = none := (rfl)
theorem tup_er (cs : List D) : (D.tup cs).er = .tup (cs.map fun | .agg ds => .agg (ds.map D.er1) | d => d.er1) := (rfl)
theorem all_nil (p : D → Prop) : (∀ d, d ∈ ([] : List D) → p d) = True := by simp
theorem all_cons (p : D → Prop) (x : D) (xs : List D) : (∀ d, d ∈ x :: xs → p d) = (p x ∧ ∀ d, d ∈ xs → p d) := by simp
theorem not_dec' (p : Prop) [Decidable p] : (!decide p) = decide (¬ p) := by simp
theorem bl_lt : ∀ (x y : List UInt8), Op.bytesLess x y = decide (x < y)
  | [], [] => by simp [Op.bytesLess]
  | _ :: _, [] => by simp [Op.bytesLess]
  | [], _ :: _ => by simp [Op.bytesLess]
  | a :: x, b :: y => by
    rw [Op.bytesLess, bl_lt x y]
    simp only [List.cons_lt_cons_iff]
    by_cases h1 : a < b <;> by_cases h2 : a = b <;> by_cases h3 : x < y <;> simp [h1, h2, h3]
theorem bl_le (x y : List UInt8) : (Op.bytesLess x y || x == y) = decide (¬ y < x) := by
  rw [bl_lt]
  rw [Bool.eq_iff_iff]
  simp only [Bool.or_eq_true, decide_eq_true_eq, beq_iff_eq]
  constructor
  · rintro (h | rfl) h'
    · exact absurd (List.lt_trans h h') (List.lt_irrefl _)
    · exact List.lt_irrefl _ h'
  · intro h
    by_cases e : x = y
    · exact .inr e
    · exact .inl (Decidable.byContradiction fun q => e (List.le_antisymm (show x ≤ y from h) (show y ≤ x from q)))
theorem str_eq (x y : ByteArray) : (x.toList == y.toList) = decide (x = y) := by
  rw [ByteArray.toList_eq, ByteArray.toList_eq, Bool.eq_iff_iff]
  simp only [beq_iff_eq, decide_eq_true_eq]
  exact ⟨fun h => WideShapes.bytes_inj h, fun h => by rw [h]⟩
theorem vs_eql (x y : ByteArray) : vstr .eql x y = (.bool (decide (x = y)), True) := by simp only [vstr, str_eq]
theorem vs_neq (x y : ByteArray) : vstr .neq x y = (.bool (decide (¬ x = y)), True) := by simp [vstr, str_eq]
theorem vs_lss (x y : ByteArray) : vstr .lss x y = (.bool (decide (x.data.toList < y.data.toList)), True) := by simp only [vstr, ByteArray.toList_eq, bl_lt]
theorem vs_leq (x y : ByteArray) : vstr .leq x y = (.bool (decide (¬ y.data.toList < x.data.toList)), True) := by simp only [vstr, ByteArray.toList_eq, bl_le]
theorem vs_gtr (x y : ByteArray) : vstr .gtr x y = (.bool (decide (y.data.toList < x.data.toList)), True) := by simp only [vstr, ByteArray.toList_eq, bl_le, not_dec', Decidable.not_not]
theorem vs_geq (x y : ByteArray) : vstr .geq x y = (.bool (decide (¬ x.data.toList < y.data.toList)), True) := by simp only [vstr, ByteArray.toList_eq, bl_lt, not_dec']
theorem vs_add (x y : ByteArray) : vstr .add x y = (.str (x ++ y), x.size + y.size ≤ mostLen) := by simp only [vstr]
theorem sel_true (x y : D) : selD true x y = x := selD_true x y
theorem sel_false (x y : D) : selD false x y = y := selD_false x y
theorem sel_bool (t p q : Bool) : selD t (.bool p) (.bool q) = .bool (bif t then p else q) := (rfl)
theorem sel_int (t : Bool) (k : IntKind) (a b : Int) : selD t (.int k a) (.int k b) = .int k (if t then a else b) := by cases t <;> rfl
theorem const_strl (l : List UInt8) (h : l.length ≤ 281474976710656) : ofConst (.string ⟨l.toArray⟩) = .str ⟨l.toArray⟩ := const_str _ h
theorem const1_strl (l : List UInt8) (h : l.length ≤ 281474976710656) : const1 (.string ⟨l.toArray⟩) = .str ⟨l.toArray⟩ := const1_str _ h
theorem fdiv_pow (p : Int) (n : Nat) : p.fdiv (2 ^ n) = p / 2 ^ n := Int.fdiv_eq_ediv_of_nonneg p (Int.le_of_lt (Int.pow_pos (by decide)))
/-- Bitwise operations and shifts, by name. -/
def bop (op : BinOp) (k : IntKind) (x y : Int) : Int :=
  match op with
  | .and => k.wrap ((BitVec.ofInt k.bits x &&& BitVec.ofInt k.bits y).toNat : Int)
  | .or => k.wrap ((BitVec.ofInt k.bits x ||| BitVec.ofInt k.bits y).toNat : Int)
  | .xor => k.wrap ((BitVec.ofInt k.bits x ^^^ BitVec.ofInt k.bits y).toNat : Int)
  | _ => k.wrap ((BitVec.ofInt k.bits x &&& ~~~ BitVec.ofInt k.bits y).toNat : Int)
def shb (k : IntKind) (q : Int) : Nat := min q.toNat k.bits

section
variable {t : TypeId} {l : Bool} {k k' : IntKind} {p q : Int}
theorem vb_add : vbin P .add t l (.int k p) (.int k' q) = (.int k (k.wrap (p + q)), k = k') := by simp only [vbin, vint, and_true]
theorem vb_sub : vbin P .sub t l (.int k p) (.int k' q) = (.int k (k.wrap (p - q)), k = k') := by simp only [vbin, vint, and_true]
theorem vb_mul : vbin P .mul t l (.int k p) (.int k' q) = (.int k (k.wrap (p * q)), k = k') := by simp only [vbin, vint, and_true]
theorem vb_quo : vbin P .quo t l (.int k p) (.int k' q) = (.int k (k.wrap (p.tdiv q)), k = k' ∧ q ≠ 0) := by simp only [vbin, vint]
theorem vb_rem : vbin P .rem t l (.int k p) (.int k' q) = (.int k (p.tmod q), k = k' ∧ q ≠ 0) := by simp only [vbin, vint]
theorem vb_and : vbin P .and t l (.int k p) (.int k' q) = (.int k (bop .and k p q), k = k') := by simp only [vbin, vint, and_true, bop]
theorem vb_or : vbin P .or t l (.int k p) (.int k' q) = (.int k (bop .or k p q), k = k') := by simp only [vbin, vint, and_true, bop]
theorem vb_xor : vbin P .xor t l (.int k p) (.int k' q) = (.int k (bop .xor k p q), k = k') := by simp only [vbin, vint, and_true, bop]
theorem vb_andNot : vbin P .andNot t l (.int k p) (.int k' q) = (.int k (bop .andNot k p q), k = k') := by simp only [vbin, vint, and_true, bop]
theorem vb_eql : vbin P .eql t l (.int k p) (.int k' q) = (.bool (decide (p = q)), k = k') := by
  have : (p == q) = decide (p = q) := by by_cases h : p = q <;> simp [h]
  simp only [vbin, vint, and_true, this]
theorem vb_neq : vbin P .neq t l (.int k p) (.int k' q) = (.bool (decide (p ≠ q)), k = k') := by
  have : (p != q) = decide (p ≠ q) := by by_cases h : p = q <;> simp [h]
  simp only [vbin, vint, and_true, this]
theorem vb_lss : vbin P .lss t l (.int k p) (.int k' q) = (.bool (decide (p < q)), k = k') := by simp only [vbin, vint, and_true]
theorem vb_leq : vbin P .leq t l (.int k p) (.int k' q) = (.bool (decide (p ≤ q)), k = k') := by simp only [vbin, vint, and_true]
theorem vb_gtr : vbin P .gtr t l (.int k p) (.int k' q) = (.bool (decide (q < p)), k = k') := by simp only [vbin, vint, and_true, gt_iff_lt, ge_iff_le]
theorem vb_geq : vbin P .geq t l (.int k p) (.int k' q) = (.bool (decide (q ≤ p)), k = k') := by simp only [vbin, vint, and_true, gt_iff_lt, ge_iff_le]
theorem vb_shl : vbin P .shl t l (.int k p) (.int k' q) = (.int k (k.wrap (p * 2 ^ shb k q)), 0 ≤ q) := by simp only [vbin, shb]
theorem vb_shr : vbin P .shr t l (.int k p) (.int k' q) = (.int k (p / 2 ^ shb k q), 0 ≤ q) := by simp only [vbin, shb, fdiv_pow]
theorem vb_str (op : BinOp) (x y : ByteArray) : vbin P op t l (.str x) (.str y) = vstr op x y := by simp only [vbin]
theorem vb_agg (op : BinOp) (x y : List D) : vbin P op t l (.agg x) (.agg y) = veqop op ((eqv P 6 t (.agg x) (.agg y)).1, (eqv P 6 t (.agg x) (.agg y)).2 ∧ P.eqGuardType P.depth t = false) := by simp only [vbin, veq]
theorem vb_bool (op : BinOp) (a b : Bool) : vbin P op t l (.bool a) (.bool b) = veqop op (a == b, P.underlying t = some .bool) := by simp only [vbin, veq]
theorem vb_nn (op : BinOp) : vbin P op t l .nilp .nilp = veqop op (true, ∃ e, P.underlying t = some (.pointer e)) := by simp only [vbin, veq]
theorem vb_bn (op : BinOp) (b o : Nat) : vbin P op t l (.pb b o) .nilp = veqop op (false, ∃ e, P.underlying t = some (.pointer e)) := by simp only [vbin, veq]
theorem vb_fn (op : BinOp) (cs : List D) : vbin P op t l (.pf cs) .nilp = veqop op (false, ∃ e, P.underlying t = some (.pointer e)) := by simp only [vbin, veq]
theorem vb_ii (op : BinOp) : vbin P op t l .nilif .nilif = veqop op (true, l = true ∧ ∃ ms, P.underlying t = some (.interface ms)) := by simp only [vbin, veq]
theorem vb_in (op : BinOp) (t1 : TypeId) (d : D) : vbin P op t l (.iface t1 d) .nilif = veqop op (false, ∃ ms, P.underlying t = some (.interface ms)) := by simp only [vbin, veq]
theorem vb_cn (op : BinOp) (f : Fn) (x y : List D) : vbin P op t l (.clo f x y) .nilfunc = veqop op (false, ∃ p r v, P.underlying t = some (.func p r v)) := by simp only [vbin, veq]
theorem vb_nc (op : BinOp) : vbin P op t l .nilfunc .nilfunc = veqop op (true, ∃ p r v, P.underlying t = some (.func p r v)) := by simp only [vbin, veq]
end

theorem vlit_eq {t : TypeId} {n m y : Nat} {parts : List (Nat × D)} (h : elt P t = some (m, y)) : vlit P t n parts = (.sl .full ((parts.map (·.2)).map D.er), parts.map (·.1) = List.range n ∧ (∀ d ∈ parts.map (·.2), d.cells.length = m ∧ d.solid = true) ∧ n * m ≤ 16777216 ∧ 0 < m) := by
  simp only [vlit, h]

/-- A whole number's value, of a slot. -/
def ival : D → Int
  | .int _ n => n
  | _ => 0
theorem ival_int (k : IntKind) (n : Int) : ival (.int k n) = n := (rfl)

theorem mem_self (t : Nat) (l : List Nat) : (t ∈ t :: l) = True := by simp
theorem ne_cons (t : Nat) (l : List Nat) : ((t :: l).filter (· ≠ t)) = l.filter (· ≠ t) := by simp
theorem mem_one (t u : Nat) : (t ∈ [u]) = (t = u) := by simp
theorem mem_none (t : Nat) : (t ∈ ([] : List Nat)) = False := by simp
theorem gone_self (t m : Nat) : tokGone [t] (.live t m) = [] := by simp [tokGone]
theorem gone_full (ω : List Nat) : tokGone ω .full = ω := (rfl)
theorem tokOk_full (m : Nat) (ω : List Nat) : tokOk m ω .full = True := (rfl)
theorem tokOk_live (m : Nat) (ω : List Nat) (t m' : Nat) : tokOk m ω (.live t m') = (t ∈ ω ∧ m' = m) := (rfl)

end Go.Proofs.YtgkfcgfobckaaaaV
