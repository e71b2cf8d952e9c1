
import Derived.Test.YtgkfcgfobckaaaaCA
set_option linter.unusedVariables false
set_option linter.unusedSimpArgs false
namespace Go.Proofs.YtgkfcgfobckaaaaS
open Go Go.Proofs.YtgkfcgfobckaaaaV

variable {G : Heap}

def mb (x : Int × Bool) : D := .agg [.int .i64 x.1, .bool x.2]
def bitsF (o : Int) (x : Int × Bool) : Int := if x.2 then bop .or .i64 o x.1 else o
theorem bits_ok (tk : Tk) (l : List (Int × Bool)) (h : l.length ≤ 3) : VN P G 78 [.sl tk (l.map mb)] (.int .i64 (l.foldl bitsF 0)) := by
  refine VC.ofs (fun | 99999999 => [(0, [0, 2, 3, 5, 6, 7, 8, 9, 13])] | _ => []) [2] mixed Try.func78 rfl rfl rfl rfl (by decide +kernel) (by simp) ?_
  simp only [go_sem, reduceIte, Nat.reduceEqDiff, Nat.reduceAdd, Nat.reduceSub, Nat.reduceMul, Nat.reduceLT, Nat.reduceLeDiff, Nat.reducePow, Int.reduceToNat, Int.reduceLT, Int.reduceLE, Int.reduceEq, Int.reduceNe, Int.reduceAdd, Int.reduceSub, Int.reduceMul, Int.reduceNeg]
  refine vwq_loop (fun u => ∃ (j : Nat) (tk : Tk) (o : Int), j ≤ l.length ∧ (l.drop j).foldl bitsF o = l.foldl bitsF 0 ∧ u.σ 6 = .sl tk (l.map mb) ∧ u.σ 3 = .int .i64 o ∧ u.σ 7 = .int .i64 l.length ∧ u.σ 8 = .int .i64 j ∧ u.ω = []) (fun u => l.length - (ival (u.σ 8)).toNat) ?_ ?_
  · exact ⟨0, _, 0, by omega, rfl, rfl, rfl, by rw [← List.length_map (f := mb)]; rfl, rfl, rfl⟩
  rintro σ β ω ⟨j, tk, o, hj, ho, q6, q3, q7, q8, rfl⟩
  dsimp only at q6 q3 q7 q8
  simp only [go_sem, reduceIte, Nat.reduceEqDiff, Nat.reduceAdd, Nat.reduceSub, Nat.reduceMul, Nat.reduceLT, Nat.reduceLeDiff, Nat.reducePow, Int.reduceToNat, Int.reduceLT, Int.reduceLE, Int.reduceEq, Int.reduceNe, Int.reduceAdd, Int.reduceSub, Int.reduceMul, Int.reduceNeg, q6, q3, q7, q8]
  refine cd_dec (fun g => ?_) (fun g => ?_)
  · have g' : (j : Int) < ((l.map mb).length : Nat) := by rw [List.length_map]; exact g
    obtain ⟨x, hx, ex⟩ := at_map (f := mb) (l := l) (j := j) (by omega)
    simp only [mb] at ex
    have hd : l.drop j = x :: l.drop (j + 1) := by
      obtain ⟨h1, h2⟩ := List.getElem?_eq_some_iff.1 hx
      rw [List.drop_eq_getElem_cons h1, h2]
    rw [hd, List.foldl_cons] at ho
    obtain ⟨x1, x2⟩ := x
    cases x2
    all_goals simp only [go_sem, reduceIte, Nat.reduceEqDiff, Nat.reduceAdd, Nat.reduceSub, Nat.reduceMul, Nat.reduceLT, Nat.reduceLeDiff, Nat.reducePow, Int.reduceToNat, Int.reduceLT, Int.reduceLE, Int.reduceEq, Int.reduceNe, Int.reduceAdd, Int.reduceSub, Int.reduceMul, Int.reduceNeg, q6, q3, q7, q8, ex]
    all_goals refine ⟨by omega, new_any fun b hb => ?_⟩
    all_goals rw [wrap_i64 (x := (j : Int) + 1) (by omega) (by omega)]
    all_goals exact ⟨rfl, ⟨j + 1, tk, _, by omega, ho, by simp [bitsF]⟩, by omega⟩
  · simp only [go_sem, reduceIte, Nat.reduceEqDiff, Nat.reduceAdd, Nat.reduceSub, Nat.reduceMul, Nat.reduceLT, Nat.reduceLeDiff, Nat.reducePow, Int.reduceToNat, Int.reduceLT, Int.reduceLE, Int.reduceEq, Int.reduceNe, Int.reduceAdd, Int.reduceSub, Int.reduceMul, Int.reduceNeg, q6, q3, q7, q8]
    rw [List.drop_eq_nil_of_le (by omega)] at ho
    exact finK_drop ⟨by rw [← ho]; rfl, rfl, rfl⟩
/-- Which truth values are possible. -/
structure Tr where
  y : Bool
  n : Bool
  u : Bool
  deriving DecidableEq
def Tr.code (t : Tr) : Int := (if t.n then 1 else 0) + (if t.y then 2 else 0) + (if t.u then 4 else 0)
theorem bits2 (y n : Bool) : [((2 : Int), y), (1, n)].foldl bitsF 0 = (Tr.mk y n false).code := by cases y <;> cases n <;> decide
theorem bits1 (u : Bool) : [((4 : Int), u)].foldl bitsF 0 = (Tr.mk false false u).code := by cases u <;> decide
theorem bits3 (y n u : Bool) : [((2 : Int), y), (1, n), (4, u)].foldl bitsF 0 = (Tr.mk y n u).code := by cases y <;> cases n <;> cases u <;> decide
theorem code_or (a b : Tr) : bop .or .i64 a.code b.code = (Tr.mk (a.y || b.y) (a.n || b.n) (a.u || b.u)).code := by
  obtain ⟨a1, a2, a3⟩ := a; obtain ⟨b1, b2, b3⟩ := b
  cases a1 <;> cases a2 <;> cases a3 <;> cases b1 <;> cases b2 <;> cases b3 <;> decide
theorem bits2_ok (tk : Tk) (y n : Bool) : VN P G 78 [.sl tk [.agg [.int .i64 2, .bool y], .agg [.int .i64 1, .bool n]]] (.int .i64 (Tr.mk y n false).code) := by
  rw [← bits2]; exact bits_ok tk [(2, y), (1, n)] (by simp)
theorem bits1_ok (tk : Tk) (u : Bool) : VN P G 78 [.sl tk [.agg [.int .i64 4, .bool u]]] (.int .i64 (Tr.mk false false u).code) := by
  rw [← bits1]; exact bits_ok tk [(4, u)] (by simp)
theorem bits3_ok (tk : Tk) (y n u : Bool) : VN P G 78 [.sl tk [.agg [.int .i64 2, .bool y], .agg [.int .i64 1, .bool n], .agg [.int .i64 4, .bool u]]] (.int .i64 (Tr.mk y n u).code) := by
  rw [← bits3]; exact bits_ok tk [(2, y), (1, n), (4, u)] (by simp)

def fieldC (b : Bd) (p : Pr) : List D := [.int .i64 b.id, .int .i64 b.nulls, .bool b.min.null, .int .i64 b.min.n, .str b.min.s, .bool b.max.null, .int .i64 b.max.n, .str b.max.s, .int .i64 p.op, .int .i64 p.id, .int .i64 p.lo, .int .i64 p.hi, .sl .none (p.set.map Vl.d), .str p.text, .sl .none (p.kids.map Pr.d)]
/-- The range against the bounds. -/
def btw (b : Bd) (p : Pr) : Tr := ⟨decide ((p.lo ≤ p.hi ∧ p.lo ≤ b.max.n) ∧ b.min.n ≤ p.hi), decide (b.min.n < p.lo ∨ p.hi < b.max.n), false⟩
theorem between_ok (b : Bd) (p : Pr) : VN P G 77 [.agg (fieldC b p)] (.int .i64 (btw b p).code) := by
  simp only [fieldC]
  refine VC.ofs (fun | 1 => [(0, []), (1, []), (2, []), (3, []), (4, []), (5, []), (6, []), (7, [])] | 99999999 => [(0, [0, 1, 2, 3, 4])] | _ => []) [2] mixed Try.func77 rfl rfl rfl rfl (by decide +kernel) (by simp) ?_
  simp only [go_sem, reduceIte, Nat.reduceEqDiff, Nat.reduceAdd, Nat.reduceSub, Nat.reduceMul, Nat.reduceLT, Nat.reduceLeDiff, Nat.reducePow, Int.reduceToNat, Int.reduceLT, Int.reduceLE, Int.reduceEq, Int.reduceNe, Int.reduceAdd, Int.reduceSub, Int.reduceMul, Int.reduceNeg]
  intro b0
  refine ⟨⟨rfl, rfl⟩, cK_vn (bits2_ok _ _ _) ?_⟩
  simp only [go_sem, reduceIte, Nat.reduceEqDiff, Nat.reduceAdd, Nat.reduceSub, Nat.reduceMul, Nat.reduceLT, Nat.reduceLeDiff, Nat.reducePow, Int.reduceToNat, Int.reduceLT, Int.reduceLE, Int.reduceEq, Int.reduceNe, Int.reduceAdd, Int.reduceSub, Int.reduceMul, Int.reduceNeg]
  exact finK_drop ⟨rfl, rfl, rfl⟩
theorem refbetween_ok (b : Bd) (p : Pr) : VN P G 82 [.agg p.cells, .agg b.cells] (.agg [.bool (btw b p).y, .bool (btw b p).n, .bool false]) := by
  simp only [Pr.cells, Bd.cells]
  refine VC.ofc (fun | 99999999 => [(0, [0, 1, 2, 3, 4, 5])] | _ => []) [.cell 4 88] mixed Try.func82 rfl rfl rfl rfl (by decide +kernel) (by simp) ?_
  simp only [go_sem, reduceIte, Nat.reduceEqDiff, Nat.reduceAdd, Nat.reduceSub, Nat.reduceMul, Nat.reduceLT, Nat.reduceLeDiff, Nat.reducePow, Int.reduceToNat, Int.reduceLT, Int.reduceLE, Int.reduceEq, Int.reduceNe, Int.reduceAdd, Int.reduceSub, Int.reduceMul, Int.reduceNeg]
  intro b0
  refine new_1 fun b1 h1 h2 => ?_
  refine new_2 fun b2 h3 h4 h5 => ?_
  simp only [go_sem, reduceIte, Nat.reduceEqDiff, Nat.reduceAdd, Nat.reduceSub, Nat.reduceMul, Nat.reduceLT, Nat.reduceLeDiff, Nat.reducePow, Int.reduceToNat, Int.reduceLT, Int.reduceLE, Int.reduceEq, Int.reduceNe, Int.reduceAdd, Int.reduceSub, Int.reduceMul, Int.reduceNeg, h1, h2, h3, h4, h5]
  exact ⟨rfl, finK_drop ⟨rfl, rfl, rfl⟩⟩
def inside (bd : Bd) (v : Vl) : Bool := !v.null && decide (cmpV bd.min v ≤ 0) && decide (cmpV v bd.max ≤ 0)
theorem in1_ok (bd : Bd) (p : Pr) (v : Vl) (b : Nat) : VQ P G 93 ([] ++ [.agg v.cells] ++ [.pb b 0]) b (fieldC bd p) (.bool (inside bd v)) := by
  obtain ⟨vn, vi, vs⟩ := v
  simp only [Vl.cells, List.nil_append, List.cons_append, fieldC]
  refine VC.ofs (fun | 99999999 => [(0, [0, 1, 2, 3])] | _ => []) [3] mixed Try.func93 rfl rfl rfl rfl (by decide +kernel) (by simp) ?_
  cases vn
  all_goals simp only [go_sem, reduceIte, Nat.reduceEqDiff, Nat.reduceAdd, Nat.reduceSub, Nat.reduceMul, Nat.reduceLT, Nat.reduceLeDiff, Nat.reducePow, Int.reduceToNat, Int.reduceLT, Int.reduceLE, Int.reduceEq, Int.reduceNe, Int.reduceAdd, Int.reduceSub, Int.reduceMul, Int.reduceNeg]
  all_goals refine new_1 fun b0 h1 h2 => ?_
  · simp only [go_sem, reduceIte, Nat.reduceEqDiff, Nat.reduceAdd, Nat.reduceSub, Nat.reduceMul, Nat.reduceLT, Nat.reduceLeDiff, Nat.reducePow, Int.reduceToNat, Int.reduceLT, Int.reduceLE, Int.reduceEq, Int.reduceNe, Int.reduceAdd, Int.reduceSub, Int.reduceMul, Int.reduceNeg, h1, h2]
    refine cK_vn (Compare_ok bd.min ⟨false, vi, vs⟩) ?_
    by_cases g : cmpV bd.min ⟨false, vi, vs⟩ ≤ 0
    · simp only [go_sem, reduceIte, Nat.reduceEqDiff, Nat.reduceAdd, Nat.reduceSub, Nat.reduceMul, Nat.reduceLT, Nat.reduceLeDiff, Nat.reducePow, Int.reduceToNat, Int.reduceLT, Int.reduceLE, Int.reduceEq, Int.reduceNe, Int.reduceAdd, Int.reduceSub, Int.reduceMul, Int.reduceNeg, h1, h2, g]
      refine cK_vn (Compare_ok ⟨false, vi, vs⟩ bd.max) ?_
      simp only [go_sem, reduceIte, Nat.reduceEqDiff, Nat.reduceAdd, Nat.reduceSub, Nat.reduceMul, Nat.reduceLT, Nat.reduceLeDiff, Nat.reducePow, Int.reduceToNat, Int.reduceLT, Int.reduceLE, Int.reduceEq, Int.reduceNe, Int.reduceAdd, Int.reduceSub, Int.reduceMul, Int.reduceNeg, h1, h2, g]
      exact finK_var (by simp [Heap.set, h1, h2]) ⟨by simp [inside, g]; rfl, rfl, rfl⟩
    · simp only [go_sem, reduceIte, Nat.reduceEqDiff, Nat.reduceAdd, Nat.reduceSub, Nat.reduceMul, Nat.reduceLT, Nat.reduceLeDiff, Nat.reducePow, Int.reduceToNat, Int.reduceLT, Int.reduceLE, Int.reduceEq, Int.reduceNe, Int.reduceAdd, Int.reduceSub, Int.reduceMul, Int.reduceNeg, h1, h2, g]
      exact finK_var (by simp [Heap.set, h1, h2]) ⟨by simp [inside, g]; rfl, rfl, rfl⟩
  · exact finK_var (by simp [Heap.set, h1, h2]) ⟨by simp [inside]; rfl, rfl, rfl⟩
theorem ContainsFunc_ok (tk : Tk) (l : List Vl) (q : Vl → Bool) {f : FuncId} {fs cs : List D} (b : Nat) (X : List D) (hq : ∀ x ∈ l, VQ P G f (fs ++ [.agg x.cells] ++ cs) b X (.bool (q x))) :
    VQ P G 105 [.sl .none (l.map Vl.d), .clo (.func f) fs cs] b X (.int .i64 (idx q l)) := by
  refine VC.small2 fun hsm => ?_
  have z1 := hsm (.sl .none (l.map Vl.d)) (List.mem_cons_self ..) (.sl .none (l.map Vl.d)) (by simp [D.cells])
  simp only [Small, mostLen, List.length_map] at z1
  clear hsm
  refine VC.ofs (fun | 99999999 => [(0, [0, 1, 4, 5, 7, 8, 9, 16])] | _ => []) [4] mixed Try.func105 rfl rfl rfl rfl (by decide +kernel) (by simp) ?_
  simp only [go_sem, reduceIte, Nat.reduceEqDiff, Nat.reduceAdd, Nat.reduceSub, Nat.reduceMul, Nat.reduceLT, Nat.reduceLeDiff, Nat.reducePow, Int.reduceToNat, Int.reduceLT, Int.reduceLE, Int.reduceEq, Int.reduceNe, Int.reduceAdd, Int.reduceSub, Int.reduceMul, Int.reduceNeg]
  refine vwq_loop (fun u => ∃ (j : Nat), j ≤ l.length ∧ j ≤ l.findIdx q ∧ u.σ 0 = .sl .none (l.map Vl.d) ∧ u.σ 1 = .clo (.func f) fs cs ∧ u.σ 7 = .int .i64 l.length ∧ u.σ 8 = .int .i64 j ∧ u.β = Heap.nil.set b X ∧ u.ω = []) (fun u => l.length - (ival (u.σ 8)).toNat) ⟨0, by omega, by omega, rfl, rfl, by rw [← List.length_map (f := Vl.d)]; rfl, rfl, rfl, rfl⟩ ?_
  rintro σ β ω ⟨j, j1, j2, q0, q1, q7, q8, rfl, rfl⟩
  dsimp only at q0 q1 q7 q8
  simp only [go_sem, reduceIte, Nat.reduceEqDiff, Nat.reduceAdd, Nat.reduceSub, Nat.reduceMul, Nat.reduceLT, Nat.reduceLeDiff, Nat.reducePow, Int.reduceToNat, Int.reduceLT, Int.reduceLE, Int.reduceEq, Int.reduceNe, Int.reduceAdd, Int.reduceSub, Int.reduceMul, Int.reduceNeg, q0, q1, q7, q8]
  refine cd_dec (fun g => ?_) (fun g => ?_)
  · have g' : (j : Int) < ((l.map Vl.d).length : Nat) := by rw [List.length_map]; exact g
    obtain ⟨x, hx, ex⟩ := Vl_at g'
    simp only [go_sem, reduceIte, Nat.reduceEqDiff, Nat.reduceAdd, Nat.reduceSub, Nat.reduceMul, Nat.reduceLT, Nat.reduceLeDiff, Nat.reducePow, Int.reduceToNat, Int.reduceLT, Int.reduceLE, Int.reduceEq, Int.reduceNe, Int.reduceAdd, Int.reduceSub, Int.reduceMul, Int.reduceNeg, q0, q1, q7, q8, ex]
    refine ⟨by omega, cK_vq (hq x (List.mem_of_getElem? hx)) (by simp [Heap.set]) ?_⟩
    cases hqx : q x
    · simp only [go_sem, reduceIte, Nat.reduceEqDiff, Nat.reduceAdd, Nat.reduceSub, Nat.reduceMul, Nat.reduceLT, Nat.reduceLeDiff, Nat.reducePow, Int.reduceToNat, Int.reduceLT, Int.reduceLE, Int.reduceEq, Int.reduceNe, Int.reduceAdd, Int.reduceSub, Int.reduceMul, Int.reduceNeg, q0, q1, q7, q8, ex]
      rw [wrap_i64 (x := (j : Int) + 1) (by omega) (by omega)]
      have := idx_miss hx j2 hqx
      exact ⟨⟨j + 1, by omega, by omega, rfl⟩, by omega⟩
    · simp only [go_sem, reduceIte, Nat.reduceEqDiff, Nat.reduceAdd, Nat.reduceSub, Nat.reduceMul, Nat.reduceLT, Nat.reduceLeDiff, Nat.reducePow, Int.reduceToNat, Int.reduceLT, Int.reduceLE, Int.reduceEq, Int.reduceNe, Int.reduceAdd, Int.reduceSub, Int.reduceMul, Int.reduceNeg, q0, q1, q7, q8, ex]
      have e : idx q l = j := by
        have := idx_hit hx j2 hqx
        unfold idx
        rw [if_pos (by omega), this]
      refine finK_var (by simp [Heap.set]) ⟨by rw [e]; rfl, rfl, rfl⟩
  · simp only [go_sem, reduceIte, Nat.reduceEqDiff, Nat.reduceAdd, Nat.reduceSub, Nat.reduceMul, Nat.reduceLT, Nat.reduceLeDiff, Nat.reducePow, Int.reduceToNat, Int.reduceLT, Int.reduceLE, Int.reduceEq, Int.reduceNe, Int.reduceAdd, Int.reduceSub, Int.reduceMul, Int.reduceNeg, q0, q1, q7, q8]
    have e : idx q l = -1 := by
      unfold idx
      rw [if_neg]
      omega
    refine finK_var (by simp [Heap.set]) ⟨by rw [e]; rfl, rfl, rfl⟩
theorem idx_any {α : Type} (q : α → Bool) (l : List α) : decide (0 ≤ idx q l) = l.any q := by
  rcases idx_find q l with ⟨h1, h2⟩ | ⟨j, x, h1, h2, h3, h4⟩
  · rw [decide_eq_false (by omega)]
    symm
    rw [List.any_eq_false]
    exact fun x hx => by simpa using List.find?_eq_none.1 h2 x hx
  · rw [decide_eq_true (by omega)]
    symm
    rw [List.any_eq_true]
    exact ⟨x, List.mem_of_find?_eq_some h4, List.find?_some h4⟩
theorem ContainsF_ok (l : List Vl) (q : Vl → Bool) {f : FuncId} {fs cs : List D} (b : Nat) (X : List D) (hq : ∀ x ∈ l, VQ P G f (fs ++ [.agg x.cells] ++ cs) b X (.bool (q x))) :
    VQ P G 96 [.sl .none (l.map Vl.d), .clo (.func f) fs cs] b X (.bool (l.any q)) := by
  refine VC.ofs (fun | 99999999 => [(0, [0, 1, 4])] | _ => []) [4] mixed Try.func96 rfl rfl rfl rfl (by decide +kernel) (by simp) ?_
  simp only [go_sem, reduceIte, Nat.reduceEqDiff, Nat.reduceAdd, Nat.reduceSub, Nat.reduceMul, Nat.reduceLT, Nat.reduceLeDiff, Nat.reducePow, Int.reduceToNat, Int.reduceLT, Int.reduceLE, Int.reduceEq, Int.reduceNe, Int.reduceAdd, Int.reduceSub, Int.reduceMul, Int.reduceNeg]
  refine cK_vq (fs := []) (cs := []) (ContainsFunc_ok .none l q b X hq) (by simp [Heap.set]) ?_
  simp only [go_sem, reduceIte, Nat.reduceEqDiff, Nat.reduceAdd, Nat.reduceSub, Nat.reduceMul, Nat.reduceLT, Nat.reduceLeDiff, Nat.reducePow, Int.reduceToNat, Int.reduceLT, Int.reduceLE, Int.reduceEq, Int.reduceNe, Int.reduceAdd, Int.reduceSub, Int.reduceMul, Int.reduceNeg]
  exact finK_var (by simp [Heap.set]) ⟨by rw [idx_any]; rfl, rfl, rfl⟩
end Go.Proofs.YtgkfcgfobckaaaaS
namespace Go.Proofs.YtgkfcgfobckaaaaS
open Go Go.Proofs.YtgkfcgfobckaaaaV

variable {G : Heap}

theorem guard77 : P.eqGuardType P.depth 77 = false := by decide +kernel
theorem stood77 : P.stoodInHeld 77 = false := by decide +kernel
theorem eqv77 (a a' : Bool) (b b' : Int) (s s' : ByteArray) : eqv P 6 77 (.agg [.bool a, .int .i64 b, .str s]) (.agg [.bool a', .int .i64 b', .str s']) = (decide (a = a' ∧ b = b' ∧ s = s'), True) := by
  simp only [eqv, eqF, Try.underlying77, Try.underlying4, Try.underlying2, Try.underlying9, stood77]
  simp only [go_sem, reduceIte, Nat.reduceEqDiff, Nat.reduceAdd, Nat.reduceSub, Nat.reduceMul, Nat.reduceLT, Nat.reduceLeDiff, Nat.reducePow, Int.reduceToNat, Int.reduceLT, Int.reduceLE, Int.reduceEq, Int.reduceNe, Int.reduceAdd, Int.reduceSub, Int.reduceMul, Int.reduceNeg]
  simp only [eqv, Try.underlying4, Try.underlying2, Try.underlying9]
  refine Prod.ext ?_ (by simp)
  dsimp only
  rw [Bool.eq_iff_iff]
  simp only [Bool.and_eq_true, beq_iff_eq, decide_eq_true_eq]
  have : (s == s') = true ↔ s = s' := by
    show (s.data == s'.data) = true ↔ _
    simp [ByteArray.ext_iff]
  rw [this]
attribute [go_sem] eqv77 guard77
theorem vl_eq (a b : Vl) : (a.null = b.null ∧ a.n = b.n ∧ a.s = b.s) = (a = b) := by
  obtain ⟨a1, a2, a3⟩ := a; obtain ⟨b1, b2, b3⟩ := b
  simp
theorem Index_ok (l : List Vl) (v : Vl) : VN P G 104 [.sl .none (l.map Vl.d), .agg v.cells] (.int .i64 (idx (fun x => decide (v = x)) l)) := by
  simp only [Vl.cells]
  refine VC.small2 fun hsm => ?_
  have z1 := hsm (.sl .none (l.map Vl.d)) (List.mem_cons_self ..) (.sl .none (l.map Vl.d)) (by simp [D.cells])
  simp only [Small, mostLen, List.length_map] at z1
  clear hsm
  refine VC.ofs (fun | 4 => [(0, []), (1, []), (2, []), (3, []), (4, []), (5, [])] | 99999999 => [(0, [0, 1, 3, 4, 5, 7, 8, 9, 16])] | _ => []) [4] mixed Try.func104 rfl rfl rfl rfl (by decide +kernel) (by simp) ?_
  simp only [go_sem, reduceIte, Nat.reduceEqDiff, Nat.reduceAdd, Nat.reduceSub, Nat.reduceMul, Nat.reduceLT, Nat.reduceLeDiff, Nat.reducePow, Int.reduceToNat, Int.reduceLT, Int.reduceLE, Int.reduceEq, Int.reduceNe, Int.reduceAdd, Int.reduceSub, Int.reduceMul, Int.reduceNeg]
  intro b0
  refine vwq_loop (fun u => ∃ (j : Nat), j ≤ l.length ∧ j ≤ l.findIdx (fun x => decide (v = x)) ∧ u.σ 0 = .sl .none (l.map Vl.d) ∧ u.σ 3 = .pb b0 0 ∧ u.σ 7 = .int .i64 l.length ∧ u.σ 8 = .int .i64 j ∧ u.β = Heap.nil.set b0 [.bool v.null, .int .i64 v.n, .str v.s] ∧ u.ω = []) (fun u => l.length - (ival (u.σ 8)).toNat) ⟨0, by omega, by omega, rfl, rfl, by rw [← List.length_map (f := Vl.d)]; rfl, rfl, rfl, rfl⟩ ?_
  rintro σ β ω ⟨j, j1, j2, q0, q1, q7, q8, rfl, rfl⟩
  dsimp only at q0 q1 q7 q8
  simp only [go_sem, reduceIte, Nat.reduceEqDiff, Nat.reduceAdd, Nat.reduceSub, Nat.reduceMul, Nat.reduceLT, Nat.reduceLeDiff, Nat.reducePow, Int.reduceToNat, Int.reduceLT, Int.reduceLE, Int.reduceEq, Int.reduceNe, Int.reduceAdd, Int.reduceSub, Int.reduceMul, Int.reduceNeg, q0, q1, q7, q8]
  refine cd_dec (fun g => ?_) (fun g => ?_)
  · have g' : (j : Int) < ((l.map Vl.d).length : Nat) := by rw [List.length_map]; exact g
    obtain ⟨x, hx, ex⟩ := Vl_at g'
    simp only [go_sem, reduceIte, Nat.reduceEqDiff, Nat.reduceAdd, Nat.reduceSub, Nat.reduceMul, Nat.reduceLT, Nat.reduceLeDiff, Nat.reducePow, Int.reduceToNat, Int.reduceLT, Int.reduceLE, Int.reduceEq, Int.reduceNe, Int.reduceAdd, Int.reduceSub, Int.reduceMul, Int.reduceNeg, q0, q1, q7, q8, ex]
    refine ⟨by omega, cd_dec (fun g1 => ?_) (fun g1 => ?_)⟩
    · rw [vl_eq] at g1
      simp only [go_sem, reduceIte, Nat.reduceEqDiff, Nat.reduceAdd, Nat.reduceSub, Nat.reduceMul, Nat.reduceLT, Nat.reduceLeDiff, Nat.reducePow, Int.reduceToNat, Int.reduceLT, Int.reduceLE, Int.reduceEq, Int.reduceNe, Int.reduceAdd, Int.reduceSub, Int.reduceMul, Int.reduceNeg, q0, q1, q7, q8, ex]
      have e : idx (fun x => decide (v = x)) l = j := by
        have := idx_hit hx j2 (by simpa using g1)
        unfold idx
        rw [if_pos (by omega), this]
      exact finK_drop ⟨by rw [e]; rfl, rfl, rfl⟩
    · rw [vl_eq] at g1
      simp only [go_sem, reduceIte, Nat.reduceEqDiff, Nat.reduceAdd, Nat.reduceSub, Nat.reduceMul, Nat.reduceLT, Nat.reduceLeDiff, Nat.reducePow, Int.reduceToNat, Int.reduceLT, Int.reduceLE, Int.reduceEq, Int.reduceNe, Int.reduceAdd, Int.reduceSub, Int.reduceMul, Int.reduceNeg, q0, q1, q7, q8, ex]
      rw [wrap_i64 (x := (j : Int) + 1) (by omega) (by omega)]
      have := idx_miss hx j2 (by simpa using g1)
      exact ⟨⟨j + 1, by omega, by omega, rfl⟩, by omega⟩
  · simp only [go_sem, reduceIte, Nat.reduceEqDiff, Nat.reduceAdd, Nat.reduceSub, Nat.reduceMul, Nat.reduceLT, Nat.reduceLeDiff, Nat.reducePow, Int.reduceToNat, Int.reduceLT, Int.reduceLE, Int.reduceEq, Int.reduceNe, Int.reduceAdd, Int.reduceSub, Int.reduceMul, Int.reduceNeg, q0, q1, q7, q8]
    have e : idx (fun x => decide (v = x)) l = -1 := by
      unfold idx
      rw [if_neg]
      omega
    exact finK_drop ⟨by rw [e]; rfl, rfl, rfl⟩
theorem Contains_ok (l : List Vl) (v : Vl) : VN P G 95 [.sl .none (l.map Vl.d), .agg v.cells] (.bool (l.any fun x => decide (v = x))) := by
  simp only [Vl.cells]
  refine VC.ofs (fun | 99999999 => [(0, [0, 1, 3, 4])] | _ => []) [4] mixed Try.func95 rfl rfl rfl rfl (by decide +kernel) (by simp) ?_
  simp only [go_sem, reduceIte, Nat.reduceEqDiff, Nat.reduceAdd, Nat.reduceSub, Nat.reduceMul, Nat.reduceLT, Nat.reduceLeDiff, Nat.reducePow, Int.reduceToNat, Int.reduceLT, Int.reduceLE, Int.reduceEq, Int.reduceNe, Int.reduceAdd, Int.reduceSub, Int.reduceMul, Int.reduceNeg]
  intro b0
  refine cK_vn (Index_ok l v) ?_
  simp only [go_sem, reduceIte, Nat.reduceEqDiff, Nat.reduceAdd, Nat.reduceSub, Nat.reduceMul, Nat.reduceLT, Nat.reduceLeDiff, Nat.reducePow, Int.reduceToNat, Int.reduceLT, Int.reduceLE, Int.reduceEq, Int.reduceNe, Int.reduceAdd, Int.reduceSub, Int.reduceMul, Int.reduceNeg]
  exact finK_drop ⟨by rw [idx_any]; rfl, rfl, rfl⟩
/-- A set against the bounds. -/
def inn (b : Bd) (p : Pr) : Tr := ⟨p.set.any (inside b), !(decide (b.min = b.max) && p.set.any fun x => decide (b.min = x)), false⟩
theorem in_ok (b : Bd) (p : Pr) : VN P G 79 [.agg (fieldC b p)] (.int .i64 (inn b p).code) := by
  simp only [fieldC]
  refine VC.ofs (fun | 99999999 => [(0, [0, 1, 2, 3, 4])] | _ => []) [2] mixed Try.func79 rfl rfl rfl rfl (by decide +kernel) (by simp) ?_
  by_cases g : b.min = b.max
  · have g1 := eq_true ((vl_eq b.min b.max).mpr g)
    simp only [go_sem, reduceIte, Nat.reduceEqDiff, Nat.reduceAdd, Nat.reduceSub, Nat.reduceMul, Nat.reduceLT, Nat.reduceLeDiff, Nat.reducePow, Int.reduceToNat, Int.reduceLT, Int.reduceLE, Int.reduceEq, Int.reduceNe, Int.reduceAdd, Int.reduceSub, Int.reduceMul, Int.reduceNeg, g1]
    intro b0
    refine cK_vn (Contains_ok p.set b.min) ?_
    simp only [go_sem, reduceIte, Nat.reduceEqDiff, Nat.reduceAdd, Nat.reduceSub, Nat.reduceMul, Nat.reduceLT, Nat.reduceLeDiff, Nat.reducePow, Int.reduceToNat, Int.reduceLT, Int.reduceLE, Int.reduceEq, Int.reduceNe, Int.reduceAdd, Int.reduceSub, Int.reduceMul, Int.reduceNeg, g1]
    refine cK_vq (fs := []) (cs := []) (ContainsF_ok p.set (inside b) b0 (fieldC b p) fun x hx => in1_ok b p x b0) (by simp [Heap.set, fieldC]) ?_
    simp only [go_sem, reduceIte, Nat.reduceEqDiff, Nat.reduceAdd, Nat.reduceSub, Nat.reduceMul, Nat.reduceLT, Nat.reduceLeDiff, Nat.reducePow, Int.reduceToNat, Int.reduceLT, Int.reduceLE, Int.reduceEq, Int.reduceNe, Int.reduceAdd, Int.reduceSub, Int.reduceMul, Int.reduceNeg, g1]
    refine ⟨⟨rfl, rfl⟩, cK_vn (bits2_ok _ _ _) ?_⟩
    simp only [go_sem, reduceIte, Nat.reduceEqDiff, Nat.reduceAdd, Nat.reduceSub, Nat.reduceMul, Nat.reduceLT, Nat.reduceLeDiff, Nat.reducePow, Int.reduceToNat, Int.reduceLT, Int.reduceLE, Int.reduceEq, Int.reduceNe, Int.reduceAdd, Int.reduceSub, Int.reduceMul, Int.reduceNeg]
    exact finK_drop ⟨by simp only [inn, g, decide_true, Bool.true_and]; rfl, rfl, rfl⟩
  · have g1 := eq_false (fun h => g ((vl_eq b.min b.max).mp h))
    simp only [go_sem, reduceIte, Nat.reduceEqDiff, Nat.reduceAdd, Nat.reduceSub, Nat.reduceMul, Nat.reduceLT, Nat.reduceLeDiff, Nat.reducePow, Int.reduceToNat, Int.reduceLT, Int.reduceLE, Int.reduceEq, Int.reduceNe, Int.reduceAdd, Int.reduceSub, Int.reduceMul, Int.reduceNeg, g1]
    intro b0
    refine cK_vq (fs := []) (cs := []) (ContainsF_ok p.set (inside b) b0 (fieldC b p) fun x hx => in1_ok b p x b0) (by simp [Heap.set, fieldC]) ?_
    simp only [go_sem, reduceIte, Nat.reduceEqDiff, Nat.reduceAdd, Nat.reduceSub, Nat.reduceMul, Nat.reduceLT, Nat.reduceLeDiff, Nat.reducePow, Int.reduceToNat, Int.reduceLT, Int.reduceLE, Int.reduceEq, Int.reduceNe, Int.reduceAdd, Int.reduceSub, Int.reduceMul, Int.reduceNeg, g1]
    refine ⟨⟨rfl, rfl⟩, cK_vn (bits2_ok _ _ _) ?_⟩
    simp only [go_sem, reduceIte, Nat.reduceEqDiff, Nat.reduceAdd, Nat.reduceSub, Nat.reduceMul, Nat.reduceLT, Nat.reduceLeDiff, Nat.reducePow, Int.reduceToNat, Int.reduceLT, Int.reduceLE, Int.reduceEq, Int.reduceNe, Int.reduceAdd, Int.reduceSub, Int.reduceMul, Int.reduceNeg]
    exact finK_drop ⟨by simp only [inn, g, decide_false, Bool.false_and]; rfl, rfl, rfl⟩
/-- A beginning against the bounds. -/
def pfx (b : Bd) (p : Pr) : Tr := if b.min.n = b.max.n then
    ⟨decide (¬ b.max.s.data.toList < p.text.data.toList) && (pre b.min.s p.text || decide (¬ p.text.data.toList < b.min.s.data.toList)), !pre b.min.s p.text || !pre b.max.s p.text, false⟩
  else ⟨true, true, false⟩
theorem prefix_ok (b : Bd) (p : Pr) : VN P G 80 [.agg (fieldC b p)] (.int .i64 (pfx b p).code) := by
  simp only [fieldC]
  refine VC.ofs (fun | 4 => [(0, []), (1, []), (2, []), (3, []), (4, []), (6, []), (7, []), (8, []), (9, [5]), (10, []), (5, []), (11, []), (12, []), (13, [])] | 99999999 => [(0, [0, 1, 2, 3, 4, 5, 14])] | _ => []) [2] mixed Try.func80 rfl rfl rfl rfl (by decide +kernel) (by simp) ?_
  simp only [go_sem, reduceIte, Nat.reduceEqDiff, Nat.reduceAdd, Nat.reduceSub, Nat.reduceMul, Nat.reduceLT, Nat.reduceLeDiff, Nat.reducePow, Int.reduceToNat, Int.reduceLT, Int.reduceLE, Int.reduceEq, Int.reduceNe, Int.reduceAdd, Int.reduceSub, Int.reduceMul, Int.reduceNeg]
  intro b0
  refine cd_dec (fun g => ?_) (fun g => ?_)
  · simp only [go_sem, reduceIte, Nat.reduceEqDiff, Nat.reduceAdd, Nat.reduceSub, Nat.reduceMul, Nat.reduceLT, Nat.reduceLeDiff, Nat.reducePow, Int.reduceToNat, Int.reduceLT, Int.reduceLE, Int.reduceEq, Int.reduceNe, Int.reduceAdd, Int.reduceSub, Int.reduceMul, Int.reduceNeg]
    exact finK_drop ⟨by simp only [pfx, if_neg g]; rfl, rfl, rfl⟩
  · simp only [go_sem, reduceIte, Nat.reduceEqDiff, Nat.reduceAdd, Nat.reduceSub, Nat.reduceMul, Nat.reduceLT, Nat.reduceLeDiff, Nat.reducePow, Int.reduceToNat, Int.reduceLT, Int.reduceLE, Int.reduceEq, Int.reduceNe, Int.reduceAdd, Int.reduceSub, Int.reduceMul, Int.reduceNeg]
    refine cE_vn (HasPrefix_ok _ _) ?_
    simp only [go_sem, reduceIte, Nat.reduceEqDiff, Nat.reduceAdd, Nat.reduceSub, Nat.reduceMul, Nat.reduceLT, Nat.reduceLeDiff, Nat.reducePow, Int.reduceToNat, Int.reduceLT, Int.reduceLE, Int.reduceEq, Int.reduceNe, Int.reduceAdd, Int.reduceSub, Int.reduceMul, Int.reduceNeg]
    refine cE_vn (HasPrefix_ok _ _) ?_
    simp only [go_sem, reduceIte, Nat.reduceEqDiff, Nat.reduceAdd, Nat.reduceSub, Nat.reduceMul, Nat.reduceLT, Nat.reduceLeDiff, Nat.reducePow, Int.reduceToNat, Int.reduceLT, Int.reduceLE, Int.reduceEq, Int.reduceNe, Int.reduceAdd, Int.reduceSub, Int.reduceMul, Int.reduceNeg]
    refine ⟨fun h => ⟨h, fun h2 => by simp [h, h2]⟩, fun h => by simpa using h, ⟨rfl, rfl⟩, cK_vn (bits2_ok _ _ _) ?_⟩
    simp only [go_sem, reduceIte, Nat.reduceEqDiff, Nat.reduceAdd, Nat.reduceSub, Nat.reduceMul, Nat.reduceLT, Nat.reduceLeDiff, Nat.reducePow, Int.reduceToNat, Int.reduceLT, Int.reduceLE, Int.reduceEq, Int.reduceNe, Int.reduceAdd, Int.reduceSub, Int.reduceMul, Int.reduceNeg]
    refine finK_drop ⟨?_, rfl, rfl⟩
    rw [pfx, if_pos (by simpa using g)]
    rfl
theorem cmpS_ge (x y : ByteArray) : (0 ≤ cmpS x y) = ¬ x.data.toList < y.data.toList := by
  have := (compareBytes_lt x.data.toList y.data.toList).1
  unfold cmpS
  rw [← this]
  simp
theorem cmpS_le (x y : ByteArray) : (cmpS x y ≤ 0) = ¬ y.data.toList < x.data.toList := by
  have := (compareBytes_lt x.data.toList y.data.toList).2.1
  unfold cmpS
  rw [← this]
  simp
theorem refprefix_ok (b : Bd) (p : Pr) : VN P G 84 [.agg p.cells, .agg b.cells] (.agg [.bool (pfx b p).y, .bool (pfx b p).n, .bool false]) := by
  simp only [Pr.cells, Bd.cells]
  refine VC.ofc (fun | 99999999 => [(0, [0, 1, 2, 3, 4, 5, 6, 13])] | _ => []) [.cell 4 88] mixed Try.func84 rfl rfl rfl rfl (by decide +kernel) (by simp) ?_
  simp only [go_sem, reduceIte, Nat.reduceEqDiff, Nat.reduceAdd, Nat.reduceSub, Nat.reduceMul, Nat.reduceLT, Nat.reduceLeDiff, Nat.reducePow, Int.reduceToNat, Int.reduceLT, Int.reduceLE, Int.reduceEq, Int.reduceNe, Int.reduceAdd, Int.reduceSub, Int.reduceMul, Int.reduceNeg]
  intro b0
  refine new_1 fun b1 h1 h2 => ?_
  refine new_2 fun b2 h3 h4 h5 => ?_
  simp only [go_sem, reduceIte, Nat.reduceEqDiff, Nat.reduceAdd, Nat.reduceSub, Nat.reduceMul, Nat.reduceLT, Nat.reduceLeDiff, Nat.reducePow, Int.reduceToNat, Int.reduceLT, Int.reduceLE, Int.reduceEq, Int.reduceNe, Int.reduceAdd, Int.reduceSub, Int.reduceMul, Int.reduceNeg, h1, h2, h3, h4, h5]
  refine cd_dec (fun g => ?_) (fun g => ?_)
  · simp only [go_sem, reduceIte, Nat.reduceEqDiff, Nat.reduceAdd, Nat.reduceSub, Nat.reduceMul, Nat.reduceLT, Nat.reduceLeDiff, Nat.reducePow, Int.reduceToNat, Int.reduceLT, Int.reduceLE, Int.reduceEq, Int.reduceNe, Int.reduceAdd, Int.reduceSub, Int.reduceMul, Int.reduceNeg, h1, h2, h3, h4, h5]
    exact ⟨rfl, finK_drop ⟨by simp only [pfx, if_neg g]; rfl, rfl, rfl⟩⟩
  · cases hp : pre b.min.s p.text
    all_goals by_cases hk : cmpS b.min.s p.text ≤ 0
    all_goals simp only [go_sem, reduceIte, Nat.reduceEqDiff, Nat.reduceAdd, Nat.reduceSub, Nat.reduceMul, Nat.reduceLT, Nat.reduceLeDiff, Nat.reducePow, Int.reduceToNat, Int.reduceLT, Int.reduceLE, Int.reduceEq, Int.reduceNe, Int.reduceAdd, Int.reduceSub, Int.reduceMul, Int.reduceNeg, h1, h2, h3, h4, h5]
    · refine cK_vn (order_ok _ _) ?_
      simp only [go_sem, reduceIte, Nat.reduceEqDiff, Nat.reduceAdd, Nat.reduceSub, Nat.reduceMul, Nat.reduceLT, Nat.reduceLeDiff, Nat.reducePow, Int.reduceToNat, Int.reduceLT, Int.reduceLE, Int.reduceEq, Int.reduceNe, Int.reduceAdd, Int.reduceSub, Int.reduceMul, Int.reduceNeg, h1, h2, h3, h4, h5, hk, hp]
      refine cK_vn (order_ok _ _) ?_
      simp only [go_sem, reduceIte, Nat.reduceEqDiff, Nat.reduceAdd, Nat.reduceSub, Nat.reduceMul, Nat.reduceLT, Nat.reduceLeDiff, Nat.reducePow, Int.reduceToNat, Int.reduceLT, Int.reduceLE, Int.reduceEq, Int.reduceNe, Int.reduceAdd, Int.reduceSub, Int.reduceMul, Int.reduceNeg, h1, h2, h3, h4, h5, hk, hp]
      refine cK_vn (begins_ok _ _) ?_
      simp only [go_sem, reduceIte, Nat.reduceEqDiff, Nat.reduceAdd, Nat.reduceSub, Nat.reduceMul, Nat.reduceLT, Nat.reduceLeDiff, Nat.reducePow, Int.reduceToNat, Int.reduceLT, Int.reduceLE, Int.reduceEq, Int.reduceNe, Int.reduceAdd, Int.reduceSub, Int.reduceMul, Int.reduceNeg, h1, h2, h3, h4, h5, hk, hp]
      have e : pfx b p = ⟨decide (0 ≤ cmpS b.max.s p.text), true, false⟩ := by
        rw [pfx, if_pos (by simpa using g)]
        simp only [cmpS_ge, cmpS_le] at hk ⊢
        rw [decide_eq_true hk]; simp [hp]
      exact ⟨rfl, finK_drop ⟨by rw [e]; rfl, rfl, rfl⟩⟩
    · refine cK_vn (order_ok _ _) ?_
      simp only [go_sem, reduceIte, Nat.reduceEqDiff, Nat.reduceAdd, Nat.reduceSub, Nat.reduceMul, Nat.reduceLT, Nat.reduceLeDiff, Nat.reducePow, Int.reduceToNat, Int.reduceLT, Int.reduceLE, Int.reduceEq, Int.reduceNe, Int.reduceAdd, Int.reduceSub, Int.reduceMul, Int.reduceNeg, h1, h2, h3, h4, h5, hk, hp]
      refine cK_vn (begins_ok _ _) ?_
      simp only [go_sem, reduceIte, Nat.reduceEqDiff, Nat.reduceAdd, Nat.reduceSub, Nat.reduceMul, Nat.reduceLT, Nat.reduceLeDiff, Nat.reducePow, Int.reduceToNat, Int.reduceLT, Int.reduceLE, Int.reduceEq, Int.reduceNe, Int.reduceAdd, Int.reduceSub, Int.reduceMul, Int.reduceNeg, h1, h2, h3, h4, h5, hk, hp]
      refine cK_vn (order_ok _ _) ?_
      simp only [go_sem, reduceIte, Nat.reduceEqDiff, Nat.reduceAdd, Nat.reduceSub, Nat.reduceMul, Nat.reduceLT, Nat.reduceLeDiff, Nat.reducePow, Int.reduceToNat, Int.reduceLT, Int.reduceLE, Int.reduceEq, Int.reduceNe, Int.reduceAdd, Int.reduceSub, Int.reduceMul, Int.reduceNeg, h1, h2, h3, h4, h5, hk, hp]
      refine cK_vn (begins_ok _ _) ?_
      simp only [go_sem, reduceIte, Nat.reduceEqDiff, Nat.reduceAdd, Nat.reduceSub, Nat.reduceMul, Nat.reduceLT, Nat.reduceLeDiff, Nat.reducePow, Int.reduceToNat, Int.reduceLT, Int.reduceLE, Int.reduceEq, Int.reduceNe, Int.reduceAdd, Int.reduceSub, Int.reduceMul, Int.reduceNeg, h1, h2, h3, h4, h5, hk, hp]
      have e : pfx b p = ⟨false, true, false⟩ := by
        rw [pfx, if_pos (by simpa using g)]
        simp only [cmpS_ge, cmpS_le] at hk ⊢
        rw [decide_eq_false hk]; simp [hp]
      exact ⟨rfl, finK_drop ⟨by rw [e]; rfl, rfl, rfl⟩⟩
    · refine cK_vn (order_ok _ _) ?_
      simp only [go_sem, reduceIte, Nat.reduceEqDiff, Nat.reduceAdd, Nat.reduceSub, Nat.reduceMul, Nat.reduceLT, Nat.reduceLeDiff, Nat.reducePow, Int.reduceToNat, Int.reduceLT, Int.reduceLE, Int.reduceEq, Int.reduceNe, Int.reduceAdd, Int.reduceSub, Int.reduceMul, Int.reduceNeg, h1, h2, h3, h4, h5, hk, hp]
      refine cK_vn (order_ok _ _) ?_
      simp only [go_sem, reduceIte, Nat.reduceEqDiff, Nat.reduceAdd, Nat.reduceSub, Nat.reduceMul, Nat.reduceLT, Nat.reduceLeDiff, Nat.reducePow, Int.reduceToNat, Int.reduceLT, Int.reduceLE, Int.reduceEq, Int.reduceNe, Int.reduceAdd, Int.reduceSub, Int.reduceMul, Int.reduceNeg, h1, h2, h3, h4, h5, hk, hp]
      refine cK_vn (begins_ok _ _) ?_
      simp only [go_sem, reduceIte, Nat.reduceEqDiff, Nat.reduceAdd, Nat.reduceSub, Nat.reduceMul, Nat.reduceLT, Nat.reduceLeDiff, Nat.reducePow, Int.reduceToNat, Int.reduceLT, Int.reduceLE, Int.reduceEq, Int.reduceNe, Int.reduceAdd, Int.reduceSub, Int.reduceMul, Int.reduceNeg, h1, h2, h3, h4, h5, hk, hp]
      refine cK_vn (begins_ok _ _) ?_
      simp only [go_sem, reduceIte, Nat.reduceEqDiff, Nat.reduceAdd, Nat.reduceSub, Nat.reduceMul, Nat.reduceLT, Nat.reduceLeDiff, Nat.reducePow, Int.reduceToNat, Int.reduceLT, Int.reduceLE, Int.reduceEq, Int.reduceNe, Int.reduceAdd, Int.reduceSub, Int.reduceMul, Int.reduceNeg, h1, h2, h3, h4, h5, hk, hp]
      have e : pfx b p = ⟨decide (0 ≤ cmpS b.max.s p.text), !pre b.max.s p.text, false⟩ := by
        rw [pfx, if_pos (by simpa using g)]
        simp only [cmpS_ge, cmpS_le] at hk ⊢
        rw [decide_eq_true hk]; simp [hp]
      exact ⟨rfl, finK_drop ⟨by rw [e]; rfl, rfl, rfl⟩⟩
    · refine cK_vn (order_ok _ _) ?_
      simp only [go_sem, reduceIte, Nat.reduceEqDiff, Nat.reduceAdd, Nat.reduceSub, Nat.reduceMul, Nat.reduceLT, Nat.reduceLeDiff, Nat.reducePow, Int.reduceToNat, Int.reduceLT, Int.reduceLE, Int.reduceEq, Int.reduceNe, Int.reduceAdd, Int.reduceSub, Int.reduceMul, Int.reduceNeg, h1, h2, h3, h4, h5, hk, hp]
      refine cK_vn (begins_ok _ _) ?_
      simp only [go_sem, reduceIte, Nat.reduceEqDiff, Nat.reduceAdd, Nat.reduceSub, Nat.reduceMul, Nat.reduceLT, Nat.reduceLeDiff, Nat.reducePow, Int.reduceToNat, Int.reduceLT, Int.reduceLE, Int.reduceEq, Int.reduceNe, Int.reduceAdd, Int.reduceSub, Int.reduceMul, Int.reduceNeg, h1, h2, h3, h4, h5, hk, hp]
      refine cK_vn (order_ok _ _) ?_
      simp only [go_sem, reduceIte, Nat.reduceEqDiff, Nat.reduceAdd, Nat.reduceSub, Nat.reduceMul, Nat.reduceLT, Nat.reduceLeDiff, Nat.reducePow, Int.reduceToNat, Int.reduceLT, Int.reduceLE, Int.reduceEq, Int.reduceNe, Int.reduceAdd, Int.reduceSub, Int.reduceMul, Int.reduceNeg, h1, h2, h3, h4, h5, hk, hp]
      refine cK_vn (begins_ok _ _) ?_
      simp only [go_sem, reduceIte, Nat.reduceEqDiff, Nat.reduceAdd, Nat.reduceSub, Nat.reduceMul, Nat.reduceLT, Nat.reduceLeDiff, Nat.reducePow, Int.reduceToNat, Int.reduceLT, Int.reduceLE, Int.reduceEq, Int.reduceNe, Int.reduceAdd, Int.reduceSub, Int.reduceMul, Int.reduceNeg, h1, h2, h3, h4, h5, hk, hp]
      refine cK_vn (begins_ok _ _) ?_
      simp only [go_sem, reduceIte, Nat.reduceEqDiff, Nat.reduceAdd, Nat.reduceSub, Nat.reduceMul, Nat.reduceLT, Nat.reduceLeDiff, Nat.reducePow, Int.reduceToNat, Int.reduceLT, Int.reduceLE, Int.reduceEq, Int.reduceNe, Int.reduceAdd, Int.reduceSub, Int.reduceMul, Int.reduceNeg, h1, h2, h3, h4, h5, hk, hp]
      have e : pfx b p = ⟨decide (0 ≤ cmpS b.max.s p.text), !pre b.max.s p.text, false⟩ := by
        rw [pfx, if_pos (by simpa using g)]
        simp only [cmpS_ge, cmpS_le] at hk ⊢
        rw [decide_eq_false hk]; simp [hp]
      exact ⟨rfl, finK_drop ⟨by rw [e]; rfl, rfl, rfl⟩⟩
end Go.Proofs.YtgkfcgfobckaaaaS
namespace Go.Proofs.YtgkfcgfobckaaaaS
open Go Go.Proofs.YtgkfcgfobckaaaaV

variable {G : Heap}

/-- A set against the bounds, as the reference does it. -/
def innR1 (b : Bd) (t : Bool × Bool) (e : Vl) : Bool × Bool :=
  if e.null then t else (t.1 || (decide (0 ≤ cmpV e b.min) && decide (cmpV e b.max ≤ 0)), t.2 && !(decide (e = b.min) && decide (e = b.max)))
def innR (b : Bd) (p : Pr) : Bool × Bool := p.set.foldl (innR1 b) (false, true)
set_option maxHeartbeats 1000000 in
theorem refin_ok (b : Bd) (p : Pr) : VN P G 83 [.agg p.cells, .agg b.cells] (.agg [.bool (innR b p).1, .bool (innR b p).2, .bool false]) := by
  simp only [Pr.cells, Bd.cells]
  refine VC.small2 fun hsm => ?_
  have z1 := hsm (.agg p.cells) (List.mem_cons_self ..) (.sl .none (p.set.map Vl.d)) (by simp [D.cells, Pr.cells])
  simp only [Small, mostLen, List.length_map] at z1
  clear hsm
  refine VC.ofc (fun | 99999999 => [(0, [0, 1, 2, 3, 4, 5, 6, 7, 13, 22, 34, 45])] | _ => []) [.cell 4 88] mixed Try.func83 rfl rfl rfl rfl (by decide +kernel) (by simp) ?_
  simp only [go_sem, reduceIte, Nat.reduceEqDiff, Nat.reduceAdd, Nat.reduceSub, Nat.reduceMul, Nat.reduceLT, Nat.reduceLeDiff, Nat.reducePow, Int.reduceToNat, Int.reduceLT, Int.reduceLE, Int.reduceEq, Int.reduceNe, Int.reduceAdd, Int.reduceSub, Int.reduceMul, Int.reduceNeg]
  intro b0
  refine new_1 fun b1 h1 h2 => ?_
  refine new_2 fun b2 h3 h4 h5 => ?_
  refine new_any fun b3 h6 => ?_
  have n30 : b0 ≠ b3 := by rintro rfl; simp [Heap.set, h2, h4] at h6
  have n31 : b1 ≠ b3 := by rintro rfl; simp [Heap.set, h5] at h6
  have n32 : b2 ≠ b3 := by rintro rfl; simp [Heap.set] at h6
  clear h6
  generalize hβ : Heap.set _ b3 _ = β0
  have e0 : β0 b0 = some p.cells := by rw [← hβ]; simp [Heap.set, h2, h4, n30, Pr.cells]
  have e1 : β0 b1 = some b.cells := by rw [← hβ]; simp [Heap.set, h5, n31, Bd.cells]
  have e2 : β0 b2 = some [.bool false, .bool false, .bool false] := by rw [← hβ]; simp [Heap.set, n32]
  have e3 : β0 b3 = some [.bool false, .bool true, .bool false] := by rw [← hβ]; simp [Heap.set]
  clear hβ
  refine ⟨rfl, ?_⟩
  refine vwq_loop (fun u => ∃ (j : Nat) (t : Bool × Bool), j ≤ p.set.length ∧ (p.set.drop j).foldl (innR1 b) t = innR b p ∧ u.σ 2 = .pb b0 0 ∧ u.σ 3 = .pb b1 0 ∧ u.σ 4 = .pb b2 0 ∧ u.σ 5 = .pb b3 0 ∧ u.σ 6 = .int .i64 j ∧ u.β b0 = some p.cells ∧ u.β b1 = some b.cells ∧ u.β b2 = some [.bool false, .bool false, .bool false] ∧ u.β b3 = some [.bool t.1, .bool t.2, .bool false] ∧ u.ω = []) (fun u => p.set.length - (ival (u.σ 6)).toNat) ?_ ?_
  · exact ⟨0, (false, true), by omega, rfl, rfl, rfl, rfl, rfl, rfl, e0, e1, e2, e3, rfl⟩
  clear e0 e1 e2 e3 β0
  rintro σ β ω ⟨j, ⟨y, n⟩, j1, jt, q2, q3, q4, q5, q6, e0, e1, e2, e3, rfl⟩
  dsimp only [Pr.cells, Bd.cells] at q2 q3 q4 q5 q6 e0 e1 e2 e3
  simp only [go_sem, reduceIte, Nat.reduceEqDiff, Nat.reduceAdd, Nat.reduceSub, Nat.reduceMul, Nat.reduceLT, Nat.reduceLeDiff, Nat.reducePow, Int.reduceToNat, Int.reduceLT, Int.reduceLE, Int.reduceEq, Int.reduceNe, Int.reduceAdd, Int.reduceSub, Int.reduceMul, Int.reduceNeg, q2, q3, q4, q5, q6, e0, e1, e2, e3]
  refine cd_dec (fun g => ?_) (fun g => ?_)
  · obtain ⟨x, hx, ex⟩ := Vl_at g
    have hl := len_lt g
    have hd : p.set.drop j = x :: p.set.drop (j + 1) := by
      obtain ⟨h1, h2⟩ := List.getElem?_eq_some_iff.1 hx
      rw [List.drop_eq_getElem_cons h1, h2]
    rw [hd, List.foldl_cons] at jt
    obtain ⟨xn, xi, xs⟩ := x
    dsimp only at ex
    cases xn
    all_goals simp only [go_sem, reduceIte, Nat.reduceEqDiff, Nat.reduceAdd, Nat.reduceSub, Nat.reduceMul, Nat.reduceLT, Nat.reduceLeDiff, Nat.reducePow, Int.reduceToNat, Int.reduceLT, Int.reduceLE, Int.reduceEq, Int.reduceNe, Int.reduceAdd, Int.reduceSub, Int.reduceMul, Int.reduceNeg, q2, q3, q4, q5, q6, e0, e1, e2, e3, ex]
    all_goals refine ⟨by omega, new_any fun b4 hb => ?_⟩
    all_goals
      have m0 : b0 ≠ b4 := by rintro rfl; rw [e0] at hb; cases hb
      have m1 : b1 ≠ b4 := by rintro rfl; rw [e1] at hb; cases hb
      have m2 : b2 ≠ b4 := by rintro rfl; rw [e2] at hb; cases hb
      have m3 : b3 ≠ b4 := by rintro rfl; rw [e3] at hb; cases hb
      have m3s := Ne.symm m3
      have wj := wrap_i64 (x := (j : Int) + 1) (by omega) (by omega)
      clear hb
    · simp only [go_sem, reduceIte, Nat.reduceEqDiff, Nat.reduceAdd, Nat.reduceSub, Nat.reduceMul, Nat.reduceLT, Nat.reduceLeDiff, Nat.reducePow, Int.reduceToNat, Int.reduceLT, Int.reduceLE, Int.reduceEq, Int.reduceNe, Int.reduceAdd, Int.reduceSub, Int.reduceMul, Int.reduceNeg, q2, q3, q4, q5, q6, e0, e1, e2, e3, ex, m0, m1, m2, m3]
      refine ⟨rfl, cK_vn (refCompare_ok ⟨false, xi, xs⟩ b.min) ?_⟩
      by_cases k1 : 0 ≤ cmpV ⟨false, xi, xs⟩ b.min
      · simp only [go_sem, reduceIte, Nat.reduceEqDiff, Nat.reduceAdd, Nat.reduceSub, Nat.reduceMul, Nat.reduceLT, Nat.reduceLeDiff, Nat.reducePow, Int.reduceToNat, Int.reduceLT, Int.reduceLE, Int.reduceEq, Int.reduceNe, Int.reduceAdd, Int.reduceSub, Int.reduceMul, Int.reduceNeg, q2, q3, q4, q5, q6, e0, e1, e2, e3, ex, m0, m1, m2, m3, k1]
        refine cK_vn (refCompare_ok ⟨false, xi, xs⟩ b.max) ?_
        simp only [go_sem, reduceIte, Nat.reduceEqDiff, Nat.reduceAdd, Nat.reduceSub, Nat.reduceMul, Nat.reduceLT, Nat.reduceLeDiff, Nat.reducePow, Int.reduceToNat, Int.reduceLT, Int.reduceLE, Int.reduceEq, Int.reduceNe, Int.reduceAdd, Int.reduceSub, Int.reduceMul, Int.reduceNeg, q2, q3, q4, q5, q6, e0, e1, e2, e3, ex, m0, m1, m2, m3, k1]
        refine cd_dec (fun k2 => ?_) (fun k2 => ?_)
        · simp only [go_sem, reduceIte, Nat.reduceEqDiff, Nat.reduceAdd, Nat.reduceSub, Nat.reduceMul, Nat.reduceLT, Nat.reduceLeDiff, Nat.reducePow, Int.reduceToNat, Int.reduceLT, Int.reduceLE, Int.reduceEq, Int.reduceNe, Int.reduceAdd, Int.reduceSub, Int.reduceMul, Int.reduceNeg, q2, q3, q4, q5, q6, e0, e1, e2, e3, ex, m0, m1, m2, m3, m3s, n30, n31, n32, k1]
          refine cd_dec (fun k5 => ?_) (fun k5 => ?_)
          · simp only [go_sem, reduceIte, Nat.reduceEqDiff, Nat.reduceAdd, Nat.reduceSub, Nat.reduceMul, Nat.reduceLT, Nat.reduceLeDiff, Nat.reducePow, Int.reduceToNat, Int.reduceLT, Int.reduceLE, Int.reduceEq, Int.reduceNe, Int.reduceAdd, Int.reduceSub, Int.reduceMul, Int.reduceNeg, q2, q3, q4, q5, q6, e0, e1, e2, e3, ex, m0, m1, m2, m3, m3s, n30, n31, n32, wj]
            have ev : innR1 b (y, n) ⟨false, xi, xs⟩ = (true, false) := by
              have k6 := k5
              rw [vl_eq ⟨false, xi, xs⟩ b.min, vl_eq ⟨false, xi, xs⟩ b.max] at k6
              have k7 := decide_eq_true k6
              rw [Bool.decide_and] at k7
              simp only [innR1, k7, decide_eq_true k1, decide_eq_true k2]; simp
            rw [ev] at jt
            refine ⟨⟨j + 1, (true, false), by omega, jt, ?_⟩, by omega⟩
            simp [Heap.set, m0, m1, m2, m3, n30, n31, n32, e0, e1, e2, e3, Pr.cells, Bd.cells]
          · simp only [go_sem, reduceIte, Nat.reduceEqDiff, Nat.reduceAdd, Nat.reduceSub, Nat.reduceMul, Nat.reduceLT, Nat.reduceLeDiff, Nat.reducePow, Int.reduceToNat, Int.reduceLT, Int.reduceLE, Int.reduceEq, Int.reduceNe, Int.reduceAdd, Int.reduceSub, Int.reduceMul, Int.reduceNeg, q2, q3, q4, q5, q6, e0, e1, e2, e3, ex, m0, m1, m2, m3, m3s, n30, n31, n32, wj]
            have ev : innR1 b (y, n) ⟨false, xi, xs⟩ = (true, n) := by
              have k6 := k5
              rw [vl_eq ⟨false, xi, xs⟩ b.min, vl_eq ⟨false, xi, xs⟩ b.max] at k6
              have k7 := decide_eq_false k6
              rw [Bool.decide_and] at k7
              simp only [innR1, k7, decide_eq_true k1, decide_eq_true k2]; simp
            rw [ev] at jt
            refine ⟨⟨j + 1, (true, n), by omega, jt, ?_⟩, by omega⟩
            simp [Heap.set, m0, m1, m2, m3, n30, n31, n32, e0, e1, e2, e3, Pr.cells, Bd.cells]
        · simp only [go_sem, reduceIte, Nat.reduceEqDiff, Nat.reduceAdd, Nat.reduceSub, Nat.reduceMul, Nat.reduceLT, Nat.reduceLeDiff, Nat.reducePow, Int.reduceToNat, Int.reduceLT, Int.reduceLE, Int.reduceEq, Int.reduceNe, Int.reduceAdd, Int.reduceSub, Int.reduceMul, Int.reduceNeg, q2, q3, q4, q5, q6, e0, e1, e2, e3, ex, m0, m1, m2, m3, m3s, n30, n31, n32, k1]
          refine cd_dec (fun k5 => ?_) (fun k5 => ?_)
          · simp only [go_sem, reduceIte, Nat.reduceEqDiff, Nat.reduceAdd, Nat.reduceSub, Nat.reduceMul, Nat.reduceLT, Nat.reduceLeDiff, Nat.reducePow, Int.reduceToNat, Int.reduceLT, Int.reduceLE, Int.reduceEq, Int.reduceNe, Int.reduceAdd, Int.reduceSub, Int.reduceMul, Int.reduceNeg, q2, q3, q4, q5, q6, e0, e1, e2, e3, ex, m0, m1, m2, m3, m3s, n30, n31, n32, wj]
            have ev : innR1 b (y, n) ⟨false, xi, xs⟩ = (y, false) := by
              have k6 := k5
              rw [vl_eq ⟨false, xi, xs⟩ b.min, vl_eq ⟨false, xi, xs⟩ b.max] at k6
              have k7 := decide_eq_true k6
              rw [Bool.decide_and] at k7
              simp only [innR1, k7, decide_eq_true k1, decide_eq_false k2]; simp
            rw [ev] at jt
            refine ⟨⟨j + 1, (y, false), by omega, jt, ?_⟩, by omega⟩
            simp [Heap.set, m0, m1, m2, m3, n30, n31, n32, e0, e1, e2, e3, Pr.cells, Bd.cells]
          · simp only [go_sem, reduceIte, Nat.reduceEqDiff, Nat.reduceAdd, Nat.reduceSub, Nat.reduceMul, Nat.reduceLT, Nat.reduceLeDiff, Nat.reducePow, Int.reduceToNat, Int.reduceLT, Int.reduceLE, Int.reduceEq, Int.reduceNe, Int.reduceAdd, Int.reduceSub, Int.reduceMul, Int.reduceNeg, q2, q3, q4, q5, q6, e0, e1, e2, e3, ex, m0, m1, m2, m3, m3s, n30, n31, n32, wj]
            have ev : innR1 b (y, n) ⟨false, xi, xs⟩ = (y, n) := by
              have k6 := k5
              rw [vl_eq ⟨false, xi, xs⟩ b.min, vl_eq ⟨false, xi, xs⟩ b.max] at k6
              have k7 := decide_eq_false k6
              rw [Bool.decide_and] at k7
              simp only [innR1, k7, decide_eq_true k1, decide_eq_false k2]; simp
            rw [ev] at jt
            refine ⟨⟨j + 1, (y, n), by omega, jt, ?_⟩, by omega⟩
            simp [Heap.set, m0, m1, m2, m3, n30, n31, n32, e0, e1, e2, e3, Pr.cells, Bd.cells]
      · simp only [go_sem, reduceIte, Nat.reduceEqDiff, Nat.reduceAdd, Nat.reduceSub, Nat.reduceMul, Nat.reduceLT, Nat.reduceLeDiff, Nat.reducePow, Int.reduceToNat, Int.reduceLT, Int.reduceLE, Int.reduceEq, Int.reduceNe, Int.reduceAdd, Int.reduceSub, Int.reduceMul, Int.reduceNeg, q2, q3, q4, q5, q6, e0, e1, e2, e3, ex, m0, m1, m2, m3, m3s, n30, n31, n32, k1]
        refine cd_dec (fun k5 => ?_) (fun k5 => ?_)
        · simp only [go_sem, reduceIte, Nat.reduceEqDiff, Nat.reduceAdd, Nat.reduceSub, Nat.reduceMul, Nat.reduceLT, Nat.reduceLeDiff, Nat.reducePow, Int.reduceToNat, Int.reduceLT, Int.reduceLE, Int.reduceEq, Int.reduceNe, Int.reduceAdd, Int.reduceSub, Int.reduceMul, Int.reduceNeg, q2, q3, q4, q5, q6, e0, e1, e2, e3, ex, m0, m1, m2, m3, m3s, n30, n31, n32, wj]
          have ev : innR1 b (y, n) ⟨false, xi, xs⟩ = (y, false) := by
            have k6 := k5
            rw [vl_eq ⟨false, xi, xs⟩ b.min, vl_eq ⟨false, xi, xs⟩ b.max] at k6
            have k7 := decide_eq_true k6
            rw [Bool.decide_and] at k7
            simp only [innR1, k7, decide_eq_false k1]; simp
          rw [ev] at jt
          refine ⟨⟨j + 1, (y, false), by omega, jt, ?_⟩, by omega⟩
          simp [Heap.set, m0, m1, m2, m3, n30, n31, n32, e0, e1, e2, e3, Pr.cells, Bd.cells]
        · simp only [go_sem, reduceIte, Nat.reduceEqDiff, Nat.reduceAdd, Nat.reduceSub, Nat.reduceMul, Nat.reduceLT, Nat.reduceLeDiff, Nat.reducePow, Int.reduceToNat, Int.reduceLT, Int.reduceLE, Int.reduceEq, Int.reduceNe, Int.reduceAdd, Int.reduceSub, Int.reduceMul, Int.reduceNeg, q2, q3, q4, q5, q6, e0, e1, e2, e3, ex, m0, m1, m2, m3, m3s, n30, n31, n32, wj]
          have ev : innR1 b (y, n) ⟨false, xi, xs⟩ = (y, n) := by
            have k6 := k5
            rw [vl_eq ⟨false, xi, xs⟩ b.min, vl_eq ⟨false, xi, xs⟩ b.max] at k6
            have k7 := decide_eq_false k6
            rw [Bool.decide_and] at k7
            simp only [innR1, k7, decide_eq_false k1]; simp
          rw [ev] at jt
          refine ⟨⟨j + 1, (y, n), by omega, jt, ?_⟩, by omega⟩
          simp [Heap.set, m0, m1, m2, m3, n30, n31, n32, e0, e1, e2, e3, Pr.cells, Bd.cells]
    · rw [wj]
      refine ⟨rfl, ⟨j + 1, (y, n), by omega, jt, ?_⟩, by omega⟩
      simp [Heap.set, m0, m1, m2, m3, e0, e1, e2, e3, Pr.cells, Bd.cells]
  · simp only [go_sem, reduceIte, Nat.reduceEqDiff, Nat.reduceAdd, Nat.reduceSub, Nat.reduceMul, Nat.reduceLT, Nat.reduceLeDiff, Nat.reducePow, Int.reduceToNat, Int.reduceLT, Int.reduceLE, Int.reduceEq, Int.reduceNe, Int.reduceAdd, Int.reduceSub, Int.reduceMul, Int.reduceNeg, q2, q3, q4, q5, q6, e0, e1, e2, e3]
    rw [List.drop_eq_nil_of_le (by rw [List.length_map] at g; omega)] at jt
    exact ⟨rfl, finK_drop ⟨by rw [← jt]; rfl, rfl, rfl⟩⟩
end Go.Proofs.YtgkfcgfobckaaaaS
namespace Go.Proofs.YtgkfcgfobckaaaaS
open Go Go.Proofs.YtgkfcgfobckaaaaV

variable {G : Heap}

theorem one_int (k : IntKind) (n : Int) : (D.int k n).one = true := (rfl)
theorem one_bool (b : Bool) : (D.bool b).one = true := (rfl)
theorem one_str (b : ByteArray) : (D.str b).one = true := (rfl)
theorem one_sl (t : Tk) (l : List D) : (D.sl t l).one = true := (rfl)
attribute [go_sem] one_int one_bool one_str one_sl List.all_cons List.all_nil Bool.and_true Bool.true_and
theorem cd_b {pb : Bool} {ct : Cert} {Q : VE → St → Prop} {b : Bool} {x y : Code} {s : St} (hx : b = true → vwq pb ct P G x Q s) (hy : b = false → vwq pb ct P G y Q s) : cdK (.bool b) True (vwq pb ct P G x Q (lk' s)) (vwq pb ct P G y Q (lk' s)) := ⟨trivial, hx, hy⟩
def atomT (u : Sm) (p : Pr) : Tr := match findB u.l p.id with
  | none => if p.op = 4 then ⟨true, true, false⟩ else ⟨true, true, true⟩
  | some b => if p.op = 4 then ⟨decide (0 < b.nulls), decide (b.nulls < u.rows), false⟩
    else if (u.rows ≤ b.nulls ∨ b.min.null = true) ∨ b.max.null = true then ⟨false, false, decide (0 < b.nulls)⟩
    else
      let t := if p.op = 2 then inn b p else if p.op = 3 then pfx b p else btw b p
      ⟨t.y, t.n, decide (0 < b.nulls)⟩
theorem inn_u (b : Bd) (p : Pr) : (inn b p).u = false := rfl
theorem btw_u (b : Bd) (p : Pr) : (btw b p).u = false := rfl
theorem pfx_u (b : Bd) (p : Pr) : (pfx b p).u = false := by unfold pfx; split <;> rfl
set_option maxHeartbeats 2000000 in
theorem atom_ok (u : Sm) (p : Pr) : VN P G 54 [.agg u.cells, .agg p.cells] (.int .i64 (atomT u p).code) := by
  simp only [Sm.cells, Pr.cells]
  refine VC.ofs (fun | 17 => [(0, []), (2, []), (3, [1]), (4, []), (5, []), (6, []), (1, []), (7, []), (8, []), (9, [])] | 99999999 => [(0, [0, 1, 2, 3, 4, 5, 6, 7, 8, 22, 23, 26, 39, 43, 47, 50])] | _ => []) [4] mixed Try.func54 rfl rfl rfl rfl (by decide +kernel) (by simp) ?_
  simp only [go_sem, reduceIte, Nat.reduceEqDiff, Nat.reduceAdd, Nat.reduceSub, Nat.reduceMul, Nat.reduceLT, Nat.reduceLeDiff, Nat.reducePow, Int.reduceToNat, Int.reduceLT, Int.reduceLE, Int.reduceEq, Int.reduceNe, Int.reduceAdd, Int.reduceSub, Int.reduceMul, Int.reduceNeg]
  intro b0
  refine new_1 fun b1 h1 h2 => ?_
  simp only [go_sem, reduceIte, Nat.reduceEqDiff, Nat.reduceAdd, Nat.reduceSub, Nat.reduceMul, Nat.reduceLT, Nat.reduceLeDiff, Nat.reducePow, Int.reduceToNat, Int.reduceLT, Int.reduceLE, Int.reduceEq, Int.reduceNe, Int.reduceAdd, Int.reduceSub, Int.reduceMul, Int.reduceNeg, h1, h2]
  refine cK_vn (find_ok u p.id) ?_
  obtain ⟨x, hx⟩ : ∃ x, orZ (findB u.l p.id) = x := ⟨_, rfl⟩
  obtain ⟨is, his⟩ : ∃ is, (findB u.l p.id).isSome = is := ⟨_, rfl⟩
  rw [hx, his]
  cases is
  all_goals simp only [go_sem, reduceIte, Nat.reduceEqDiff, Nat.reduceAdd, Nat.reduceSub, Nat.reduceMul, Nat.reduceLT, Nat.reduceLeDiff, Nat.reducePow, Int.reduceToNat, Int.reduceLT, Int.reduceLE, Int.reduceEq, Int.reduceNe, Int.reduceAdd, Int.reduceSub, Int.reduceMul, Int.reduceNeg, h1, h2, Bd.cells]
  all_goals refine new_2 fun b2 h3 h4 h5 => ?_
  all_goals simp only [go_sem, reduceIte, Nat.reduceEqDiff, Nat.reduceAdd, Nat.reduceSub, Nat.reduceMul, Nat.reduceLT, Nat.reduceLeDiff, Nat.reducePow, Int.reduceToNat, Int.reduceLT, Int.reduceLE, Int.reduceEq, Int.reduceNe, Int.reduceAdd, Int.reduceSub, Int.reduceMul, Int.reduceNeg, h1, h2, h3, h4, h5]
  all_goals refine new_any fun b3 h6 => ?_
  all_goals
    have n0 : b0 ≠ b3 := by rintro rfl; simp [Heap.set, h2, h4] at h6
    have n1 : b1 ≠ b3 := by rintro rfl; simp [Heap.set, h5] at h6
    have n2 : b2 ≠ b3 := by rintro rfl; simp [Heap.set] at h6
    clear h6
  all_goals simp only [go_sem, reduceIte, Nat.reduceEqDiff, Nat.reduceAdd, Nat.reduceSub, Nat.reduceMul, Nat.reduceLT, Nat.reduceLeDiff, Nat.reducePow, Int.reduceToNat, Int.reduceLT, Int.reduceLE, Int.reduceEq, Int.reduceNe, Int.reduceAdd, Int.reduceSub, Int.reduceMul, Int.reduceNeg, h1, h2, h3, h4, h5, n0, n1, n2]
  · have ef : findB u.l p.id = none := by cases hf : findB u.l p.id; rfl; rw [hf] at his; cases his
    refine cd_dec (fun k4 => ?_) (fun k4 => ?_)
    · simp only [go_sem, reduceIte, Nat.reduceEqDiff, Nat.reduceAdd, Nat.reduceSub, Nat.reduceMul, Nat.reduceLT, Nat.reduceLeDiff, Nat.reducePow, Int.reduceToNat, Int.reduceLT, Int.reduceLE, Int.reduceEq, Int.reduceNe, Int.reduceAdd, Int.reduceSub, Int.reduceMul, Int.reduceNeg, h1, h2, h3, h4, h5, n0, n1, n2]
      exact finK_drop ⟨by rw [atomT, ef]; simp only [if_pos k4]; rfl, rfl, rfl⟩
    · simp only [go_sem, reduceIte, Nat.reduceEqDiff, Nat.reduceAdd, Nat.reduceSub, Nat.reduceMul, Nat.reduceLT, Nat.reduceLeDiff, Nat.reducePow, Int.reduceToNat, Int.reduceLT, Int.reduceLE, Int.reduceEq, Int.reduceNe, Int.reduceAdd, Int.reduceSub, Int.reduceMul, Int.reduceNeg, h1, h2, h3, h4, h5, n0, n1, n2]
      refine cd_dec (fun k2 => ?_) (fun k2 => ?_)
      · simp only [go_sem, reduceIte, Nat.reduceEqDiff, Nat.reduceAdd, Nat.reduceSub, Nat.reduceMul, Nat.reduceLT, Nat.reduceLeDiff, Nat.reducePow, Int.reduceToNat, Int.reduceLT, Int.reduceLE, Int.reduceEq, Int.reduceNe, Int.reduceAdd, Int.reduceSub, Int.reduceMul, Int.reduceNeg, h1, h2, h3, h4, h5, n0, n1, n2]
        exact finK_drop ⟨by rw [atomT, ef]; simp only [if_neg k4]; rfl, rfl, rfl⟩
      · simp only [go_sem, reduceIte, Nat.reduceEqDiff, Nat.reduceAdd, Nat.reduceSub, Nat.reduceMul, Nat.reduceLT, Nat.reduceLeDiff, Nat.reducePow, Int.reduceToNat, Int.reduceLT, Int.reduceLE, Int.reduceEq, Int.reduceNe, Int.reduceAdd, Int.reduceSub, Int.reduceMul, Int.reduceNeg, h1, h2, h3, h4, h5, n0, n1, n2]
        refine cd_dec (fun k3 => ?_) (fun k3 => ?_)
        · simp only [go_sem, reduceIte, Nat.reduceEqDiff, Nat.reduceAdd, Nat.reduceSub, Nat.reduceMul, Nat.reduceLT, Nat.reduceLeDiff, Nat.reducePow, Int.reduceToNat, Int.reduceLT, Int.reduceLE, Int.reduceEq, Int.reduceNe, Int.reduceAdd, Int.reduceSub, Int.reduceMul, Int.reduceNeg, h1, h2, h3, h4, h5, n0, n1, n2]
          exact finK_drop ⟨by rw [atomT, ef]; simp only [if_neg k4]; rfl, rfl, rfl⟩
        · simp only [go_sem, reduceIte, Nat.reduceEqDiff, Nat.reduceAdd, Nat.reduceSub, Nat.reduceMul, Nat.reduceLT, Nat.reduceLeDiff, Nat.reducePow, Int.reduceToNat, Int.reduceLT, Int.reduceLE, Int.reduceEq, Int.reduceNe, Int.reduceAdd, Int.reduceSub, Int.reduceMul, Int.reduceNeg, h1, h2, h3, h4, h5, n0, n1, n2]
          exact finK_drop ⟨by rw [atomT, ef]; simp only [if_neg k4]; rfl, rfl, rfl⟩
  · have ef : findB u.l p.id = some x := by cases hf : findB u.l p.id; rw [hf] at his; cases his; rw [hf] at hx; rw [← hx]; rfl
    refine cd_dec (fun k4 => ?_) (fun k4 => ?_)
    · simp only [go_sem, reduceIte, Nat.reduceEqDiff, Nat.reduceAdd, Nat.reduceSub, Nat.reduceMul, Nat.reduceLT, Nat.reduceLeDiff, Nat.reducePow, Int.reduceToNat, Int.reduceLT, Int.reduceLE, Int.reduceEq, Int.reduceNe, Int.reduceAdd, Int.reduceSub, Int.reduceMul, Int.reduceNeg, h1, h2, h3, h4, h5, n0, n1, n2]
      refine cK_vn (bits2_ok _ _ _) ?_
      simp only [go_sem, reduceIte, Nat.reduceEqDiff, Nat.reduceAdd, Nat.reduceSub, Nat.reduceMul, Nat.reduceLT, Nat.reduceLeDiff, Nat.reducePow, Int.reduceToNat, Int.reduceLT, Int.reduceLE, Int.reduceEq, Int.reduceNe, Int.reduceAdd, Int.reduceSub, Int.reduceMul, Int.reduceNeg, h1, h2, h3, h4, h5, n0, n1, n2]
      exact finK_drop ⟨by rw [atomT, ef]; simp only [if_pos k4]; rfl, rfl, rfl⟩
    · simp only [go_sem, reduceIte, Nat.reduceEqDiff, Nat.reduceAdd, Nat.reduceSub, Nat.reduceMul, Nat.reduceLT, Nat.reduceLeDiff, Nat.reducePow, Int.reduceToNat, Int.reduceLT, Int.reduceLE, Int.reduceEq, Int.reduceNe, Int.reduceAdd, Int.reduceSub, Int.reduceMul, Int.reduceNeg, h1, h2, h3, h4, h5, n0, n1, n2]
      refine cd_dec (fun k2 => ?_) (fun k2 => ?_)
      · simp only [go_sem, reduceIte, Nat.reduceEqDiff, Nat.reduceAdd, Nat.reduceSub, Nat.reduceMul, Nat.reduceLT, Nat.reduceLeDiff, Nat.reducePow, Int.reduceToNat, Int.reduceLT, Int.reduceLE, Int.reduceEq, Int.reduceNe, Int.reduceAdd, Int.reduceSub, Int.reduceMul, Int.reduceNeg, h1, h2, h3, h4, h5, n0, n1, n2]
        refine ⟨fun h => by rw [h]; rfl, cd_b (fun k5 => ?_) (fun k5 => ?_)⟩
        · have k6 : (u.rows ≤ x.nulls ∨ x.min.null = true) ∨ x.max.null = true := by simpa [Bool.or_eq_true] using k5
          simp only [go_sem, reduceIte, Nat.reduceEqDiff, Nat.reduceAdd, Nat.reduceSub, Nat.reduceMul, Nat.reduceLT, Nat.reduceLeDiff, Nat.reducePow, Int.reduceToNat, Int.reduceLT, Int.reduceLE, Int.reduceEq, Int.reduceNe, Int.reduceAdd, Int.reduceSub, Int.reduceMul, Int.reduceNeg, h1, h2, h3, h4, h5, n0, n1, n2]
          refine cK_vn (bits1_ok _ _) ?_
          simp only [go_sem, reduceIte, Nat.reduceEqDiff, Nat.reduceAdd, Nat.reduceSub, Nat.reduceMul, Nat.reduceLT, Nat.reduceLeDiff, Nat.reducePow, Int.reduceToNat, Int.reduceLT, Int.reduceLE, Int.reduceEq, Int.reduceNe, Int.reduceAdd, Int.reduceSub, Int.reduceMul, Int.reduceNeg, h1, h2, h3, h4, h5, n0, n1, n2]
          exact finK_drop ⟨by rw [atomT, ef]; simp only [if_neg k4, if_pos k6]; rfl, rfl, rfl⟩
        · have k6 : ¬ ((u.rows ≤ x.nulls ∨ x.min.null = true) ∨ x.max.null = true) := by simpa [Bool.or_eq_false_iff] using k5
          simp only [go_sem, reduceIte, Nat.reduceEqDiff, Nat.reduceAdd, Nat.reduceSub, Nat.reduceMul, Nat.reduceLT, Nat.reduceLeDiff, Nat.reducePow, Int.reduceToNat, Int.reduceLT, Int.reduceLE, Int.reduceEq, Int.reduceNe, Int.reduceAdd, Int.reduceSub, Int.reduceMul, Int.reduceNeg, h1, h2, h3, h4, h5, n0, n1, n2]
          refine cE_cl (fs := [.agg (fieldC x p)]) (cs := []) (in_ok x p) ?_
          simp only [go_sem, reduceIte, Nat.reduceEqDiff, Nat.reduceAdd, Nat.reduceSub, Nat.reduceMul, Nat.reduceLT, Nat.reduceLeDiff, Nat.reducePow, Int.reduceToNat, Int.reduceLT, Int.reduceLE, Int.reduceEq, Int.reduceNe, Int.reduceAdd, Int.reduceSub, Int.reduceMul, Int.reduceNeg, h1, h2, h3, h4, h5, n0, n1, n2]
          refine cE_vn (bits1_ok _ _) ?_
          simp only [go_sem, reduceIte, Nat.reduceEqDiff, Nat.reduceAdd, Nat.reduceSub, Nat.reduceMul, Nat.reduceLT, Nat.reduceLeDiff, Nat.reducePow, Int.reduceToNat, Int.reduceLT, Int.reduceLE, Int.reduceEq, Int.reduceNe, Int.reduceAdd, Int.reduceSub, Int.reduceMul, Int.reduceNeg, h1, h2, h3, h4, h5, n0, n1, n2]
          rw [code_or]
          refine finK_drop ⟨?_, rfl, rfl⟩
          rw [atomT, ef]; simp only [if_neg k4, if_neg k6, if_pos k2]
          rw [inn_u]; simp only [Bool.or_false, Bool.false_or]; rfl
      · simp only [go_sem, reduceIte, Nat.reduceEqDiff, Nat.reduceAdd, Nat.reduceSub, Nat.reduceMul, Nat.reduceLT, Nat.reduceLeDiff, Nat.reducePow, Int.reduceToNat, Int.reduceLT, Int.reduceLE, Int.reduceEq, Int.reduceNe, Int.reduceAdd, Int.reduceSub, Int.reduceMul, Int.reduceNeg, h1, h2, h3, h4, h5, n0, n1, n2]
        refine cd_dec (fun k3 => ?_) (fun k3 => ?_)
        · simp only [go_sem, reduceIte, Nat.reduceEqDiff, Nat.reduceAdd, Nat.reduceSub, Nat.reduceMul, Nat.reduceLT, Nat.reduceLeDiff, Nat.reducePow, Int.reduceToNat, Int.reduceLT, Int.reduceLE, Int.reduceEq, Int.reduceNe, Int.reduceAdd, Int.reduceSub, Int.reduceMul, Int.reduceNeg, h1, h2, h3, h4, h5, n0, n1, n2]
          refine ⟨fun h => by rw [h]; rfl, cd_b (fun k5 => ?_) (fun k5 => ?_)⟩
          · have k6 : (u.rows ≤ x.nulls ∨ x.min.null = true) ∨ x.max.null = true := by simpa [Bool.or_eq_true] using k5
            simp only [go_sem, reduceIte, Nat.reduceEqDiff, Nat.reduceAdd, Nat.reduceSub, Nat.reduceMul, Nat.reduceLT, Nat.reduceLeDiff, Nat.reducePow, Int.reduceToNat, Int.reduceLT, Int.reduceLE, Int.reduceEq, Int.reduceNe, Int.reduceAdd, Int.reduceSub, Int.reduceMul, Int.reduceNeg, h1, h2, h3, h4, h5, n0, n1, n2]
            refine cK_vn (bits1_ok _ _) ?_
            simp only [go_sem, reduceIte, Nat.reduceEqDiff, Nat.reduceAdd, Nat.reduceSub, Nat.reduceMul, Nat.reduceLT, Nat.reduceLeDiff, Nat.reducePow, Int.reduceToNat, Int.reduceLT, Int.reduceLE, Int.reduceEq, Int.reduceNe, Int.reduceAdd, Int.reduceSub, Int.reduceMul, Int.reduceNeg, h1, h2, h3, h4, h5, n0, n1, n2]
            exact finK_drop ⟨by rw [atomT, ef]; simp only [if_neg k4, if_pos k6]; rfl, rfl, rfl⟩
          · have k6 : ¬ ((u.rows ≤ x.nulls ∨ x.min.null = true) ∨ x.max.null = true) := by simpa [Bool.or_eq_false_iff] using k5
            simp only [go_sem, reduceIte, Nat.reduceEqDiff, Nat.reduceAdd, Nat.reduceSub, Nat.reduceMul, Nat.reduceLT, Nat.reduceLeDiff, Nat.reducePow, Int.reduceToNat, Int.reduceLT, Int.reduceLE, Int.reduceEq, Int.reduceNe, Int.reduceAdd, Int.reduceSub, Int.reduceMul, Int.reduceNeg, h1, h2, h3, h4, h5, n0, n1, n2]
            refine cE_cl (fs := [.agg (fieldC x p)]) (cs := []) (prefix_ok x p) ?_
            simp only [go_sem, reduceIte, Nat.reduceEqDiff, Nat.reduceAdd, Nat.reduceSub, Nat.reduceMul, Nat.reduceLT, Nat.reduceLeDiff, Nat.reducePow, Int.reduceToNat, Int.reduceLT, Int.reduceLE, Int.reduceEq, Int.reduceNe, Int.reduceAdd, Int.reduceSub, Int.reduceMul, Int.reduceNeg, h1, h2, h3, h4, h5, n0, n1, n2]
            refine cE_vn (bits1_ok _ _) ?_
            simp only [go_sem, reduceIte, Nat.reduceEqDiff, Nat.reduceAdd, Nat.reduceSub, Nat.reduceMul, Nat.reduceLT, Nat.reduceLeDiff, Nat.reducePow, Int.reduceToNat, Int.reduceLT, Int.reduceLE, Int.reduceEq, Int.reduceNe, Int.reduceAdd, Int.reduceSub, Int.reduceMul, Int.reduceNeg, h1, h2, h3, h4, h5, n0, n1, n2]
            rw [code_or]
            refine finK_drop ⟨?_, rfl, rfl⟩
            rw [atomT, ef]; simp only [if_neg k4, if_neg k6, if_neg k2, if_pos k3]
            rw [pfx_u]; simp only [Bool.or_false, Bool.false_or]; rfl
        · simp only [go_sem, reduceIte, Nat.reduceEqDiff, Nat.reduceAdd, Nat.reduceSub, Nat.reduceMul, Nat.reduceLT, Nat.reduceLeDiff, Nat.reducePow, Int.reduceToNat, Int.reduceLT, Int.reduceLE, Int.reduceEq, Int.reduceNe, Int.reduceAdd, Int.reduceSub, Int.reduceMul, Int.reduceNeg, h1, h2, h3, h4, h5, n0, n1, n2]
          refine ⟨fun h => by rw [h]; rfl, cd_b (fun k5 => ?_) (fun k5 => ?_)⟩
          · have k6 : (u.rows ≤ x.nulls ∨ x.min.null = true) ∨ x.max.null = true := by simpa [Bool.or_eq_true] using k5
            simp only [go_sem, reduceIte, Nat.reduceEqDiff, Nat.reduceAdd, Nat.reduceSub, Nat.reduceMul, Nat.reduceLT, Nat.reduceLeDiff, Nat.reducePow, Int.reduceToNat, Int.reduceLT, Int.reduceLE, Int.reduceEq, Int.reduceNe, Int.reduceAdd, Int.reduceSub, Int.reduceMul, Int.reduceNeg, h1, h2, h3, h4, h5, n0, n1, n2]
            refine cK_vn (bits1_ok _ _) ?_
            simp only [go_sem, reduceIte, Nat.reduceEqDiff, Nat.reduceAdd, Nat.reduceSub, Nat.reduceMul, Nat.reduceLT, Nat.reduceLeDiff, Nat.reducePow, Int.reduceToNat, Int.reduceLT, Int.reduceLE, Int.reduceEq, Int.reduceNe, Int.reduceAdd, Int.reduceSub, Int.reduceMul, Int.reduceNeg, h1, h2, h3, h4, h5, n0, n1, n2]
            exact finK_drop ⟨by rw [atomT, ef]; simp only [if_neg k4, if_pos k6]; rfl, rfl, rfl⟩
          · have k6 : ¬ ((u.rows ≤ x.nulls ∨ x.min.null = true) ∨ x.max.null = true) := by simpa [Bool.or_eq_false_iff] using k5
            simp only [go_sem, reduceIte, Nat.reduceEqDiff, Nat.reduceAdd, Nat.reduceSub, Nat.reduceMul, Nat.reduceLT, Nat.reduceLeDiff, Nat.reducePow, Int.reduceToNat, Int.reduceLT, Int.reduceLE, Int.reduceEq, Int.reduceNe, Int.reduceAdd, Int.reduceSub, Int.reduceMul, Int.reduceNeg, h1, h2, h3, h4, h5, n0, n1, n2]
            refine cE_cl (fs := [.agg (fieldC x p)]) (cs := []) (between_ok x p) ?_
            simp only [go_sem, reduceIte, Nat.reduceEqDiff, Nat.reduceAdd, Nat.reduceSub, Nat.reduceMul, Nat.reduceLT, Nat.reduceLeDiff, Nat.reducePow, Int.reduceToNat, Int.reduceLT, Int.reduceLE, Int.reduceEq, Int.reduceNe, Int.reduceAdd, Int.reduceSub, Int.reduceMul, Int.reduceNeg, h1, h2, h3, h4, h5, n0, n1, n2]
            refine cE_vn (bits1_ok _ _) ?_
            simp only [go_sem, reduceIte, Nat.reduceEqDiff, Nat.reduceAdd, Nat.reduceSub, Nat.reduceMul, Nat.reduceLT, Nat.reduceLeDiff, Nat.reducePow, Int.reduceToNat, Int.reduceLT, Int.reduceLE, Int.reduceEq, Int.reduceNe, Int.reduceAdd, Int.reduceSub, Int.reduceMul, Int.reduceNeg, h1, h2, h3, h4, h5, n0, n1, n2]
            rw [code_or]
            refine finK_drop ⟨?_, rfl, rfl⟩
            rw [atomT, ef]; simp only [if_neg k4, if_neg k6, if_neg k2, if_neg k3]
            rw [btw_u]; simp only [Bool.or_false, Bool.false_or]; rfl
end Go.Proofs.YtgkfcgfobckaaaaS
namespace Go.Proofs.YtgkfcgfobckaaaaS
open Go Go.Proofs.YtgkfcgfobckaaaaV

variable {G : Heap}

theorem code_and (a b : Tr) : bop .and .i64 a.code b.code = (Tr.mk (a.y && b.y) (a.n && b.n) (a.u && b.u)).code := by
  obtain ⟨a1, a2, a3⟩ := a; obtain ⟨b1, b2, b3⟩ := b
  cases a1 <;> cases a2 <;> cases a3 <;> cases b1 <;> cases b2 <;> cases b3 <;> decide
theorem and_n (a : Tr) : decide (0 < bop .and .i64 a.code 1) = a.n := by obtain ⟨a1, a2, a3⟩ := a; cases a1 <;> cases a2 <;> cases a3 <;> decide
theorem and_y (a : Tr) : decide (0 < bop .and .i64 a.code 2) = a.y := by obtain ⟨a1, a2, a3⟩ := a; cases a1 <;> cases a2 <;> cases a3 <;> decide
theorem and_u (a : Tr) : decide (0 < bop .and .i64 a.code 4) = a.u := by obtain ⟨a1, a2, a3⟩ := a; cases a1 <;> cases a2 <;> cases a3 <;> decide
theorem and_yu (a : Tr) : decide (0 < bop .and .i64 a.code 6) = (a.y || a.u) := by obtain ⟨a1, a2, a3⟩ := a; cases a1 <;> cases a2 <;> cases a3 <;> decide
theorem pos_y (y : Bool) : decide (0 < (Tr.mk y false false).code) = y := by cases y <;> decide
def Tr.turn (t : Tr) : Tr := ⟨t.n, t.y, t.u⟩
theorem turned_ok (t : Tr) : VN P G 55 [.int .i64 t.code] (.int .i64 t.turn.code) := by
  refine VC.ofs (fun | 99999999 => [(0, [0, 2])] | _ => []) [2] mixed Try.func55 rfl rfl rfl rfl (by decide +kernel) (by simp) ?_
  simp only [go_sem, reduceIte, Nat.reduceEqDiff, Nat.reduceAdd, Nat.reduceSub, Nat.reduceMul, Nat.reduceLT, Nat.reduceLeDiff, Nat.reducePow, Int.reduceToNat, Int.reduceLT, Int.reduceLE, Int.reduceEq, Int.reduceNe, Int.reduceAdd, Int.reduceSub, Int.reduceMul, Int.reduceNeg, and_n, and_y, and_u]
  refine cK_vn (bits3_ok _ _ _ _) ?_
  simp only [go_sem, reduceIte, Nat.reduceEqDiff, Nat.reduceAdd, Nat.reduceSub, Nat.reduceMul, Nat.reduceLT, Nat.reduceLeDiff, Nat.reducePow, Int.reduceToNat, Int.reduceLT, Int.reduceLE, Int.reduceEq, Int.reduceNe, Int.reduceAdd, Int.reduceSub, Int.reduceMul, Int.reduceNeg]
  exact finK_drop ⟨rfl, rfl, rfl⟩
def codeD (t : Tr) : D := .int .i64 t.code
def bothS (s : Tr × Bool) (t : Tr) : Tr × Bool := (⟨s.1.y && t.y, s.1.n || t.n, s.1.u || t.u⟩, s.2 && (t.y || t.u))
def bothT (l : List Tr) : Tr := let s := l.foldl bothS (⟨true, false, false⟩, true); ⟨s.1.y, s.1.n, s.2 && s.1.u⟩
theorem both_ok (tk : Tk) (l : List Tr) : VN P G 56 [.sl tk (l.map codeD)] (.int .i64 (bothT l).code) := by
  refine VC.small2 fun hsm => ?_
  have z1 := hsm (.sl tk (l.map codeD)) (List.mem_cons_self ..) (.sl tk (l.map codeD)) (by simp [D.cells])
  simp only [Small, mostLen, List.length_map] at z1
  clear hsm
  refine VC.ofs (fun | 99999999 => [(0, [0, 2, 3, 4, 5, 7, 8, 9, 10, 11])] | _ => []) [2] mixed Try.func56 rfl rfl rfl rfl (by decide +kernel) (by simp) ?_
  simp only [go_sem, reduceIte, Nat.reduceEqDiff, Nat.reduceAdd, Nat.reduceSub, Nat.reduceMul, Nat.reduceLT, Nat.reduceLeDiff, Nat.reducePow, Int.reduceToNat, Int.reduceLT, Int.reduceLE, Int.reduceEq, Int.reduceNe, Int.reduceAdd, Int.reduceSub, Int.reduceMul, Int.reduceNeg]
  refine vwq_loop (fun u => ∃ (j : Nat) (tk : Tk) (o : Tr) (y e : Bool), j ≤ l.length ∧ (l.drop j).foldl bothS (⟨y, o.n, o.u⟩, e) = l.foldl bothS (⟨true, false, false⟩, true) ∧ u.σ 3 = .int .i64 o.code ∧ u.σ 4 = .int .i64 (Tr.mk y false false).code ∧ u.σ 5 = .bool e ∧ u.σ 8 = .sl tk (l.map codeD) ∧ u.σ 9 = .int .i64 l.length ∧ u.σ 10 = .int .i64 j ∧ u.β = Heap.nil ∧ u.ω = []) (fun u => l.length - (ival (u.σ 10)).toNat) ?_ ?_
  · exact ⟨0, _, ⟨false, false, false⟩, true, true, by omega, rfl, rfl, rfl, rfl, rfl, by rw [← List.length_map (f := codeD)]; rfl, rfl, rfl, rfl⟩
  rintro σ β ω ⟨j, tk, o, y, e, hj, ho, q3, q4, q5, q8, q9, q10, rfl, rfl⟩
  dsimp only at q3 q4 q5 q8 q9 q10
  simp only [go_sem, reduceIte, Nat.reduceEqDiff, Nat.reduceAdd, Nat.reduceSub, Nat.reduceMul, Nat.reduceLT, Nat.reduceLeDiff, Nat.reducePow, Int.reduceToNat, Int.reduceLT, Int.reduceLE, Int.reduceEq, Int.reduceNe, Int.reduceAdd, Int.reduceSub, Int.reduceMul, Int.reduceNeg, q3, q4, q5, q8, q9, q10]
  refine cd_dec (fun g => ?_) (fun g => ?_)
  · obtain ⟨x, hx, ex⟩ := at_map (f := codeD) (l := l) (j := j) (by omega)
    simp only [codeD] at ex
    have hd : l.drop j = x :: l.drop (j + 1) := by
      obtain ⟨h1, h2⟩ := List.getElem?_eq_some_iff.1 hx
      rw [List.drop_eq_getElem_cons h1, h2]
    rw [hd, List.foldl_cons] at ho
    cases e
    all_goals simp only [go_sem, reduceIte, Nat.reduceEqDiff, Nat.reduceAdd, Nat.reduceSub, Nat.reduceMul, Nat.reduceLT, Nat.reduceLeDiff, Nat.reducePow, Int.reduceToNat, Int.reduceLT, Int.reduceLE, Int.reduceEq, Int.reduceNe, Int.reduceAdd, Int.reduceSub, Int.reduceMul, Int.reduceNeg, q3, q4, q5, q8, q9, q10, ex]
    all_goals rw [wrap_i64 (x := (j : Int) + 1) (by omega) (by omega)]
    · refine ⟨by rw [List.length_map]; omega, ⟨j + 1, tk, ⟨o.y || x.y, o.n || x.n, o.u || x.u⟩, y && x.y, (false && (x.y || x.u)), by omega, ho, ?_⟩, by omega⟩
      simp [code_or, code_and, and_yu]
    · refine ⟨by rw [List.length_map]; omega, ⟨j + 1, tk, ⟨o.y || x.y, o.n || x.n, o.u || x.u⟩, y && x.y, (true && (x.y || x.u)), by omega, ho, ?_⟩, by omega⟩
      simp [code_or, code_and, and_yu]
  · simp only [go_sem, reduceIte, Nat.reduceEqDiff, Nat.reduceAdd, Nat.reduceSub, Nat.reduceMul, Nat.reduceLT, Nat.reduceLeDiff, Nat.reducePow, Int.reduceToNat, Int.reduceLT, Int.reduceLE, Int.reduceEq, Int.reduceNe, Int.reduceAdd, Int.reduceSub, Int.reduceMul, Int.reduceNeg, q3, q4, q5, q8, q9, q10, and_n, and_u, pos_y]
    refine cK_vn (bits3_ok _ _ _ _) ?_
    simp only [go_sem, reduceIte, Nat.reduceEqDiff, Nat.reduceAdd, Nat.reduceSub, Nat.reduceMul, Nat.reduceLT, Nat.reduceLeDiff, Nat.reducePow, Int.reduceToNat, Int.reduceLT, Int.reduceLE, Int.reduceEq, Int.reduceNe, Int.reduceAdd, Int.reduceSub, Int.reduceMul, Int.reduceNeg]
    rw [List.drop_eq_nil_of_le (by omega)] at ho
    refine finK_drop ⟨?_, rfl, rfl⟩
    rw [bothT, ← ho]
    rfl
end Go.Proofs.YtgkfcgfobckaaaaS
