/-
  Predicates: the small makers of fenlandlaw08 (op, not, between, null, equal), fenlandref08.Values and Same.
-/
import Derived.Test.YtbfkhepfgibonaaGreatQ1
set_option linter.unusedVariables false
set_option linter.unusedSimpArgs false
namespace Go.Proofs.YtbfkhepfgibonaaGreatS
open Go Go.Proofs.YtbfkhepfgibonaaGreatV

variable {G : Heap}
attribute [local irreducible] VN VC VX VQ VY VW

/-- A predicate with parts. -/
def opP (o : Int) (l : List Pr) : Pr := .mk o 0 0 0 [] ByteArray.empty l
def notP (p : Pr) : Pr := opP 7 [p]
theorem op_ok (o : Int) (tk : Tk) (l : List Pr) (ds : List D) (h : ds = l.map Pr.d) : VN P G 29 [.int .i64 o, .sl tk ds] (.agg (opP o l).cells) := by
  subst h
  unfold VN
  refine VC.ofc (fun | 99999999 => [(0, [0, 1, 4])] | _ => []) [.cell 4 25] mixed Tryz.func29 rfl rfl rfl rfl (by decide +kernel) (by simp) ?_
  simp only [go_sem, reduceIte, Nat.reduceEqDiff, Nat.reduceAdd, Nat.reduceSub, Nat.reduceMul, Nat.reduceLT, Nat.reduceLeDiff, Nat.reducePow, Int.reduceToNat, Int.reduceLT, Int.reduceLE, Int.reduceEq, Int.reduceNe, Int.reduceAdd, Int.reduceSub, Int.reduceMul, Int.reduceNeg]
  intro b
  exact finK_drop ⟨rfl, rfl, rfl⟩
theorem not_ok (p : Pr) : VN P G 28 [.agg p.cells] (.agg (notP p).cells) := by
  have h := op_ok (G := G) 7 .full [p] [.agg p.cells] (by simp [Pr.d_eq])
  unfold VN
  refine VC.ofc (fun | 99999999 => [(0, [0, 1, 2])] | _ => []) [.cell 2 25] mixed Tryz.func28 rfl rfl rfl rfl (by decide +kernel) (by simp) ?_
  simp only [go_sem, reduceIte, Nat.reduceEqDiff, Nat.reduceAdd, Nat.reduceSub, Nat.reduceMul, Nat.reduceLT, Nat.reduceLeDiff, Nat.reducePow, Int.reduceToNat, Int.reduceLT, Int.reduceLE, Int.reduceEq, Int.reduceNe, Int.reduceAdd, Int.reduceSub, Int.reduceMul, Int.reduceNeg]
  refine fun b1 => new_1 fun b2 q1 q2 => ?_
  try simp only [go_sem, reduceIte, Nat.reduceEqDiff, Nat.reduceAdd, Nat.reduceSub, Nat.reduceMul, Nat.reduceLT, Nat.reduceLeDiff, Nat.reducePow, Int.reduceToNat, Int.reduceLT, Int.reduceLE, Int.reduceEq, Int.reduceNe, Int.reduceAdd, Int.reduceSub, Int.reduceMul, Int.reduceNeg, q1, q2]
  refine cK_vn h ?_
  try simp only [go_sem, reduceIte, Nat.reduceEqDiff, Nat.reduceAdd, Nat.reduceSub, Nat.reduceMul, Nat.reduceLT, Nat.reduceLeDiff, Nat.reducePow, Int.reduceToNat, Int.reduceLT, Int.reduceLE, Int.reduceEq, Int.reduceNe, Int.reduceAdd, Int.reduceSub, Int.reduceMul, Int.reduceNeg, q1, q2]
  exact finK_drop ⟨rfl, rfl, rfl⟩
theorem Values_refl (tk tk' : Tk) (l : List Vl) : VN P G 61 [.sl tk (l.map Vl.d), .sl tk' (l.map Vl.d)] (.bool true) := by
  unfold VN
  refine VC.small2 fun hsm => ?_
  have z1 := hsm (.sl tk (l.map Vl.d)) (List.mem_cons_self ..) (.sl tk (l.map Vl.d)) (by simp [D.cells])
  simp only [Small, mostLen, List.length_map] at z1
  clear hsm
  refine VC.ofs (fun | 6 => [(0, []), (1, []), (2, []), (3, []), (4, []), (5, []), (6, []), (7, []), (8, [])] | 99999999 => [(0, [0, 1, 4, 5, 10, 14, 25])] | _ => []) [4] mixed Tryz.func61 rfl rfl rfl rfl (by decide +kernel) (by simp) ?_
  have el : (l.map Vl.d).length = l.length := by simp
  simp only [go_sem, reduceIte, Nat.reduceEqDiff, Nat.reduceAdd, Nat.reduceSub, Nat.reduceMul, Nat.reduceLT, Nat.reduceLeDiff, Nat.reducePow, Int.reduceToNat, Int.reduceLT, Int.reduceLE, Int.reduceEq, Int.reduceNe, Int.reduceAdd, Int.reduceSub, Int.reduceMul, Int.reduceNeg, ne_eq, not_true_eq_false, el]
  refine vwq_loop (fun v => ∃ (j : Nat), j ≤ l.length ∧ v.σ 0 = .sl tk (l.map Vl.d) ∧ v.σ 1 = .sl tk' (l.map Vl.d) ∧ v.σ 5 = .int .i64 j ∧ v.β = Heap.nil ∧ v.ω = []) (fun v => l.length - (ival (v.σ 5)).toNat) ⟨0, by omega, rfl, rfl, rfl, rfl, rfl⟩ ?_
  rintro σ β ω ⟨j, hj, q0, q1, q5, rfl, rfl⟩
  dsimp only at q0 q1 q5
  try simp only [go_sem, reduceIte, Nat.reduceEqDiff, Nat.reduceAdd, Nat.reduceSub, Nat.reduceMul, Nat.reduceLT, Nat.reduceLeDiff, Nat.reducePow, Int.reduceToNat, Int.reduceLT, Int.reduceLE, Int.reduceEq, Int.reduceNe, Int.reduceAdd, Int.reduceSub, Int.reduceMul, Int.reduceNeg, q0, q1, q5, el]
  refine cd_dec (fun g => ?_) (fun g => ?_)
  · have g' := eq_true g
    obtain ⟨x, hx, ex⟩ := Vl_at (l := l) (j := j) (by omega)
    have c1 : ((0 : Int) ≤ j) = True := eq_true (by omega)
    have wj := wrap_i64 (x := (j : Int) + 1) (by omega) (by omega)
    try simp only [go_sem, reduceIte, Nat.reduceEqDiff, Nat.reduceAdd, Nat.reduceSub, Nat.reduceMul, Nat.reduceLT, Nat.reduceLeDiff, Nat.reducePow, Int.reduceToNat, Int.reduceLT, Int.reduceLE, Int.reduceEq, Int.reduceNe, Int.reduceAdd, Int.reduceSub, Int.reduceMul, Int.reduceNeg, q0, q1, q5, el, ex, c1, g', wj]
    exact ⟨⟨j + 1, by omega, rfl⟩, by omega⟩
  · try simp only [go_sem, reduceIte, Nat.reduceEqDiff, Nat.reduceAdd, Nat.reduceSub, Nat.reduceMul, Nat.reduceLT, Nat.reduceLeDiff, Nat.reducePow, Int.reduceToNat, Int.reduceLT, Int.reduceLE, Int.reduceEq, Int.reduceNe, Int.reduceAdd, Int.reduceSub, Int.reduceMul, Int.reduceNeg, q0, q1, q5]
    exact finK_drop ⟨rfl, rfl, rfl⟩
theorem Same_refl : ∀ (n : Nat) (p : Pr), SizeOf.sizeOf p ≤ n → VN P G 25 [.agg p.cells, .agg p.cells] (.bool true)
  | 0, p, h => by cases p; simp at h
  | n + 1, p, hn => by
    have ih := fun k hk => Same_refl n k (Nat.le_of_lt_succ (Nat.lt_of_lt_of_le (Pr.kid_lt (p := p) hk) hn))
    have hv := Values_refl (G := G) .none .none p.set
    unfold VN
    refine VC.small2 fun hsm => ?_
    have z1 := hsm (.agg p.cells) (List.mem_cons_self ..) (.sl .none (p.kids.map Pr.d)) (by simp [D.cells, Pr.cells])
    simp only [Small, mostLen, List.length_map] at z1
    clear hsm
    refine VC.ofs (fun | 6 => [(0, []), (1, []), (2, []), (3, []), (4, []), (5, []), (6, []), (7, []), (8, []), (9, []), (10, []), (11, [])] | 99999999 => [(0, [0, 1, 2, 3, 4, 5, 55, 60, 74])] | _ => []) [4] mixed Tryz.func25 rfl rfl rfl rfl (by decide +kernel) (by simp) ?_
    have el : (p.kids.map Pr.d).length = p.kids.length := by simp
    simp only [go_sem, reduceIte, Nat.reduceEqDiff, Nat.reduceAdd, Nat.reduceSub, Nat.reduceMul, Nat.reduceLT, Nat.reduceLeDiff, Nat.reducePow, Int.reduceToNat, Int.reduceLT, Int.reduceLE, Int.reduceEq, Int.reduceNe, Int.reduceAdd, Int.reduceSub, Int.reduceMul, Int.reduceNeg]
    refine fun b1 => new_1 fun b2 q1 q2 => ?_
    have N := And.intro q1 q2
    try simp only [go_sem, reduceIte, Nat.reduceEqDiff, Nat.reduceAdd, Nat.reduceSub, Nat.reduceMul, Nat.reduceLT, Nat.reduceLeDiff, Nat.reducePow, Int.reduceToNat, Int.reduceLT, Int.reduceLE, Int.reduceEq, Int.reduceNe, Int.reduceAdd, Int.reduceSub, Int.reduceMul, Int.reduceNeg, q1, q2, ne_eq, not_true_eq_false, decide_false, el]
    refine cK_vn hv ?_
    try simp only [go_sem, reduceIte, Nat.reduceEqDiff, Nat.reduceAdd, Nat.reduceSub, Nat.reduceMul, Nat.reduceLT, Nat.reduceLeDiff, Nat.reducePow, Int.reduceToNat, Int.reduceLT, Int.reduceLE, Int.reduceEq, Int.reduceNe, Int.reduceAdd, Int.reduceSub, Int.reduceMul, Int.reduceNeg, q1, q2, ne_eq, not_true_eq_false, decide_false, el]
    refine vwq_loop (fun v => ∃ (j : Nat), j ≤ p.kids.length ∧ v.σ 2 = .pb b1 0 ∧ v.σ 3 = .pb b2 0 ∧ v.σ 5 = .int .i64 j ∧ v.β b1 = some p.cells ∧ v.β b2 = some p.cells ∧ v.ω = []) (fun v => p.kids.length - (ival (v.σ 5)).toNat) ⟨0, by omega, rfl, rfl, rfl, by simp [Heap.set, q1, q2], by simp [Heap.set], rfl⟩ ?_
    rintro σ β ω ⟨j, hj, q2, q3, q5, e1, e2, rfl⟩
    dsimp only at q2 q3 q5 e1 e2
    try simp only [go_sem, reduceIte, Nat.reduceEqDiff, Nat.reduceAdd, Nat.reduceSub, Nat.reduceMul, Nat.reduceLT, Nat.reduceLeDiff, Nat.reducePow, Int.reduceToNat, Int.reduceLT, Int.reduceLE, Int.reduceEq, Int.reduceNe, Int.reduceAdd, Int.reduceSub, Int.reduceMul, Int.reduceNeg, q2, q3, q5, el, e1, e2]
    refine cd_dec (fun g => ?_) (fun g => ?_)
    · have g' := eq_true g
      obtain ⟨x, hx, ex⟩ := Pr_pat (ps := p.kids) (j := j) (by omega)
      have hm := ih x (List.mem_of_getElem? hx)
      have c1 : ((0 : Int) ≤ j) = True := eq_true (by omega)
      have wj := wrap_i64 (x := (j : Int) + 1) (by omega) (by omega)
      try simp only [go_sem, reduceIte, Nat.reduceEqDiff, Nat.reduceAdd, Nat.reduceSub, Nat.reduceMul, Nat.reduceLT, Nat.reduceLeDiff, Nat.reducePow, Int.reduceToNat, Int.reduceLT, Int.reduceLE, Int.reduceEq, Int.reduceNe, Int.reduceAdd, Int.reduceSub, Int.reduceMul, Int.reduceNeg, q2, q3, q5, el, e1, e2, ex, c1, g', wj]
      refine cE_vn hm ?_
      try simp only [go_sem, reduceIte, Nat.reduceEqDiff, Nat.reduceAdd, Nat.reduceSub, Nat.reduceMul, Nat.reduceLT, Nat.reduceLeDiff, Nat.reducePow, Int.reduceToNat, Int.reduceLT, Int.reduceLE, Int.reduceEq, Int.reduceNe, Int.reduceAdd, Int.reduceSub, Int.reduceMul, Int.reduceNeg, q2, q3, q5, el, e1, e2, ex, c1, g', wj]
      exact ⟨⟨j + 1, by omega, rfl⟩, by omega⟩
    · try simp only [go_sem, reduceIte, Nat.reduceEqDiff, Nat.reduceAdd, Nat.reduceSub, Nat.reduceMul, Nat.reduceLT, Nat.reduceLeDiff, Nat.reducePow, Int.reduceToNat, Int.reduceLT, Int.reduceLE, Int.reduceEq, Int.reduceNe, Int.reduceAdd, Int.reduceSub, Int.reduceMul, Int.reduceNeg, q2, q3, q5]
      exact finK_drop ⟨rfl, rfl, rfl⟩
theorem rSame_ok (p : Pr) : VN P G 25 [.agg p.cells, .agg p.cells] (.bool true) := Same_refl _ p (Nat.le_refl _)
end Go.Proofs.YtbfkhepfgibonaaGreatS
