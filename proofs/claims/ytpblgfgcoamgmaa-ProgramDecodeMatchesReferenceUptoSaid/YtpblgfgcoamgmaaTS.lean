/-
  Programs: equal programs, rows and tables are found equal (fenlandref09.Same, fenlandref06.SameRow, SameRows, fenlandref27.Same, SameTable, SameEvents).
  Conditions: none.
-/
import Derived.Test.YtpblgfgcoamgmaaTA
set_option linter.unusedVariables false
set_option linter.unusedSimpArgs false
namespace Go.Proofs.YtpblgfgcoamgmaaS
open Go Go.Proofs.YtpblgfgcoamgmaaV

variable {G : Heap}
attribute [local irreducible] VN VC VX VQ VY VW VTA VT0 VPP VP

theorem guardCl : P.eqGuardType P.depth 40 = false := by decide +kernel
theorem stoodCl : P.stoodInHeld 40 = false := by decide +kernel
theorem eqvCl (i i' : Int) (a a' : Bool) (b b' : Int) (s s' : ByteArray) : eqv P 6 40 (.agg [.int .i64 i, .bool a, .int .i64 b, .str s]) (.agg [.int .i64 i', .bool a', .int .i64 b', .str s']) = (decide (i = i' ∧ a = a' ∧ b = b' ∧ s = s'), True) := by
  simp only [eqv, eqF, Try.underlying40, Try.underlying3, Try.underlying38, stoodCl]
  simp only [go_sem, reduceIte, Nat.reduceEqDiff, Nat.reduceAdd, Nat.reduceSub, Nat.reduceMul, Nat.reduceLT, Nat.reduceLeDiff, Nat.reducePow, Int.reduceToNat, Int.reduceLT, Int.reduceLE, Int.reduceEq, Int.reduceNe, Int.reduceAdd, Int.reduceSub, Int.reduceMul, Int.reduceNeg]
  simp only [eqv, eqF, Try.underlying38, Try.underlying4, Try.underlying2, Try.underlying3, Try.underlying9, stoodVl]
  simp only [go_sem, reduceIte, Nat.reduceEqDiff, Nat.reduceAdd, Nat.reduceSub, Nat.reduceMul, Nat.reduceLT, Nat.reduceLeDiff, Nat.reducePow, Int.reduceToNat, Int.reduceLT, Int.reduceLE, Int.reduceEq, Int.reduceNe, Int.reduceAdd, Int.reduceSub, Int.reduceMul, Int.reduceNeg]
  simp only [eqv, eqF, Try.underlying38, Try.underlying4, Try.underlying2, Try.underlying3, Try.underlying9, stoodVl]
  refine Prod.ext ?_ (by simp)
  dsimp only
  rw [Bool.eq_iff_iff]
  simp only [Bool.and_eq_true, beq_iff_eq, decide_eq_true_eq, str_beq, and_assoc, and_true]
attribute [go_sem] eqvCl guardCl
theorem SameRow_refl (r : Rw) : VN P G 33 [.agg [.sl .none (r.map clD)], .agg [.sl .none (r.map clD)]] (.bool true) := by
  unfold VN
  refine VC.small2 fun hsm => ?_
  have z1 := hsm (.agg [.sl .none (r.map clD)]) (List.mem_cons_self ..) (.sl .none (r.map clD)) (by simp [D.cells])
  simp only [Small, mostLen, List.length_map] at z1
  clear hsm
  refine VC.ofs (fun | 6 => [(0, []), (1, []), (2, []), (3, []), (4, []), (5, []), (6, []), (7, []), (8, []), (9, []), (10, [])] | 99999999 => [(0, [0, 1, 2, 3, 4, 5, 12, 17, 30])] | _ => []) [4] mixed Try.func33 rfl rfl rfl rfl (by decide +kernel) (by simp) ?_
  have el : (r.map clD).length = r.length := by simp
  simp only [go_sem, reduceIte, Nat.reduceEqDiff, Nat.reduceAdd, Nat.reduceSub, Nat.reduceMul, Nat.reduceLT, Nat.reduceLeDiff, Nat.reducePow, Int.reduceToNat, Int.reduceLT, Int.reduceLE, Int.reduceEq, Int.reduceNe, Int.reduceAdd, Int.reduceSub, Int.reduceMul, Int.reduceNeg]
  refine fun b1 => new_1 fun b2 q1 q2 => ?_
  try simp only [go_sem, reduceIte, Nat.reduceEqDiff, Nat.reduceAdd, Nat.reduceSub, Nat.reduceMul, Nat.reduceLT, Nat.reduceLeDiff, Nat.reducePow, Int.reduceToNat, Int.reduceLT, Int.reduceLE, Int.reduceEq, Int.reduceNe, Int.reduceAdd, Int.reduceSub, Int.reduceMul, Int.reduceNeg, q1, q2, ne_eq, not_true_eq_false, decide_false, el]
  refine vwq_loop (fun v => ∃ (j : Nat), j ≤ r.length ∧ v.σ 2 = .pb b1 0 ∧ v.σ 3 = .pb b2 0 ∧ v.σ 5 = .int .i64 j ∧ v.β b1 = some [.sl .none (r.map clD)] ∧ v.β b2 = some [.sl .none (r.map clD)] ∧ v.ω = []) (fun v => r.length - (ival (v.σ 5)).toNat) ⟨0, by omega, rfl, rfl, rfl, by simp [Heap.set, q1, q2], by simp [Heap.set], rfl⟩ ?_
  rintro σ β ω ⟨j, hj, q2, q3, q5, e1, e2, rfl⟩
  dsimp only at q2 q3 q5 e1 e2
  try simp only [go_sem, reduceIte, Nat.reduceEqDiff, Nat.reduceAdd, Nat.reduceSub, Nat.reduceMul, Nat.reduceLT, Nat.reduceLeDiff, Nat.reducePow, Int.reduceToNat, Int.reduceLT, Int.reduceLE, Int.reduceEq, Int.reduceNe, Int.reduceAdd, Int.reduceSub, Int.reduceMul, Int.reduceNeg, q2, q3, q5, el, e1, e2]
  refine cd_dec (fun g => ?_) (fun g => ?_)
  · have g' := eq_true g
    obtain ⟨x, hx, ex⟩ := Cl_at (l := r) (j := j) (by omega)
    have c1 : ((0 : Int) ≤ j) = True := eq_true (by omega)
    have wj := wrap_i64 (x := (j : Int) + 1) (by omega) (by omega)
    try simp only [go_sem, reduceIte, Nat.reduceEqDiff, Nat.reduceAdd, Nat.reduceSub, Nat.reduceMul, Nat.reduceLT, Nat.reduceLeDiff, Nat.reducePow, Int.reduceToNat, Int.reduceLT, Int.reduceLE, Int.reduceEq, Int.reduceNe, Int.reduceAdd, Int.reduceSub, Int.reduceMul, Int.reduceNeg, q2, q3, q5, el, e1, e2, ex, c1, g', wj, ne_eq]
    exact ⟨⟨j + 1, by omega, rfl⟩, by omega⟩
  · try simp only [go_sem, reduceIte, Nat.reduceEqDiff, Nat.reduceAdd, Nat.reduceSub, Nat.reduceMul, Nat.reduceLT, Nat.reduceLeDiff, Nat.reducePow, Int.reduceToNat, Int.reduceLT, Int.reduceLE, Int.reduceEq, Int.reduceNe, Int.reduceAdd, Int.reduceSub, Int.reduceMul, Int.reduceNeg, q2, q3, q5]
    exact finK_drop ⟨rfl, rfl, rfl⟩
theorem SameRows_refl (tk tk' : Tk) (l : List Rw) : VN P G 26 [.sl tk (l.map rwD), .sl tk' (l.map rwD)] (.bool true) := by
  unfold VN
  refine VC.small2 fun hsm => ?_
  have z1 := hsm (.sl tk (l.map rwD)) (List.mem_cons_self ..) (.sl tk (l.map rwD)) (by simp [D.cells])
  simp only [Small, mostLen, List.length_map] at z1
  clear hsm
  refine VC.ofs (fun | 6 => [(0, []), (1, []), (2, []), (3, []), (4, []), (5, []), (6, []), (7, []), (8, []), (9, [])] | 99999999 => [(0, [0, 1, 4, 5, 6, 11, 15, 28])] | _ => []) [4] mixed Try.func26 rfl rfl rfl rfl (by decide +kernel) (by simp) ?_
  have el : (l.map rwD).length = l.length := by simp
  simp only [go_sem, reduceIte, Nat.reduceEqDiff, Nat.reduceAdd, Nat.reduceSub, Nat.reduceMul, Nat.reduceLT, Nat.reduceLeDiff, Nat.reducePow, Int.reduceToNat, Int.reduceLT, Int.reduceLE, Int.reduceEq, Int.reduceNe, Int.reduceAdd, Int.reduceSub, Int.reduceMul, Int.reduceNeg, ne_eq, not_true_eq_false, el]
  refine vwq_loop (fun v => ∃ (j : Nat), j ≤ l.length ∧ v.σ 0 = .sl tk (l.map rwD) ∧ v.σ 1 = .sl tk' (l.map rwD) ∧ v.σ 5 = .int .i64 j ∧ v.ω = []) (fun v => l.length - (ival (v.σ 5)).toNat) ⟨0, by omega, rfl, rfl, rfl, rfl⟩ ?_
  rintro σ β ω ⟨j, hj, q0, q1, q5, rfl⟩
  dsimp only at q0 q1 q5
  try simp only [go_sem, reduceIte, Nat.reduceEqDiff, Nat.reduceAdd, Nat.reduceSub, Nat.reduceMul, Nat.reduceLT, Nat.reduceLeDiff, Nat.reducePow, Int.reduceToNat, Int.reduceLT, Int.reduceLE, Int.reduceEq, Int.reduceNe, Int.reduceAdd, Int.reduceSub, Int.reduceMul, Int.reduceNeg, q0, q1, q5, el]
  refine cd_dec (fun g => ?_) (fun g => ?_)
  · have g' := eq_true g
    obtain ⟨x, hx, ex⟩ := Rw_at (l := l) (j := j) (by omega)
    have hm := SameRow_refl (G := G) x
    have c1 : ((0 : Int) ≤ j) = True := eq_true (by omega)
    have wj := wrap_i64 (x := (j : Int) + 1) (by omega) (by omega)
    try simp only [go_sem, reduceIte, Nat.reduceEqDiff, Nat.reduceAdd, Nat.reduceSub, Nat.reduceMul, Nat.reduceLT, Nat.reduceLeDiff, Nat.reducePow, Int.reduceToNat, Int.reduceLT, Int.reduceLE, Int.reduceEq, Int.reduceNe, Int.reduceAdd, Int.reduceSub, Int.reduceMul, Int.reduceNeg, q0, q1, q5, el, ex, c1, g', wj]
    (first | refine cK_vn (hm) ?_ | refine cE_vn (hm) ?_)
    try simp only [go_sem, reduceIte, Nat.reduceEqDiff, Nat.reduceAdd, Nat.reduceSub, Nat.reduceMul, Nat.reduceLT, Nat.reduceLeDiff, Nat.reducePow, Int.reduceToNat, Int.reduceLT, Int.reduceLE, Int.reduceEq, Int.reduceNe, Int.reduceAdd, Int.reduceSub, Int.reduceMul, Int.reduceNeg, q0, q1, q5, el, ex, c1, g', wj]
    exact ⟨⟨j + 1, by omega, rfl⟩, by omega⟩
  · try simp only [go_sem, reduceIte, Nat.reduceEqDiff, Nat.reduceAdd, Nat.reduceSub, Nat.reduceMul, Nat.reduceLT, Nat.reduceLeDiff, Nat.reducePow, Int.reduceToNat, Int.reduceLT, Int.reduceLE, Int.reduceEq, Int.reduceNe, Int.reduceAdd, Int.reduceSub, Int.reduceMul, Int.reduceNeg, q0, q1, q5]
    exact finK_drop ⟨rfl, rfl, rfl⟩
set_option maxRecDepth 100000 in
theorem Same9_refl : ∀ (n : Nat) (p : Pr), SizeOf.sizeOf p ≤ n → VN P G 25 [.agg p.cells, .agg p.cells] (.bool true)
  | 0, p, h => by cases p; simp at h
  | n + 1, p, hn => by
    have ih := fun k hk => Same9_refl n k (Nat.le_of_lt_succ (Nat.lt_of_lt_of_le (Pr.kid_lt (p := p) hk) hn))
    unfold VN
    refine VC.small2 fun hsm => ?_
    have z1 := hsm (.agg p.cells) (List.mem_cons_self ..) (.sl .none (p.kids.map Pr.d)) (by simp [D.cells, Pr.cells])
    have z2 := hsm (.agg p.cells) (List.mem_cons_self ..) (.sl .none (p.set.map Vl.d)) (by simp [D.cells, Pr.cells])
    simp only [Small, mostLen, List.length_map] at z1 z2
    clear hsm
    refine VC.ofs (fun | 6 => [(0, []), (1, []), (2, []), (3, []), (4, []), (5, []), (6, []), (7, []), (8, []), (9, []), (10, [])] | 11 => [(0, []), (1, []), (2, []), (3, []), (4, []), (5, []), (6, []), (7, []), (8, []), (9, []), (10, []), (11, [])] | 99999999 => [(0, [0, 1, 2, 3, 4, 5, 6, 7, 58, 63, 76, 81, 96])] | _ => []) [4] mixed Try.func25 rfl rfl rfl rfl (by decide +kernel) (by simp) ?_
    have el : (p.kids.map Pr.d).length = p.kids.length := by simp
    have em : (p.set.map Vl.d).length = p.set.length := by simp
    simp only [go_sem, reduceIte, Nat.reduceEqDiff, Nat.reduceAdd, Nat.reduceSub, Nat.reduceMul, Nat.reduceLT, Nat.reduceLeDiff, Nat.reducePow, Int.reduceToNat, Int.reduceLT, Int.reduceLE, Int.reduceEq, Int.reduceNe, Int.reduceAdd, Int.reduceSub, Int.reduceMul, Int.reduceNeg]
    refine fun b1 => new_1 fun b2 q1 q2 => ?_
    have N := And.intro q1 q2
    try simp only [go_sem, reduceIte, Nat.reduceEqDiff, Nat.reduceAdd, Nat.reduceSub, Nat.reduceMul, Nat.reduceLT, Nat.reduceLeDiff, Nat.reducePow, Int.reduceToNat, Int.reduceLT, Int.reduceLE, Int.reduceEq, Int.reduceNe, Int.reduceAdd, Int.reduceSub, Int.reduceMul, Int.reduceNeg, q1, q2, ne_eq, not_true_eq_false, decide_false, el, em]
    refine vwq_loop (fun v => ∃ (j : Nat), j ≤ p.set.length ∧ v.σ 2 = .pb b1 0 ∧ v.σ 3 = .pb b2 0 ∧ v.σ 5 = .int .i64 j ∧ v.β b1 = some p.cells ∧ v.β b2 = some p.cells ∧ v.ω = []) (fun v => p.set.length - (ival (v.σ 5)).toNat) ⟨0, by omega, rfl, rfl, rfl, by simp [Heap.set, q1, q2], by simp [Heap.set], rfl⟩ ?_
    rintro σ β ω ⟨j, hj, q2, q3, q5, e1, e2, rfl⟩
    dsimp only at q2 q3 q5 e1 e2
    try simp only [go_sem, reduceIte, Nat.reduceEqDiff, Nat.reduceAdd, Nat.reduceSub, Nat.reduceMul, Nat.reduceLT, Nat.reduceLeDiff, Nat.reducePow, Int.reduceToNat, Int.reduceLT, Int.reduceLE, Int.reduceEq, Int.reduceNe, Int.reduceAdd, Int.reduceSub, Int.reduceMul, Int.reduceNeg, q2, q3, q5, el, em, e1, e2]
    refine cd_dec (fun g => ?_) (fun g => ?_)
    · have g' := eq_true g
      obtain ⟨x, hx, ex⟩ := Vl_at (l := p.set) (j := j) (by omega)
      have c1 : ((0 : Int) ≤ j) = True := eq_true (by omega)
      have wj := wrap_i64 (x := (j : Int) + 1) (by omega) (by omega)
      try simp only [go_sem, reduceIte, Nat.reduceEqDiff, Nat.reduceAdd, Nat.reduceSub, Nat.reduceMul, Nat.reduceLT, Nat.reduceLeDiff, Nat.reducePow, Int.reduceToNat, Int.reduceLT, Int.reduceLE, Int.reduceEq, Int.reduceNe, Int.reduceAdd, Int.reduceSub, Int.reduceMul, Int.reduceNeg, q2, q3, q5, el, em, e1, e2, ex, c1, g', wj, ne_eq]
      exact ⟨⟨j + 1, by omega, rfl⟩, by omega⟩
    clear g hj
    try simp only [go_sem, reduceIte, Nat.reduceEqDiff, Nat.reduceAdd, Nat.reduceSub, Nat.reduceMul, Nat.reduceLT, Nat.reduceLeDiff, Nat.reducePow, Int.reduceToNat, Int.reduceLT, Int.reduceLE, Int.reduceEq, Int.reduceNe, Int.reduceAdd, Int.reduceSub, Int.reduceMul, Int.reduceNeg, q2, q3, q5]
    refine vwq_loop (fun v => ∃ (j : Nat), j ≤ p.kids.length ∧ v.σ 2 = .pb b1 0 ∧ v.σ 3 = .pb b2 0 ∧ v.σ 6 = .int .i64 j ∧ v.β b1 = some p.cells ∧ v.β b2 = some p.cells ∧ v.ω = []) (fun v => p.kids.length - (ival (v.σ 6)).toNat) ⟨0, by omega, rfl, rfl, rfl, e1, e2, rfl⟩ ?_
    clear q2 q3 q5 e1 e2
    rintro σ β ω ⟨j, hj, q2, q3, q6, e1, e2, rfl⟩
    dsimp only at q2 q3 q6 e1 e2
    try simp only [go_sem, reduceIte, Nat.reduceEqDiff, Nat.reduceAdd, Nat.reduceSub, Nat.reduceMul, Nat.reduceLT, Nat.reduceLeDiff, Nat.reducePow, Int.reduceToNat, Int.reduceLT, Int.reduceLE, Int.reduceEq, Int.reduceNe, Int.reduceAdd, Int.reduceSub, Int.reduceMul, Int.reduceNeg, q2, q3, q6, el, e1, e2]
    refine cd_dec (fun g => ?_) (fun g => ?_)
    · have g' := eq_true g
      obtain ⟨x, hx, ex⟩ := Pr_pat (ps := p.kids) (j := j) (by omega)
      have hm := ih x (List.mem_of_getElem? hx)
      have c1 : ((0 : Int) ≤ j) = True := eq_true (by omega)
      have wj := wrap_i64 (x := (j : Int) + 1) (by omega) (by omega)
      try simp only [go_sem, reduceIte, Nat.reduceEqDiff, Nat.reduceAdd, Nat.reduceSub, Nat.reduceMul, Nat.reduceLT, Nat.reduceLeDiff, Nat.reducePow, Int.reduceToNat, Int.reduceLT, Int.reduceLE, Int.reduceEq, Int.reduceNe, Int.reduceAdd, Int.reduceSub, Int.reduceMul, Int.reduceNeg, q2, q3, q6, el, e1, e2, ex, c1, g', wj]
      (first | refine cK_vn (hm) ?_ | refine cE_vn (hm) ?_)
      try simp only [go_sem, reduceIte, Nat.reduceEqDiff, Nat.reduceAdd, Nat.reduceSub, Nat.reduceMul, Nat.reduceLT, Nat.reduceLeDiff, Nat.reducePow, Int.reduceToNat, Int.reduceLT, Int.reduceLE, Int.reduceEq, Int.reduceNe, Int.reduceAdd, Int.reduceSub, Int.reduceMul, Int.reduceNeg, q2, q3, q6, el, e1, e2, ex, c1, g', wj]
      exact ⟨⟨j + 1, by omega, rfl⟩, by omega⟩
    · try simp only [go_sem, reduceIte, Nat.reduceEqDiff, Nat.reduceAdd, Nat.reduceSub, Nat.reduceMul, Nat.reduceLT, Nat.reduceLeDiff, Nat.reducePow, Int.reduceToNat, Int.reduceLT, Int.reduceLE, Int.reduceEq, Int.reduceNe, Int.reduceAdd, Int.reduceSub, Int.reduceMul, Int.reduceNeg, q2, q3, q6]
      exact finK_drop ⟨rfl, rfl, rfl⟩
theorem Same9_ok (p : Pr) : VN P G 25 [.agg p.cells, .agg p.cells] (.bool true) := Same9_refl _ p (Nat.le_refl _)
theorem Gu_at {l : List Gu} {j : Nat} (h : j < l.length) : ∃ g, l[j]? = some g ∧ (l.map guD).getD j .any = .agg [.int .i64 g.1.op, .int .i64 g.1.id, .int .i64 g.1.lo, .int .i64 g.1.hi, .sl .none (g.1.set.map Vl.d), .str g.1.text, .sl .none (g.1.kids.map Pr.d), .int .i64 g.2.1, .int .i64 g.2.2.1, .int .i64 g.2.2.2] := at_map h
def Pg.c16 (g : Pg) : List D := [.int .i64 g.1.op, .int .i64 g.1.id, .int .i64 g.1.lo, .int .i64 g.1.hi, .sl .none (g.1.set.map Vl.d), .str g.1.text, .sl .none (g.1.kids.map Pr.d), .int .i64 g.2.1.op, .int .i64 g.2.1.id, .int .i64 g.2.1.lo, .int .i64 g.2.1.hi, .sl .none (g.2.1.set.map Vl.d), .str g.2.1.text, .sl .none (g.2.1.kids.map Pr.d), .sl .none (g.2.2.1.map rwD), .sl .none (g.2.2.2.map guD)]
theorem Pg.cells16 (g : Pg) : g.cells = g.c16 := rfl
theorem Same27_ok (g : Pg) : VN P G 7 [.agg g.cells, .agg g.cells] (.bool true) := by
  have h1 := Same9_ok (G := G) g.1
  have h2 := Same9_ok (G := G) g.2.1
  have h3 := SameRows_refl (G := G) .none .none g.2.2.1
  rw [g.cells16]
  simp only [Pr.cells] at h1 h2
  unfold Pg.c16
  unfold VN
  refine VC.small2 fun hsm => ?_
  have z1 := hsm (.agg g.c16) (List.mem_cons_self ..) (.sl .none (g.2.2.2.map guD)) (by simp [D.cells, Pg.c16])
  simp only [Small, mostLen, List.length_map] at z1
  clear hsm
  refine VC.ofs (fun | 99999999 => [(0, [0, 1, 2, 3, 4, 5, 6, 7, 38, 43, 82])] | _ => []) [4] mixed Try.func7 rfl rfl rfl rfl (by decide +kernel) (by simp) ?_
  have el : (g.2.2.2.map guD).length = g.2.2.2.length := by simp
  simp only [go_sem, reduceIte, Nat.reduceEqDiff, Nat.reduceAdd, Nat.reduceSub, Nat.reduceMul, Nat.reduceLT, Nat.reduceLeDiff, Nat.reducePow, Int.reduceToNat, Int.reduceLT, Int.reduceLE, Int.reduceEq, Int.reduceNe, Int.reduceAdd, Int.reduceSub, Int.reduceMul, Int.reduceNeg]
  refine fun b1 => new_1 fun b2 q1 q2 => ?_
  have N := And.intro q1 q2
  try simp only [go_sem, reduceIte, Nat.reduceEqDiff, Nat.reduceAdd, Nat.reduceSub, Nat.reduceMul, Nat.reduceLT, Nat.reduceLeDiff, Nat.reducePow, Int.reduceToNat, Int.reduceLT, Int.reduceLE, Int.reduceEq, Int.reduceNe, Int.reduceAdd, Int.reduceSub, Int.reduceMul, Int.reduceNeg, q1, q2, ne_eq, not_true_eq_false, decide_false, el]
  repeat' (first | simp only [go_sem, reduceIte, Nat.reduceEqDiff, Nat.reduceAdd, Nat.reduceSub, Nat.reduceMul, Nat.reduceLT, Nat.reduceLeDiff, Nat.reducePow, Int.reduceToNat, Int.reduceLT, Int.reduceLE, Int.reduceEq, Int.reduceNe, Int.reduceAdd, Int.reduceSub, Int.reduceMul, Int.reduceNeg, q1, q2, ne_eq, not_true_eq_false, decide_false, el] | refine cK_vn h1 ?_ | refine cK_vn h2 ?_ | refine cK_vn h3 ?_ | refine cE_vn h1 ?_ | refine cE_vn h2 ?_ | refine cE_vn h3 ?_ | fail)
  refine vwq_loop (fun v => ∃ (j : Nat), j ≤ g.2.2.2.length ∧ v.σ 2 = .pb b1 0 ∧ v.σ 3 = .pb b2 0 ∧ v.σ 5 = .int .i64 j ∧ v.β b1 = some g.c16 ∧ v.β b2 = some g.c16 ∧ v.ω = []) (fun v => g.2.2.2.length - (ival (v.σ 5)).toNat) ⟨0, by omega, rfl, rfl, rfl, by simp [Heap.set, q1, q2, Pg.c16], by simp [Heap.set, Pg.c16], rfl⟩ ?_
  clear q1 q2
  rintro σ β ω ⟨j, hj, q2, q3, q5, e1, e2, rfl⟩
  dsimp only [Pg.c16] at q2 q3 q5 e1 e2
  try simp only [go_sem, reduceIte, Nat.reduceEqDiff, Nat.reduceAdd, Nat.reduceSub, Nat.reduceMul, Nat.reduceLT, Nat.reduceLeDiff, Nat.reducePow, Int.reduceToNat, Int.reduceLT, Int.reduceLE, Int.reduceEq, Int.reduceNe, Int.reduceAdd, Int.reduceSub, Int.reduceMul, Int.reduceNeg, q2, q3, q5, el, e1, e2]
  refine cd_dec (fun k => ?_) (fun k => ?_)
  · have k' := eq_true k
    obtain ⟨x, hx, ex⟩ := Gu_at (l := g.2.2.2) (j := j) (by omega)
    have hm := Same9_ok (G := G) x.1
    simp only [Pr.cells] at hm
    have c1 : ((0 : Int) ≤ j) = True := eq_true (by omega)
    have wj := wrap_i64 (x := (j : Int) + 1) (by omega) (by omega)
    have N := trivial
    try simp only [go_sem, reduceIte, Nat.reduceEqDiff, Nat.reduceAdd, Nat.reduceSub, Nat.reduceMul, Nat.reduceLT, Nat.reduceLeDiff, Nat.reducePow, Int.reduceToNat, Int.reduceLT, Int.reduceLE, Int.reduceEq, Int.reduceNe, Int.reduceAdd, Int.reduceSub, Int.reduceMul, Int.reduceNeg, q2, q3, q5, el, e1, e2, ex, c1, k', wj]
    refine new_any fun b6 hb6 => ?_
    have N := And.intro N (box_ne hb6 e1)
    have N := And.intro N (box_ne hb6 e2)
    generalize hβ_ : Heap.set _ b6 _ = β_
    have e6 := hit_set hβ_
    have e1 := keep_new hβ_ hb6 e1
    have e2 := keep_new hβ_ hb6 e2
    clear hβ_ hb6
    try simp only [go_sem, reduceIte, Nat.reduceEqDiff, Nat.reduceAdd, Nat.reduceSub, Nat.reduceMul, Nat.reduceLT, Nat.reduceLeDiff, Nat.reducePow, Int.reduceToNat, Int.reduceLT, Int.reduceLE, Int.reduceEq, Int.reduceNe, Int.reduceAdd, Int.reduceSub, Int.reduceMul, Int.reduceNeg, N, q2, q3, q5, el, e1, e2, e6, ex, c1, k', wj]
    refine new_any fun b7 hb7 => ?_
    have N := And.intro N (box_ne hb7 e1)
    have N := And.intro N (box_ne hb7 e2)
    have N := And.intro N (box_ne hb7 e6)
    generalize hβ_ : Heap.set _ b7 _ = β_
    have e7 := hit_set hβ_
    have e1 := keep_new hβ_ hb7 e1
    have e2 := keep_new hβ_ hb7 e2
    have e6 := keep_new hβ_ hb7 e6
    clear hβ_ hb7
    repeat' (first | simp only [go_sem, reduceIte, Nat.reduceEqDiff, Nat.reduceAdd, Nat.reduceSub, Nat.reduceMul, Nat.reduceLT, Nat.reduceLeDiff, Nat.reducePow, Int.reduceToNat, Int.reduceLT, Int.reduceLE, Int.reduceEq, Int.reduceNe, Int.reduceAdd, Int.reduceSub, Int.reduceMul, Int.reduceNeg, N, q2, q3, q5, el, e1, e2, e6, e7, ex, c1, k', wj, ne_eq, not_true_eq_false, decide_false] | refine cK_vn hm ?_ | refine cE_vn hm ?_ | fail)
    exact ⟨⟨j + 1, by omega, rfl, rfl⟩, by omega⟩
  · try simp only [go_sem, reduceIte, Nat.reduceEqDiff, Nat.reduceAdd, Nat.reduceSub, Nat.reduceMul, Nat.reduceLT, Nat.reduceLeDiff, Nat.reducePow, Int.reduceToNat, Int.reduceLT, Int.reduceLE, Int.reduceEq, Int.reduceNe, Int.reduceAdd, Int.reduceSub, Int.reduceMul, Int.reduceNeg, q2, q3, q5]
    exact finK_drop ⟨rfl, rfl, rfl⟩
abbrev Ln := Int × Rw
def lnD (l : Ln) : D := .agg [.int .i64 l.1, .sl .none (l.2.map clD)]
structure Tbl where
  next : Int
  l : List Ln
  deriving DecidableEq
def Tbl.cells (t : Tbl) : List D := [.int .i64 t.next, .sl .none (t.l.map lnD)]
theorem Ln_at {l : List Ln} {j : Nat} (h : j < l.length) : ∃ r, l[j]? = some r ∧ (l.map lnD).getD j .any = .agg [.int .i64 r.1, .sl .none (r.2.map clD)] := at_map h
theorem SameTable_refl (t : Tbl) : VN P G 11 [.agg t.cells, .agg t.cells] (.bool true) := by
  unfold VN
  refine VC.small2 fun hsm => ?_
  have z1 := hsm (.agg t.cells) (List.mem_cons_self ..) (.sl .none (t.l.map lnD)) (by simp [D.cells, Tbl.cells])
  simp only [Small, mostLen, List.length_map] at z1
  clear hsm
  refine VC.ofs (fun | 6 => [(0, []), (1, []), (2, []), (3, []), (4, []), (5, []), (6, []), (7, []), (8, []), (9, []), (10, []), (11, []), (12, []), (13, [])] | 7 => [(0, []), (1, []), (2, []), (3, []), (4, []), (5, []), (6, []), (7, []), (8, []), (9, []), (10, []), (11, []), (12, []), (13, []), (14, []), (15, []), (16, [])] | 99999999 => [(0, [0, 1, 2, 3, 4, 5, 6, 20, 25, 57])] | _ => []) [4] mixed Try.func11 rfl rfl rfl rfl (by decide +kernel) (by simp) ?_
  have el : (t.l.map lnD).length = t.l.length := by simp
  simp only [Tbl.cells]
  simp only [go_sem, reduceIte, Nat.reduceEqDiff, Nat.reduceAdd, Nat.reduceSub, Nat.reduceMul, Nat.reduceLT, Nat.reduceLeDiff, Nat.reducePow, Int.reduceToNat, Int.reduceLT, Int.reduceLE, Int.reduceEq, Int.reduceNe, Int.reduceAdd, Int.reduceSub, Int.reduceMul, Int.reduceNeg]
  refine fun b1 => new_1 fun b2 q1 q2 => ?_
  try simp only [go_sem, reduceIte, Nat.reduceEqDiff, Nat.reduceAdd, Nat.reduceSub, Nat.reduceMul, Nat.reduceLT, Nat.reduceLeDiff, Nat.reducePow, Int.reduceToNat, Int.reduceLT, Int.reduceLE, Int.reduceEq, Int.reduceNe, Int.reduceAdd, Int.reduceSub, Int.reduceMul, Int.reduceNeg, q1, q2, ne_eq, not_true_eq_false, decide_false, el]
  refine vwq_loop (fun v => ∃ (j : Nat), j ≤ t.l.length ∧ v.σ 2 = .pb b1 0 ∧ v.σ 3 = .pb b2 0 ∧ v.σ 5 = .int .i64 j ∧ v.β b1 = some t.cells ∧ v.β b2 = some t.cells ∧ v.ω = []) (fun v => t.l.length - (ival (v.σ 5)).toNat) ⟨0, by omega, rfl, rfl, rfl, by simp [Heap.set, q1, q2, Tbl.cells], by simp [Heap.set, Tbl.cells], rfl⟩ ?_
  rintro σ β ω ⟨j, hj, q2, q3, q5, e1, e2, rfl⟩
  dsimp only [Tbl.cells] at q2 q3 q5 e1 e2
  try simp only [go_sem, reduceIte, Nat.reduceEqDiff, Nat.reduceAdd, Nat.reduceSub, Nat.reduceMul, Nat.reduceLT, Nat.reduceLeDiff, Nat.reducePow, Int.reduceToNat, Int.reduceLT, Int.reduceLE, Int.reduceEq, Int.reduceNe, Int.reduceAdd, Int.reduceSub, Int.reduceMul, Int.reduceNeg, q2, q3, q5, el, e1, e2]
  refine cd_dec (fun g => ?_) (fun g => ?_)
  · have g' := eq_true g
    obtain ⟨x, hx, ex⟩ := Ln_at (l := t.l) (j := j) (by omega)
    have hm := SameRow_refl (G := G) x.2
    have c1 : ((0 : Int) ≤ j) = True := eq_true (by omega)
    have wj := wrap_i64 (x := (j : Int) + 1) (by omega) (by omega)
    repeat' (first | simp only [go_sem, reduceIte, Nat.reduceEqDiff, Nat.reduceAdd, Nat.reduceSub, Nat.reduceMul, Nat.reduceLT, Nat.reduceLeDiff, Nat.reducePow, Int.reduceToNat, Int.reduceLT, Int.reduceLE, Int.reduceEq, Int.reduceNe, Int.reduceAdd, Int.reduceSub, Int.reduceMul, Int.reduceNeg, q2, q3, q5, el, e1, e2, ex, c1, g', wj, ne_eq, not_true_eq_false, decide_false] | refine cK_vn hm ?_ | refine cE_vn hm ?_ | fail)
    exact ⟨⟨j + 1, by omega, rfl, rfl⟩, by omega⟩
  · try simp only [go_sem, reduceIte, Nat.reduceEqDiff, Nat.reduceAdd, Nat.reduceSub, Nat.reduceMul, Nat.reduceLT, Nat.reduceLeDiff, Nat.reducePow, Int.reduceToNat, Int.reduceLT, Int.reduceLE, Int.reduceEq, Int.reduceNe, Int.reduceAdd, Int.reduceSub, Int.reduceMul, Int.reduceNeg, q2, q3, q5]
    exact finK_drop ⟨rfl, rfl, rfl⟩
end Go.Proofs.YtpblgfgcoamgmaaS
