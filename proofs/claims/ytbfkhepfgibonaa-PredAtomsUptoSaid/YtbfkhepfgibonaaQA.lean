/-
  Predicates: Kleene's logic (fenlandlaw08.PredLogic).
-/
import Derived.Test.YtbfkhepfgibonaaQ9
set_option linter.unusedVariables false
set_option linter.unusedSimpArgs false
namespace Go.Proofs.YtbfkhepfgibonaaS
open Go Go.Proofs.YtbfkhepfgibonaaV

variable {G : Heap}
attribute [local irreducible] VN VC VX VQ VY VW VTA

theorem op0_ok (o : Int) (tk : Tk) : VN P G 10 [.int .i64 o, .sl tk []] (.agg (opP o []).cells) := op_ok o tk [] _ rfl
theorem op2_ok (o : Int) (tk : Tk) (p q : Pr) : VN P G 10 [.int .i64 o, .sl tk [.agg p.cells, .agg q.cells]] (.agg (opP o [p, q]).cells) := op_ok o tk [p, q] _ (by simp [Pr.d_eq])
theorem op3_ok (o : Int) (tk : Tk) (p q x : Pr) : VN P G 10 [.int .i64 o, .sl tk [.agg p.cells, .agg q.cells, .agg x.cells]] (.agg (opP o [p, q, x]).cells) := op_ok o tk [p, q, x] _ (by simp [Pr.d_eq])
theorem ev_op (r : Rw) (o : Int) (l : List Pr) (h : o = 5 ∨ o = 6 ∨ o = 7) : evalP r (opP o l) = evK o 0 (l.map (evalP r)) := by
  rw [evalP_eq]
  rcases h with rfl | rfl | rfl <;> rfl
theorem logic_facts (r : Rw) (p q x : Pr) (a o : Int) (h : (a = 5 ∧ o = 6) ∨ (a = 6 ∧ o = 5)) :
    evalP r (notP (notP p)) = evalP r p ∧ evalP r (notP (opP a [p, q])) = evalP r (opP o [notP p, notP q]) ∧ evalP r (opP a [p, q]) = evalP r (opP a [q, p]) ∧
    evalP r (opP a [opP a [p, q], x]) = evalP r (opP a [p, opP a [q, x]]) ∧ evalP r (opP a [opP a [p, q], x]) = evalP r (opP a [p, q, x]) ∧ evalP r (opP a [p, p]) = evalP r p ∧
    evalP r (opP a [p, opP o [p, q]]) = evalP r p ∧ evalP r (opP a [p, opP o [q, x]]) = evalP r (opP o [opP a [p, q], opP a [p, x]]) ∧ evalP r (opP a [p, opP a []]) = evalP r p ∧ evalP r (opP o [p, opP a []]) = evalP r (opP a []) := by
  have hp := eval012 r p
  have hq := eval012 r q
  have hx := eval012 r x
  rcases h with ⟨rfl, rfl⟩ | ⟨rfl, rfl⟩
  all_goals
    simp only [notP, ev_op _ 5 _ (.inl rfl), ev_op _ 6 _ (.inr (.inl rfl)), ev_op _ 7 _ (.inr (.inr rfl)), List.map_cons, List.map_nil]
    generalize evalP r p = v at *
    generalize evalP r q = w at *
    generalize evalP r x = y at *
    rcases hp with rfl | rfl | rfl <;> rcases hq with rfl | rfl | rfl <;> rcases hx with rfl | rfl | rfl <;> decide +kernel
set_option maxRecDepth 100000 in
set_option maxHeartbeats 8000000 in
theorem logic_ok (p q x : Pr) (r : Rw) : VN P G 3 [.agg (p.cells ++ q.cells ++ x.cells), .agg [.sl .none (r.map clD)]] (.bool true) := by
  have hs := law08_sanity_ok (G := G)
  have w1 := Small_ok (G := G) p 100
  have w2 := Small_ok (G := G) q 100
  have w3 := Small_ok (G := G) x 100
  unfold VN
  refine VC.ofs (fun | 4 => [(0, []), (1, []), (2, []), (3, [9]), (4, []), (5, [9, 10]), (6, []), (7, []), (8, []), (9, []), (10, []), (11, [])] | 10 => [(0, []), (3, [1, 2]), (4, [1, 2]), (1, []), (2, []), (5, []), (6, []), (7, []), (9, []), (10, [8]), (12, [8, 11]), (16, [8, 11, 13, 15]), (8, []), (11, []), (13, []), (14, []), (15, []), (17, []), (18, []), (19, []), (20, [25]), (21, []), (22, []), (23, []), (24, []), (26, [25]), (25, []), (27, []), (28, []), (29, []), (30, []), (31, []), (32, []), (33, []), (35, []), (36, [34, 41]), (37, []), (38, [34]), (39, [34]), (40, []), (44, [34, 41, 43]), (34, []), (41, []), (42, []), (43, []), (45, []), (46, []), (47, []), (48, []), (49, []), (50, []), (51, []), (53, []), (54, [52]), (55, [52]), (56, [52]), (57, []), (59, [52, 58]), (52, []), (58, []), (60, []), (61, []), (62, []), (63, []), (64, []), (65, []), (66, []), (68, [67]), (69, [67]), (67, []), (70, []), (71, []), (72, [])] | 11 => [(0, []), (1, [6]), (2, []), (3, []), (4, []), (5, []), (9, [6, 8]), (10, [6, 8]), (6, []), (7, []), (8, []), (11, []), (12, []), (13, []), (14, [19]), (15, []), (16, []), (17, []), (18, []), (22, []), (23, [19, 21, 28]), (24, []), (25, [19, 21]), (26, [19, 21]), (27, []), (31, [19, 21, 28, 30]), (19, []), (20, []), (21, []), (28, []), (29, []), (30, []), (32, []), (33, []), (34, []), (35, []), (36, [38]), (37, []), (41, [38, 40]), (42, [38, 40]), (38, []), (39, []), (40, []), (43, []), (44, []), (45, []), (46, []), (47, [49]), (48, []), (52, []), (54, [49, 51, 53]), (49, []), (50, []), (51, []), (53, []), (55, []), (56, []), (57, [])] | 99999999 => [(0, [0, 1, 2, 3, 4, 5, 6, 7, 8, 9, 10, 11, 12, 13, 14, 37, 46, 192])] | _ => []) [4] mixed Try.func3 rfl rfl rfl rfl (by decide +kernel) (by simp) ?_
  simp only [go_sem, reduceIte, Nat.reduceEqDiff, Nat.reduceAdd, Nat.reduceSub, Nat.reduceMul, Nat.reduceLT, Nat.reduceLeDiff, Nat.reducePow, Int.reduceToNat, Int.reduceLT, Int.reduceLE, Int.reduceEq, Int.reduceNe, Int.reduceAdd, Int.reduceSub, Int.reduceMul, Int.reduceNeg]
  refine fun b2 => new_1 fun b3 q1 q2 => ?_
  generalize hβ : Heap.set _ b3 _ = β0
  have e2 : β0 b2 = some (p.cells ++ q.cells ++ x.cells) := by rw [← hβ]; simp [Heap.set, q1, q2]
  have e3 : β0 b3 = some [.sl .none (r.map clD)] := hit_set hβ
  clear hβ
  have N := And.intro q1 q2
  obtain ⟨X, hX⟩ : ∃ X, p.cells ++ q.cells ++ x.cells = X := ⟨_, rfl⟩
  have f0 : X.take 7 = p.cells := by rw [← hX]; simp [Pr.cells]
  have f1 : (X.drop 7).take 7 = q.cells := by rw [← hX]; simp [Pr.cells]
  have f2 : (X.drop 14).take 7 = x.cells := by rw [← hX]; simp [Pr.cells]
  have fo : isObj X = false := by rw [← hX]; rfl
  have fl : X.length = 21 := by rw [← hX]; rfl
  rw [hX] at e2
  clear hX
  refine cK_vn hs ?_
  try simp only [go_sem, reduceIte, Nat.reduceEqDiff, Nat.reduceAdd, Nat.reduceSub, Nat.reduceMul, Nat.reduceLT, Nat.reduceLeDiff, Nat.reducePow, Int.reduceToNat, Int.reduceLT, Int.reduceLE, Int.reduceEq, Int.reduceNe, Int.reduceAdd, Int.reduceSub, Int.reduceMul, Int.reduceNeg, N, e2, e3, f0, f1, f2, fo, fl]
  refine cK_vx w1 ?_
  rintro _ ⟨b1, rfl⟩
  cases b1
  · try simp only [go_sem, reduceIte, Nat.reduceEqDiff, Nat.reduceAdd, Nat.reduceSub, Nat.reduceMul, Nat.reduceLT, Nat.reduceLeDiff, Nat.reducePow, Int.reduceToNat, Int.reduceLT, Int.reduceLE, Int.reduceEq, Int.reduceNe, Int.reduceAdd, Int.reduceSub, Int.reduceMul, Int.reduceNeg, N, e2, e3, f0, f1, f2, fo, fl]
    exact finK_drop ⟨rfl, rfl, rfl⟩
  try simp only [go_sem, reduceIte, Nat.reduceEqDiff, Nat.reduceAdd, Nat.reduceSub, Nat.reduceMul, Nat.reduceLT, Nat.reduceLeDiff, Nat.reducePow, Int.reduceToNat, Int.reduceLT, Int.reduceLE, Int.reduceEq, Int.reduceNe, Int.reduceAdd, Int.reduceSub, Int.reduceMul, Int.reduceNeg, N, e2, e3, f0, f1, f2, fo, fl]
  refine cK_vx w2 ?_
  rintro _ ⟨b1, rfl⟩
  cases b1
  · try simp only [go_sem, reduceIte, Nat.reduceEqDiff, Nat.reduceAdd, Nat.reduceSub, Nat.reduceMul, Nat.reduceLT, Nat.reduceLeDiff, Nat.reducePow, Int.reduceToNat, Int.reduceLT, Int.reduceLE, Int.reduceEq, Int.reduceNe, Int.reduceAdd, Int.reduceSub, Int.reduceMul, Int.reduceNeg, N, e2, e3, f0, f1, f2, fo, fl]
    exact finK_drop ⟨rfl, rfl, rfl⟩
  try simp only [go_sem, reduceIte, Nat.reduceEqDiff, Nat.reduceAdd, Nat.reduceSub, Nat.reduceMul, Nat.reduceLT, Nat.reduceLeDiff, Nat.reducePow, Int.reduceToNat, Int.reduceLT, Int.reduceLE, Int.reduceEq, Int.reduceNe, Int.reduceAdd, Int.reduceSub, Int.reduceMul, Int.reduceNeg, N, e2, e3, f0, f1, f2, fo, fl]
  refine cK_vx w3 ?_
  rintro _ ⟨b1, rfl⟩
  cases b1
  · try simp only [go_sem, reduceIte, Nat.reduceEqDiff, Nat.reduceAdd, Nat.reduceSub, Nat.reduceMul, Nat.reduceLT, Nat.reduceLeDiff, Nat.reducePow, Int.reduceToNat, Int.reduceLT, Int.reduceLE, Int.reduceEq, Int.reduceNe, Int.reduceAdd, Int.reduceSub, Int.reduceMul, Int.reduceNeg, N, e2, e3, f0, f1, f2, fo, fl]
    exact finK_drop ⟨rfl, rfl, rfl⟩
  try simp only [go_sem, reduceIte, Nat.reduceEqDiff, Nat.reduceAdd, Nat.reduceSub, Nat.reduceMul, Nat.reduceLT, Nat.reduceLeDiff, Nat.reducePow, Int.reduceToNat, Int.reduceLT, Int.reduceLE, Int.reduceEq, Int.reduceNe, Int.reduceAdd, Int.reduceSub, Int.reduceMul, Int.reduceNeg, N, e2, e3, f0, f1, f2, fo, fl]
  refine cd_dec (fun _ => ?_) (fun _ => ?_)
  · try simp only [go_sem, reduceIte, Nat.reduceEqDiff, Nat.reduceAdd, Nat.reduceSub, Nat.reduceMul, Nat.reduceLT, Nat.reduceLeDiff, Nat.reducePow, Int.reduceToNat, Int.reduceLT, Int.reduceLE, Int.reduceEq, Int.reduceNe, Int.reduceAdd, Int.reduceSub, Int.reduceMul, Int.reduceNeg, N, e2, e3, f0, f1, f2, fo, fl]
    exact finK_drop ⟨rfl, rfl, rfl⟩
  try simp only [go_sem, reduceIte, Nat.reduceEqDiff, Nat.reduceAdd, Nat.reduceSub, Nat.reduceMul, Nat.reduceLT, Nat.reduceLeDiff, Nat.reducePow, Int.reduceToNat, Int.reduceLT, Int.reduceLE, Int.reduceEq, Int.reduceNe, Int.reduceAdd, Int.reduceSub, Int.reduceMul, Int.reduceNeg, N, e2, e3, f0, f1, f2, fo, fl]
  have N := And.intro N trivial
  refine new_any fun b6 hb6 => ?_
  have N := And.intro N (box_ne hb6 e2)
  have N := And.intro N (box_ne hb6 e3)
  generalize hβ_ : Heap.set _ b6 _ = β_
  have e6 := hit_set hβ_
  have e2 := keep_new hβ_ hb6 e2
  have e3 := keep_new hβ_ hb6 e3
  clear hβ_ hb6
  refine new_any fun b7 hb7 => ?_
  have N := And.intro N (box_ne hb7 e2)
  have N := And.intro N (box_ne hb7 e3)
  have N := And.intro N (box_ne hb7 e6)
  generalize hβ_ : Heap.set _ b7 _ = β_
  have e7 := hit_set hβ_
  have e2 := keep_new hβ_ hb7 e2
  have e3 := keep_new hβ_ hb7 e3
  have e6 := keep_new hβ_ hb7 e6
  clear hβ_ hb7
  refine new_any fun b8 hb8 => ?_
  have N := And.intro N (box_ne hb8 e2)
  have N := And.intro N (box_ne hb8 e3)
  have N := And.intro N (box_ne hb8 e6)
  have N := And.intro N (box_ne hb8 e7)
  generalize hβ_ : Heap.set _ b8 _ = β_
  have e8 := hit_set hβ_
  have e2 := keep_new hβ_ hb8 e2
  have e3 := keep_new hβ_ hb8 e3
  have e6 := keep_new hβ_ hb8 e6
  have e7 := keep_new hβ_ hb8 e7
  clear hβ_ hb8
  try simp only [go_sem, reduceIte, Nat.reduceEqDiff, Nat.reduceAdd, Nat.reduceSub, Nat.reduceMul, Nat.reduceLT, Nat.reduceLeDiff, Nat.reducePow, Int.reduceToNat, Int.reduceLT, Int.reduceLE, Int.reduceEq, Int.reduceNe, Int.reduceAdd, Int.reduceSub, Int.reduceMul, Int.reduceNeg, N, e2, e3, e6, e7, e8]
  refine ⟨by simp [rdAdd, N], by simp [rdAdd, N], by simp [rdAdd, N], ?_⟩
  refine vwq_loop (fun v => ∃ (j : Nat), j ≤ 2 ∧ v.σ 3 = .pb b3 0 ∧ v.σ 5 = .bool true ∧ v.σ 6 = .pb b6 0 ∧ v.σ 7 = .pb b7 0 ∧ v.σ 8 = .pb b8 0 ∧ v.σ 9 = .int .i64 j ∧ v.β b3 = some [.sl .none (r.map clD)] ∧ v.β b6 = some p.cells ∧ v.β b7 = some q.cells ∧ v.β b8 = some x.cells ∧ v.ω = []) (fun v => 2 - (ival (v.σ 9)).toNat) ⟨0, by omega, rfl, rfl, rfl, rfl, rfl, rfl, by simp only [Heap.set, N, if_true, if_false]; exact e3, by simp only [Heap.set, N, if_true, if_false], by simp only [Heap.set, N, if_true, if_false], by simp only [Heap.set, N, if_true, if_false], rfl⟩ ?_
  clear e2 e3 e6 e7 e8
  rintro σ β ω ⟨j, hj, q3, q5, q6, q7, q8, q9, e3, e6, e7, e8, rfl⟩
  dsimp only at q3 q5 q6 q7 q8 q9 e3 e6 e7 e8
  try simp only [go_sem, reduceIte, Nat.reduceEqDiff, Nat.reduceAdd, Nat.reduceSub, Nat.reduceMul, Nat.reduceLT, Nat.reduceLeDiff, Nat.reducePow, Int.reduceToNat, Int.reduceLT, Int.reduceLE, Int.reduceEq, Int.reduceNe, Int.reduceAdd, Int.reduceSub, Int.reduceMul, Int.reduceNeg, q3, q5, q6, q7, q8, q9]
  refine cd_dec (fun g => ?_) (fun g => ?_)
  · obtain rfl | rfl : j = 0 ∨ j = 1 := by omega
    · obtain ⟨z1, z2, z3, z4, z5, z6, z7, z8, z9, z10⟩ := logic_facts r p q x 5 6 (.inl ⟨rfl, rfl⟩)
      have k1 := equal_ok (G := G) (notP (notP p)) p r
      have k2 := equal_ok (G := G) (notP (opP 5 [p, q])) (opP 6 [notP p, notP q]) r
      have k3 := equal_ok (G := G) (opP 5 [p, q]) (opP 5 [q, p]) r
      have k4 := equal_ok (G := G) (opP 5 [opP 5 [p, q], x]) (opP 5 [p, opP 5 [q, x]]) r
      have k5 := equal_ok (G := G) (opP 5 [opP 5 [p, q], x]) (opP 5 [p, q, x]) r
      have k6 := equal_ok (G := G) (opP 5 [p, p]) p r
      have k7 := equal_ok (G := G) (opP 5 [p, opP 6 [p, q]]) p r
      have k8 := equal_ok (G := G) (opP 5 [p, opP 6 [q, x]]) (opP 6 [opP 5 [p, q], opP 5 [p, x]]) r
      have k9 := equal_ok (G := G) (opP 5 [p, opP 5 []]) p r
      have k10 := equal_ok (G := G) (opP 6 [p, opP 5 []]) (opP 5 []) r
      rw [decide_eq_true z1] at k1
      rw [decide_eq_true z2] at k2
      rw [decide_eq_true z3] at k3
      rw [decide_eq_true z4] at k4
      rw [decide_eq_true z5] at k5
      rw [decide_eq_true z6] at k6
      rw [decide_eq_true z7] at k7
      rw [decide_eq_true z8] at k8
      rw [decide_eq_true z9] at k9
      rw [decide_eq_true z10] at k10
      clear z1 z2 z3 z4 z5 z6 z7 z8 z9 z10
      try simp only [go_sem, reduceIte, Nat.reduceEqDiff, Nat.reduceAdd, Nat.reduceSub, Nat.reduceMul, Nat.reduceLT, Nat.reduceLeDiff, Nat.reducePow, Int.reduceToNat, Int.reduceLT, Int.reduceLE, Int.reduceEq, Int.reduceNe, Int.reduceAdd, Int.reduceSub, Int.reduceMul, Int.reduceNeg, q3, q5, q6, q7, q8, q9, e3, e6, e7, e8]
      refine cK_vn (op2_ok 5 _ p q) ?_
      try simp only [go_sem, reduceIte, Nat.reduceEqDiff, Nat.reduceAdd, Nat.reduceSub, Nat.reduceMul, Nat.reduceLT, Nat.reduceLeDiff, Nat.reducePow, Int.reduceToNat, Int.reduceLT, Int.reduceLE, Int.reduceEq, Int.reduceNe, Int.reduceAdd, Int.reduceSub, Int.reduceMul, Int.reduceNeg, q3, q5, q6, q7, q8, q9, e3, e6, e7, e8]
      have N := trivial
      refine new_any fun b12 hb12 => ?_
      have N := And.intro N (box_ne hb12 e3)
      have N := And.intro N (box_ne hb12 e6)
      have N := And.intro N (box_ne hb12 e7)
      have N := And.intro N (box_ne hb12 e8)
      generalize hβ_ : Heap.set _ b12 _ = β_
      have e12 := hit_set hβ_
      have e3 := keep_new hβ_ hb12 e3
      have e6 := keep_new hβ_ hb12 e6
      have e7 := keep_new hβ_ hb12 e7
      have e8 := keep_new hβ_ hb12 e8
      clear hβ_ hb12
      try simp only [go_sem, reduceIte, Nat.reduceEqDiff, Nat.reduceAdd, Nat.reduceSub, Nat.reduceMul, Nat.reduceLT, Nat.reduceLeDiff, Nat.reducePow, Int.reduceToNat, Int.reduceLT, Int.reduceLE, Int.reduceEq, Int.reduceNe, Int.reduceAdd, Int.reduceSub, Int.reduceMul, Int.reduceNeg, N, q3, q5, q6, q7, q8, q9, e3, e6, e7, e8, e12]
      repeat' (first
        | simp only [go_sem, reduceIte, Nat.reduceEqDiff, Nat.reduceAdd, Nat.reduceSub, Nat.reduceMul, Nat.reduceLT, Nat.reduceLeDiff, Nat.reducePow, Int.reduceToNat, Int.reduceLT, Int.reduceLE, Int.reduceEq, Int.reduceNe, Int.reduceAdd, Int.reduceSub, Int.reduceMul, Int.reduceNeg, q3, q5, q6, q7, q8, q9, e3, e6, e7, e8, e12]
        | (first | refine cK_vn (not_ok _) ?_ | refine cE_vn (not_ok _) ?_)
        | (first | refine cK_vn (op2_ok _ _ _ _) ?_ | refine cE_vn (op2_ok _ _ _ _) ?_)
        | (first | refine cK_vn (op3_ok _ _ _ _ _) ?_ | refine cE_vn (op3_ok _ _ _ _ _) ?_)
        | (first | refine cK_vn (op0_ok _ _) ?_ | refine cE_vn (op0_ok _ _) ?_)
        | (first | refine cK_vn (k1) ?_ | refine cE_vn (k1) ?_)
        | (first | refine cK_vn (k2) ?_ | refine cE_vn (k2) ?_)
        | (first | refine cK_vn (k3) ?_ | refine cE_vn (k3) ?_)
        | (first | refine cK_vn (k4) ?_ | refine cE_vn (k4) ?_)
        | (first | refine cK_vn (k5) ?_ | refine cE_vn (k5) ?_)
        | (first | refine cK_vn (k6) ?_ | refine cE_vn (k6) ?_)
        | (first | refine cK_vn (k7) ?_ | refine cE_vn (k7) ?_)
        | (first | refine cK_vn (k8) ?_ | refine cE_vn (k8) ?_)
        | (first | refine cK_vn (k9) ?_ | refine cE_vn (k9) ?_)
        | (first | refine cK_vn (k10) ?_ | refine cE_vn (k10) ?_)
        | fail)
      exact ⟨1, by omega, rfl⟩
    · obtain ⟨z1, z2, z3, z4, z5, z6, z7, z8, z9, z10⟩ := logic_facts r p q x 6 5 (.inr ⟨rfl, rfl⟩)
      have k1 := equal_ok (G := G) (notP (notP p)) p r
      have k2 := equal_ok (G := G) (notP (opP 6 [p, q])) (opP 5 [notP p, notP q]) r
      have k3 := equal_ok (G := G) (opP 6 [p, q]) (opP 6 [q, p]) r
      have k4 := equal_ok (G := G) (opP 6 [opP 6 [p, q], x]) (opP 6 [p, opP 6 [q, x]]) r
      have k5 := equal_ok (G := G) (opP 6 [opP 6 [p, q], x]) (opP 6 [p, q, x]) r
      have k6 := equal_ok (G := G) (opP 6 [p, p]) p r
      have k7 := equal_ok (G := G) (opP 6 [p, opP 5 [p, q]]) p r
      have k8 := equal_ok (G := G) (opP 6 [p, opP 5 [q, x]]) (opP 5 [opP 6 [p, q], opP 6 [p, x]]) r
      have k9 := equal_ok (G := G) (opP 6 [p, opP 6 []]) p r
      have k10 := equal_ok (G := G) (opP 5 [p, opP 6 []]) (opP 6 []) r
      rw [decide_eq_true z1] at k1
      rw [decide_eq_true z2] at k2
      rw [decide_eq_true z3] at k3
      rw [decide_eq_true z4] at k4
      rw [decide_eq_true z5] at k5
      rw [decide_eq_true z6] at k6
      rw [decide_eq_true z7] at k7
      rw [decide_eq_true z8] at k8
      rw [decide_eq_true z9] at k9
      rw [decide_eq_true z10] at k10
      clear z1 z2 z3 z4 z5 z6 z7 z8 z9 z10
      try simp only [go_sem, reduceIte, Nat.reduceEqDiff, Nat.reduceAdd, Nat.reduceSub, Nat.reduceMul, Nat.reduceLT, Nat.reduceLeDiff, Nat.reducePow, Int.reduceToNat, Int.reduceLT, Int.reduceLE, Int.reduceEq, Int.reduceNe, Int.reduceAdd, Int.reduceSub, Int.reduceMul, Int.reduceNeg, q3, q5, q6, q7, q8, q9, e3, e6, e7, e8]
      refine cK_vn (op2_ok 6 _ p q) ?_
      try simp only [go_sem, reduceIte, Nat.reduceEqDiff, Nat.reduceAdd, Nat.reduceSub, Nat.reduceMul, Nat.reduceLT, Nat.reduceLeDiff, Nat.reducePow, Int.reduceToNat, Int.reduceLT, Int.reduceLE, Int.reduceEq, Int.reduceNe, Int.reduceAdd, Int.reduceSub, Int.reduceMul, Int.reduceNeg, q3, q5, q6, q7, q8, q9, e3, e6, e7, e8]
      have N := trivial
      refine new_any fun b12 hb12 => ?_
      have N := And.intro N (box_ne hb12 e3)
      have N := And.intro N (box_ne hb12 e6)
      have N := And.intro N (box_ne hb12 e7)
      have N := And.intro N (box_ne hb12 e8)
      generalize hβ_ : Heap.set _ b12 _ = β_
      have e12 := hit_set hβ_
      have e3 := keep_new hβ_ hb12 e3
      have e6 := keep_new hβ_ hb12 e6
      have e7 := keep_new hβ_ hb12 e7
      have e8 := keep_new hβ_ hb12 e8
      clear hβ_ hb12
      try simp only [go_sem, reduceIte, Nat.reduceEqDiff, Nat.reduceAdd, Nat.reduceSub, Nat.reduceMul, Nat.reduceLT, Nat.reduceLeDiff, Nat.reducePow, Int.reduceToNat, Int.reduceLT, Int.reduceLE, Int.reduceEq, Int.reduceNe, Int.reduceAdd, Int.reduceSub, Int.reduceMul, Int.reduceNeg, N, q3, q5, q6, q7, q8, q9, e3, e6, e7, e8, e12]
      repeat' (first
        | simp only [go_sem, reduceIte, Nat.reduceEqDiff, Nat.reduceAdd, Nat.reduceSub, Nat.reduceMul, Nat.reduceLT, Nat.reduceLeDiff, Nat.reducePow, Int.reduceToNat, Int.reduceLT, Int.reduceLE, Int.reduceEq, Int.reduceNe, Int.reduceAdd, Int.reduceSub, Int.reduceMul, Int.reduceNeg, q3, q5, q6, q7, q8, q9, e3, e6, e7, e8, e12]
        | (first | refine cK_vn (not_ok _) ?_ | refine cE_vn (not_ok _) ?_)
        | (first | refine cK_vn (op2_ok _ _ _ _) ?_ | refine cE_vn (op2_ok _ _ _ _) ?_)
        | (first | refine cK_vn (op3_ok _ _ _ _ _) ?_ | refine cE_vn (op3_ok _ _ _ _ _) ?_)
        | (first | refine cK_vn (op0_ok _ _) ?_ | refine cE_vn (op0_ok _ _) ?_)
        | (first | refine cK_vn (k1) ?_ | refine cE_vn (k1) ?_)
        | (first | refine cK_vn (k2) ?_ | refine cE_vn (k2) ?_)
        | (first | refine cK_vn (k3) ?_ | refine cE_vn (k3) ?_)
        | (first | refine cK_vn (k4) ?_ | refine cE_vn (k4) ?_)
        | (first | refine cK_vn (k5) ?_ | refine cE_vn (k5) ?_)
        | (first | refine cK_vn (k6) ?_ | refine cE_vn (k6) ?_)
        | (first | refine cK_vn (k7) ?_ | refine cE_vn (k7) ?_)
        | (first | refine cK_vn (k8) ?_ | refine cE_vn (k8) ?_)
        | (first | refine cK_vn (k9) ?_ | refine cE_vn (k9) ?_)
        | (first | refine cK_vn (k10) ?_ | refine cE_vn (k10) ?_)
        | fail)
      exact ⟨2, by omega, rfl⟩
  · try simp only [go_sem, reduceIte, Nat.reduceEqDiff, Nat.reduceAdd, Nat.reduceSub, Nat.reduceMul, Nat.reduceLT, Nat.reduceLeDiff, Nat.reducePow, Int.reduceToNat, Int.reduceLT, Int.reduceLE, Int.reduceEq, Int.reduceNe, Int.reduceAdd, Int.reduceSub, Int.reduceMul, Int.reduceNeg, q3, q5, q6, q7, q8, q9]
    exact finK_drop ⟨rfl, rfl, rfl⟩
end Go.Proofs.YtbfkhepfgibonaaS
