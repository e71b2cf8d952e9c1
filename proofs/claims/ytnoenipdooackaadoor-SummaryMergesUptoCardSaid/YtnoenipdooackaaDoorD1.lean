import Derived.Test.YtnoenipdooackaaDoorCD
set_option linter.unusedVariables false
set_option linter.unusedSimpArgs false
namespace Go.Proofs.YtnoenipdooackaaDoorS
open Go Go.Proofs.YtnoenipdooackaaDoorV

variable {G : Heap}
attribute [local irreducible] VN VC VX VQ

set_option maxHeartbeats 1000000 in
theorem decisions_ok (hG : G 0 = some nullC) (u : Sm) (p : Pr) (hL : p.Lim) : VN P G 3 [.agg u.cells, .agg p.cells] (.bool true) := by
  have s0 := sanity_ok (G := G) hG
  have l0 := Light_ok (G := G) u
  have l1 := Small_ok (G := G) p 300
  have m1 := May_ok (G := G) u p hL
  have m2 := refMay_ok (G := G) u p hL
  have m3 := Must_ok (G := G) u p hL
  have m4 := refMust_ok (G := G) u p hL
  simp only [Sm.d, Sm.cells, Pr.cells] at l0 l1 m1 m2 m3 m4 ⊢
  unfold VN
  refine VC.ofs (fun | 4 => [(0, []), (1, []), (3, [2]), (4, [2]), (2, []), (5, []), (6, []), (7, []), (8, []), (9, []), (11, [10]), (12, [10]), (10, []), (13, []), (14, []), (15, []), (16, []), (17, []), (18, []), (19, [])] | 99999999 => [(0, [0, 1, 2, 3, 4, 5, 14])] | _ => []) [4] mixed Tryd.func3 rfl rfl rfl rfl (by decide +kernel) (by simp) ?_
  simp only [go_sem, reduceIte, Nat.reduceEqDiff, Nat.reduceAdd, Nat.reduceSub, Nat.reduceMul, Nat.reduceLT, Nat.reduceLeDiff, Nat.reducePow, Int.reduceToNat, Int.reduceLT, Int.reduceLE, Int.reduceEq, Int.reduceNe, Int.reduceAdd, Int.reduceSub, Int.reduceMul, Int.reduceNeg]
  intro b0
  refine new_1 fun b1 h1 h2 => ?_
  try simp only [go_sem, reduceIte, Nat.reduceEqDiff, Nat.reduceAdd, Nat.reduceSub, Nat.reduceMul, Nat.reduceLT, Nat.reduceLeDiff, Nat.reducePow, Int.reduceToNat, Int.reduceLT, Int.reduceLE, Int.reduceEq, Int.reduceNe, Int.reduceAdd, Int.reduceSub, Int.reduceMul, Int.reduceNeg, h1, h2]
  refine cK_vn s0 ?_
  try simp only [go_sem, reduceIte, Nat.reduceEqDiff, Nat.reduceAdd, Nat.reduceSub, Nat.reduceMul, Nat.reduceLT, Nat.reduceLeDiff, Nat.reducePow, Int.reduceToNat, Int.reduceLT, Int.reduceLE, Int.reduceEq, Int.reduceNe, Int.reduceAdd, Int.reduceSub, Int.reduceMul, Int.reduceNeg, h1, h2]
  refine cK_vx l0 ?_
  rintro _ ⟨b, rfl⟩
  cases b
  · try simp only [go_sem, reduceIte, Nat.reduceEqDiff, Nat.reduceAdd, Nat.reduceSub, Nat.reduceMul, Nat.reduceLT, Nat.reduceLeDiff, Nat.reducePow, Int.reduceToNat, Int.reduceLT, Int.reduceLE, Int.reduceEq, Int.reduceNe, Int.reduceAdd, Int.reduceSub, Int.reduceMul, Int.reduceNeg, h1, h2]
    exact finK_drop ⟨rfl, rfl, rfl⟩
  try simp only [go_sem, reduceIte, Nat.reduceEqDiff, Nat.reduceAdd, Nat.reduceSub, Nat.reduceMul, Nat.reduceLT, Nat.reduceLeDiff, Nat.reducePow, Int.reduceToNat, Int.reduceLT, Int.reduceLE, Int.reduceEq, Int.reduceNe, Int.reduceAdd, Int.reduceSub, Int.reduceMul, Int.reduceNeg, h1, h2]
  refine cK_vx l1 ?_
  rintro _ ⟨b, rfl⟩
  cases b
  · try simp only [go_sem, reduceIte, Nat.reduceEqDiff, Nat.reduceAdd, Nat.reduceSub, Nat.reduceMul, Nat.reduceLT, Nat.reduceLeDiff, Nat.reducePow, Int.reduceToNat, Int.reduceLT, Int.reduceLE, Int.reduceEq, Int.reduceNe, Int.reduceAdd, Int.reduceSub, Int.reduceMul, Int.reduceNeg, h1, h2]
    exact finK_drop ⟨rfl, rfl, rfl⟩
  generalize mayT u p = x at m1 m2
  generalize mustT u p = y at m3 m4
  cases x <;> cases y
  all_goals repeat' (first | simp only [go_sem, reduceIte, Nat.reduceEqDiff, Nat.reduceAdd, Nat.reduceSub, Nat.reduceMul, Nat.reduceLT, Nat.reduceLeDiff, Nat.reducePow, Int.reduceToNat, Int.reduceLT, Int.reduceLE, Int.reduceEq, Int.reduceNe, Int.reduceAdd, Int.reduceSub, Int.reduceMul, Int.reduceNeg, h1, h2] | refine cE_vn m1 ?_ | refine cE_vn m2 ?_ | refine cE_vn m3 ?_ | refine cE_vn m4 ?_ | refine cK_vn m1 ?_ | refine cK_vn m2 ?_ | refine cK_vn m3 ?_ | refine cK_vn m4 ?_)
  all_goals exact finK_drop ⟨rfl, rfl, rfl⟩
end Go.Proofs.YtnoenipdooackaaDoorS
