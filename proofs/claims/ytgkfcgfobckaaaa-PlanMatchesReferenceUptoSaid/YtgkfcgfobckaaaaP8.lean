import Derived.Test.YtgkfcgfobckaaaaP6
import Derived.Test.YtgkfcgfobckaaaaP7
set_option linter.unusedVariables false
set_option linter.unusedSimpArgs false
namespace Go.Proofs.YtgkfcgfobckaaaaS
open Go Go.Proofs.YtgkfcgfobckaaaaV

variable {G : Heap}
attribute [local irreducible] VN VC VX VQ

theorem matches_ok (l : List En) (p : Pr) (hp : p.Lim) : VN P G 3 [.sl .none (l.map En.d), .agg p.cells] (.bool true) := by
  have hs := sanity_ok (G := G)
  have hli := LightL_ok (G := G) l
  have hsm := Small_ok (G := G) p 100
  unfold VN
  refine VC.ofs (fun | 7 => [(0, []), (1, []), (2, []), (3, []), (5, []), (6, []), (7, []), (8, [4]), (4, []), (9, []), (10, [])] | 9 => [(0, []), (1, []), (3, []), (4, [2]), (2, []), (5, []), (6, []), (7, []), (8, []), (9, []), (11, []), (12, [10]), (10, []), (13, []), (14, []), (15, []), (16, []), (17, []), (18, []), (19, [])] | 99999999 => [(0, [0, 1, 3, 4, 5, 6, 15, 20, 33])] | _ => []) [4] mixed Try.func3 rfl rfl rfl rfl (by decide +kernel) (by simp) ?_
  have el : (l.map En.d).length = l.length := by simp
  simp only [go_sem, reduceIte, Nat.reduceEqDiff, Nat.reduceAdd, Nat.reduceSub, Nat.reduceMul, Nat.reduceLT, Nat.reduceLeDiff, Nat.reducePow, Int.reduceToNat, Int.reduceLT, Int.reduceLE, Int.reduceEq, Int.reduceNe, Int.reduceAdd, Int.reduceSub, Int.reduceMul, Int.reduceNeg]
  refine fun b3 => cK_vn hs ?_
  try simp only [go_sem, reduceIte, Nat.reduceEqDiff, Nat.reduceAdd, Nat.reduceSub, Nat.reduceMul, Nat.reduceLT, Nat.reduceLeDiff, Nat.reducePow, Int.reduceToNat, Int.reduceLT, Int.reduceLE, Int.reduceEq, Int.reduceNe, Int.reduceAdd, Int.reduceSub, Int.reduceMul, Int.reduceNeg, p.take7, p.obj, p.len7]
  refine cK_vx hli ?_
  rintro _ ⟨b, rfl, hb⟩
  cases b
  · try simp only [go_sem, reduceIte, Nat.reduceEqDiff, Nat.reduceAdd, Nat.reduceSub, Nat.reduceMul, Nat.reduceLT, Nat.reduceLeDiff, Nat.reducePow, Int.reduceToNat, Int.reduceLT, Int.reduceLE, Int.reduceEq, Int.reduceNe, Int.reduceAdd, Int.reduceSub, Int.reduceMul, Int.reduceNeg, p.take7, p.obj, p.len7]
    exact finK_drop ⟨rfl, rfl, rfl⟩
  · try simp only [go_sem, reduceIte, Nat.reduceEqDiff, Nat.reduceAdd, Nat.reduceSub, Nat.reduceMul, Nat.reduceLT, Nat.reduceLeDiff, Nat.reducePow, Int.reduceToNat, Int.reduceLT, Int.reduceLE, Int.reduceEq, Int.reduceNe, Int.reduceAdd, Int.reduceSub, Int.reduceMul, Int.reduceNeg, p.take7, p.obj, p.len7]
    obtain ⟨hl, hc⟩ := hb rfl
    refine cK_vx hsm ?_
    rintro _ ⟨b, rfl⟩
    cases b
    · try simp only [go_sem, reduceIte, Nat.reduceEqDiff, Nat.reduceAdd, Nat.reduceSub, Nat.reduceMul, Nat.reduceLT, Nat.reduceLeDiff, Nat.reducePow, Int.reduceToNat, Int.reduceLT, Int.reduceLE, Int.reduceEq, Int.reduceNe, Int.reduceAdd, Int.reduceSub, Int.reduceMul, Int.reduceNeg, p.take7, p.obj, p.len7]
      exact finK_drop ⟨rfl, rfl, rfl⟩
    · try simp only [go_sem, reduceIte, Nat.reduceEqDiff, Nat.reduceAdd, Nat.reduceSub, Nat.reduceMul, Nat.reduceLT, Nat.reduceLeDiff, Nat.reducePow, Int.reduceToNat, Int.reduceLT, Int.reduceLE, Int.reduceEq, Int.reduceNe, Int.reduceAdd, Int.reduceSub, Int.reduceMul, Int.reduceNeg, p.take7, p.obj, p.len7]
      generalize hβ : Heap.set Heap.nil b3 _ = β0
      have e0 : β0 b3 = some p.cells := by rw [← hβ]; simp only [Heap.set, if_true]
      clear hβ
      refine vwq_loop (fun v => ∃ (j : Nat), j ≤ l.length ∧ v.σ 0 = .sl .none (l.map En.d) ∧ v.σ 3 = .pb b3 0 ∧ v.σ 5 = .bool true ∧ v.σ 6 = .int .i64 j ∧ v.β = β0 ∧ v.ω = []) (fun v => l.length - (ival (v.σ 6)).toNat) ⟨0, by omega, rfl, rfl, rfl, rfl, rfl, rfl⟩ ?_
      rintro σ β ω ⟨j, hj, q0, q3, q5, q6, rfl, rfl⟩
      dsimp only at q0 q3 q5 q6 e0
      try simp only [go_sem, reduceIte, Nat.reduceEqDiff, Nat.reduceAdd, Nat.reduceSub, Nat.reduceMul, Nat.reduceLT, Nat.reduceLeDiff, Nat.reducePow, Int.reduceToNat, Int.reduceLT, Int.reduceLE, Int.reduceEq, Int.reduceNe, Int.reduceAdd, Int.reduceSub, Int.reduceMul, Int.reduceNeg, q0, q3, q5, q6, e0, el]
      refine cd_dec (fun g => ?_) (fun g => ?_)
      · have g' := eq_true g
        obtain ⟨x, hx, ex⟩ := En_at (l := l) (j := j) (by omega)
        have hxc := hc x (List.mem_of_getElem? hx)
        have c1 : ((0 : Int) ≤ j) = True := eq_true (by omega)
        have wj := wrap_i64 (x := (j : Int) + 1) (by omega) (by omega)
        have h1 := Cost_ok (G := G) x hxc
        have h2 := refCost_ok (G := G) x hxc
        try simp only [go_sem, reduceIte, Nat.reduceEqDiff, Nat.reduceAdd, Nat.reduceSub, Nat.reduceMul, Nat.reduceLT, Nat.reduceLeDiff, Nat.reducePow, Int.reduceToNat, Int.reduceLT, Int.reduceLE, Int.reduceEq, Int.reduceNe, Int.reduceAdd, Int.reduceSub, Int.reduceMul, Int.reduceNeg, q0, q3, q5, q6, e0, el, ex, g', c1, x.length, x.take, x.obj, wj, ne_eq, not_true_eq_false]
        refine cE_vn h1 ?_
        try simp only [go_sem, reduceIte, Nat.reduceEqDiff, Nat.reduceAdd, Nat.reduceSub, Nat.reduceMul, Nat.reduceLT, Nat.reduceLeDiff, Nat.reducePow, Int.reduceToNat, Int.reduceLT, Int.reduceLE, Int.reduceEq, Int.reduceNe, Int.reduceAdd, Int.reduceSub, Int.reduceMul, Int.reduceNeg, q0, q3, q5, q6, e0, el, ex, g', c1, x.length, x.take, x.obj, wj, ne_eq, not_true_eq_false]
        refine cE_vn h2 ?_
        try simp only [go_sem, reduceIte, Nat.reduceEqDiff, Nat.reduceAdd, Nat.reduceSub, Nat.reduceMul, Nat.reduceLT, Nat.reduceLeDiff, Nat.reducePow, Int.reduceToNat, Int.reduceLT, Int.reduceLE, Int.reduceEq, Int.reduceNe, Int.reduceAdd, Int.reduceSub, Int.reduceMul, Int.reduceNeg, q0, q3, q5, q6, e0, el, ex, g', c1, x.length, x.take, x.obj, wj, ne_eq, not_true_eq_false]
        exact ⟨⟨j + 1, by omega, rfl⟩, by omega⟩
      · have h1 := Scan_ok (G := G) l p hl hc hp
        have h2 := refScan_ok (G := G) l p hl hc hp
        have h3 := Keep_ok (G := G) l p hl hp
        have h4 := refKeep_ok (G := G) l p hl hp
        have h5 := fun t1 t2 t3 t4 => sSame (G := G) t1 t2 t3 t4 (plF l (keepF l p) l.length) _ _ _ _ rfl rfl rfl rfl
        have h6 := fun t1 t2 => Bools_ok (G := G) t1 t2 (keepF l p) (keepF l p)
        simp only [decide_true] at h6
        simp only [Pl.cells] at h1 h2
        generalize plF l (keepF l p) l.length = X at *
        generalize keepF l p = K at *
        try simp only [go_sem, reduceIte, Nat.reduceEqDiff, Nat.reduceAdd, Nat.reduceSub, Nat.reduceMul, Nat.reduceLT, Nat.reduceLeDiff, Nat.reducePow, Int.reduceToNat, Int.reduceLT, Int.reduceLE, Int.reduceEq, Int.reduceNe, Int.reduceAdd, Int.reduceSub, Int.reduceMul, Int.reduceNeg, q0, q3, q5, q6, e0, el, p.take7, p.obj, p.len7]
        refine cE_vn h1 ?_
        try simp only [go_sem, reduceIte, Nat.reduceEqDiff, Nat.reduceAdd, Nat.reduceSub, Nat.reduceMul, Nat.reduceLT, Nat.reduceLeDiff, Nat.reducePow, Int.reduceToNat, Int.reduceLT, Int.reduceLE, Int.reduceEq, Int.reduceNe, Int.reduceAdd, Int.reduceSub, Int.reduceMul, Int.reduceNeg, q0, q3, q5, q6, e0, el, p.take7, p.obj, p.len7]
        refine cE_vn h2 ?_
        try simp only [go_sem, reduceIte, Nat.reduceEqDiff, Nat.reduceAdd, Nat.reduceSub, Nat.reduceMul, Nat.reduceLT, Nat.reduceLeDiff, Nat.reducePow, Int.reduceToNat, Int.reduceLT, Int.reduceLE, Int.reduceEq, Int.reduceNe, Int.reduceAdd, Int.reduceSub, Int.reduceMul, Int.reduceNeg, q0, q3, q5, q6, e0, el, p.take7, p.obj, p.len7]
        refine cE_vn (h5 _ _ _ _) ?_
        try simp only [go_sem, reduceIte, Nat.reduceEqDiff, Nat.reduceAdd, Nat.reduceSub, Nat.reduceMul, Nat.reduceLT, Nat.reduceLeDiff, Nat.reducePow, Int.reduceToNat, Int.reduceLT, Int.reduceLE, Int.reduceEq, Int.reduceNe, Int.reduceAdd, Int.reduceSub, Int.reduceMul, Int.reduceNeg, q0, q3, q5, q6, e0, el, p.take7, p.obj, p.len7]
        refine cE_vn h3 ?_
        try simp only [go_sem, reduceIte, Nat.reduceEqDiff, Nat.reduceAdd, Nat.reduceSub, Nat.reduceMul, Nat.reduceLT, Nat.reduceLeDiff, Nat.reducePow, Int.reduceToNat, Int.reduceLT, Int.reduceLE, Int.reduceEq, Int.reduceNe, Int.reduceAdd, Int.reduceSub, Int.reduceMul, Int.reduceNeg, q0, q3, q5, q6, e0, el, p.take7, p.obj, p.len7]
        refine cE_vn h4 ?_
        try simp only [go_sem, reduceIte, Nat.reduceEqDiff, Nat.reduceAdd, Nat.reduceSub, Nat.reduceMul, Nat.reduceLT, Nat.reduceLeDiff, Nat.reducePow, Int.reduceToNat, Int.reduceLT, Int.reduceLE, Int.reduceEq, Int.reduceNe, Int.reduceAdd, Int.reduceSub, Int.reduceMul, Int.reduceNeg, q0, q3, q5, q6, e0, el, p.take7, p.obj, p.len7]
        refine cE_vn (h6 _ _) ?_
        try simp only [go_sem, reduceIte, Nat.reduceEqDiff, Nat.reduceAdd, Nat.reduceSub, Nat.reduceMul, Nat.reduceLT, Nat.reduceLeDiff, Nat.reducePow, Int.reduceToNat, Int.reduceLT, Int.reduceLE, Int.reduceEq, Int.reduceNe, Int.reduceAdd, Int.reduceSub, Int.reduceMul, Int.reduceNeg, q0, q3, q5, q6, e0, el, p.take7, p.obj, p.len7]
        exact finK_drop ⟨rfl, rfl, rfl⟩
end Go.Proofs.YtgkfcgfobckaaaaS
