import Derived.Test.YtgkfcgfobckaaaaP6
import Derived.Test.YtgkfcgfobckaaaaP7
import Derived.Test.YtgkfcgfobckaaaaPL
set_option linter.unusedVariables false
set_option linter.unusedSimpArgs false
namespace Go.Proofs.YtgkfcgfobckaaaaS
open Go Go.Proofs.YtgkfcgfobckaaaaV

variable {G : Heap}
attribute [local irreducible] VN VC VX VQ

theorem Pr_pat {ps : List Pr} {j : Nat} {p : Pr} (h : ps[j]? = some p) : (ps.map Pr.d).getD j .any = .agg p.cells := by
  rw [List.getD, List.getElem?_map, h]; exact p.d_eq
set_option maxHeartbeats 4000000 in
theorem best_ok (l : List En) (ps : List Pr) (hp : ∀ p ∈ ps, p.Lim) (hn : ps.length ≤ 1048576) : VN P G 7 [.sl .none (l.map En.d), .sl .none (ps.map Pr.d)] (.bool true) := by
  have hs := sanity_ok (G := G)
  have hli := LightL_ok (G := G) l
  unfold VN
  refine VC.ofs (fun | 12 => [(0, []), (1, []), (2, []), (3, []), (4, []), (5, []), (6, []), (7, []), (8, []), (9, [15]), (10, []), (11, []), (12, []), (13, []), (14, []), (15, []), (16, []), (17, []), (18, [])] | 99999999 => [(0, [0, 1, 4, 5, 6, 7, 8, 9, 10, 19, 24, 32, 42, 71, 75, 114])] | _ => []) [4] mixed Try.func7 rfl rfl rfl rfl (by decide +kernel) (by simp) ?_
  have el : (l.map En.d).length = l.length := by simp
  have ep : (ps.map Pr.d).length = ps.length := by simp
  simp only [go_sem, reduceIte, Nat.reduceEqDiff, Nat.reduceAdd, Nat.reduceSub, Nat.reduceMul, Nat.reduceLT, Nat.reduceLeDiff, Nat.reducePow, Int.reduceToNat, Int.reduceLT, Int.reduceLE, Int.reduceEq, Int.reduceNe, Int.reduceAdd, Int.reduceSub, Int.reduceMul, Int.reduceNeg]
  refine cK_vn hs ?_
  try simp only [go_sem, reduceIte, Nat.reduceEqDiff, Nat.reduceAdd, Nat.reduceSub, Nat.reduceMul, Nat.reduceLT, Nat.reduceLeDiff, Nat.reducePow, Int.reduceToNat, Int.reduceLT, Int.reduceLE, Int.reduceEq, Int.reduceNe, Int.reduceAdd, Int.reduceSub, Int.reduceMul, Int.reduceNeg, ep]
  refine cK_vx hli ?_
  rintro _ ⟨b, rfl, hb⟩
  cases b
  · try simp only [go_sem, reduceIte, Nat.reduceEqDiff, Nat.reduceAdd, Nat.reduceSub, Nat.reduceMul, Nat.reduceLT, Nat.reduceLeDiff, Nat.reducePow, Int.reduceToNat, Int.reduceLT, Int.reduceLE, Int.reduceEq, Int.reduceNe, Int.reduceAdd, Int.reduceSub, Int.reduceMul, Int.reduceNeg, ep]
    exact finK_drop ⟨rfl, rfl, rfl⟩
  try simp only [go_sem, reduceIte, Nat.reduceEqDiff, Nat.reduceAdd, Nat.reduceSub, Nat.reduceMul, Nat.reduceLT, Nat.reduceLeDiff, Nat.reducePow, Int.reduceToNat, Int.reduceLT, Int.reduceLE, Int.reduceEq, Int.reduceNe, Int.reduceAdd, Int.reduceSub, Int.reduceMul, Int.reduceNeg, ep]
  obtain ⟨hl, hc⟩ := hb rfl
  refine cd_dec (fun k => ?_) (fun k => ?_)
  · try simp only [go_sem, reduceIte, Nat.reduceEqDiff, Nat.reduceAdd, Nat.reduceSub, Nat.reduceMul, Nat.reduceLT, Nat.reduceLeDiff, Nat.reducePow, Int.reduceToNat, Int.reduceLT, Int.reduceLE, Int.reduceEq, Int.reduceNe, Int.reduceAdd, Int.reduceSub, Int.reduceMul, Int.reduceNeg, ep]
    exact finK_drop ⟨rfl, rfl, rfl⟩
  try simp only [go_sem, reduceIte, Nat.reduceEqDiff, Nat.reduceAdd, Nat.reduceSub, Nat.reduceMul, Nat.reduceLT, Nat.reduceLeDiff, Nat.reducePow, Int.reduceToNat, Int.reduceLT, Int.reduceLE, Int.reduceEq, Int.reduceNe, Int.reduceAdd, Int.reduceSub, Int.reduceMul, Int.reduceNeg, ep]
  refine vwq_loop (fun v => ∃ (j : Nat), j ≤ ps.length ∧ v.σ 0 = .sl .none (l.map En.d) ∧ v.σ 1 = .sl .none (ps.map Pr.d) ∧ v.σ 5 = .bool true ∧ v.σ 6 = .int .i64 j ∧ v.β = Heap.nil ∧ v.ω = []) (fun v => ps.length - (ival (v.σ 6)).toNat) ⟨0, by omega, rfl, rfl, rfl, rfl, rfl, rfl⟩ ?_
  rintro σ β ω ⟨j, hj, q0, q1, q5, q6, rfl, rfl⟩
  dsimp only at q0 q1 q5 q6
  try simp only [go_sem, reduceIte, Nat.reduceEqDiff, Nat.reduceAdd, Nat.reduceSub, Nat.reduceMul, Nat.reduceLT, Nat.reduceLeDiff, Nat.reducePow, Int.reduceToNat, Int.reduceLT, Int.reduceLE, Int.reduceEq, Int.reduceNe, Int.reduceAdd, Int.reduceSub, Int.reduceMul, Int.reduceNeg, q0, q1, q5, q6, ep]
  refine cd_dec (fun g => ?_) (fun g => ?_)
  · have g' := eq_true g
    obtain ⟨p, hpj⟩ : ∃ p, ps[j]? = some p := ⟨ps[j]'(by omega), by simp⟩
    have ex := Pr_pat hpj
    have c1 : ((0 : Int) ≤ j) = True := eq_true (by omega)
    have wj := wrap_i64 (x := (j : Int) + 1) (by omega) (by omega)
    have hsm := Small_ok (G := G) p 100
    try simp only [go_sem, reduceIte, Nat.reduceEqDiff, Nat.reduceAdd, Nat.reduceSub, Nat.reduceMul, Nat.reduceLT, Nat.reduceLeDiff, Nat.reducePow, Int.reduceToNat, Int.reduceLT, Int.reduceLE, Int.reduceEq, Int.reduceNe, Int.reduceAdd, Int.reduceSub, Int.reduceMul, Int.reduceNeg, q0, q1, q5, q6, ep, ex, c1, g', p.take7, p.obj, p.len7]
    refine cK_vx hsm ?_
    rintro _ ⟨b, rfl⟩
    cases b
    · try simp only [go_sem, reduceIte, Nat.reduceEqDiff, Nat.reduceAdd, Nat.reduceSub, Nat.reduceMul, Nat.reduceLT, Nat.reduceLeDiff, Nat.reducePow, Int.reduceToNat, Int.reduceLT, Int.reduceLE, Int.reduceEq, Int.reduceNe, Int.reduceAdd, Int.reduceSub, Int.reduceMul, Int.reduceNeg, q0, q1, q5, q6, ep]
      exact finK_drop ⟨rfl, rfl, rfl⟩
    · try simp only [go_sem, reduceIte, Nat.reduceEqDiff, Nat.reduceAdd, Nat.reduceSub, Nat.reduceMul, Nat.reduceLT, Nat.reduceLeDiff, Nat.reducePow, Int.reduceToNat, Int.reduceLT, Int.reduceLE, Int.reduceEq, Int.reduceNe, Int.reduceAdd, Int.reduceSub, Int.reduceMul, Int.reduceNeg, q0, q1, q5, q6, ep, wj]
      exact ⟨⟨j + 1, by omega, rfl⟩, by omega⟩
  · have hbe := Best_ok (G := G) l ps hl hc hp hn
    rw [bestF_eq] at hbe
    by_cases h0 : ps.length = 0
    · obtain rfl : ps = [] := List.eq_nil_of_length_eq_zero h0
      simp only [List.length_nil, bestG, Pl.cells, List.map_nil] at hbe
      try simp only [go_sem, reduceIte, Nat.reduceEqDiff, Nat.reduceAdd, Nat.reduceSub, Nat.reduceMul, Nat.reduceLT, Nat.reduceLeDiff, Nat.reducePow, Int.reduceToNat, Int.reduceLT, Int.reduceLE, Int.reduceEq, Int.reduceNe, Int.reduceAdd, Int.reduceSub, Int.reduceMul, Int.reduceNeg, q0, q1, q5, q6, List.map_nil]
      refine cK_vn hbe ?_
      try simp only [go_sem, reduceIte, Nat.reduceEqDiff, Nat.reduceAdd, Nat.reduceSub, Nat.reduceMul, Nat.reduceLT, Nat.reduceLeDiff, Nat.reducePow, Int.reduceToNat, Int.reduceLT, Int.reduceLE, Int.reduceEq, Int.reduceNe, Int.reduceAdd, Int.reduceSub, Int.reduceMul, Int.reduceNeg, q0, q1, q5, q6, List.map_nil]
      refine fun b8 => ?_
      refine cK_vn (sSame _ _ _ _ ⟨[], [], 0, 0⟩ _ _ _ _ rfl rfl rfl rfl) ?_
      try simp only [go_sem, reduceIte, Nat.reduceEqDiff, Nat.reduceAdd, Nat.reduceSub, Nat.reduceMul, Nat.reduceLT, Nat.reduceLeDiff, Nat.reducePow, Int.reduceToNat, Int.reduceLT, Int.reduceLE, Int.reduceEq, Int.reduceNe, Int.reduceAdd, Int.reduceSub, Int.reduceMul, Int.reduceNeg, q0, q1, q5, q6]
      exact finK_drop ⟨rfl, rfl, rfl⟩
    · obtain ⟨k, p, hk, hpk, he, hall⟩ := bestG_spec (scanF l) ps ps.length (Nat.le_refl _) (by omega)
      rw [he] at hbe
      simp only [Pl.cells] at hbe
      have hsc : ∀ q ∈ ps, VN P G 14 [.sl .none (l.map En.d), .agg q.cells] (.agg [.sl .none ((scanF l q).read.map iD), .sl .none ((scanF l q).skip.map iD), .int .i64 (scanF l q).req, .int .i64 (scanF l q).bytes]) := fun q hq => Scan_ok (G := G) l q hl hc (hp q hq)
      have z0 : ((ps.length : Int) = 0) = False := eq_false (by omega)
      have k0 : ((k : Int) < 0) = False := eq_false (by omega)
      have k1 : ((ps.length : Int) ≤ k) = False := eq_false (by omega)
      have k2 : ((0 : Int) ≤ k) = True := eq_true (by omega)
      have k3 : ((k : Int) < ps.length) = True := eq_true (by omega)
      try simp only [go_sem, reduceIte, Nat.reduceEqDiff, Nat.reduceAdd, Nat.reduceSub, Nat.reduceMul, Nat.reduceLT, Nat.reduceLeDiff, Nat.reducePow, Int.reduceToNat, Int.reduceLT, Int.reduceLE, Int.reduceEq, Int.reduceNe, Int.reduceAdd, Int.reduceSub, Int.reduceMul, Int.reduceNeg, q0, q1, q5, q6, ep]
      refine cK_vn hbe ?_
      try simp only [go_sem, reduceIte, Nat.reduceEqDiff, Nat.reduceAdd, Nat.reduceSub, Nat.reduceMul, Nat.reduceLT, Nat.reduceLeDiff, Nat.reducePow, Int.reduceToNat, Int.reduceLT, Int.reduceLE, Int.reduceEq, Int.reduceNe, Int.reduceAdd, Int.reduceSub, Int.reduceMul, Int.reduceNeg, q0, q1, q5, q6, ep, z0, decide_false]
      refine fun b8 => ?_
      try simp only [go_sem, reduceIte, Nat.reduceEqDiff, Nat.reduceAdd, Nat.reduceSub, Nat.reduceMul, Nat.reduceLT, Nat.reduceLeDiff, Nat.reducePow, Int.reduceToNat, Int.reduceLT, Int.reduceLE, Int.reduceEq, Int.reduceNe, Int.reduceAdd, Int.reduceSub, Int.reduceMul, Int.reduceNeg, q0, q1, q5, q6, ep, z0, decide_false, k0, k1, k2, k3, Pr_pat hpk, p.take7, p.obj, p.len7, ge_iff_le]
      refine cE_vn (hsc p (List.mem_of_getElem? hpk)) ?_
      try simp only [go_sem, reduceIte, Nat.reduceEqDiff, Nat.reduceAdd, Nat.reduceSub, Nat.reduceMul, Nat.reduceLT, Nat.reduceLeDiff, Nat.reducePow, Int.reduceToNat, Int.reduceLT, Int.reduceLE, Int.reduceEq, Int.reduceNe, Int.reduceAdd, Int.reduceSub, Int.reduceMul, Int.reduceNeg, q0, q1, q5, q6, ep, z0, decide_false, k0, k1, k2, k3, Pr_pat hpk, p.take7, p.obj, p.len7, ge_iff_le]
      refine cE_vn (sSame _ _ _ _ (scanF l p) _ _ _ _ rfl rfl rfl rfl) ?_
      try simp only [go_sem, reduceIte, Nat.reduceEqDiff, Nat.reduceAdd, Nat.reduceSub, Nat.reduceMul, Nat.reduceLT, Nat.reduceLeDiff, Nat.reducePow, Int.reduceToNat, Int.reduceLT, Int.reduceLE, Int.reduceEq, Int.reduceNe, Int.reduceAdd, Int.reduceSub, Int.reduceMul, Int.reduceNeg, q0, q1, q5, q6, ep, z0, decide_false, k0, k1, k2, k3, Pr_pat hpk, p.take7, p.obj, p.len7, ge_iff_le]
      generalize hβ : Heap.set _ b8 _ = β1
      have e8 : β1 b8 = some [.sl .none ((scanF l p).read.map iD), .sl .none ((scanF l p).skip.map iD), .int .i64 (scanF l p).req, .int .i64 (scanF l p).bytes] := by rw [← hβ]; simp [Heap.set]
      clear hβ hbe
      refine vwq_loop (fun v => ∃ (j : Nat), j ≤ ps.length ∧ v.σ 0 = .sl .none (l.map En.d) ∧ v.σ 1 = .sl .none (ps.map Pr.d) ∧ v.σ 5 = .bool true ∧ v.σ 7 = .int .i64 k ∧ v.σ 8 = .pb b8 0 ∧ v.σ 9 = .int .i64 j ∧ v.β b8 = some [.sl .none ((scanF l p).read.map iD), .sl .none ((scanF l p).skip.map iD), .int .i64 (scanF l p).req, .int .i64 (scanF l p).bytes] ∧ v.ω = []) (fun v => ps.length - (ival (v.σ 9)).toNat) ⟨0, by omega, rfl, rfl, rfl, rfl, rfl, rfl, e8, rfl⟩ ?_
      clear e8 β1
      rintro σ β ω ⟨j, hj, q0, q1, q5, q7, q8, q9, e8, rfl⟩
      dsimp only at q0 q1 q5 q7 q8 q9 e8
      try simp only [go_sem, reduceIte, Nat.reduceEqDiff, Nat.reduceAdd, Nat.reduceSub, Nat.reduceMul, Nat.reduceLT, Nat.reduceLeDiff, Nat.reducePow, Int.reduceToNat, Int.reduceLT, Int.reduceLE, Int.reduceEq, Int.reduceNe, Int.reduceAdd, Int.reduceSub, Int.reduceMul, Int.reduceNeg, q0, q1, q5, q7, q8, q9, ep]
      refine cd_dec (fun g => ?_) (fun g => ?_)
      · have g' := eq_true g
        obtain ⟨q, hq⟩ : ∃ q, ps[j]? = some q := ⟨ps[j]'(by omega), by simp⟩
        have ex := Pr_pat hq
        have c1 : ((0 : Int) ≤ j) = True := eq_true (by omega)
        have wj := wrap_i64 (x := (j : Int) + 1) (by omega) (by omega)
        obtain ⟨a1, a2⟩ := hall j q (by omega) hq
        rw [ltP_iff] at a1 a2
        try simp only [go_sem, reduceIte, Nat.reduceEqDiff, Nat.reduceAdd, Nat.reduceSub, Nat.reduceMul, Nat.reduceLT, Nat.reduceLeDiff, Nat.reducePow, Int.reduceToNat, Int.reduceLT, Int.reduceLE, Int.reduceEq, Int.reduceNe, Int.reduceAdd, Int.reduceSub, Int.reduceMul, Int.reduceNeg, q0, q1, q5, q7, q8, q9, ep, ex, c1, g', q.take7, q.obj, q.len7]
        (first | refine cK_vn (hsc q (List.mem_of_getElem? hq)) ?_ | refine cE_vn (hsc q (List.mem_of_getElem? hq)) ?_)
        try simp only [go_sem, reduceIte, Nat.reduceEqDiff, Nat.reduceAdd, Nat.reduceSub, Nat.reduceMul, Nat.reduceLT, Nat.reduceLeDiff, Nat.reducePow, Int.reduceToNat, Int.reduceLT, Int.reduceLE, Int.reduceEq, Int.reduceNe, Int.reduceAdd, Int.reduceSub, Int.reduceMul, Int.reduceNeg, q0, q1, q5, q7, q8, q9, ep, ex, c1, g', q.take7, q.obj, q.len7]
        refine new_any fun b10 h10 => ?_
        have m8 := box_ne h10 e8
        have f1 : ((scanF l q).bytes < (scanF l p).bytes) = False := eq_false (by omega)
        by_cases h2 : (scanF l q).bytes = (scanF l p).bytes
        · have f3 : ((scanF l q).req < (scanF l p).req) = False := eq_false (by omega)
          by_cases h4 : (scanF l q).req = (scanF l p).req
          · have f5 : ((j : Int) < k) = False := eq_false (by omega)
            try simp only [go_sem, reduceIte, Nat.reduceEqDiff, Nat.reduceAdd, Nat.reduceSub, Nat.reduceMul, Nat.reduceLT, Nat.reduceLeDiff, Nat.reducePow, Int.reduceToNat, Int.reduceLT, Int.reduceLE, Int.reduceEq, Int.reduceNe, Int.reduceAdd, Int.reduceSub, Int.reduceMul, Int.reduceNeg, q0, q1, q5, q7, q8, q9, ep, m8, e8, f1, h2, f3, h4, f5, wj, decide_true, decide_false, Int.lt_irrefl]
            exact ⟨⟨j + 1, by omega, rfl⟩, by omega⟩
          · have h4' := eq_false h4
            try simp only [go_sem, reduceIte, Nat.reduceEqDiff, Nat.reduceAdd, Nat.reduceSub, Nat.reduceMul, Nat.reduceLT, Nat.reduceLeDiff, Nat.reducePow, Int.reduceToNat, Int.reduceLT, Int.reduceLE, Int.reduceEq, Int.reduceNe, Int.reduceAdd, Int.reduceSub, Int.reduceMul, Int.reduceNeg, q0, q1, q5, q7, q8, q9, ep, m8, e8, f1, h2, f3, h4', wj, decide_true, decide_false, Int.lt_irrefl]
            exact ⟨⟨j + 1, by omega, rfl⟩, by omega⟩
        · have h2' := eq_false h2
          try simp only [go_sem, reduceIte, Nat.reduceEqDiff, Nat.reduceAdd, Nat.reduceSub, Nat.reduceMul, Nat.reduceLT, Nat.reduceLeDiff, Nat.reducePow, Int.reduceToNat, Int.reduceLT, Int.reduceLE, Int.reduceEq, Int.reduceNe, Int.reduceAdd, Int.reduceSub, Int.reduceMul, Int.reduceNeg, q0, q1, q5, q7, q8, q9, ep, m8, e8, f1, h2', wj, decide_true, decide_false]
          exact ⟨⟨j + 1, by omega, rfl⟩, by omega⟩
      · try simp only [go_sem, reduceIte, Nat.reduceEqDiff, Nat.reduceAdd, Nat.reduceSub, Nat.reduceMul, Nat.reduceLT, Nat.reduceLeDiff, Nat.reducePow, Int.reduceToNat, Int.reduceLT, Int.reduceLE, Int.reduceEq, Int.reduceNe, Int.reduceAdd, Int.reduceSub, Int.reduceMul, Int.reduceNeg, q0, q1, q5, q7, q8, q9, ep]
        exact finK_drop ⟨rfl, rfl, rfl⟩
end Go.Proofs.YtgkfcgfobckaaaaS
