import Derived.Test.YtnoenipdooackaaDoorE2
set_option linter.unusedVariables false
set_option linter.unusedSimpArgs false
namespace Go.Proofs.YtnoenipdooackaaDoorS
open Go Go.Proofs.YtnoenipdooackaaDoorV

variable {G : Heap}
attribute [local irreducible] VN VC VX VQ

@[go_sem] theorem gdV_wn_off (d : D) (want : Bool) : gdV (D.wn false d) want = some false := by
  cases d with
  | when c d => cases d <;> rfl
  | _ => rfl
theorem eval_ok (r : Rw) : ∀ (n : Nat) (p : Pr), SizeOf.sizeOf p ≤ n → p.Lim → VN P G 17 [.agg p.cells, .agg [.sl .none (r.map clD)]] (.int .i64 (evalP r p))
  | 0, p, h, _ => by cases p; simp at h
  | n + 1, p, hn, hL => by
    obtain ⟨_, z3, hk⟩ := hL
    exact eval_step r p z3 fun k hk' => eval_ok r n k (Nat.le_of_lt_succ (Nat.lt_of_lt_of_le (Pr.kid_lt (p := p) hk') hn)) (hk k hk')
def notP (p : Pr) : Pr := .mk 7 0 0 0 [] ByteArray.empty [p]
theorem notP_lim {p : Pr} (h : p.Lim) : (notP p).Lim := .mk _ (by simp [notP, Pr.kids]) fun k hk => by simp [notP, Pr.kids] at hk; subst hk; exact h
theorem possT_not (u : Sm) (p : Pr) : possT u (notP p) = (possT u p).turn := by
  rw [possT_eq]; simp [notP, Pr.op, Pr.kids]
theorem notP_cells (p : Pr) : (notP p).cells = [.int .i64 7, .int .i64 0, .int .i64 0, .int .i64 0, .sl .none [], .str ByteArray.empty, .sl .none [.agg p.cells]] := by
  simp only [notP, Pr.cells, Pr.kids, List.map_cons, List.map_nil, Pr.d_eq]; rfl
set_option maxHeartbeats 4000000 in
theorem sound_ok (hG : G 0 = some nullC) (u : Sm) (p : Pr) (r : Rw) (hL : p.Lim) : VN P G 4 [.agg u.cells, .agg p.cells, .agg [.sl .none (r.map clD)]] (.bool true) := by
  have s0 := sanity_ok (G := G) hG
  have l0 := Light_ok (G := G) u
  have l1 := Small_ok (G := G) p 300
  have cv := Covers_ok (G := G) hG u r
  have ev := eval_ok (G := G) r _ p (Nat.le_refl _) hL
  have m1 := May_ok (G := G) u p hL
  have m2 := May_ok (G := G) u (notP p) (notP_lim hL)
  have m3 := Must_ok (G := G) u p hL
  have m4 := Must_ok (G := G) u (notP p) (notP_lim hL)
  have nt := mknot_ok (G := G) p
  rw [show (Pr.mk 7 0 0 0 [] ByteArray.empty [p]).cells = (notP p).cells from rfl] at nt
  rw [notP_cells] at m2 m4 nt
  simp only [Sm.d, Sm.cells, Pr.cells] at l0 l1 cv ev m1 m2 m3 m4 nt ⊢
  have hk : coversF u r = true → 0 < u.rows ∧ has (possT u p) (evalP r p) = true := fun h => ⟨(covers_in h).1, poss_sound h _ p (Nat.le_refl _)⟩
  have h012 := evalP_012 r p
  unfold VN
  refine VC.ofs (fun | 5 => [(0, []), (1, []), (2, []), (3, []), (4, []), (5, []), (6, []), (7, [9]), (8, []), (9, []), (10, []), (11, []), (12, []), (13, []), (14, [])] | 6 => [(0, []), (1, []), (2, []), (3, [5]), (4, []), (5, []), (6, []), (7, []), (8, []), (9, []), (10, []), (11, []), (12, []), (13, []), (14, [])] | 7 => [(0, []), (1, []), (2, []), (3, []), (4, []), (5, []), (6, []), (7, []), (8, [10]), (9, []), (10, []), (11, []), (12, []), (13, []), (14, []), (15, [])] | 99999999 => [(0, [0, 1, 2, 3, 4, 5, 6, 7, 8, 9, 10, 11, 32])] | _ => []) [6] mixed Tryd.func4 rfl rfl rfl rfl (by decide +kernel) (by simp) ?_
  simp only [go_sem, reduceIte, Nat.reduceEqDiff, Nat.reduceAdd, Nat.reduceSub, Nat.reduceMul, Nat.reduceLT, Nat.reduceLeDiff, Nat.reducePow, Int.reduceToNat, Int.reduceLT, Int.reduceLE, Int.reduceEq, Int.reduceNe, Int.reduceAdd, Int.reduceSub, Int.reduceMul, Int.reduceNeg]
  intro b0
  refine new_1 fun b1 h1 h2 => ?_
  refine new_2 fun b2 h3 h4 h5 => ?_
  try simp only [go_sem, reduceIte, Nat.reduceEqDiff, Nat.reduceAdd, Nat.reduceSub, Nat.reduceMul, Nat.reduceLT, Nat.reduceLeDiff, Nat.reducePow, Int.reduceToNat, Int.reduceLT, Int.reduceLE, Int.reduceEq, Int.reduceNe, Int.reduceAdd, Int.reduceSub, Int.reduceMul, Int.reduceNeg, h1, h2, h3, h4, h5]
  refine cK_vn s0 ?_
  try simp only [go_sem, reduceIte, Nat.reduceEqDiff, Nat.reduceAdd, Nat.reduceSub, Nat.reduceMul, Nat.reduceLT, Nat.reduceLeDiff, Nat.reducePow, Int.reduceToNat, Int.reduceLT, Int.reduceLE, Int.reduceEq, Int.reduceNe, Int.reduceAdd, Int.reduceSub, Int.reduceMul, Int.reduceNeg, h1, h2, h3, h4, h5]
  refine cK_vx l0 ?_
  rintro _ ⟨b, rfl⟩
  cases b
  · try simp only [go_sem, reduceIte, Nat.reduceEqDiff, Nat.reduceAdd, Nat.reduceSub, Nat.reduceMul, Nat.reduceLT, Nat.reduceLeDiff, Nat.reducePow, Int.reduceToNat, Int.reduceLT, Int.reduceLE, Int.reduceEq, Int.reduceNe, Int.reduceAdd, Int.reduceSub, Int.reduceMul, Int.reduceNeg, h1, h2, h3, h4, h5]
    exact finK_drop ⟨rfl, rfl, rfl⟩
  try simp only [go_sem, reduceIte, Nat.reduceEqDiff, Nat.reduceAdd, Nat.reduceSub, Nat.reduceMul, Nat.reduceLT, Nat.reduceLeDiff, Nat.reducePow, Int.reduceToNat, Int.reduceLT, Int.reduceLE, Int.reduceEq, Int.reduceNe, Int.reduceAdd, Int.reduceSub, Int.reduceMul, Int.reduceNeg, h1, h2, h3, h4, h5]
  refine cK_vx l1 ?_
  rintro _ ⟨b, rfl⟩
  cases b
  · try simp only [go_sem, reduceIte, Nat.reduceEqDiff, Nat.reduceAdd, Nat.reduceSub, Nat.reduceMul, Nat.reduceLT, Nat.reduceLeDiff, Nat.reducePow, Int.reduceToNat, Int.reduceLT, Int.reduceLE, Int.reduceEq, Int.reduceNe, Int.reduceAdd, Int.reduceSub, Int.reduceMul, Int.reduceNeg, h1, h2, h3, h4, h5]
    exact finK_drop ⟨rfl, rfl, rfl⟩
  by_cases k60 : (60 : Int) < ((r.map clD).length : Nat)
  · try simp only [go_sem, reduceIte, Nat.reduceEqDiff, Nat.reduceAdd, Nat.reduceSub, Nat.reduceMul, Nat.reduceLT, Nat.reduceLeDiff, Nat.reducePow, Int.reduceToNat, Int.reduceLT, Int.reduceLE, Int.reduceEq, Int.reduceNe, Int.reduceAdd, Int.reduceSub, Int.reduceMul, Int.reduceNeg, h1, h2, h3, h4, h5, k60]
    exact finK_drop ⟨rfl, rfl, rfl⟩
  try simp only [go_sem, reduceIte, Nat.reduceEqDiff, Nat.reduceAdd, Nat.reduceSub, Nat.reduceMul, Nat.reduceLT, Nat.reduceLeDiff, Nat.reducePow, Int.reduceToNat, Int.reduceLT, Int.reduceLE, Int.reduceEq, Int.reduceNe, Int.reduceAdd, Int.reduceSub, Int.reduceMul, Int.reduceNeg, h1, h2, h3, h4, h5, k60]
  refine cK_vn cv ?_
  cases hc : coversF u r
  · try simp only [go_sem, reduceIte, Nat.reduceEqDiff, Nat.reduceAdd, Nat.reduceSub, Nat.reduceMul, Nat.reduceLT, Nat.reduceLeDiff, Nat.reducePow, Int.reduceToNat, Int.reduceLT, Int.reduceLE, Int.reduceEq, Int.reduceNe, Int.reduceAdd, Int.reduceSub, Int.reduceMul, Int.reduceNeg, h1, h2, h3, h4, h5, k60]
    exact finK_drop ⟨rfl, rfl, rfl⟩
  obtain ⟨hr, hs⟩ := hk hc
  try simp only [go_sem, reduceIte, Nat.reduceEqDiff, Nat.reduceAdd, Nat.reduceSub, Nat.reduceMul, Nat.reduceLT, Nat.reduceLeDiff, Nat.reducePow, Int.reduceToNat, Int.reduceLT, Int.reduceLE, Int.reduceEq, Int.reduceNe, Int.reduceAdd, Int.reduceSub, Int.reduceMul, Int.reduceNeg, h1, h2, h3, h4, h5, k60]
  refine cK_vn ev ?_
  generalize evalP r p = t at hs h012
  have q1 : mayT u p = (possT u p).y := by rw [mayT, decide_eq_true hr, Bool.true_and]
  have q2 : mayT u (notP p) = (possT u p).n := by rw [mayT, decide_eq_true hr, Bool.true_and, possT_not]; rfl
  have q3 : mustT u p = decide (possT u p = ⟨true, false, false⟩) := by rw [mustT, decide_eq_false (by omega), Bool.false_or]
  have q4 : mustT u (notP p) = decide ((possT u p).turn = ⟨true, false, false⟩) := by rw [mustT, decide_eq_false (by omega), Bool.false_or, possT_not]
  rw [q1] at m1
  rw [q2] at m2
  rw [q3] at m3
  rw [q4] at m4
  generalize possT u p = T at m1 m2 m3 m4 hs
  obtain ⟨ty, tn, tu⟩ := T
  simp only [Tr.turn, Tr.mk.injEq] at m1 m2 m3 m4
  rcases h012 with rfl | rfl | rfl
  · obtain rfl : tn = true := hs
    simp only [Bool.true_eq_false, false_and, and_false, decide_false] at m3
    repeat' (first | simp only [go_sem, reduceIte, Nat.reduceEqDiff, Nat.reduceAdd, Nat.reduceSub, Nat.reduceMul, Nat.reduceLT, Nat.reduceLeDiff, Nat.reducePow, Int.reduceToNat, Int.reduceLT, Int.reduceLE, Int.reduceEq, Int.reduceNe, Int.reduceAdd, Int.reduceSub, Int.reduceMul, Int.reduceNeg, h1, h2, h3, h4, h5] | refine cE_vn m2 ?_ | refine cE_vn m3 ?_ | refine cE_vn nt ?_)
    exact finK_drop ⟨rfl, rfl, rfl⟩
  · obtain rfl : ty = true := hs
    simp only [Bool.true_eq_false, false_and, and_false, decide_false] at m4
    repeat' (first | simp only [go_sem, reduceIte, Nat.reduceEqDiff, Nat.reduceAdd, Nat.reduceSub, Nat.reduceMul, Nat.reduceLT, Nat.reduceLeDiff, Nat.reducePow, Int.reduceToNat, Int.reduceLT, Int.reduceLE, Int.reduceEq, Int.reduceNe, Int.reduceAdd, Int.reduceSub, Int.reduceMul, Int.reduceNeg, h1, h2, h3, h4, h5] | refine cE_vn m1 ?_ | refine cE_vn m4 ?_ | refine cE_vn nt ?_)
    exact finK_drop ⟨rfl, rfl, rfl⟩
  · obtain rfl : tu = true := hs
    simp only [Bool.true_eq_false, false_and, and_false, decide_false] at m3 m4
    repeat' (first | simp only [go_sem, reduceIte, Nat.reduceEqDiff, Nat.reduceAdd, Nat.reduceSub, Nat.reduceMul, Nat.reduceLT, Nat.reduceLeDiff, Nat.reducePow, Int.reduceToNat, Int.reduceLT, Int.reduceLE, Int.reduceEq, Int.reduceNe, Int.reduceAdd, Int.reduceSub, Int.reduceMul, Int.reduceNeg, h1, h2, h3, h4, h5] | refine cE_vn m3 ?_ | refine cE_vn m4 ?_ | refine cE_vn nt ?_)
    exact finK_drop ⟨rfl, rfl, rfl⟩
end Go.Proofs.YtnoenipdooackaaDoorS
