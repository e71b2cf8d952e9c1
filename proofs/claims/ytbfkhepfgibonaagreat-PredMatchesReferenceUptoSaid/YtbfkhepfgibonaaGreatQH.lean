/-
  Predicates: fenlandref08.Insert, Fields, Size, Match (fenlandlaw08.PredMatchesReference).
-/
import Derived.Test.YtbfkhepfgibonaaGreatQ9
import Derived.Test.YtbfkhepfgibonaaGreatJ2
set_option linter.unusedVariables false
set_option linter.unusedSimpArgs false
namespace Go.Proofs.YtbfkhepfgibonaaGreatS
open Go Go.Proofs.YtbfkhepfgibonaaGreatV

variable {G : Heap}
attribute [local irreducible] VN VC VX VQ VY VW VTA VT0

theorem rEval_ok (r : Rw) : ∀ (n : Nat) (p : Pr), SizeOf.sizeOf p ≤ n → p.Lim → VN P G 9 [.agg p.cells, .agg [.sl .none (r.map clD)]] (.int .i64 (evalP r p))
  | 0, p, h, _ => by cases p; simp at h
  | n + 1, p, hn, hL => by
    obtain ⟨_, z3, hk⟩ := hL
    exact eval_step r p z3 fun k hk' => rEval_ok r n k (Nat.le_of_lt_succ (Nat.lt_of_lt_of_le (Pr.kid_lt (p := p) hk') hn)) (hk k hk')
/-- What is put in order into an increasing list; d: it stands there already. -/
def insG (n : Int) : Bool → List Int → List Int
  | d, [] => if d then [] else [n]
  | d, x :: l => if d = false ∧ n ≤ x then (if n < x then [n, x] else [x]) ++ insG n true l else x :: insG n d l
theorem insG_true (n : Int) : ∀ l, insG n true l = l
  | [] => rfl
  | x :: l => by rw [insG, if_neg (by simp), insG_true n l]
theorem insG_mem (n y : Int) : ∀ l, y ∈ insG n false l ↔ y = n ∨ y ∈ l
  | [] => by simp [insG]
  | x :: l => by
    rw [insG]
    by_cases h : n ≤ x
    · rw [if_pos ⟨rfl, h⟩, insG_true]
      by_cases h2 : n < x
      · rw [if_pos h2]; simp
      · rw [if_neg h2]
        have : n = x := by omega
        subst this
        simp
    · rw [if_neg (by simp; omega)]
      simp only [List.mem_cons, insG_mem n y l]
      constructor
      · rintro (h | h | h) <;> simp [h]
      · rintro (h | h | h) <;> simp [h]
theorem insG_inc (n : Int) : ∀ l, l.Pairwise (· < ·) → (insG n false l).Pairwise (· < ·)
  | [], _ => by simp [insG]
  | x :: l, h => by
    obtain ⟨h1, h2⟩ := List.pairwise_cons.1 h
    rw [insG]
    by_cases g : n ≤ x
    · rw [if_pos ⟨rfl, g⟩, insG_true]
      by_cases g2 : n < x
      · rw [if_pos g2]
        refine List.pairwise_cons.2 ⟨fun y hy => ?_, h⟩
        rcases List.mem_cons.1 hy with rfl | hy
        · exact g2
        · have := h1 y hy; omega
      · rw [if_neg g2]; exact h
    · rw [if_neg (by simp; omega)]
      refine List.pairwise_cons.2 ⟨fun y hy => ?_, insG_inc n l h2⟩
      rcases (insG_mem n y l).1 hy with rfl | hy
      · omega
      · exact h1 y hy
theorem insG_len (n : Int) : ∀ l, (insG n false l).length ≤ l.length + 1
  | [] => by simp [insG]
  | x :: l => by
    rw [insG]
    split
    · rw [insG_true]; split <;> simp
    · have := insG_len n l; simp; omega
set_option maxRecDepth 100000 in
set_option maxHeartbeats 4000000 in
theorem Insert_ok (tk : Tk) (l : List Int) (n : Int) (hl : l.length ≤ 8000000) : VN P G 44 [.sl tk (l.map iE), .int .i64 n] (.sl .none ((insG n false l).map iE)) := by
  unfold VN
  refine VC.ofs (fun | 99999999 => [(0, [0, 1, 4, 5, 6, 7, 12, 24, 30, 43])] | _ => []) [4] mixed Tryz.func44 rfl rfl rfl rfl (by decide +kernel) (by simp) ?_
  have el : (l.map iE).length = l.length := by simp
  simp only [go_sem, reduceIte, Nat.reduceEqDiff, Nat.reduceAdd, Nat.reduceSub, Nat.reduceMul, Nat.reduceLT, Nat.reduceLeDiff, Nat.reducePow, Int.reduceToNat, Int.reduceLT, Int.reduceLE, Int.reduceEq, Int.reduceNe, Int.reduceAdd, Int.reduceSub, Int.reduceMul, Int.reduceNeg]
  refine vwq_loop (fun v => ∃ (j : Nat) (o : List Int) (d : Bool) (t : Tk), j ≤ l.length ∧ o.length ≤ j + 1 ∧ (d = false → o.length ≤ j) ∧ o ++ insG n d (l.drop j) = insG n false l ∧ TW 1 t v.ω ∧ v.σ 0 = .sl tk (l.map iE) ∧ v.σ 1 = .int .i64 n ∧ v.σ 5 = .sl t (o.map iE) ∧ v.σ 6 = .bool d ∧ v.σ 7 = .int .i64 j ∧ v.β = Heap.nil) (fun v => l.length - (ival (v.σ 7)).toNat) ⟨0, [], false, .full, by omega, by simp, by simp, rfl, TW.full 1, rfl, rfl, rfl, rfl, rfl, rfl⟩ ?_
  rintro σ β ω ⟨j, o, d, t, hj, ho, ho', hins, hw, q0, q1, q5, q6, q7, rfl⟩
  dsimp only at hw q0 q1 q5 q6 q7
  have hto := hw.ok
  have htg := hw.gone
  try simp only [go_sem, reduceIte, Nat.reduceEqDiff, Nat.reduceAdd, Nat.reduceSub, Nat.reduceMul, Nat.reduceLT, Nat.reduceLeDiff, Nat.reducePow, Int.reduceToNat, Int.reduceLT, Int.reduceLE, Int.reduceEq, Int.reduceNe, Int.reduceAdd, Int.reduceSub, Int.reduceMul, Int.reduceNeg, q0, q1, q5, q6, q7, el]
  refine cd_dec (fun g => ?_) (fun g => ?_)
  · have g' := eq_true g
    obtain ⟨x, hx, ex⟩ := at_map (f := iE) (l := l) (j := j) (by omega)
    simp only [iE] at ex
    have c1 : ((0 : Int) ≤ j) = True := eq_true (by omega)
    have wj := wrap_i64 (x := (j : Int) + 1) (by omega) (by omega)
    have eo : (o.map iE).length = o.length := by simp
    rw [drop_at hx, insG] at hins
    have ic : ∀ x, x ∈ o.map iE → x.cells.length = 1 := iE_cells o
    cases d
    · try simp only [go_sem, reduceIte, Nat.reduceEqDiff, Nat.reduceAdd, Nat.reduceSub, Nat.reduceMul, Nat.reduceLT, Nat.reduceLeDiff, Nat.reducePow, Int.reduceToNat, Int.reduceLT, Int.reduceLE, Int.reduceEq, Int.reduceNe, Int.reduceAdd, Int.reduceSub, Int.reduceMul, Int.reduceNeg, q0, q1, q5, q6, q7, el, g', ex, c1]
      refine cd_dec (fun h1 => ?_) (fun h1 => ?_)
      · rw [if_pos ⟨rfl, h1⟩, insG_true] at hins
        try simp only [go_sem, reduceIte, Nat.reduceEqDiff, Nat.reduceAdd, Nat.reduceSub, Nat.reduceMul, Nat.reduceLT, Nat.reduceLeDiff, Nat.reducePow, Int.reduceToNat, Int.reduceLT, Int.reduceLE, Int.reduceEq, Int.reduceNe, Int.reduceAdd, Int.reduceSub, Int.reduceMul, Int.reduceNeg, q0, q1, q5, q6, q7, el, g', ex, c1]
        refine cd_dec (fun h2 => ?_) (fun h2 => ?_)
        · rw [if_pos h2] at hins
          try simp only [go_sem, reduceIte, Nat.reduceEqDiff, Nat.reduceAdd, Nat.reduceSub, Nat.reduceMul, Nat.reduceLT, Nat.reduceLeDiff, Nat.reducePow, Int.reduceToNat, Int.reduceLT, Int.reduceLE, Int.reduceEq, Int.reduceNe, Int.reduceAdd, Int.reduceSub, Int.reduceMul, Int.reduceNeg, q0, q1, q5, q6, q7, el, eo, g', ex, c1, hto, htg, wj]
          refine ⟨ic, by omega, fun t' _ => ⟨fun y hy => ?_, by simp only [List.length_append, List.length_map, List.length_cons, List.length_nil]; omega, fun t'' _ => ⟨⟨j + 1, o ++ [n, x], true, .live t'' 1, by omega, by have := ho' rfl; simp; omega, by simp, by rw [insG_true, ← hins]; simp, TW.live 1 t'', by simp [iE], rfl, rfl⟩, by omega⟩⟩⟩
          rcases List.mem_append.1 hy with hy | hy
          · exact ic y hy
          · rw [List.mem_singleton] at hy; subst hy; rfl
        · rw [if_neg h2] at hins
          try simp only [go_sem, reduceIte, Nat.reduceEqDiff, Nat.reduceAdd, Nat.reduceSub, Nat.reduceMul, Nat.reduceLT, Nat.reduceLeDiff, Nat.reducePow, Int.reduceToNat, Int.reduceLT, Int.reduceLE, Int.reduceEq, Int.reduceNe, Int.reduceAdd, Int.reduceSub, Int.reduceMul, Int.reduceNeg, q0, q1, q5, q6, q7, el, eo, g', ex, c1, hto, htg, wj]
          refine ⟨ic, by omega, fun t' _ => ⟨⟨j + 1, o ++ [x], true, .live t' 1, by omega, by simp; omega, by simp, by rw [insG_true, ← hins]; simp, TW.live 1 t', by simp [iE], rfl, rfl⟩, by omega⟩⟩
      · rw [if_neg (by simp; omega)] at hins
        try simp only [go_sem, reduceIte, Nat.reduceEqDiff, Nat.reduceAdd, Nat.reduceSub, Nat.reduceMul, Nat.reduceLT, Nat.reduceLeDiff, Nat.reducePow, Int.reduceToNat, Int.reduceLT, Int.reduceLE, Int.reduceEq, Int.reduceNe, Int.reduceAdd, Int.reduceSub, Int.reduceMul, Int.reduceNeg, q0, q1, q5, q6, q7, el, eo, g', ex, c1, hto, htg, wj]
        refine ⟨ic, by omega, fun t' _ => ⟨⟨j + 1, o ++ [x], false, .live t' 1, by omega, by simp; omega, fun h => by have := ho' rfl; simp; omega, by rw [← hins]; simp, TW.live 1 t', by simp [iE], rfl, rfl⟩, by omega⟩⟩
    · rw [if_neg (by simp)] at hins
      try simp only [go_sem, reduceIte, Nat.reduceEqDiff, Nat.reduceAdd, Nat.reduceSub, Nat.reduceMul, Nat.reduceLT, Nat.reduceLeDiff, Nat.reducePow, Int.reduceToNat, Int.reduceLT, Int.reduceLE, Int.reduceEq, Int.reduceNe, Int.reduceAdd, Int.reduceSub, Int.reduceMul, Int.reduceNeg, q0, q1, q5, q6, q7, el, eo, g', ex, c1, hto, htg, wj]
      refine ⟨ic, by omega, fun t' _ => ⟨⟨j + 1, o ++ [x], true, .live t' 1, by omega, by simp; omega, by simp, by rw [← hins]; simp, TW.live 1 t', by simp [iE], rfl, rfl⟩, by omega⟩⟩
  · rw [List.drop_of_length_le (by omega), insG] at hins
    cases d
    · try simp only [go_sem, reduceIte, Nat.reduceEqDiff, Nat.reduceAdd, Nat.reduceSub, Nat.reduceMul, Nat.reduceLT, Nat.reduceLeDiff, Nat.reducePow, Int.reduceToNat, Int.reduceLT, Int.reduceLE, Int.reduceEq, Int.reduceNe, Int.reduceAdd, Int.reduceSub, Int.reduceMul, Int.reduceNeg, q0, q1, q5, q6, q7, hto, htg]
      refine ⟨iE_cells o, by simp; omega, fun t' _ => finK_drop ⟨?_, rfl, rfl⟩⟩
      rw [← hins]
      simp [D.er, D.er1, iE]
    · try simp only [go_sem, reduceIte, Nat.reduceEqDiff, Nat.reduceAdd, Nat.reduceSub, Nat.reduceMul, Nat.reduceLT, Nat.reduceLeDiff, Nat.reducePow, Int.reduceToNat, Int.reduceLT, Int.reduceLE, Int.reduceEq, Int.reduceNe, Int.reduceAdd, Int.reduceSub, Int.reduceMul, Int.reduceNeg, q0, q1, q5, q6, q7]
      refine finK_drop ⟨?_, rfl, rfl⟩
      rw [← hins]
      simp [D.er, D.er1]
theorem subs_kid_le {p k : Pr} (hk : k ∈ p.kids) : (subs k).length ≤ (subs p).length := by
  obtain ⟨a, b, e⟩ := List.append_of_mem hk
  rw [subs_eq p, e, subsL_flat, List.flatMap_append, List.flatMap_cons]
  simp only [List.length_cons, List.length_append]; omega
theorem rMatch_ok (r : Rw) (p : Pr) (hL : p.Lim) : VN P G 11 [.agg p.cells, .agg [.sl .none (r.map clD)]] (.bool (matchF p r)) := by
  have h := rEval_ok (G := G) r _ p (Nat.le_refl _) hL
  unfold VN
  refine VC.ofs (fun | 99999999 => [(0, [0, 1, 2, 3, 4])] | _ => []) [4] mixed Tryz.func11 rfl rfl rfl rfl (by decide +kernel) (by simp) ?_
  simp only [go_sem, reduceIte, Nat.reduceEqDiff, Nat.reduceAdd, Nat.reduceSub, Nat.reduceMul, Nat.reduceLT, Nat.reduceLeDiff, Nat.reducePow, Int.reduceToNat, Int.reduceLT, Int.reduceLE, Int.reduceEq, Int.reduceNe, Int.reduceAdd, Int.reduceSub, Int.reduceMul, Int.reduceNeg]
  refine fun b1 => new_1 fun b2 q1 q2 => ?_
  try simp only [go_sem, reduceIte, Nat.reduceEqDiff, Nat.reduceAdd, Nat.reduceSub, Nat.reduceMul, Nat.reduceLT, Nat.reduceLeDiff, Nat.reducePow, Int.reduceToNat, Int.reduceLT, Int.reduceLE, Int.reduceEq, Int.reduceNe, Int.reduceAdd, Int.reduceSub, Int.reduceMul, Int.reduceNeg, q1, q2]
  refine cK_vn h ?_
  try simp only [go_sem, reduceIte, Nat.reduceEqDiff, Nat.reduceAdd, Nat.reduceSub, Nat.reduceMul, Nat.reduceLT, Nat.reduceLeDiff, Nat.reducePow, Int.reduceToNat, Int.reduceLT, Int.reduceLE, Int.reduceEq, Int.reduceNe, Int.reduceAdd, Int.reduceSub, Int.reduceMul, Int.reduceNeg, q1, q2]
  exact finK_drop ⟨rfl, rfl, rfl⟩
theorem subsL_take {l : List Pr} {j : Nat} {k : Pr} (hx : l[j]? = some k) : subsL (l.take (j + 1)) = subsL (l.take j) ++ subs k := by
  rw [List.take_add_one, hx, subsL_flat, subsL_flat, List.flatMap_append]; simp
theorem subsL_take_le (l : List Pr) (j : Nat) : (subsL (l.take j)).length ≤ (subsL l).length := by
  conv => rhs; rw [← List.take_append_drop j l]
  rw [subsL_flat, subsL_flat, List.flatMap_append, List.length_append]; omega
theorem rSize_step (p : Pr) (hn : (subs p).length ≤ 4000000) (ih : ∀ k ∈ p.kids, VN P G 16 [.agg k.cells] (.int .i64 (subs k).length)) : VN P G 16 [.agg p.cells] (.int .i64 (subs p).length) := by
  have hp := subs_eq p
  have hpl : (subs p).length = (subsL p.kids).length + 1 := by rw [hp]; simp
  unfold VN
  refine VC.small2 fun hsm => ?_
  have z2 := hsm (.agg p.cells) (List.mem_cons_self ..) (.sl .none (p.kids.map Pr.d)) (by simp [D.cells, Pr.cells])
  simp only [Small, mostLen, List.length_map] at z2
  clear hsm
  refine VC.ofs (fun | 99999999 => [(0, [0, 1, 2, 3, 4, 9])] | _ => []) [2] mixed Tryz.func16 rfl rfl rfl rfl (by decide +kernel) (by simp) ?_
  have el : (p.kids.map Pr.d).length = p.kids.length := by simp
  simp only [go_sem, reduceIte, Nat.reduceEqDiff, Nat.reduceAdd, Nat.reduceSub, Nat.reduceMul, Nat.reduceLT, Nat.reduceLeDiff, Nat.reducePow, Int.reduceToNat, Int.reduceLT, Int.reduceLE, Int.reduceEq, Int.reduceNe, Int.reduceAdd, Int.reduceSub, Int.reduceMul, Int.reduceNeg]
  intro b1
  generalize hβ : Heap.set _ b1 _ = β0
  have e1 : β0 b1 = some p.cells := hit_set hβ
  clear hβ
  refine vwq_loop (fun v => ∃ (j : Nat), j ≤ p.kids.length ∧ v.σ 1 = .pb b1 0 ∧ v.σ 3 = .int .i64 ((subsL (p.kids.take j)).length + 1 : Nat) ∧ v.σ 4 = .int .i64 j ∧ v.β = β0 ∧ v.ω = []) (fun v => p.kids.length - (ival (v.σ 4)).toNat) ⟨0, by omega, rfl, by rw [List.take_zero, subsL_nil]; rfl, rfl, rfl, rfl⟩ ?_
  rintro σ β ω ⟨j, hj, q1, q3, q4, rfl, rfl⟩
  dsimp only at q1 q3 q4 e1
  try simp only [go_sem, reduceIte, Nat.reduceEqDiff, Nat.reduceAdd, Nat.reduceSub, Nat.reduceMul, Nat.reduceLT, Nat.reduceLeDiff, Nat.reducePow, Int.reduceToNat, Int.reduceLT, Int.reduceLE, Int.reduceEq, Int.reduceNe, Int.reduceAdd, Int.reduceSub, Int.reduceMul, Int.reduceNeg, q1, q3, q4, e1, el]
  refine cd_dec (fun g => ?_) (fun g => ?_)
  · have g' := eq_true g
    obtain ⟨k, hx, ex⟩ := Pr_at (l := p.kids) (j := j) (by omega)
    have c1 : ((0 : Int) ≤ j) = True := eq_true (by omega)
    have wj := wrap_i64 (x := (j : Int) + 1) (by omega) (by omega)
    have hst := congrArg List.length (subsL_take hx)
    have hle := subsL_take_le p.kids (j + 1)
    rw [List.length_append] at hst
    have hk := ih k (List.mem_of_getElem? hx)
    simp only [Pr.cells] at hk
    try simp only [go_sem, reduceIte, Nat.reduceEqDiff, Nat.reduceAdd, Nat.reduceSub, Nat.reduceMul, Nat.reduceLT, Nat.reduceLeDiff, Nat.reducePow, Int.reduceToNat, Int.reduceLT, Int.reduceLE, Int.reduceEq, Int.reduceNe, Int.reduceAdd, Int.reduceSub, Int.reduceMul, Int.reduceNeg, q1, q3, q4, e1, el, g', ex, c1]
    refine cK_vn hk ?_
    have w2 : IntKind.i64.wrap ((((subsL (p.kids.take j)).length + 1 : Nat) : Int) + ((subs k).length : Nat)) = ((subsL (p.kids.take (j + 1))).length + 1 : Nat) := by
      rw [wrap_i64 (by omega) (by omega)]; omega
    try simp only [go_sem, reduceIte, Nat.reduceEqDiff, Nat.reduceAdd, Nat.reduceSub, Nat.reduceMul, Nat.reduceLT, Nat.reduceLeDiff, Nat.reducePow, Int.reduceToNat, Int.reduceLT, Int.reduceLE, Int.reduceEq, Int.reduceNe, Int.reduceAdd, Int.reduceSub, Int.reduceMul, Int.reduceNeg, q1, q3, q4, e1, el, g', ex, c1, wj, w2]
    exact ⟨⟨j + 1, by omega, rfl, rfl⟩, by omega⟩
  · try simp only [go_sem, reduceIte, Nat.reduceEqDiff, Nat.reduceAdd, Nat.reduceSub, Nat.reduceMul, Nat.reduceLT, Nat.reduceLeDiff, Nat.reducePow, Int.reduceToNat, Int.reduceLT, Int.reduceLE, Int.reduceEq, Int.reduceNe, Int.reduceAdd, Int.reduceSub, Int.reduceMul, Int.reduceNeg, q1, q3, q4, e1]
    refine finK_drop ⟨?_, rfl, rfl⟩
    rw [hpl, List.take_of_length_le (by omega)]; rfl
theorem rSize_ok : ∀ (n : Nat) (p : Pr), SizeOf.sizeOf p ≤ n → (subs p).length ≤ 4000000 → VN P G 16 [.agg p.cells] (.int .i64 (subs p).length)
  | 0, p, h, _ => by cases p; simp at h
  | n + 1, p, h, hn => rSize_step p hn fun k hk => rSize_ok n k (Nat.le_of_lt_succ (Nat.lt_of_lt_of_le (Pr.kid_lt hk) h)) (Nat.le_trans (subs_kid_le hk) hn)
theorem atomIds_cons (p : Pr) (l : List Pr) : atomIds (p :: l) = (if isAt p.op then [p.id] else []) ++ atomIds l := by
  unfold atomIds
  rw [List.filter_cons]; split <;> simp
theorem atomIds_app (a b : List Pr) : atomIds (a ++ b) = atomIds a ++ atomIds b := by simp [atomIds]
set_option maxRecDepth 100000 in
set_option maxHeartbeats 4000000 in
theorem rFields_step (p : Pr) (hn : (subs p).length ≤ 4000000) (ih : ∀ k ∈ p.kids, VN P G 14 [.agg k.cells] (.sl .none ((fieldsF k).map iE))) : VN P G 14 [.agg p.cells] (.sl .none ((fieldsF p).map iE)) := by
  have hp := subs_eq p
  have hpl : (subs p).length = (subsL p.kids).length + 1 := by rw [hp]; simp
  unfold VN
  refine VC.small2 fun hsm => ?_
  have z2 := hsm (.agg p.cells) (List.mem_cons_self ..) (.sl .none (p.kids.map Pr.d)) (by simp [D.cells, Pr.cells])
  simp only [Small, mostLen, List.length_map] at z2
  clear hsm
  refine VC.ofs (fun | 99999999 => [(0, [0, 1, 2, 3, 4, 5, 6, 15, 25, 37])] | _ => []) [2] mixed Tryz.func14 rfl rfl rfl rfl (by decide +kernel) (by simp) ?_
  have el : (p.kids.map Pr.d).length = p.kids.length := by simp
  obtain ⟨own, hown⟩ : ∃ own, (if isAt p.op then [p.id] else []) = own := ⟨_, rfl⟩
  have hown1 : own.length ≤ 1 := by rw [← hown]; split <;> simp
  have hinc : own.Pairwise (· < ·) := by rw [← hown]; split <;> simp
  simp only [go_sem, reduceIte, Nat.reduceEqDiff, Nat.reduceAdd, Nat.reduceSub, Nat.reduceMul, Nat.reduceLT, Nat.reduceLeDiff, Nat.reducePow, Int.reduceToNat, Int.reduceLT, Int.reduceLE, Int.reduceEq, Int.reduceNe, Int.reduceAdd, Int.reduceSub, Int.reduceMul, Int.reduceNeg]
  intro b1
  generalize hβ : Heap.set _ b1 _ = β0
  have e1 : β0 b1 = some p.cells := hit_set hβ
  clear hβ
  cases ha : isAt p.op
  · have ha' : ¬ (1 ≤ p.op ∧ p.op ≤ 4) := by simp [isAt] at ha; omega
    have ha2 := eq_false ha'
    have hown2 : own = [] := by rw [← hown, ha]; rfl
    try simp only [go_sem, reduceIte, Nat.reduceEqDiff, Nat.reduceAdd, Nat.reduceSub, Nat.reduceMul, Nat.reduceLT, Nat.reduceLeDiff, Nat.reducePow, Int.reduceToNat, Int.reduceLT, Int.reduceLE, Int.reduceEq, Int.reduceNe, Int.reduceAdd, Int.reduceSub, Int.reduceMul, Int.reduceNeg, ha2, decide_false]
    refine vwq_loop (fun v => ∃ (j : Nat) (o : List Int) (t : Tk), j ≤ p.kids.length ∧ o.Pairwise (· < ·) ∧ (∀ x, x ∈ o ↔ x ∈ own ∨ x ∈ atomIds (subsL (p.kids.take j))) ∧ o.length ≤ 1 + (subsL (p.kids.take j)).length ∧ v.σ 1 = .pb b1 0 ∧ v.σ 3 = .sl t (o.map iE) ∧ v.σ 4 = .int .i64 j ∧ v.β = β0) (fun v => p.kids.length - (ival (v.σ 4)).toNat) ⟨0, own, _, by omega, hinc, by simp [subsL_nil, atomIds], by omega, rfl, by rw [hown2]; rfl, rfl, rfl⟩ ?_
    rintro σ β ω ⟨j, o, t, hj, hoi, hom, hol, q1, q3, q4, rfl⟩
    dsimp only at q1 q3 q4 e1
    try simp only [go_sem, reduceIte, Nat.reduceEqDiff, Nat.reduceAdd, Nat.reduceSub, Nat.reduceMul, Nat.reduceLT, Nat.reduceLeDiff, Nat.reducePow, Int.reduceToNat, Int.reduceLT, Int.reduceLE, Int.reduceEq, Int.reduceNe, Int.reduceAdd, Int.reduceSub, Int.reduceMul, Int.reduceNeg, q1, q3, q4, e1, el]
    refine cd_dec (fun g => ?_) (fun g => ?_)
    · have g' := eq_true g
      obtain ⟨k, hx, ex⟩ := Pr_at (l := p.kids) (j := j) (by omega)
      have c1 : ((0 : Int) ≤ j) = True := eq_true (by omega)
      have wj := wrap_i64 (x := (j : Int) + 1) (by omega) (by omega)
      have hst := subsL_take hx
      have hst2 := congrArg List.length hst
      have hle := subsL_take_le p.kids (j + 1)
      rw [List.length_append] at hst2
      have hk := ih k (List.mem_of_getElem? hx)
      obtain ⟨hf1, hf2⟩ := fieldsF_spec k
      have hf3 := fieldsF_le k
      simp only [Pr.cells] at hk
      obtain ⟨F, hF⟩ : ∃ F, fieldsF k = F := ⟨_, rfl⟩
      rw [hF] at hk hf1 hf2 hf3
      have eF : (F.map iE).length = F.length := by simp
      try simp only [go_sem, reduceIte, Nat.reduceEqDiff, Nat.reduceAdd, Nat.reduceSub, Nat.reduceMul, Nat.reduceLT, Nat.reduceLeDiff, Nat.reducePow, Int.reduceToNat, Int.reduceLT, Int.reduceLE, Int.reduceEq, Int.reduceNe, Int.reduceAdd, Int.reduceSub, Int.reduceMul, Int.reduceNeg, q1, q3, q4, e1, el, g', ex, c1]
      refine cK_vn hk ?_
      try simp only [go_sem, reduceIte, Nat.reduceEqDiff, Nat.reduceAdd, Nat.reduceSub, Nat.reduceMul, Nat.reduceLT, Nat.reduceLeDiff, Nat.reducePow, Int.reduceToNat, Int.reduceLT, Int.reduceLE, Int.reduceEq, Int.reduceNe, Int.reduceAdd, Int.reduceSub, Int.reduceMul, Int.reduceNeg, q1, q3, q4, e1, el, g', ex, c1]
      refine vwq_loop (fun v => ∃ (i : Nat) (o : List Int) (t : Tk), i ≤ F.length ∧ o.Pairwise (· < ·) ∧ (∀ x, x ∈ o ↔ x ∈ own ∨ x ∈ atomIds (subsL (p.kids.take j)) ∨ x ∈ F.take i) ∧ o.length ≤ 1 + (subsL (p.kids.take j)).length + i ∧ v.σ 1 = .pb b1 0 ∧ v.σ 3 = .sl t (o.map iE) ∧ v.σ 4 = .int .i64 j ∧ v.σ 5 = .sl .none (F.map iE) ∧ v.σ 6 = .int .i64 i ∧ v.β = β) (fun v => F.length - (ival (v.σ 6)).toNat) ⟨0, o, t, by omega, hoi, by simpa using hom, by omega, rfl, rfl, rfl, rfl, rfl, rfl⟩ ?_
      clear q1 q3 q4 hoi hom hol hk o t
      rintro σ β2 ω ⟨i, o, t, hi, hoi, hom, hol, q1, q3, q4, q5, q6, rfl⟩
      dsimp only at q1 q3 q4 q5 q6 e1
      try simp only [go_sem, reduceIte, Nat.reduceEqDiff, Nat.reduceAdd, Nat.reduceSub, Nat.reduceMul, Nat.reduceLT, Nat.reduceLeDiff, Nat.reducePow, Int.reduceToNat, Int.reduceLT, Int.reduceLE, Int.reduceEq, Int.reduceNe, Int.reduceAdd, Int.reduceSub, Int.reduceMul, Int.reduceNeg, q1, q3, q4, q5, q6, e1, eF]
      refine cd_dec (fun h => ?_) (fun h => ?_)
      · have h' := eq_true h
        obtain ⟨x, hx2, ex2⟩ := at_map (f := iE) (l := F) (j := i) (by omega)
        simp only [iE] at ex2
        have c2 : ((0 : Int) ≤ i) = True := eq_true (by omega)
        have wi := wrap_i64 (x := (i : Int) + 1) (by omega) (by omega)
        have hins := Insert_ok (G := G) t o x (by omega)
        have il := insG_len x o
        try simp only [go_sem, reduceIte, Nat.reduceEqDiff, Nat.reduceAdd, Nat.reduceSub, Nat.reduceMul, Nat.reduceLT, Nat.reduceLeDiff, Nat.reducePow, Int.reduceToNat, Int.reduceLT, Int.reduceLE, Int.reduceEq, Int.reduceNe, Int.reduceAdd, Int.reduceSub, Int.reduceMul, Int.reduceNeg, q1, q3, q4, q5, q6, e1, eF, h', ex2, c2]
        refine cK_vn hins ?_
        try simp only [go_sem, reduceIte, Nat.reduceEqDiff, Nat.reduceAdd, Nat.reduceSub, Nat.reduceMul, Nat.reduceLT, Nat.reduceLeDiff, Nat.reducePow, Int.reduceToNat, Int.reduceLT, Int.reduceLE, Int.reduceEq, Int.reduceNe, Int.reduceAdd, Int.reduceSub, Int.reduceMul, Int.reduceNeg, q1, q3, q4, q5, q6, e1, eF, h', ex2, c2, wi]
        refine ⟨⟨i + 1, insG x false o, .none, by omega, insG_inc x o hoi, fun y => ?_, by omega, rfl, rfl⟩, by omega⟩
        rw [insG_mem, hom, List.take_add_one, hx2]
        simp only [Option.toList_some, List.mem_append, List.mem_singleton]
        constructor
        · rintro (h | h | h | h) <;> simp [h]
        · rintro (h | h | h | h) <;> simp [h]
      · have e9 : F.take i = F := List.take_of_length_le (by omega)
        rw [e9] at hom
        try simp only [go_sem, reduceIte, Nat.reduceEqDiff, Nat.reduceAdd, Nat.reduceSub, Nat.reduceMul, Nat.reduceLT, Nat.reduceLeDiff, Nat.reducePow, Int.reduceToNat, Int.reduceLT, Int.reduceLE, Int.reduceEq, Int.reduceNe, Int.reduceAdd, Int.reduceSub, Int.reduceMul, Int.reduceNeg, q1, q3, q4, q5, q6, e1, eF, wj]
        refine ⟨⟨j + 1, o, t, by omega, hoi, fun y => ?_, by omega, rfl, rfl⟩, by omega⟩
        rw [hom, hst, atomIds_app, List.mem_append, hf2]
    · try simp only [go_sem, reduceIte, Nat.reduceEqDiff, Nat.reduceAdd, Nat.reduceSub, Nat.reduceMul, Nat.reduceLT, Nat.reduceLeDiff, Nat.reducePow, Int.reduceToNat, Int.reduceLT, Int.reduceLE, Int.reduceEq, Int.reduceNe, Int.reduceAdd, Int.reduceSub, Int.reduceMul, Int.reduceNeg, q1, q3, q4, e1]
      rw [List.take_of_length_le (by omega)] at hom
      refine finK_drop ⟨?_, rfl, rfl⟩
      obtain ⟨s1, s2⟩ := fieldsF_spec p
      have : o = fieldsF p := inc_uniq hoi s1 fun x => by
        rw [hom, s2, hp, atomIds_cons, List.mem_append, hown]
      rw [this]; rfl
  · have ha' : 1 ≤ p.op ∧ p.op ≤ 4 := by simp [isAt] at ha; omega
    have ha2 := eq_true ha'
    have hown2 : own = [p.id] := by rw [← hown, ha]; rfl
    try simp only [go_sem, reduceIte, Nat.reduceEqDiff, Nat.reduceAdd, Nat.reduceSub, Nat.reduceMul, Nat.reduceLT, Nat.reduceLeDiff, Nat.reducePow, Int.reduceToNat, Int.reduceLT, Int.reduceLE, Int.reduceEq, Int.reduceNe, Int.reduceAdd, Int.reduceSub, Int.reduceMul, Int.reduceNeg, ha2, decide_true, e1]
    refine fun t' => ?_
    refine vwq_loop (fun v => ∃ (j : Nat) (o : List Int) (t : Tk), j ≤ p.kids.length ∧ o.Pairwise (· < ·) ∧ (∀ x, x ∈ o ↔ x ∈ own ∨ x ∈ atomIds (subsL (p.kids.take j))) ∧ o.length ≤ 1 + (subsL (p.kids.take j)).length ∧ v.σ 1 = .pb b1 0 ∧ v.σ 3 = .sl t (o.map iE) ∧ v.σ 4 = .int .i64 j ∧ v.β = β0) (fun v => p.kids.length - (ival (v.σ 4)).toNat) ⟨0, own, _, by omega, hinc, by simp [subsL_nil, atomIds], by omega, rfl, by rw [hown2]; rfl, rfl, rfl⟩ ?_
    rintro σ β ω ⟨j, o, t, hj, hoi, hom, hol, q1, q3, q4, rfl⟩
    dsimp only at q1 q3 q4 e1
    try simp only [go_sem, reduceIte, Nat.reduceEqDiff, Nat.reduceAdd, Nat.reduceSub, Nat.reduceMul, Nat.reduceLT, Nat.reduceLeDiff, Nat.reducePow, Int.reduceToNat, Int.reduceLT, Int.reduceLE, Int.reduceEq, Int.reduceNe, Int.reduceAdd, Int.reduceSub, Int.reduceMul, Int.reduceNeg, q1, q3, q4, e1, el]
    refine cd_dec (fun g => ?_) (fun g => ?_)
    · have g' := eq_true g
      obtain ⟨k, hx, ex⟩ := Pr_at (l := p.kids) (j := j) (by omega)
      have c1 : ((0 : Int) ≤ j) = True := eq_true (by omega)
      have wj := wrap_i64 (x := (j : Int) + 1) (by omega) (by omega)
      have hst := subsL_take hx
      have hst2 := congrArg List.length hst
      have hle := subsL_take_le p.kids (j + 1)
      rw [List.length_append] at hst2
      have hk := ih k (List.mem_of_getElem? hx)
      obtain ⟨hf1, hf2⟩ := fieldsF_spec k
      have hf3 := fieldsF_le k
      simp only [Pr.cells] at hk
      obtain ⟨F, hF⟩ : ∃ F, fieldsF k = F := ⟨_, rfl⟩
      rw [hF] at hk hf1 hf2 hf3
      have eF : (F.map iE).length = F.length := by simp
      try simp only [go_sem, reduceIte, Nat.reduceEqDiff, Nat.reduceAdd, Nat.reduceSub, Nat.reduceMul, Nat.reduceLT, Nat.reduceLeDiff, Nat.reducePow, Int.reduceToNat, Int.reduceLT, Int.reduceLE, Int.reduceEq, Int.reduceNe, Int.reduceAdd, Int.reduceSub, Int.reduceMul, Int.reduceNeg, q1, q3, q4, e1, el, g', ex, c1]
      refine cK_vn hk ?_
      try simp only [go_sem, reduceIte, Nat.reduceEqDiff, Nat.reduceAdd, Nat.reduceSub, Nat.reduceMul, Nat.reduceLT, Nat.reduceLeDiff, Nat.reducePow, Int.reduceToNat, Int.reduceLT, Int.reduceLE, Int.reduceEq, Int.reduceNe, Int.reduceAdd, Int.reduceSub, Int.reduceMul, Int.reduceNeg, q1, q3, q4, e1, el, g', ex, c1]
      refine vwq_loop (fun v => ∃ (i : Nat) (o : List Int) (t : Tk), i ≤ F.length ∧ o.Pairwise (· < ·) ∧ (∀ x, x ∈ o ↔ x ∈ own ∨ x ∈ atomIds (subsL (p.kids.take j)) ∨ x ∈ F.take i) ∧ o.length ≤ 1 + (subsL (p.kids.take j)).length + i ∧ v.σ 1 = .pb b1 0 ∧ v.σ 3 = .sl t (o.map iE) ∧ v.σ 4 = .int .i64 j ∧ v.σ 5 = .sl .none (F.map iE) ∧ v.σ 6 = .int .i64 i ∧ v.β = β) (fun v => F.length - (ival (v.σ 6)).toNat) ⟨0, o, t, by omega, hoi, by simpa using hom, by omega, rfl, rfl, rfl, rfl, rfl, rfl⟩ ?_
      clear q1 q3 q4 hoi hom hol hk o t
      rintro σ β2 ω ⟨i, o, t, hi, hoi, hom, hol, q1, q3, q4, q5, q6, rfl⟩
      dsimp only at q1 q3 q4 q5 q6 e1
      try simp only [go_sem, reduceIte, Nat.reduceEqDiff, Nat.reduceAdd, Nat.reduceSub, Nat.reduceMul, Nat.reduceLT, Nat.reduceLeDiff, Nat.reducePow, Int.reduceToNat, Int.reduceLT, Int.reduceLE, Int.reduceEq, Int.reduceNe, Int.reduceAdd, Int.reduceSub, Int.reduceMul, Int.reduceNeg, q1, q3, q4, q5, q6, e1, eF]
      refine cd_dec (fun h => ?_) (fun h => ?_)
      · have h' := eq_true h
        obtain ⟨x, hx2, ex2⟩ := at_map (f := iE) (l := F) (j := i) (by omega)
        simp only [iE] at ex2
        have c2 : ((0 : Int) ≤ i) = True := eq_true (by omega)
        have wi := wrap_i64 (x := (i : Int) + 1) (by omega) (by omega)
        have hins := Insert_ok (G := G) t o x (by omega)
        have il := insG_len x o
        try simp only [go_sem, reduceIte, Nat.reduceEqDiff, Nat.reduceAdd, Nat.reduceSub, Nat.reduceMul, Nat.reduceLT, Nat.reduceLeDiff, Nat.reducePow, Int.reduceToNat, Int.reduceLT, Int.reduceLE, Int.reduceEq, Int.reduceNe, Int.reduceAdd, Int.reduceSub, Int.reduceMul, Int.reduceNeg, q1, q3, q4, q5, q6, e1, eF, h', ex2, c2]
        refine cK_vn hins ?_
        try simp only [go_sem, reduceIte, Nat.reduceEqDiff, Nat.reduceAdd, Nat.reduceSub, Nat.reduceMul, Nat.reduceLT, Nat.reduceLeDiff, Nat.reducePow, Int.reduceToNat, Int.reduceLT, Int.reduceLE, Int.reduceEq, Int.reduceNe, Int.reduceAdd, Int.reduceSub, Int.reduceMul, Int.reduceNeg, q1, q3, q4, q5, q6, e1, eF, h', ex2, c2, wi]
        refine ⟨⟨i + 1, insG x false o, .none, by omega, insG_inc x o hoi, fun y => ?_, by omega, rfl, rfl⟩, by omega⟩
        rw [insG_mem, hom, List.take_add_one, hx2]
        simp only [Option.toList_some, List.mem_append, List.mem_singleton]
        constructor
        · rintro (h | h | h | h) <;> simp [h]
        · rintro (h | h | h | h) <;> simp [h]
      · have e9 : F.take i = F := List.take_of_length_le (by omega)
        rw [e9] at hom
        try simp only [go_sem, reduceIte, Nat.reduceEqDiff, Nat.reduceAdd, Nat.reduceSub, Nat.reduceMul, Nat.reduceLT, Nat.reduceLeDiff, Nat.reducePow, Int.reduceToNat, Int.reduceLT, Int.reduceLE, Int.reduceEq, Int.reduceNe, Int.reduceAdd, Int.reduceSub, Int.reduceMul, Int.reduceNeg, q1, q3, q4, q5, q6, e1, eF, wj]
        refine ⟨⟨j + 1, o, t, by omega, hoi, fun y => ?_, by omega, rfl, rfl⟩, by omega⟩
        rw [hom, hst, atomIds_app, List.mem_append, hf2]
    · try simp only [go_sem, reduceIte, Nat.reduceEqDiff, Nat.reduceAdd, Nat.reduceSub, Nat.reduceMul, Nat.reduceLT, Nat.reduceLeDiff, Nat.reducePow, Int.reduceToNat, Int.reduceLT, Int.reduceLE, Int.reduceEq, Int.reduceNe, Int.reduceAdd, Int.reduceSub, Int.reduceMul, Int.reduceNeg, q1, q3, q4, e1]
      rw [List.take_of_length_le (by omega)] at hom
      refine finK_drop ⟨?_, rfl, rfl⟩
      obtain ⟨s1, s2⟩ := fieldsF_spec p
      have : o = fieldsF p := inc_uniq hoi s1 fun x => by
        rw [hom, s2, hp, atomIds_cons, List.mem_append, hown]
      rw [this]; rfl
theorem rFields_ok : ∀ (n : Nat) (p : Pr), SizeOf.sizeOf p ≤ n → (subs p).length ≤ 4000000 → VN P G 14 [.agg p.cells] (.sl .none ((fieldsF p).map iE))
  | 0, p, h, _ => by cases p; simp at h
  | n + 1, p, h, hn => rFields_step p hn fun k hk => rFields_ok n k (Nat.le_of_lt_succ (Nat.lt_of_lt_of_le (Pr.kid_lt hk) h)) (Nat.le_trans (subs_kid_le hk) hn)
set_option maxRecDepth 100000 in
set_option maxHeartbeats 4000000 in
theorem matches_ok (p : Pr) (c : PrOk p) (r : Rw) : VN P G 3 [.agg p.cells, .agg [.sl .none (r.map clD)]] (.bool true) := by
  have hs := law08_sanity_ok (G := G)
  have hsm := Small_ok (G := G) p 300
  have hfew : (subs p).length ≤ 4000000 := Nat.le_trans c.few (by omega)
  have h1 := pEval_ok (G := G) r p
  have h2 := rEval_ok (G := G) r _ p (Nat.le_refl _) c.lim
  have h3 := pMatch_ok (G := G) r p
  have h4 := rMatch_ok (G := G) r p c.lim
  have h5 := Fields_ok (G := G) p hfew
  have h6 := rFields_ok (G := G) _ p (Nat.le_refl _) hfew
  have h7 := Size_ok (G := G) p hfew
  have h8 := rSize_ok (G := G) _ p (Nat.le_refl _) hfew
  have h9 : VN P G 12 [.sl .none ((fieldsF p).map iE), .sl .none ((fieldsF p).map iE)] (.bool true) := by
    have h := Ints_ok (G := G) .none .none (fieldsF p) (fieldsF p)
    rw [decide_eq_true rfl] at h
    exact h
  unfold VN
  refine VC.ofs (fun | 4 => [(0, []), (1, []), (3, [2]), (4, [2]), (2, []), (5, []), (6, []), (7, []), (8, []), (9, []), (11, [10]), (12, [10]), (10, []), (13, []), (14, []), (15, []), (16, []), (17, []), (19, [18]), (18, []), (20, []), (21, []), (22, []), (23, []), (24, []), (26, [25]), (25, []), (27, []), (28, []), (29, []), (30, []), (31, []), (32, []), (33, [])] | 99999999 => [(0, [0, 1, 2, 3, 4, 5, 15])] | _ => []) [4] mixed Tryz.func3 rfl rfl rfl rfl (by decide +kernel) (by simp) ?_
  have er : (r.map clD).length = r.length := by simp
  simp only [go_sem, reduceIte, Nat.reduceEqDiff, Nat.reduceAdd, Nat.reduceSub, Nat.reduceMul, Nat.reduceLT, Nat.reduceLeDiff, Nat.reducePow, Int.reduceToNat, Int.reduceLT, Int.reduceLE, Int.reduceEq, Int.reduceNe, Int.reduceAdd, Int.reduceSub, Int.reduceMul, Int.reduceNeg]
  refine fun b3 => new_1 fun b4 q1 q2 => ?_
  have N := And.intro q1 q2
  generalize hβ : Heap.set _ b4 _ = β0
  have e3 : β0 b3 = some p.cells := by rw [← hβ]; simp [Heap.set, N]
  have e4 : β0 b4 = some [.sl .none (r.map clD)] := hit_set hβ
  clear hβ
  refine cK_vn hs ?_
  try simp only [go_sem, reduceIte, Nat.reduceEqDiff, Nat.reduceAdd, Nat.reduceSub, Nat.reduceMul, Nat.reduceLT, Nat.reduceLeDiff, Nat.reducePow, Int.reduceToNat, Int.reduceLT, Int.reduceLE, Int.reduceEq, Int.reduceNe, Int.reduceAdd, Int.reduceSub, Int.reduceMul, Int.reduceNeg, N, e3, e4, er]
  refine cK_vx hsm ?_
  rintro _ ⟨sm, rfl⟩
  cases sm
  · try simp only [go_sem, reduceIte, Nat.reduceEqDiff, Nat.reduceAdd, Nat.reduceSub, Nat.reduceMul, Nat.reduceLT, Nat.reduceLeDiff, Nat.reducePow, Int.reduceToNat, Int.reduceLT, Int.reduceLE, Int.reduceEq, Int.reduceNe, Int.reduceAdd, Int.reduceSub, Int.reduceMul, Int.reduceNeg, N, e3, e4, er]
    exact finK_drop ⟨rfl, rfl, rfl⟩
  try simp only [go_sem, reduceIte, Nat.reduceEqDiff, Nat.reduceAdd, Nat.reduceSub, Nat.reduceMul, Nat.reduceLT, Nat.reduceLeDiff, Nat.reducePow, Int.reduceToNat, Int.reduceLT, Int.reduceLE, Int.reduceEq, Int.reduceNe, Int.reduceAdd, Int.reduceSub, Int.reduceMul, Int.reduceNeg, N, e3, e4, er]
  refine cd_dec (fun _ => ?_) (fun _ => ?_)
  · try simp only [go_sem, reduceIte, Nat.reduceEqDiff, Nat.reduceAdd, Nat.reduceSub, Nat.reduceMul, Nat.reduceLT, Nat.reduceLeDiff, Nat.reducePow, Int.reduceToNat, Int.reduceLT, Int.reduceLE, Int.reduceEq, Int.reduceNe, Int.reduceAdd, Int.reduceSub, Int.reduceMul, Int.reduceNeg, N, e3, e4, er]
    exact finK_drop ⟨rfl, rfl, rfl⟩
  repeat' (first
    | simp only [go_sem, reduceIte, Nat.reduceEqDiff, Nat.reduceAdd, Nat.reduceSub, Nat.reduceMul, Nat.reduceLT, Nat.reduceLeDiff, Nat.reducePow, Int.reduceToNat, Int.reduceLT, Int.reduceLE, Int.reduceEq, Int.reduceNe, Int.reduceAdd, Int.reduceSub, Int.reduceMul, Int.reduceNeg, N, e3, e4, er, beq_self_eq_true]
    | (first | refine cK_vn (h1) ?_ | refine cE_vn (h1) ?_)
    | (first | refine cK_vn (h2) ?_ | refine cE_vn (h2) ?_)
    | (first | refine cK_vn (h3) ?_ | refine cE_vn (h3) ?_)
    | (first | refine cK_vn (h4) ?_ | refine cE_vn (h4) ?_)
    | (first | refine cK_vn (h5) ?_ | refine cE_vn (h5) ?_)
    | (first | refine cK_vn (h6) ?_ | refine cE_vn (h6) ?_)
    | (first | refine cK_vn (h7) ?_ | refine cE_vn (h7) ?_)
    | (first | refine cK_vn (h8) ?_ | refine cE_vn (h8) ?_)
    | (first | refine cK_vn (h9) ?_ | refine cE_vn (h9) ?_)
    | fail)
  exact finK_drop ⟨rfl, rfl, rfl⟩
end Go.Proofs.YtbfkhepfgibonaaGreatS
