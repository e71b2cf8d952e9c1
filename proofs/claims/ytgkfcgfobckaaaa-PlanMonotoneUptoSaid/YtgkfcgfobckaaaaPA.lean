import Derived.Test.YtgkfcgfobckaaaaP6
import Derived.Test.YtgkfcgfobckaaaaP7
import Derived.Test.YtgkfcgfobckaaaaPL
set_option linter.unusedVariables false
set_option linter.unusedSimpArgs false
namespace Go.Proofs.YtgkfcgfobckaaaaS
open Go Go.Proofs.YtgkfcgfobckaaaaV

variable {G : Heap}
attribute [local irreducible] VN VC VX VQ

theorem orP_lim {p q : Pr} (hp : p.Lim) (hq : q.Lim) : (orP p q).Lim := .mk _ (by simp [orP, Pr.kids]) fun k hk => by
  simp only [orP, Pr.kids, List.mem_cons, List.not_mem_nil, or_false] at hk
  rcases hk with rfl | rfl <;> assumption
theorem andP_lim {p q : Pr} (hp : p.Lim) (hq : q.Lim) : (andP p q).Lim := .mk _ (by simp [andP, Pr.kids]) fun k hk => by
  simp only [andP, Pr.kids, List.mem_cons, List.not_mem_nil, or_false] at hk
  rcases hk with rfl | rfl <;> assumption
theorem orP_cells (p q : Pr) : (orP p q).cells = [.int .i64 6, .int .i64 0, .int .i64 0, .int .i64 0, .sl .none [], .str ByteArray.empty, .sl .none [.agg p.cells, .agg q.cells]] := by
  simp only [orP, Pr.cells, Pr.kids, List.map_cons, List.map_nil, Pr.d_eq]; rfl
theorem andP_cells (p q : Pr) : (andP p q).cells = [.int .i64 5, .int .i64 0, .int .i64 0, .int .i64 0, .sl .none [], .str ByteArray.empty, .sl .none [.agg p.cells, .agg q.cells]] := by
  simp only [andP, Pr.cells, Pr.kids, List.map_cons, List.map_nil, Pr.d_eq]; rfl
set_option maxHeartbeats 4000000 in
theorem monotone_ok (l : List En) (p q : Pr) (hp : p.Lim) (hq : q.Lim) : VN P G 6 [.sl .none (l.map En.d), .agg p.cells, .agg q.cells] (.bool true) := by
  have hs := sanity_ok (G := G)
  have hli := LightL_ok (G := G) l
  have hsm := Small_ok (G := G) p 100
  have hsq := Small_ok (G := G) q 100
  unfold VN
  refine VC.ofs (fun | 4 => [(0, []), (1, []), (2, []), (3, []), (4, [10]), (5, [10]), (6, []), (7, []), (8, []), (9, []), (10, []), (11, [])] | 5 => [(0, []), (1, []), (3, []), (4, [2]), (6, []), (7, [2, 5]), (9, []), (10, [2, 5, 8]), (2, []), (5, []), (8, []), (11, []), (12, []), (13, []), (14, []), (15, [])] | 11 => [(0, []), (1, []), (2, []), (3, []), (4, []), (5, []), (6, []), (7, []), (8, []), (9, []), (10, []), (11, []), (12, []), (13, []), (14, []), (15, []), (16, []), (17, []), (18, []), (19, []), (20, []), (21, []), (22, []), (23, []), (24, []), (25, []), (26, []), (27, []), (28, []), (29, []), (30, []), (31, []), (32, []), (33, []), (34, [])] | 99999999 => [(0, [0, 1, 2, 4, 5, 6, 7, 8, 9, 10, 11, 12, 13, 14, 28, 75, 79, 116])] | _ => []) [6] mixed Try.func6 rfl rfl rfl rfl (by decide +kernel) (by simp) ?_
  have el : (l.map En.d).length = l.length := by simp
  simp only [go_sem, reduceIte, Nat.reduceEqDiff, Nat.reduceAdd, Nat.reduceSub, Nat.reduceMul, Nat.reduceLT, Nat.reduceLeDiff, Nat.reducePow, Int.reduceToNat, Int.reduceLT, Int.reduceLE, Int.reduceEq, Int.reduceNe, Int.reduceAdd, Int.reduceSub, Int.reduceMul, Int.reduceNeg]
  intro b4
  refine new_1 fun b5 n1 n2 => ?_
  try simp only [go_sem, reduceIte, Nat.reduceEqDiff, Nat.reduceAdd, Nat.reduceSub, Nat.reduceMul, Nat.reduceLT, Nat.reduceLeDiff, Nat.reducePow, Int.reduceToNat, Int.reduceLT, Int.reduceLE, Int.reduceEq, Int.reduceNe, Int.reduceAdd, Int.reduceSub, Int.reduceMul, Int.reduceNeg, n1, n2]
  refine cK_vn hs ?_
  try simp only [go_sem, reduceIte, Nat.reduceEqDiff, Nat.reduceAdd, Nat.reduceSub, Nat.reduceMul, Nat.reduceLT, Nat.reduceLeDiff, Nat.reducePow, Int.reduceToNat, Int.reduceLT, Int.reduceLE, Int.reduceEq, Int.reduceNe, Int.reduceAdd, Int.reduceSub, Int.reduceMul, Int.reduceNeg, n1, n2, p.take7, p.obj, p.len7, q.take7, q.obj, q.len7]
  refine cK_vx hli ?_
  rintro _ ⟨b, rfl, hb⟩
  cases b
  · try simp only [go_sem, reduceIte, Nat.reduceEqDiff, Nat.reduceAdd, Nat.reduceSub, Nat.reduceMul, Nat.reduceLT, Nat.reduceLeDiff, Nat.reducePow, Int.reduceToNat, Int.reduceLT, Int.reduceLE, Int.reduceEq, Int.reduceNe, Int.reduceAdd, Int.reduceSub, Int.reduceMul, Int.reduceNeg, n1, n2, p.take7, p.obj, p.len7, q.take7, q.obj, q.len7]
    exact finK_drop ⟨rfl, rfl, rfl⟩
  try simp only [go_sem, reduceIte, Nat.reduceEqDiff, Nat.reduceAdd, Nat.reduceSub, Nat.reduceMul, Nat.reduceLT, Nat.reduceLeDiff, Nat.reducePow, Int.reduceToNat, Int.reduceLT, Int.reduceLE, Int.reduceEq, Int.reduceNe, Int.reduceAdd, Int.reduceSub, Int.reduceMul, Int.reduceNeg, n1, n2, p.take7, p.obj, p.len7, q.take7, q.obj, q.len7]
  obtain ⟨hl, hc⟩ := hb rfl
  refine cK_vx hsm ?_
  rintro _ ⟨b, rfl⟩
  cases b
  · try simp only [go_sem, reduceIte, Nat.reduceEqDiff, Nat.reduceAdd, Nat.reduceSub, Nat.reduceMul, Nat.reduceLT, Nat.reduceLeDiff, Nat.reducePow, Int.reduceToNat, Int.reduceLT, Int.reduceLE, Int.reduceEq, Int.reduceNe, Int.reduceAdd, Int.reduceSub, Int.reduceMul, Int.reduceNeg, n1, n2, p.take7, p.obj, p.len7, q.take7, q.obj, q.len7]
    exact finK_drop ⟨rfl, rfl, rfl⟩
  try simp only [go_sem, reduceIte, Nat.reduceEqDiff, Nat.reduceAdd, Nat.reduceSub, Nat.reduceMul, Nat.reduceLT, Nat.reduceLeDiff, Nat.reducePow, Int.reduceToNat, Int.reduceLT, Int.reduceLE, Int.reduceEq, Int.reduceNe, Int.reduceAdd, Int.reduceSub, Int.reduceMul, Int.reduceNeg, n1, n2, p.take7, p.obj, p.len7, q.take7, q.obj, q.len7]
  refine cK_vx hsq ?_
  rintro _ ⟨b, rfl⟩
  cases b
  · try simp only [go_sem, reduceIte, Nat.reduceEqDiff, Nat.reduceAdd, Nat.reduceSub, Nat.reduceMul, Nat.reduceLT, Nat.reduceLeDiff, Nat.reducePow, Int.reduceToNat, Int.reduceLT, Int.reduceLE, Int.reduceEq, Int.reduceNe, Int.reduceAdd, Int.reduceSub, Int.reduceMul, Int.reduceNeg, n1, n2, p.take7, p.obj, p.len7, q.take7, q.obj, q.len7]
    exact finK_drop ⟨rfl, rfl, rfl⟩
  try simp only [go_sem, reduceIte, Nat.reduceEqDiff, Nat.reduceAdd, Nat.reduceSub, Nat.reduceMul, Nat.reduceLT, Nat.reduceLeDiff, Nat.reducePow, Int.reduceToNat, Int.reduceLT, Int.reduceLE, Int.reduceEq, Int.reduceNe, Int.reduceAdd, Int.reduceSub, Int.reduceMul, Int.reduceNeg, n1, n2, p.take7, p.obj, p.len7, q.take7, q.obj, q.len7]
  generalize hβ : Heap.set _ b5 _ = β0
  have e4 : β0 b4 = some p.cells := by rw [← hβ]; simp [Heap.set, n1, n2]
  have e5 : β0 b5 = some q.cells := by rw [← hβ]; simp [Heap.set, n1, n2]
  clear hβ
  have hka := Keep_ok (G := G) l p hl hp
  have hkb := Keep_ok (G := G) l q hl hq
  have hkc : ∀ t1 t2, VN P G 17 [.sl .none (l.map En.d), .agg [.int .i64 6, .int .i64 0, .int .i64 0, .int .i64 0, .sl t1 [], .str ByteArray.empty, .sl t2 [.agg p.cells, .agg q.cells]]] (.sl .none ((keepF l (orP p q)).map boD)) := fun t1 t2 => VN.er (by
    have := Keep_ok (G := G) l (orP p q) hl (orP_lim hp hq)
    rw [orP_cells] at this
    exact this)
  have hkd : ∀ t1 t2, VN P G 17 [.sl .none (l.map En.d), .agg [.int .i64 5, .int .i64 0, .int .i64 0, .int .i64 0, .sl t1 [], .str ByteArray.empty, .sl t2 [.agg p.cells, .agg q.cells]]] (.sl .none ((keepF l (andP p q)).map boD)) := fun t1 t2 => VN.er (by
    have := Keep_ok (G := G) l (andP p q) hl (andP_lim hp hq)
    rw [andP_cells] at this
    exact this)
  have la : ((keepF l p).map boD).length = l.length := by simp [keepF]
  have lb : ((keepF l q).map boD).length = l.length := by simp [keepF]
  have lc : ((keepF l (orP p q)).map boD).length = l.length := by simp [keepF]
  have ld : ((keepF l (andP p q)).map boD).length = l.length := by simp [keepF]
  have hv : ∀ (i : Nat) (e : En), l[i]? = some e → ∀ x, ((keepF l x).map boD).getD i .any = .bool (mayT e.su x) := fun i e h x => by
    have hj := (List.getElem?_eq_some_iff.1 h).1
    rw [boD_at (by rw [keepF_len]; exact hj), List.getD, keepF_at x h]; rfl
  have po : p.cells.all D.one = true := rfl
  have qo : q.cells.all D.one = true := rfl
  have pe : p.cells.map D.er1 = p.cells := rfl
  have qe : q.cells.map D.er1 = q.cells := rfl
  try simp only [go_sem, reduceIte, Nat.reduceEqDiff, Nat.reduceAdd, Nat.reduceSub, Nat.reduceMul, Nat.reduceLT, Nat.reduceLeDiff, Nat.reducePow, Int.reduceToNat, Int.reduceLT, Int.reduceLE, Int.reduceEq, Int.reduceNe, Int.reduceAdd, Int.reduceSub, Int.reduceMul, Int.reduceNeg, n1, n2, e4, e5, p.take7, p.obj, p.len7, q.take7, q.obj, q.len7, po, qo, pe, qe]
  refine new_any fun b8 h8 => ?_
  have m84 := box_ne h8 e4
  have m85 := box_ne h8 e5
  refine new_any fun b9 h9 => ?_
  simp only [set_none] at h9
  have m98 := h9.1
  have m94 := box_ne h9.2 e4
  have m95 := box_ne h9.2 e5
  try simp only [go_sem, reduceIte, Nat.reduceEqDiff, Nat.reduceAdd, Nat.reduceSub, Nat.reduceMul, Nat.reduceLT, Nat.reduceLeDiff, Nat.reducePow, Int.reduceToNat, Int.reduceLT, Int.reduceLE, Int.reduceEq, Int.reduceNe, Int.reduceAdd, Int.reduceSub, Int.reduceMul, Int.reduceNeg, n1, n2, e4, e5, p.take7, p.obj, p.len7, q.take7, q.obj, q.len7, po, qo, pe, qe, m84, m85, m98, m94, m95]
  refine ⟨by simp [rdAdd, m84, m85], by simp [rdAdd, m94, m95], cE_vn hka ?_⟩
  try simp only [go_sem, reduceIte, Nat.reduceEqDiff, Nat.reduceAdd, Nat.reduceSub, Nat.reduceMul, Nat.reduceLT, Nat.reduceLeDiff, Nat.reducePow, Int.reduceToNat, Int.reduceLT, Int.reduceLE, Int.reduceEq, Int.reduceNe, Int.reduceAdd, Int.reduceSub, Int.reduceMul, Int.reduceNeg, n1, n2, e4, e5, p.take7, p.obj, p.len7, q.take7, q.obj, q.len7, po, qo, pe, qe, m84, m85, m98, m94, m95, el, la, lb, lc, ld, ne_eq, not_true_eq_false, or_self, decide_false]
  refine cE_vn hkb ?_
  try simp only [go_sem, reduceIte, Nat.reduceEqDiff, Nat.reduceAdd, Nat.reduceSub, Nat.reduceMul, Nat.reduceLT, Nat.reduceLeDiff, Nat.reducePow, Int.reduceToNat, Int.reduceLT, Int.reduceLE, Int.reduceEq, Int.reduceNe, Int.reduceAdd, Int.reduceSub, Int.reduceMul, Int.reduceNeg, n1, n2, e4, e5, p.take7, p.obj, p.len7, q.take7, q.obj, q.len7, po, qo, pe, qe, m84, m85, m98, m94, m95, el, la, lb, lc, ld, ne_eq, not_true_eq_false, or_self, decide_false]
  refine cE_vn (hkc _ _) ?_
  try simp only [go_sem, reduceIte, Nat.reduceEqDiff, Nat.reduceAdd, Nat.reduceSub, Nat.reduceMul, Nat.reduceLT, Nat.reduceLeDiff, Nat.reducePow, Int.reduceToNat, Int.reduceLT, Int.reduceLE, Int.reduceEq, Int.reduceNe, Int.reduceAdd, Int.reduceSub, Int.reduceMul, Int.reduceNeg, n1, n2, e4, e5, p.take7, p.obj, p.len7, q.take7, q.obj, q.len7, po, qo, pe, qe, m84, m85, m98, m94, m95, el, la, lb, lc, ld, ne_eq, not_true_eq_false, or_self, decide_false]
  refine cE_vn (hkd _ _) ?_
  try simp only [go_sem, reduceIte, Nat.reduceEqDiff, Nat.reduceAdd, Nat.reduceSub, Nat.reduceMul, Nat.reduceLT, Nat.reduceLeDiff, Nat.reducePow, Int.reduceToNat, Int.reduceLT, Int.reduceLE, Int.reduceEq, Int.reduceNe, Int.reduceAdd, Int.reduceSub, Int.reduceMul, Int.reduceNeg, n1, n2, e4, e5, p.take7, p.obj, p.len7, q.take7, q.obj, q.len7, po, qo, pe, qe, m84, m85, m98, m94, m95, el, la, lb, lc, ld, ne_eq, not_true_eq_false, or_self, decide_false]
  clear hka hkb hkc hkd
  generalize Heap.set _ b9 _ = β1
  generalize hA : keepF l p = A at *
  generalize hB : keepF l q = B at *
  generalize hC : keepF l (orP p q) = C at *
  generalize hD : keepF l (andP p q) = E at *
  have hv1 : ∀ (i : Nat) (e : En), l[i]? = some e → (A.map boD).getD i .any = .bool (mayT e.su p) := fun i e h => by rw [← hA]; exact hv i e h p
  have hv2 : ∀ (i : Nat) (e : En), l[i]? = some e → (B.map boD).getD i .any = .bool (mayT e.su q) := fun i e h => by rw [← hB]; exact hv i e h q
  have hv3 : ∀ (i : Nat) (e : En), l[i]? = some e → (C.map boD).getD i .any = .bool (mayT e.su p || mayT e.su q) := fun i e h => by rw [← hC, hv i e h, may_or]
  have hv4 : ∀ (i : Nat) (e : En), l[i]? = some e → (E.map boD).getD i .any = .bool (mayT e.su p && mayT e.su q) := fun i e h => by rw [← hD, hv i e h, may_and]
  clear hA hB hC hD hv
  refine vwq_loop (fun v => ∃ (j : Nat), j ≤ l.length ∧ v.σ 0 = .sl .none (l.map En.d) ∧ v.σ 7 = .bool true ∧ v.σ 10 = .sl .none (A.map boD) ∧ v.σ 11 = .sl .none (B.map boD) ∧ v.σ 12 = .sl .none (C.map boD) ∧ v.σ 13 = .sl .none (E.map boD) ∧ v.σ 14 = .int .i64 j ∧ v.β = β1 ∧ v.ω = []) (fun v => l.length - (ival (v.σ 14)).toNat) ⟨0, by omega, rfl, rfl, rfl, rfl, rfl, rfl, rfl, rfl, rfl⟩ ?_
  rintro σ β ω ⟨j, hj, q0, q7, q10, q11, q12, q13, q14, rfl, rfl⟩
  dsimp only at q0 q7 q10 q11 q12 q13 q14
  try simp only [go_sem, reduceIte, Nat.reduceEqDiff, Nat.reduceAdd, Nat.reduceSub, Nat.reduceMul, Nat.reduceLT, Nat.reduceLeDiff, Nat.reducePow, Int.reduceToNat, Int.reduceLT, Int.reduceLE, Int.reduceEq, Int.reduceNe, Int.reduceAdd, Int.reduceSub, Int.reduceMul, Int.reduceNeg, q0, q7, q10, q11, q12, q13, q14, el]
  refine cd_dec (fun g => ?_) (fun g => ?_)
  · have g' := eq_true g
    have gj : j < l.length := by omega
    obtain ⟨x, hx, ex⟩ := En_at (l := l) (j := j) gj
    have c1 : ((0 : Int) ≤ j) = True := eq_true (by omega)
    have wj := wrap_i64 (x := (j : Int) + 1) (by omega) (by omega)
    have f1 := hv1 j x hx
    have f2 := hv2 j x hx
    have f3 := hv3 j x hx
    have f4 := hv4 j x hx
    generalize mayT x.su p = mp at *
    generalize mayT x.su q = mq at *
    cases mp <;> cases mq
    all_goals
      simp only [Bool.or_true, Bool.or_false, Bool.and_true, Bool.and_false, Bool.or_self, Bool.and_self] at f3 f4
      try simp only [go_sem, reduceIte, Nat.reduceEqDiff, Nat.reduceAdd, Nat.reduceSub, Nat.reduceMul, Nat.reduceLT, Nat.reduceLeDiff, Nat.reducePow, Int.reduceToNat, Int.reduceLT, Int.reduceLE, Int.reduceEq, Int.reduceNe, Int.reduceAdd, Int.reduceSub, Int.reduceMul, Int.reduceNeg, q0, q7, q10, q11, q12, q13, q14, el, g', c1, wj, f1, f2, f3, f4, la, lb, lc, ld]
      exact ⟨⟨j + 1, by omega, rfl⟩, by omega⟩
  · try simp only [go_sem, reduceIte, Nat.reduceEqDiff, Nat.reduceAdd, Nat.reduceSub, Nat.reduceMul, Nat.reduceLT, Nat.reduceLeDiff, Nat.reducePow, Int.reduceToNat, Int.reduceLT, Int.reduceLE, Int.reduceEq, Int.reduceNe, Int.reduceAdd, Int.reduceSub, Int.reduceMul, Int.reduceNeg, q0, q7, q10, q11, q12, q13, q14, el]
    exact finK_drop ⟨rfl, rfl, rfl⟩
end Go.Proofs.YtgkfcgfobckaaaaS
