import Derived.Test.YtgkfcgfobckaaaaP3
import Derived.Test.YtgkfcgfobckaaaaD2
set_option linter.unusedVariables false
set_option linter.unusedSimpArgs false
namespace Go.Proofs.YtgkfcgfobckaaaaS
open Go Go.Proofs.YtgkfcgfobckaaaaV

variable {G : Heap}
attribute [local irreducible] VN VC VX VQ

def litR (c : Prop) (d : D) : Prop := ∃ b, d = .bool b ∧ (b = true → c)
theorem LightS_ok (u : Sm) : VX P G 28 [.agg u.cells] (litR (u.l.length ≤ 100)) := by
  obtain ⟨r, l⟩ := u
  simp only [Sm.cells]
  unfold VX
  refine VC.ofs (fun | 99999999 => [(0, [0, 1, 2, 3, 7, 12, 34])] | _ => []) [2] mixed Try.func28 rfl rfl rfl rfl (by decide +kernel) (by simp) ?_
  simp only [go_sem, reduceIte, Nat.reduceEqDiff, Nat.reduceAdd, Nat.reduceSub, Nat.reduceMul, Nat.reduceLT, Nat.reduceLeDiff, Nat.reducePow, Int.reduceToNat, Int.reduceLT, Int.reduceLE, Int.reduceEq, Int.reduceNe, Int.reduceAdd, Int.reduceSub, Int.reduceMul, Int.reduceNeg]
  intro b0
  refine cd_dec (fun h => ?_) (fun h => ?_)
  · simp only [go_sem, reduceIte, Nat.reduceEqDiff, Nat.reduceAdd, Nat.reduceSub, Nat.reduceMul, Nat.reduceLT, Nat.reduceLeDiff, Nat.reducePow, Int.reduceToNat, Int.reduceLT, Int.reduceLE, Int.reduceEq, Int.reduceNe, Int.reduceAdd, Int.reduceSub, Int.reduceMul, Int.reduceNeg]
    exact finK_drop ⟨_, ⟨false, rfl, fun h => by cases h⟩, rfl, rfl, rfl⟩
  · simp only [go_sem, reduceIte, Nat.reduceEqDiff, Nat.reduceAdd, Nat.reduceSub, Nat.reduceMul, Nat.reduceLT, Nat.reduceLeDiff, Nat.reducePow, Int.reduceToNat, Int.reduceLT, Int.reduceLE, Int.reduceEq, Int.reduceNe, Int.reduceAdd, Int.reduceSub, Int.reduceMul, Int.reduceNeg]
    have hl : l.length ≤ 100 := by rw [List.length_map] at h; omega
    generalize hβ : Heap.set Heap.nil b0 _ = β0
    have e0 : β0 b0 = some [.int .i64 r, .sl .none (l.map Bd.d)] := by rw [← hβ]; simp only [Heap.set, if_true]
    refine vwq_loop (fun u => ∃ (j : Nat), j ≤ l.length ∧ u.σ 1 = .pb b0 0 ∧ u.σ 3 = .int .i64 j ∧ u.β = β0 ∧ u.ω = []) (fun u => l.length - (ival (u.σ 3)).toNat) ⟨0, by omega, rfl, rfl, rfl, rfl⟩ ?_
    rintro σ β ω ⟨j, j1, q1, q3, rfl, rfl⟩
    dsimp only at q1 q3 e0
    simp only [go_sem, reduceIte, Nat.reduceEqDiff, Nat.reduceAdd, Nat.reduceSub, Nat.reduceMul, Nat.reduceLT, Nat.reduceLeDiff, Nat.reducePow, Int.reduceToNat, Int.reduceLT, Int.reduceLE, Int.reduceEq, Int.reduceNe, Int.reduceAdd, Int.reduceSub, Int.reduceMul, Int.reduceNeg, q1, q3, e0]
    refine cd_dec (fun g => ?_) (fun g => ?_)
    · have hl := len_lt g
      obtain ⟨x, hx, ex⟩ := Bd_at g
      simp only [go_sem, reduceIte, Nat.reduceEqDiff, Nat.reduceAdd, Nat.reduceSub, Nat.reduceMul, Nat.reduceLT, Nat.reduceLeDiff, Nat.reducePow, Int.reduceToNat, Int.reduceLT, Int.reduceLE, Int.reduceEq, Int.reduceNe, Int.reduceAdd, Int.reduceSub, Int.reduceMul, Int.reduceNeg, q1, q3, e0, ex]
      refine ⟨by omega, by omega, cd_dec (fun g1 => ?_) (fun g1 => ?_)⟩
      · simp only [go_sem, reduceIte, Nat.reduceEqDiff, Nat.reduceAdd, Nat.reduceSub, Nat.reduceMul, Nat.reduceLT, Nat.reduceLeDiff, Nat.reducePow, Int.reduceToNat, Int.reduceLT, Int.reduceLE, Int.reduceEq, Int.reduceNe, Int.reduceAdd, Int.reduceSub, Int.reduceMul, Int.reduceNeg, q1, q3, e0]
        exact finK_drop ⟨_, ⟨false, rfl, fun h => by cases h⟩, rfl, rfl, rfl⟩
      · simp only [go_sem, reduceIte, Nat.reduceEqDiff, Nat.reduceAdd, Nat.reduceSub, Nat.reduceMul, Nat.reduceLT, Nat.reduceLeDiff, Nat.reducePow, Int.reduceToNat, Int.reduceLT, Int.reduceLE, Int.reduceEq, Int.reduceNe, Int.reduceAdd, Int.reduceSub, Int.reduceMul, Int.reduceNeg, q1, q3, e0]
        rw [wrap_i64 (x := (j : Int) + 1) (by omega) (by omega)]
        exact ⟨⟨j + 1, by omega, rfl⟩, by omega⟩
    · simp only [go_sem, reduceIte, Nat.reduceEqDiff, Nat.reduceAdd, Nat.reduceSub, Nat.reduceMul, Nat.reduceLT, Nat.reduceLeDiff, Nat.reducePow, Int.reduceToNat, Int.reduceLT, Int.reduceLE, Int.reduceEq, Int.reduceNe, Int.reduceAdd, Int.reduceSub, Int.reduceMul, Int.reduceNeg, q1, q3, e0]
      exact finK_drop ⟨_, ⟨true, rfl, fun _ => hl⟩, rfl, rfl, rfl⟩
def LightP (l : List En) : Prop := l.length ≤ 60 ∧ ∀ e ∈ l, e.su.l.length ≤ 100
theorem LightL_ok (l : List En) : VX P G 9 [.sl .none (l.map En.d)] (litR (LightP l)) := by
  unfold VX
  refine VC.ofs (fun | 99999999 => [(0, [0, 2, 3, 6, 10, 19])] | _ => []) [2] mixed Try.func9 rfl rfl rfl rfl (by decide +kernel) (by simp) ?_
  have el : (l.map En.d).length = l.length := by simp
  simp only [go_sem, reduceIte, Nat.reduceEqDiff, Nat.reduceAdd, Nat.reduceSub, Nat.reduceMul, Nat.reduceLT, Nat.reduceLeDiff, Nat.reducePow, Int.reduceToNat, Int.reduceLT, Int.reduceLE, Int.reduceEq, Int.reduceNe, Int.reduceAdd, Int.reduceSub, Int.reduceMul, Int.reduceNeg, el]
  refine cd_dec (fun h => ?_) (fun h => ?_)
  · simp only [go_sem, reduceIte, Nat.reduceEqDiff, Nat.reduceAdd, Nat.reduceSub, Nat.reduceMul, Nat.reduceLT, Nat.reduceLeDiff, Nat.reducePow, Int.reduceToNat, Int.reduceLT, Int.reduceLE, Int.reduceEq, Int.reduceNe, Int.reduceAdd, Int.reduceSub, Int.reduceMul, Int.reduceNeg]
    exact finK_drop ⟨_, ⟨false, rfl, fun h => by cases h⟩, rfl, rfl, rfl⟩
  · simp only [go_sem, reduceIte, Nat.reduceEqDiff, Nat.reduceAdd, Nat.reduceSub, Nat.reduceMul, Nat.reduceLT, Nat.reduceLeDiff, Nat.reducePow, Int.reduceToNat, Int.reduceLT, Int.reduceLE, Int.reduceEq, Int.reduceNe, Int.reduceAdd, Int.reduceSub, Int.reduceMul, Int.reduceNeg]
    refine vwq_loop (fun v => ∃ (j : Nat), j ≤ l.length ∧ (∀ e ∈ l.take j, e.su.l.length ≤ 100) ∧ v.σ 0 = .sl .none (l.map En.d) ∧ v.σ 3 = .int .i64 j ∧ v.β = Heap.nil ∧ v.ω = []) (fun v => l.length - (ival (v.σ 3)).toNat) ⟨0, by omega, by simp, rfl, rfl, rfl, rfl⟩ ?_
    rintro σ β ω ⟨j, j1, hj, q0, q3, rfl, rfl⟩
    dsimp only at q0 q3
    try simp only [go_sem, reduceIte, Nat.reduceEqDiff, Nat.reduceAdd, Nat.reduceSub, Nat.reduceMul, Nat.reduceLT, Nat.reduceLeDiff, Nat.reducePow, Int.reduceToNat, Int.reduceLT, Int.reduceLE, Int.reduceEq, Int.reduceNe, Int.reduceAdd, Int.reduceSub, Int.reduceMul, Int.reduceNeg, q0, q3, el]
    refine cd_dec (fun g => ?_) (fun g => ?_)
    · have g' := eq_true g
      obtain ⟨x, hx, ex⟩ := En_at (l := l) (j := j) (by omega)
      have c1 : ((0 : Int) ≤ j) = True := eq_true (by omega)
      have wj := wrap_i64 (x := (j : Int) + 1) (by omega) (by omega)
      have hli := LightS_ok (G := G) x.su
      have hlen := x.length
      have hob := x.obj
      try simp only [go_sem, reduceIte, Nat.reduceEqDiff, Nat.reduceAdd, Nat.reduceSub, Nat.reduceMul, Nat.reduceLT, Nat.reduceLeDiff, Nat.reducePow, Int.reduceToNat, Int.reduceLT, Int.reduceLE, Int.reduceEq, Int.reduceNe, Int.reduceAdd, Int.reduceSub, Int.reduceMul, Int.reduceNeg, q0, q3, el, ex, g', c1, hlen, hob, x.take, x.sum, x.one]
      refine ⟨by rw [List.length_drop, hlen]; omega, cK_vx hli ?_⟩
      rintro _ ⟨b, rfl, hb⟩
      cases b
      · try simp only [go_sem, reduceIte, Nat.reduceEqDiff, Nat.reduceAdd, Nat.reduceSub, Nat.reduceMul, Nat.reduceLT, Nat.reduceLeDiff, Nat.reducePow, Int.reduceToNat, Int.reduceLT, Int.reduceLE, Int.reduceEq, Int.reduceNe, Int.reduceAdd, Int.reduceSub, Int.reduceMul, Int.reduceNeg, q0, q3, el, ex, g', c1, hlen, hob, wj]
        exact finK_drop ⟨_, ⟨false, rfl, fun h => by cases h⟩, rfl, rfl, rfl⟩
      · try simp only [go_sem, reduceIte, Nat.reduceEqDiff, Nat.reduceAdd, Nat.reduceSub, Nat.reduceMul, Nat.reduceLT, Nat.reduceLeDiff, Nat.reducePow, Int.reduceToNat, Int.reduceLT, Int.reduceLE, Int.reduceEq, Int.reduceNe, Int.reduceAdd, Int.reduceSub, Int.reduceMul, Int.reduceNeg, q0, q3, el, ex, g', c1, hlen, hob, wj]
        refine ⟨⟨j + 1, by omega, fun e he => ?_, rfl⟩, by omega⟩
        rw [take_snoc hx] at he
        rcases List.mem_append.1 he with he | he
        · exact hj e he
        · simp at he; subst he; exact hb rfl
    · try simp only [go_sem, reduceIte, Nat.reduceEqDiff, Nat.reduceAdd, Nat.reduceSub, Nat.reduceMul, Nat.reduceLT, Nat.reduceLeDiff, Nat.reducePow, Int.reduceToNat, Int.reduceLT, Int.reduceLE, Int.reduceEq, Int.reduceNe, Int.reduceAdd, Int.reduceSub, Int.reduceMul, Int.reduceNeg, q0, q3, el]
      obtain rfl : j = l.length := by omega
      rw [List.take_length] at hj
      exact finK_drop ⟨_, ⟨true, rfl, fun _ => ⟨by omega, hj⟩⟩, rfl, rfl, rfl⟩
def matchF (p : Pr) (r : Rw) : Bool := decide (evalP r p = 1)
theorem Match_ok (r : Rw) (p : Pr) (hL : p.Lim) : VN P G 24 [.agg p.cells, .agg [.sl .none (r.map clD)]] (.bool (matchF p r)) := by
  have he := eval_ok (G := G) r _ p (Nat.le_refl _) hL
  unfold VN
  refine VC.ofs (fun | 99999999 => [(0, [0, 1, 2, 3, 4])] | _ => []) [4] mixed Try.func24 rfl rfl rfl rfl (by decide +kernel) (by simp) ?_
  simp only [go_sem, reduceIte, Nat.reduceEqDiff, Nat.reduceAdd, Nat.reduceSub, Nat.reduceMul, Nat.reduceLT, Nat.reduceLeDiff, Nat.reducePow, Int.reduceToNat, Int.reduceLT, Int.reduceLE, Int.reduceEq, Int.reduceNe, Int.reduceAdd, Int.reduceSub, Int.reduceMul, Int.reduceNeg]
  intro b0
  refine new_1 fun b1 h1 h2 => ?_
  try simp only [go_sem, reduceIte, Nat.reduceEqDiff, Nat.reduceAdd, Nat.reduceSub, Nat.reduceMul, Nat.reduceLT, Nat.reduceLeDiff, Nat.reducePow, Int.reduceToNat, Int.reduceLT, Int.reduceLE, Int.reduceEq, Int.reduceNe, Int.reduceAdd, Int.reduceSub, Int.reduceMul, Int.reduceNeg, h1, h2, p.take7, p.obj, p.len7]
  refine cK_vn he ?_
  try simp only [go_sem, reduceIte, Nat.reduceEqDiff, Nat.reduceAdd, Nat.reduceSub, Nat.reduceMul, Nat.reduceLT, Nat.reduceLeDiff, Nat.reducePow, Int.reduceToNat, Int.reduceLT, Int.reduceLE, Int.reduceEq, Int.reduceNe, Int.reduceAdd, Int.reduceSub, Int.reduceMul, Int.reduceNeg, h1, h2]
  exact finK_drop ⟨rfl, rfl, rfl⟩
/-- What the reference says of a row that a summary covers. -/
def refCov (u : Sm) (r : Rw) : Bool := decide (0 < u.rows) && u.l.all fun b =>
  let v := valV r b.id
  if v.null = true then decide (0 < b.nulls) else !(decide (u.rows ≤ b.nulls) || b.min.null || b.max.null) && !(decide (cmpV v b.min < 0) || decide (0 < cmpV v b.max))
theorem refCov_eq (u : Sm) (r : Rw) : refCov u r = coversF u r := by
  unfold refCov coversF
  congr 2
  funext b
  simp only [getV_valV]
  by_cases h : (valV r b.id).null = true
  · simp [h, Vl.nul]
  · simp [h]
set_option maxHeartbeats 2000000 in
theorem refCovers_ok (u : Sm) (r : Rw) : VN P G 23 [.agg u.cells, .agg [.sl .none (r.map clD)]] (.bool (coversF u r)) := by
  rw [← refCov_eq]
  simp only [Sm.cells]
  unfold VN
  refine VC.small2 fun hsm => ?_
  have z1 := hsm (.agg u.cells) (List.mem_cons_self ..) (.sl .none (u.l.map Bd.d)) (by simp [D.cells, Sm.cells])
  simp only [Small, mostLen, List.length_map] at z1
  clear hsm
  refine VC.ofs (fun | 6 => [(0, []), (1, [12]), (2, []), (3, []), (4, [12]), (5, []), (6, []), (7, []), (8, []), (9, []), (10, []), (11, []), (12, [13, 14]), (13, []), (14, []), (15, []), (16, [])] | 99999999 => [(0, [0, 1, 2, 3, 4, 5, 6, 7, 10, 15, 37, 71])] | _ => []) [4] mixed Try.func23 rfl rfl rfl rfl (by decide +kernel) (by simp) ?_
  simp only [go_sem, reduceIte, Nat.reduceEqDiff, Nat.reduceAdd, Nat.reduceSub, Nat.reduceMul, Nat.reduceLT, Nat.reduceLeDiff, Nat.reducePow, Int.reduceToNat, Int.reduceLT, Int.reduceLE, Int.reduceEq, Int.reduceNe, Int.reduceAdd, Int.reduceSub, Int.reduceMul, Int.reduceNeg]
  intro b0
  refine new_1 fun b1 h1 h2 => ?_
  simp only [go_sem, reduceIte, Nat.reduceEqDiff, Nat.reduceAdd, Nat.reduceSub, Nat.reduceMul, Nat.reduceLT, Nat.reduceLeDiff, Nat.reducePow, Int.reduceToNat, Int.reduceLT, Int.reduceLE, Int.reduceEq, Int.reduceNe, Int.reduceAdd, Int.reduceSub, Int.reduceMul, Int.reduceNeg, h1, h2]
  refine cd_dec (fun k => ?_) (fun k => ?_)
  · simp only [go_sem, reduceIte, Nat.reduceEqDiff, Nat.reduceAdd, Nat.reduceSub, Nat.reduceMul, Nat.reduceLT, Nat.reduceLeDiff, Nat.reducePow, Int.reduceToNat, Int.reduceLT, Int.reduceLE, Int.reduceEq, Int.reduceNe, Int.reduceAdd, Int.reduceSub, Int.reduceMul, Int.reduceNeg, h1, h2]
    exact finK_drop ⟨by rw [refCov, decide_eq_false (by omega)]; rfl, rfl, rfl⟩
  try simp only [go_sem, reduceIte, Nat.reduceEqDiff, Nat.reduceAdd, Nat.reduceSub, Nat.reduceMul, Nat.reduceLT, Nat.reduceLeDiff, Nat.reducePow, Int.reduceToNat, Int.reduceLT, Int.reduceLE, Int.reduceEq, Int.reduceNe, Int.reduceAdd, Int.reduceSub, Int.reduceMul, Int.reduceNeg, h1, h2]
  generalize hβ : Heap.set _ b1 _ = β0
  have e0 : β0 b0 = some [.int .i64 u.rows, .sl .none (u.l.map Bd.d)] := by rw [← hβ]; simp [Heap.set, h1, h2]
  have e1 : β0 b1 = some [.sl .none (r.map clD)] := by rw [← hβ]; simp [Heap.set, h1, h2]
  clear hβ
  refine vwq_loop (fun v => ∃ (j : Nat), j ≤ u.l.length ∧ refCov ⟨u.rows, u.l.drop j⟩ r = refCov u r ∧ v.σ 2 = .pb b0 0 ∧ v.σ 3 = .pb b1 0 ∧ v.σ 5 = .int .i64 j ∧ v.β b0 = some [.int .i64 u.rows, .sl .none (u.l.map Bd.d)] ∧ v.β b1 = some [.sl .none (r.map clD)] ∧ v.ω = []) (fun v => u.l.length - (ival (v.σ 5)).toNat) ⟨0, by omega, rfl, rfl, rfl, rfl, e0, e1, rfl⟩ ?_
  clear e0 e1 β0
  rintro σ β ω ⟨j, hj, hc, q2, q3, q5, e0, e1, rfl⟩
  dsimp only at q2 q3 q5 e0 e1
  try simp only [go_sem, reduceIte, Nat.reduceEqDiff, Nat.reduceAdd, Nat.reduceSub, Nat.reduceMul, Nat.reduceLT, Nat.reduceLeDiff, Nat.reducePow, Int.reduceToNat, Int.reduceLT, Int.reduceLE, Int.reduceEq, Int.reduceNe, Int.reduceAdd, Int.reduceSub, Int.reduceMul, Int.reduceNeg, q2, q3, q5, e0, e1]
  refine cd_dec (fun g => ?_) (fun g => ?_)
  · have g' := eq_true g
    obtain ⟨x, hx, ex⟩ := Bd_at (l := u.l) (j := j) g
    rw [List.length_map] at g
    have hd := drop_at hx
    have wj := wrap_i64 (x := (j : Int) + 1) (by omega) (by omega)
    have c1 : ((0 : Int) ≤ j) = True := eq_true (by omega)
    have hgc := Value_ok (G := G) r x.id
    have hc1 := refCompare_ok (G := G) (valV r x.id) x.min
    have hc2 := refCompare_ok (G := G) (valV r x.id) x.max
    simp only [Vl.cells, Vl.d] at hgc hc1 hc2
    have hstep : refCov ⟨u.rows, u.l.drop j⟩ r = ((let v := valV r x.id; if v.null = true then decide (0 < x.nulls) else !(decide (u.rows ≤ x.nulls) || x.min.null || x.max.null) && !(decide (cmpV v x.min < 0) || decide (0 < cmpV v x.max))) && refCov ⟨u.rows, u.l.drop (j + 1)⟩ r) := by
      rw [hd]
      simp only [refCov, List.all_cons]
      cases decide (0 < u.rows) <;> simp
    generalize valV r x.id = v at hgc hc1 hc2 hstep
    try simp only [go_sem, reduceIte, Nat.reduceEqDiff, Nat.reduceAdd, Nat.reduceSub, Nat.reduceMul, Nat.reduceLT, Nat.reduceLeDiff, Nat.reducePow, Int.reduceToNat, Int.reduceLT, Int.reduceLE, Int.reduceEq, Int.reduceNe, Int.reduceAdd, Int.reduceSub, Int.reduceMul, Int.reduceNeg, q2, q3, q5, e0, e1, ex, g', c1]
    refine cE_vn hgc ?_
    try simp only [go_sem, reduceIte, Nat.reduceEqDiff, Nat.reduceAdd, Nat.reduceSub, Nat.reduceMul, Nat.reduceLT, Nat.reduceLeDiff, Nat.reducePow, Int.reduceToNat, Int.reduceLT, Int.reduceLE, Int.reduceEq, Int.reduceNe, Int.reduceAdd, Int.reduceSub, Int.reduceMul, Int.reduceNeg, q2, q3, q5, e0, e1, ex, g', c1]
    refine new_any fun b6 hb6 => ?_
    have m60 := box_ne hb6 e0
    have m61 := box_ne hb6 e1
    refine new_any fun b7 hb7 => ?_
    simp only [set_none] at hb7
    have m70 := box_ne hb7.2 e0
    have m71 := box_ne hb7.2 e1
    have m67 := hb7.1
    rw [← hc, hstep]
    clear hc hstep hd
    obtain ⟨vn, vi, vs⟩ := v
    dsimp only at hgc hc1 hc2 ⊢
    cases vn
    · rw [if_neg (show ¬ (false = true) from by decide)]
      by_cases k2 : u.rows ≤ x.nulls
      · have k2' := eq_true k2
        try simp only [go_sem, reduceIte, Nat.reduceEqDiff, Nat.reduceAdd, Nat.reduceSub, Nat.reduceMul, Nat.reduceLT, Nat.reduceLeDiff, Nat.reducePow, Int.reduceToNat, Int.reduceLT, Int.reduceLE, Int.reduceEq, Int.reduceNe, Int.reduceAdd, Int.reduceSub, Int.reduceMul, Int.reduceNeg, q2, q3, q5, e0, e1, ex, g', c1, m60, m61, m70, m71, m67, wj, k2', ge_iff_le]
        refine ⟨by simp [rdAdd, m60], by simp [rdAdd, m70], ?_⟩
        exact finK_drop ⟨by simp [k2, D.er, D.er1], rfl, rfl⟩
      · have k2' := eq_false k2
        cases hmn : x.min.null
        · cases hmx : x.max.null
          · rw [hmn] at hc1
            rw [hmx] at hc2
            by_cases k3 : cmpV ⟨false, vi, vs⟩ x.min < 0
            · have k3' := eq_true k3
              try simp only [go_sem, reduceIte, Nat.reduceEqDiff, Nat.reduceAdd, Nat.reduceSub, Nat.reduceMul, Nat.reduceLT, Nat.reduceLeDiff, Nat.reducePow, Int.reduceToNat, Int.reduceLT, Int.reduceLE, Int.reduceEq, Int.reduceNe, Int.reduceAdd, Int.reduceSub, Int.reduceMul, Int.reduceNeg, q2, q3, q5, e0, e1, ex, g', c1, m60, m61, m70, m71, m67, wj, k2', ge_iff_le, hmn, hmx]
              refine ⟨by simp [rdAdd, m60], by simp [rdAdd, m70], cK_vn hc1 ?_⟩
              try simp only [go_sem, reduceIte, Nat.reduceEqDiff, Nat.reduceAdd, Nat.reduceSub, Nat.reduceMul, Nat.reduceLT, Nat.reduceLeDiff, Nat.reducePow, Int.reduceToNat, Int.reduceLT, Int.reduceLE, Int.reduceEq, Int.reduceNe, Int.reduceAdd, Int.reduceSub, Int.reduceMul, Int.reduceNeg, q2, q3, q5, e0, e1, ex, g', c1, m60, m61, m70, m71, m67, wj, k2', ge_iff_le, hmn, hmx, k3', decide_true]
              exact finK_drop ⟨by simp [k2, k3, D.er, D.er1], rfl, rfl⟩
            · have k3' := eq_false k3
              try simp only [go_sem, reduceIte, Nat.reduceEqDiff, Nat.reduceAdd, Nat.reduceSub, Nat.reduceMul, Nat.reduceLT, Nat.reduceLeDiff, Nat.reducePow, Int.reduceToNat, Int.reduceLT, Int.reduceLE, Int.reduceEq, Int.reduceNe, Int.reduceAdd, Int.reduceSub, Int.reduceMul, Int.reduceNeg, q2, q3, q5, e0, e1, ex, g', c1, m60, m61, m70, m71, m67, wj, k2', ge_iff_le, hmn, hmx]
              refine ⟨by simp [rdAdd, m60], by simp [rdAdd, m70], cK_vn hc1 ?_⟩
              by_cases k4 : 0 < cmpV ⟨false, vi, vs⟩ x.max
              · have k4' := eq_true k4
                try simp only [go_sem, reduceIte, Nat.reduceEqDiff, Nat.reduceAdd, Nat.reduceSub, Nat.reduceMul, Nat.reduceLT, Nat.reduceLeDiff, Nat.reducePow, Int.reduceToNat, Int.reduceLT, Int.reduceLE, Int.reduceEq, Int.reduceNe, Int.reduceAdd, Int.reduceSub, Int.reduceMul, Int.reduceNeg, q2, q3, q5, e0, e1, ex, g', c1, m60, m61, m70, m71, m67, wj, k2', ge_iff_le, hmn, hmx, k3', decide_false]
                refine cK_vn hc2 ?_
                try simp only [go_sem, reduceIte, Nat.reduceEqDiff, Nat.reduceAdd, Nat.reduceSub, Nat.reduceMul, Nat.reduceLT, Nat.reduceLeDiff, Nat.reducePow, Int.reduceToNat, Int.reduceLT, Int.reduceLE, Int.reduceEq, Int.reduceNe, Int.reduceAdd, Int.reduceSub, Int.reduceMul, Int.reduceNeg, q2, q3, q5, e0, e1, ex, g', c1, m60, m61, m70, m71, m67, wj, k2', ge_iff_le, hmn, hmx, k3', k4', decide_false, decide_true]
                exact finK_drop ⟨by simp [k2, k3, k4, D.er, D.er1], rfl, rfl⟩
              · have k4' := eq_false k4
                try simp only [go_sem, reduceIte, Nat.reduceEqDiff, Nat.reduceAdd, Nat.reduceSub, Nat.reduceMul, Nat.reduceLT, Nat.reduceLeDiff, Nat.reducePow, Int.reduceToNat, Int.reduceLT, Int.reduceLE, Int.reduceEq, Int.reduceNe, Int.reduceAdd, Int.reduceSub, Int.reduceMul, Int.reduceNeg, q2, q3, q5, e0, e1, ex, g', c1, m60, m61, m70, m71, m67, wj, k2', ge_iff_le, hmn, hmx, k3', decide_false]
                refine cK_vn hc2 ?_
                try simp only [go_sem, reduceIte, Nat.reduceEqDiff, Nat.reduceAdd, Nat.reduceSub, Nat.reduceMul, Nat.reduceLT, Nat.reduceLeDiff, Nat.reducePow, Int.reduceToNat, Int.reduceLT, Int.reduceLE, Int.reduceEq, Int.reduceNe, Int.reduceAdd, Int.reduceSub, Int.reduceMul, Int.reduceNeg, q2, q3, q5, e0, e1, ex, g', c1, m60, m61, m70, m71, m67, wj, k2', ge_iff_le, hmn, hmx, k3', k4', decide_false, decide_true]
                exact ⟨⟨j + 1, by omega, by simp [k2, k3, k4], rfl⟩, by omega⟩
          · try simp only [go_sem, reduceIte, Nat.reduceEqDiff, Nat.reduceAdd, Nat.reduceSub, Nat.reduceMul, Nat.reduceLT, Nat.reduceLeDiff, Nat.reducePow, Int.reduceToNat, Int.reduceLT, Int.reduceLE, Int.reduceEq, Int.reduceNe, Int.reduceAdd, Int.reduceSub, Int.reduceMul, Int.reduceNeg, q2, q3, q5, e0, e1, ex, g', c1, m60, m61, m70, m71, m67, wj, k2', ge_iff_le, hmn, hmx]
            refine ⟨by simp [rdAdd, m60], by simp [rdAdd, m70], ?_⟩
            exact finK_drop ⟨by simp [k2, D.er, D.er1], rfl, rfl⟩
        · try simp only [go_sem, reduceIte, Nat.reduceEqDiff, Nat.reduceAdd, Nat.reduceSub, Nat.reduceMul, Nat.reduceLT, Nat.reduceLeDiff, Nat.reducePow, Int.reduceToNat, Int.reduceLT, Int.reduceLE, Int.reduceEq, Int.reduceNe, Int.reduceAdd, Int.reduceSub, Int.reduceMul, Int.reduceNeg, q2, q3, q5, e0, e1, ex, g', c1, m60, m61, m70, m71, m67, wj, k2', ge_iff_le, hmn]
          refine ⟨by simp [rdAdd, m60], by simp [rdAdd, m70], ?_⟩
          exact finK_drop ⟨by simp [k2, D.er, D.er1], rfl, rfl⟩
    · rw [if_pos rfl]
      by_cases k1 : x.nulls ≤ 0
      · have k1' := eq_true k1
        try simp only [go_sem, reduceIte, Nat.reduceEqDiff, Nat.reduceAdd, Nat.reduceSub, Nat.reduceMul, Nat.reduceLT, Nat.reduceLeDiff, Nat.reducePow, Int.reduceToNat, Int.reduceLT, Int.reduceLE, Int.reduceEq, Int.reduceNe, Int.reduceAdd, Int.reduceSub, Int.reduceMul, Int.reduceNeg, q2, q3, q5, e0, e1, ex, g', c1, m60, m61, m70, m71, m67, wj, k1']
        refine ⟨by simp [rdAdd, m60], by simp [rdAdd, m70], ?_⟩
        exact finK_drop ⟨by rw [decide_eq_false (by omega)]; rfl, rfl, rfl⟩
      · have k1' := eq_false k1
        try simp only [go_sem, reduceIte, Nat.reduceEqDiff, Nat.reduceAdd, Nat.reduceSub, Nat.reduceMul, Nat.reduceLT, Nat.reduceLeDiff, Nat.reducePow, Int.reduceToNat, Int.reduceLT, Int.reduceLE, Int.reduceEq, Int.reduceNe, Int.reduceAdd, Int.reduceSub, Int.reduceMul, Int.reduceNeg, q2, q3, q5, e0, e1, ex, g', c1, m60, m61, m70, m71, m67, wj, k1']
        refine ⟨by simp [rdAdd, m60], by simp [rdAdd, m70], ?_⟩
        exact ⟨⟨j + 1, by omega, by rw [decide_eq_true (by omega), Bool.true_and], rfl⟩, by omega⟩
  · try simp only [go_sem, reduceIte, Nat.reduceEqDiff, Nat.reduceAdd, Nat.reduceSub, Nat.reduceMul, Nat.reduceLT, Nat.reduceLeDiff, Nat.reducePow, Int.reduceToNat, Int.reduceLT, Int.reduceLE, Int.reduceEq, Int.reduceNe, Int.reduceAdd, Int.reduceSub, Int.reduceMul, Int.reduceNeg, q2, q3, q5, e0, e1]
    rw [List.length_map] at g
    obtain rfl : j = u.l.length := by omega
    rw [List.drop_length] at hc
    exact finK_drop ⟨by rw [← hc, refCov, decide_eq_true (show 0 < u.rows by omega)]; rfl, rfl, rfl⟩
end Go.Proofs.YtgkfcgfobckaaaaS
