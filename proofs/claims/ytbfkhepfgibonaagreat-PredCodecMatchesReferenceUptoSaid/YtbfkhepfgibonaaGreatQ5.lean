/-
  Values of types (package value) and predicates that are valid for a schema (package pred).
  Conditions: none.
-/
import Derived.Test.YtbfkhepfgibonaaGreatQ4
set_option linter.unusedVariables false
set_option linter.unusedSimpArgs false
namespace Go.Proofs.YtbfkhepfgibonaaGreatS
open Go Go.Proofs.YtbfkhepfgibonaaGreatV

variable {G : Heap}
attribute [local irreducible] VN VC VX VQ VP VY VW

def isTy (t : Int) : Bool := decide (1 ≤ t ∧ t ≤ 5)
theorem isType_ok (t : Int) : VN P G 114 [.int .i64 t] (.bool (isTy t)) := by
  unfold VN
  refine VC.ofs (fun | 99999999 => [(0, [0, 2])] | _ => []) [2] mixed Tryz.func114 rfl rfl rfl rfl (by decide +kernel) (by simp) ?_
  simp only [go_sem, reduceIte, Nat.reduceEqDiff, Nat.reduceAdd, Nat.reduceSub, Nat.reduceMul, Nat.reduceLT, Nat.reduceLeDiff, Nat.reducePow, Int.reduceToNat, Int.reduceLT, Int.reduceLE, Int.reduceEq, Int.reduceNe, Int.reduceAdd, Int.reduceSub, Int.reduceMul, Int.reduceNeg]
  exact finK_drop ⟨by simp [isTy, D.er, D.er1], rfl, rfl⟩
def limT (t : Int) : Int × Int := if t = 1 then (0, 1) else if t = 2 then (-2147483648, 2147483647) else if t = 5 then (-1000000, 1000000) else (-9223372036854775808, 9223372036854775807)
theorem limits_ok (t : Int) : VN P G 115 [.int .i64 t] (.tup [.int .i64 (limT t).1, .int .i64 (limT t).2]) := by
  unfold VN
  refine VC.ofs (fun | 99999999 => [(0, [0, 2, 3, 4, 5, 7, 9])] | _ => []) [2, 3] mixed Tryz.func115 rfl rfl rfl rfl (by decide +kernel) (by simp) ?_
  by_cases h1 : t = 1
  · try simp only [go_sem, reduceIte, Nat.reduceEqDiff, Nat.reduceAdd, Nat.reduceSub, Nat.reduceMul, Nat.reduceLT, Nat.reduceLeDiff, Nat.reducePow, Int.reduceToNat, Int.reduceLT, Int.reduceLE, Int.reduceEq, Int.reduceNe, Int.reduceAdd, Int.reduceSub, Int.reduceMul, Int.reduceNeg, h1]
    exact finK_drop ⟨by simp [limT, D.er, D.er1], rfl, rfl⟩
  by_cases h2 : t = 2
  · try simp only [go_sem, reduceIte, Nat.reduceEqDiff, Nat.reduceAdd, Nat.reduceSub, Nat.reduceMul, Nat.reduceLT, Nat.reduceLeDiff, Nat.reducePow, Int.reduceToNat, Int.reduceLT, Int.reduceLE, Int.reduceEq, Int.reduceNe, Int.reduceAdd, Int.reduceSub, Int.reduceMul, Int.reduceNeg, h1, h2]
    exact finK_drop ⟨by simp [limT, D.er, D.er1], rfl, rfl⟩
  by_cases h5 : t = 5
  · try simp only [go_sem, reduceIte, Nat.reduceEqDiff, Nat.reduceAdd, Nat.reduceSub, Nat.reduceMul, Nat.reduceLT, Nat.reduceLeDiff, Nat.reducePow, Int.reduceToNat, Int.reduceLT, Int.reduceLE, Int.reduceEq, Int.reduceNe, Int.reduceAdd, Int.reduceSub, Int.reduceMul, Int.reduceNeg, h1, h2, h5]
    exact finK_drop ⟨by simp [limT, D.er, D.er1], rfl, rfl⟩
  · try simp only [go_sem, reduceIte, Nat.reduceEqDiff, Nat.reduceAdd, Nat.reduceSub, Nat.reduceMul, Nat.reduceLT, Nat.reduceLeDiff, Nat.reducePow, Int.reduceToNat, Int.reduceLT, Int.reduceLE, Int.reduceEq, Int.reduceNe, Int.reduceAdd, Int.reduceSub, Int.reduceMul, Int.reduceNeg, h1, h2, h5, decide_false]
    exact finK_drop ⟨by simp [limT, h1, h2, h5, D.er, D.er1], rfl, rfl⟩
/-- Is a value one of a type? -/
def valOk (v : Vl) (t : Int) : Bool := isTy t && (if v.null = true then decide (v = Vl.nul) else if t = 4 then decide (v.n = 0 ∧ v.s.size ≤ 200) else decide (v.s = ByteArray.empty ∧ (limT t).1 ≤ v.n ∧ v.n ≤ (limT t).2))
theorem valOk_nul (t : Int) : valOk Vl.nul t = isTy t := by simp [valOk, Vl.nul]
theorem bemp : (⟨#[]⟩ : ByteArray) = ByteArray.empty := rfl
set_option maxHeartbeats 2000000 in
theorem valid_ok (v : Vl) (t : Int) : VN P G 72 [.agg v.cells, .int .i64 t] (.bool (valOk v t)) := by
  have hi := isType_ok (G := G) t
  have hl := limits_ok (G := G) t
  obtain ⟨vn, vi, vs⟩ := v
  simp only [Vl.cells]
  unfold VN
  refine VC.ofs (fun | 99999999 => [(0, [0, 1, 2, 4, 5, 6, 7, 11, 17, 18, 20, 22])] | _ => []) [4] mixed Tryz.func72 rfl rfl rfl rfl (by decide +kernel) (by simp) ?_
  simp only [go_sem, reduceIte, Nat.reduceEqDiff, Nat.reduceAdd, Nat.reduceSub, Nat.reduceMul, Nat.reduceLT, Nat.reduceLeDiff, Nat.reducePow, Int.reduceToNat, Int.reduceLT, Int.reduceLE, Int.reduceEq, Int.reduceNe, Int.reduceAdd, Int.reduceSub, Int.reduceMul, Int.reduceNeg]
  intro b2
  refine cK_vn hi ?_
  by_cases ht : 1 ≤ t ∧ t ≤ 5
  · rw [show isTy t = true from decide_eq_true ht]
    cases vn
    · try simp only [go_sem, reduceIte, Nat.reduceEqDiff, Nat.reduceAdd, Nat.reduceSub, Nat.reduceMul, Nat.reduceLT, Nat.reduceLeDiff, Nat.reducePow, Int.reduceToNat, Int.reduceLT, Int.reduceLE, Int.reduceEq, Int.reduceNe, Int.reduceAdd, Int.reduceSub, Int.reduceMul, Int.reduceNeg, ]
      obtain rfl | rfl | rfl | rfl | rfl : t = 4 ∨ t = 1 ∨ t = 2 ∨ t = 3 ∨ t = 5 := by omega
      · try simp only [go_sem, reduceIte, Nat.reduceEqDiff, Nat.reduceAdd, Nat.reduceSub, Nat.reduceMul, Nat.reduceLT, Nat.reduceLeDiff, Nat.reducePow, Int.reduceToNat, Int.reduceLT, Int.reduceLE, Int.reduceEq, Int.reduceNe, Int.reduceAdd, Int.reduceSub, Int.reduceMul, Int.reduceNeg, ]
        refine finK_drop ⟨?_, rfl, rfl⟩
        simp [valOk, isTy, D.er, D.er1]
        by_cases a : vi = 0 <;> simp [a] <;> omega
      all_goals
        try simp only [go_sem, reduceIte, Nat.reduceEqDiff, Nat.reduceAdd, Nat.reduceSub, Nat.reduceMul, Nat.reduceLT, Nat.reduceLeDiff, Nat.reducePow, Int.reduceToNat, Int.reduceLT, Int.reduceLE, Int.reduceEq, Int.reduceNe, Int.reduceAdd, Int.reduceSub, Int.reduceMul, Int.reduceNeg, ]
        refine cK_vn hl ?_
        try simp only [go_sem, reduceIte, Nat.reduceEqDiff, Nat.reduceAdd, Nat.reduceSub, Nat.reduceMul, Nat.reduceLT, Nat.reduceLeDiff, Nat.reducePow, Int.reduceToNat, Int.reduceLT, Int.reduceLE, Int.reduceEq, Int.reduceNe, Int.reduceAdd, Int.reduceSub, Int.reduceMul, Int.reduceNeg, ]
        refine finK_drop ⟨?_, rfl, rfl⟩
        simp only [bemp]
        by_cases a : vs = ByteArray.empty <;> simp [valOk, isTy, a, D.er, D.er1]
    · try simp only [go_sem, reduceIte, Nat.reduceEqDiff, Nat.reduceAdd, Nat.reduceSub, Nat.reduceMul, Nat.reduceLT, Nat.reduceLeDiff, Nat.reducePow, Int.reduceToNat, Int.reduceLT, Int.reduceLE, Int.reduceEq, Int.reduceNe, Int.reduceAdd, Int.reduceSub, Int.reduceMul, Int.reduceNeg, ]
      refine finK_drop ⟨?_, rfl, rfl⟩
      simp [valOk, isTy, ht, Vl.nul, D.er, D.er1]
  · rw [show isTy t = false from decide_eq_false ht]
    try simp only [go_sem, reduceIte, Nat.reduceEqDiff, Nat.reduceAdd, Nat.reduceSub, Nat.reduceMul, Nat.reduceLT, Nat.reduceLeDiff, Nat.reducePow, Int.reduceToNat, Int.reduceLT, Int.reduceLE, Int.reduceEq, Int.reduceNe, Int.reduceAdd, Int.reduceSub, Int.reduceMul, Int.reduceNeg, ]
    exact finK_drop ⟨by simp [valOk, isTy, ht, D.er, D.er1], rfl, rfl⟩
/-- In strictly increasing order. -/
def incF : List Vl → Bool
  | a :: b :: l => decide (cmpV a b < 0) && incF (b :: l)
  | _ => true
def wrongV (t : Int) (v : Vl) : Bool := v.null || !valOk v t
theorem fits1_ok (v : Vl) (t : Int) (b : Nat) : VQ P G 73 ([] ++ [.agg v.cells] ++ [.pb b 0]) b [.int .i64 t] (.bool (wrongV t v)) := by
  have hv := valid_ok (G := G) v t
  obtain ⟨vn, vi, vs⟩ := v
  simp only [Vl.cells, List.nil_append, List.cons_append] at hv ⊢
  unfold VQ
  refine VC.ofs (fun | 99999999 => [(0, [0, 1, 2, 3])] | _ => []) [3] mixed Tryz.func73 rfl rfl rfl rfl (by decide +kernel) (by simp) ?_
  simp only [go_sem, reduceIte, Nat.reduceEqDiff, Nat.reduceAdd, Nat.reduceSub, Nat.reduceMul, Nat.reduceLT, Nat.reduceLeDiff, Nat.reducePow, Int.reduceToNat, Int.reduceLT, Int.reduceLE, Int.reduceEq, Int.reduceNe, Int.reduceAdd, Int.reduceSub, Int.reduceMul, Int.reduceNeg]
  refine new_1 fun b2 h1 h2 => ?_
  cases vn
  · try simp only [go_sem, reduceIte, Nat.reduceEqDiff, Nat.reduceAdd, Nat.reduceSub, Nat.reduceMul, Nat.reduceLT, Nat.reduceLeDiff, Nat.reducePow, Int.reduceToNat, Int.reduceLT, Int.reduceLE, Int.reduceEq, Int.reduceNe, Int.reduceAdd, Int.reduceSub, Int.reduceMul, Int.reduceNeg, h1, h2]
    refine cK_vn hv ?_
    try simp only [go_sem, reduceIte, Nat.reduceEqDiff, Nat.reduceAdd, Nat.reduceSub, Nat.reduceMul, Nat.reduceLT, Nat.reduceLeDiff, Nat.reducePow, Int.reduceToNat, Int.reduceLT, Int.reduceLE, Int.reduceEq, Int.reduceNe, Int.reduceAdd, Int.reduceSub, Int.reduceMul, Int.reduceNeg, h1, h2]
    exact finK_var (b := b) (by simp [Heap.set, h1, h2]) ⟨by simp [wrongV, D.er, D.er1], rfl, rfl⟩
  · try simp only [go_sem, reduceIte, Nat.reduceEqDiff, Nat.reduceAdd, Nat.reduceSub, Nat.reduceMul, Nat.reduceLT, Nat.reduceLeDiff, Nat.reducePow, Int.reduceToNat, Int.reduceLT, Int.reduceLE, Int.reduceEq, Int.reduceNe, Int.reduceAdd, Int.reduceSub, Int.reduceMul, Int.reduceNeg, h1, h2]
    exact finK_var (b := b) (by simp [Heap.set, h1, h2]) ⟨by simp [wrongV, D.er, D.er1], rfl, rfl⟩
theorem fits2_ok (a c : Vl) : VN P G 74 [.agg a.cells, .agg c.cells] (.bool (decide (0 ≤ cmpV a c))) := by
  have hc := Compare_ok (G := G) a c
  simp only [Vl.d, Vl.cells] at hc ⊢
  unfold VN
  refine VC.ofs (fun | 99999999 => [(0, [0, 1, 2, 3, 4])] | _ => []) [4] mixed Tryz.func74 rfl rfl rfl rfl (by decide +kernel) (by simp) ?_
  simp only [go_sem, reduceIte, Nat.reduceEqDiff, Nat.reduceAdd, Nat.reduceSub, Nat.reduceMul, Nat.reduceLT, Nat.reduceLeDiff, Nat.reducePow, Int.reduceToNat, Int.reduceLT, Int.reduceLE, Int.reduceEq, Int.reduceNe, Int.reduceAdd, Int.reduceSub, Int.reduceMul, Int.reduceNeg]
  intro b2
  refine new_1 fun b3 h1 h2 => ?_
  try simp only [go_sem, reduceIte, Nat.reduceEqDiff, Nat.reduceAdd, Nat.reduceSub, Nat.reduceMul, Nat.reduceLT, Nat.reduceLeDiff, Nat.reducePow, Int.reduceToNat, Int.reduceLT, Int.reduceLE, Int.reduceEq, Int.reduceNe, Int.reduceAdd, Int.reduceSub, Int.reduceMul, Int.reduceNeg, h1, h2]
  refine cK_vn hc ?_
  try simp only [go_sem, reduceIte, Nat.reduceEqDiff, Nat.reduceAdd, Nat.reduceSub, Nat.reduceMul, Nat.reduceLT, Nat.reduceLeDiff, Nat.reducePow, Int.reduceToNat, Int.reduceLT, Int.reduceLE, Int.reduceEq, Int.reduceNe, Int.reduceAdd, Int.reduceSub, Int.reduceMul, Int.reduceNeg, h1, h2]
  exact finK_drop ⟨rfl, rfl, rfl⟩
def fitsF (p : Pr) (t : Int) : Bool := isTy t && (if p.op = 1 then decide (t ≠ 4) else if p.op = 3 then decide (t = 4) else if p.op = 2 then incF p.set && decide (0 < p.set.length) && !p.set.any (wrongV t) else true)
theorem incF_no {a c : Vl} {l : List Vl} (h : ¬ cmpV a c < 0) : incF (a :: c :: l) = false := by simp [incF, h]
theorem incF_yes {a c : Vl} {l : List Vl} (h : cmpV a c < 0) : incF (a :: c :: l) = incF (c :: l) := by simp [incF, h]
theorem incF_one (l : List Vl) (h : l.length ≤ 1) : incF l = true := by
  match l, h with
  | [], _ => rfl
  | [_], _ => rfl
  | _ :: _ :: _, h => simp at h
set_option maxRecDepth 100000 in
set_option maxHeartbeats 4000000 in
theorem fits_ok (p : Pr) (t : Int) : VN P G 48 [.agg p.cells, .int .i64 t] (.bool (fitsF p t)) := by
  have hn := valid_ok (G := G) Vl.nul t
  rw [valOk_nul] at hn
  simp only [Vl.cells, Vl.nul] at hn
  unfold VN
  refine VC.small2 fun hsm => ?_
  have z1 := hsm (.agg p.cells) (List.mem_cons_self ..) (.sl .none (p.set.map Vl.d)) (by simp [D.cells, Pr.cells])
  simp only [Small, mostLen, List.length_map] at z1
  clear hsm
  refine VC.ofs (fun | 14 => [(0, []), (1, []), (2, []), (3, []), (4, []), (5, []), (6, []), (7, []), (8, []), (9, []), (10, []), (11, []), (12, [])] | 99999999 => [(0, [0, 1, 2, 3, 4, 5, 6, 7, 11, 13, 14, 18, 22, 29, 44])] | _ => []) [4] mixed Tryz.func48 rfl rfl rfl rfl (by decide +kernel) (by simp) ?_
  simp only [go_sem, reduceIte, Nat.reduceEqDiff, Nat.reduceAdd, Nat.reduceSub, Nat.reduceMul, Nat.reduceLT, Nat.reduceLeDiff, Nat.reducePow, Int.reduceToNat, Int.reduceLT, Int.reduceLE, Int.reduceEq, Int.reduceNe, Int.reduceAdd, Int.reduceSub, Int.reduceMul, Int.reduceNeg]
  intro b2
  refine new_1 fun b3 h1 h2 => ?_
  try simp only [go_sem, reduceIte, Nat.reduceEqDiff, Nat.reduceAdd, Nat.reduceSub, Nat.reduceMul, Nat.reduceLT, Nat.reduceLeDiff, Nat.reducePow, Int.reduceToNat, Int.reduceLT, Int.reduceLE, Int.reduceEq, Int.reduceNe, Int.reduceAdd, Int.reduceSub, Int.reduceMul, Int.reduceNeg, h1, h2]
  refine cK_vn hn ?_
  cases hty : isTy t
  · try simp only [go_sem, reduceIte, Nat.reduceEqDiff, Nat.reduceAdd, Nat.reduceSub, Nat.reduceMul, Nat.reduceLT, Nat.reduceLeDiff, Nat.reducePow, Int.reduceToNat, Int.reduceLT, Int.reduceLE, Int.reduceEq, Int.reduceNe, Int.reduceAdd, Int.reduceSub, Int.reduceMul, Int.reduceNeg, h1, h2]
    exact finK_drop ⟨by simp [fitsF, hty, D.er, D.er1], rfl, rfl⟩
  try simp only [go_sem, reduceIte, Nat.reduceEqDiff, Nat.reduceAdd, Nat.reduceSub, Nat.reduceMul, Nat.reduceLT, Nat.reduceLeDiff, Nat.reducePow, Int.reduceToNat, Int.reduceLT, Int.reduceLE, Int.reduceEq, Int.reduceNe, Int.reduceAdd, Int.reduceSub, Int.reduceMul, Int.reduceNeg, h1, h2]
  by_cases k1 : p.op = 1
  · try simp only [go_sem, reduceIte, Nat.reduceEqDiff, Nat.reduceAdd, Nat.reduceSub, Nat.reduceMul, Nat.reduceLT, Nat.reduceLeDiff, Nat.reducePow, Int.reduceToNat, Int.reduceLT, Int.reduceLE, Int.reduceEq, Int.reduceNe, Int.reduceAdd, Int.reduceSub, Int.reduceMul, Int.reduceNeg, h1, h2, k1]
    exact finK_drop ⟨by simp [fitsF, hty, k1, D.er, D.er1], rfl, rfl⟩
  by_cases k3 : p.op = 3
  · try simp only [go_sem, reduceIte, Nat.reduceEqDiff, Nat.reduceAdd, Nat.reduceSub, Nat.reduceMul, Nat.reduceLT, Nat.reduceLeDiff, Nat.reducePow, Int.reduceToNat, Int.reduceLT, Int.reduceLE, Int.reduceEq, Int.reduceNe, Int.reduceAdd, Int.reduceSub, Int.reduceMul, Int.reduceNeg, h1, h2, k1, k3]
    exact finK_drop ⟨by simp [fitsF, hty, k3, D.er, D.er1], rfl, rfl⟩
  by_cases k2 : p.op = 2
  · have hF : fitsF p t = (incF p.set && decide (0 < p.set.length) && !p.set.any (wrongV t)) := by simp [fitsF, hty, k2]
    rw [hF]
    have el : (p.set.map Vl.d).length = p.set.length := by simp
    try simp only [go_sem, reduceIte, Nat.reduceEqDiff, Nat.reduceAdd, Nat.reduceSub, Nat.reduceMul, Nat.reduceLT, Nat.reduceLeDiff, Nat.reducePow, Int.reduceToNat, Int.reduceLT, Int.reduceLE, Int.reduceEq, Int.reduceNe, Int.reduceAdd, Int.reduceSub, Int.reduceMul, Int.reduceNeg, h1, h2, k1, k3, k2]
    generalize hβ : Heap.set _ b3 _ = β0
    have e2 : β0 b2 = some p.cells := by rw [← hβ]; simp [Heap.set, h1, h2]
    have e3 : β0 b3 = some [.int .i64 t] := by rw [← hβ]; simp [Heap.set]
    clear hβ
    refine vwq_loop (fun v => ∃ (j : Nat), 1 ≤ j ∧ (j ≤ p.set.length ∨ j = 1) ∧ incF (p.set.drop (j - 1)) = incF p.set ∧ v.σ 2 = .pb b2 0 ∧ v.σ 5 = .clo (.func 73) [] [.pb b3 0] ∧ v.σ 6 = .clo (.func 74) [] [] ∧ v.σ 7 = .int .i64 j ∧ v.β = β0 ∧ v.ω = []) (fun v => p.set.length - (ival (v.σ 7)).toNat) ⟨1, by omega, .inr rfl, rfl, rfl, rfl, rfl, rfl, rfl, rfl⟩ ?_
    rintro σ β ω ⟨j, hj, hj', hc, q2, q5, q6, q7, rfl, rfl⟩
    dsimp only at q2 q5 q6 q7 e2 e3
    try simp only [go_sem, reduceIte, Nat.reduceEqDiff, Nat.reduceAdd, Nat.reduceSub, Nat.reduceMul, Nat.reduceLT, Nat.reduceLeDiff, Nat.reducePow, Int.reduceToNat, Int.reduceLT, Int.reduceLE, Int.reduceEq, Int.reduceNe, Int.reduceAdd, Int.reduceSub, Int.reduceMul, Int.reduceNeg, q2, q5, q6, q7, e2, e3, el]
    refine cd_dec (fun g => ?_) (fun g => ?_)
    · obtain ⟨k, rfl⟩ : ∃ k, j = k + 1 := ⟨j - 1, by omega⟩
      have g' := eq_true g
      obtain ⟨x, hx, ex⟩ := Vl_at (l := p.set) (j := k) (by rw [List.length_map]; omega)
      obtain ⟨y, hy, ey⟩ := Vl_at (l := p.set) (j := k + 1) (by rw [List.length_map]; omega)
      have c1 : ((0 : Int) ≤ k) = True := eq_true (by omega)
      have c2 : ((k : Int) < p.set.length) = True := eq_true (by omega)
      have c3 : ((0 : Int) ≤ ((k + 1 : Nat) : Int)) = True := eq_true (by omega)
      have w1 : IntKind.i64.wrap (((k + 1 : Nat) : Int) - 1) = (k : Int) := by rw [wrap_i64 (by omega) (by omega)]; omega
      have wj := wrap_i64 (x := ((k + 1 : Nat) : Int) + 1) (by omega) (by omega)
      have hf := fits2_ok (G := G) x y
      simp only [Vl.cells] at hf
      have hd : p.set.drop k = x :: y :: p.set.drop (k + 2) := by rw [drop_at hx, drop_at hy]
      rw [Nat.add_sub_cancel, hd] at hc
      try simp only [go_sem, reduceIte, Nat.reduceEqDiff, Nat.reduceAdd, Nat.reduceSub, Nat.reduceMul, Nat.reduceLT, Nat.reduceLeDiff, Nat.reducePow, Int.reduceToNat, Int.reduceLT, Int.reduceLE, Int.reduceEq, Int.reduceNe, Int.reduceAdd, Int.reduceSub, Int.reduceMul, Int.reduceNeg, q2, q5, q6, q7, e2, e3, el, g', c1, c2, c3, w1, ex, ey]
      refine cE_vn hf ?_
      by_cases hxy : cmpV x y < 0
      · have hle : ¬ 0 ≤ cmpV x y := by omega
        rw [incF_yes hxy] at hc
        try simp only [go_sem, reduceIte, Nat.reduceEqDiff, Nat.reduceAdd, Nat.reduceSub, Nat.reduceMul, Nat.reduceLT, Nat.reduceLeDiff, Nat.reducePow, Int.reduceToNat, Int.reduceLT, Int.reduceLE, Int.reduceEq, Int.reduceNe, Int.reduceAdd, Int.reduceSub, Int.reduceMul, Int.reduceNeg, q2, q5, q6, q7, e2, e3, el, wj, decide_eq_false hle]
        refine ⟨⟨k + 2, by omega, by omega, ?_, rfl⟩, by omega⟩
        rw [show k + 2 - 1 = k + 1 from rfl, drop_at hy]; exact hc
      · have hle : 0 ≤ cmpV x y := by omega
        rw [incF_no hxy] at hc
        try simp only [go_sem, reduceIte, Nat.reduceEqDiff, Nat.reduceAdd, Nat.reduceSub, Nat.reduceMul, Nat.reduceLT, Nat.reduceLeDiff, Nat.reducePow, Int.reduceToNat, Int.reduceLT, Int.reduceLE, Int.reduceEq, Int.reduceNe, Int.reduceAdd, Int.reduceSub, Int.reduceMul, Int.reduceNeg, q2, q5, q6, q7, e2, e3, el, decide_eq_true hle]
        exact finK_drop ⟨by rw [← hc]; rfl, rfl, rfl⟩
    · have hinc : incF p.set = true := by
        rw [← hc]; exact incF_one _ (by rw [List.length_drop]; omega)
      rw [hinc]
      by_cases k5 : 0 < p.set.length
      · have k5' : ((0 : Int) < p.set.length) = True := eq_true (by omega)
        try simp only [go_sem, reduceIte, Nat.reduceEqDiff, Nat.reduceAdd, Nat.reduceSub, Nat.reduceMul, Nat.reduceLT, Nat.reduceLeDiff, Nat.reducePow, Int.reduceToNat, Int.reduceLT, Int.reduceLE, Int.reduceEq, Int.reduceNe, Int.reduceAdd, Int.reduceSub, Int.reduceMul, Int.reduceNeg, q2, q5, q6, q7, e2, e3, el, k5', decide_true]
        refine cK_vq (fs := []) (cs := []) (ContainsF_ok p.set (wrongV t) b3 _ fun x _ => fits1_ok x t b3) e3 ?_
        try simp only [go_sem, reduceIte, Nat.reduceEqDiff, Nat.reduceAdd, Nat.reduceSub, Nat.reduceMul, Nat.reduceLT, Nat.reduceLeDiff, Nat.reducePow, Int.reduceToNat, Int.reduceLT, Int.reduceLE, Int.reduceEq, Int.reduceNe, Int.reduceAdd, Int.reduceSub, Int.reduceMul, Int.reduceNeg, q2, q5, q6, q7, e2, e3, el]
        exact finK_drop ⟨by simp [k5, D.er, D.er1], rfl, rfl⟩
      · have k5' : ((0 : Int) < p.set.length) = False := eq_false (by omega)
        try simp only [go_sem, reduceIte, Nat.reduceEqDiff, Nat.reduceAdd, Nat.reduceSub, Nat.reduceMul, Nat.reduceLT, Nat.reduceLeDiff, Nat.reducePow, Int.reduceToNat, Int.reduceLT, Int.reduceLE, Int.reduceEq, Int.reduceNe, Int.reduceAdd, Int.reduceSub, Int.reduceMul, Int.reduceNeg, q2, q5, q6, q7, e2, e3, el, k5', decide_false]
        exact finK_drop ⟨by simp [k5, D.er, D.er1], rfl, rfl⟩
  · try simp only [go_sem, reduceIte, Nat.reduceEqDiff, Nat.reduceAdd, Nat.reduceSub, Nat.reduceMul, Nat.reduceLT, Nat.reduceLeDiff, Nat.reducePow, Int.reduceToNat, Int.reduceLT, Int.reduceLE, Int.reduceEq, Int.reduceNe, Int.reduceAdd, Int.reduceSub, Int.reduceMul, Int.reduceNeg, h1, h2, k1, k3, k2, decide_false]
    exact finK_drop ⟨by simp [fitsF, hty, k1, k2, k3, D.er, D.er1], rfl, rfl⟩
def fdC' (f : Fd) : List D := [.int .i64 f.id, .str f.name, .int .i64 f.type, .int .i64 f.parent]
theorem IndexFd_ok (l : List Fd) (q : Fd → Bool) {f : FuncId} {fs cs : List D} (b : Nat) (X : List D) (hq : ∀ x ∈ l, VQ P G f (fs ++ [.agg (fdC' x)] ++ cs) b X (.bool (q x))) :
    VQ P G 46 [.sl .none (l.map fdD), .clo (.func f) fs cs] b X (.int .i64 (idx q l)) := by
  unfold VQ
  refine VC.small2 fun hsm => ?_
  have z1 := hsm (.sl .none (l.map fdD)) (List.mem_cons_self ..) (.sl .none (l.map fdD)) (by simp [D.cells])
  simp only [Small, mostLen, List.length_map] at z1
  clear hsm
  refine VC.ofs (fun | 99999999 => [(0, [0, 1, 4, 5, 7, 8, 9, 16])] | _ => []) [4] mixed Tryz.func46 rfl rfl rfl rfl (by decide +kernel) (by simp) ?_
  have el : (l.map fdD).length = l.length := by simp
  simp only [go_sem, reduceIte, Nat.reduceEqDiff, Nat.reduceAdd, Nat.reduceSub, Nat.reduceMul, Nat.reduceLT, Nat.reduceLeDiff, Nat.reducePow, Int.reduceToNat, Int.reduceLT, Int.reduceLE, Int.reduceEq, Int.reduceNe, Int.reduceAdd, Int.reduceSub, Int.reduceMul, Int.reduceNeg, el]
  refine vwq_loop (fun u => ∃ (j : Nat), j ≤ l.length ∧ j ≤ l.findIdx q ∧ u.σ 0 = .sl .none (l.map fdD) ∧ u.σ 1 = .clo (.func f) fs cs ∧ u.σ 7 = .int .i64 l.length ∧ u.σ 8 = .int .i64 j ∧ u.β = Heap.nil.set b X ∧ u.ω = []) (fun u => l.length - (ival (u.σ 8)).toNat) ⟨0, by omega, by omega, rfl, rfl, rfl, rfl, rfl, rfl⟩ ?_
  rintro σ β ω ⟨j, j1, j2, q0, q1, q7, q8, rfl, rfl⟩
  dsimp only at q0 q1 q7 q8
  try simp only [go_sem, reduceIte, Nat.reduceEqDiff, Nat.reduceAdd, Nat.reduceSub, Nat.reduceMul, Nat.reduceLT, Nat.reduceLeDiff, Nat.reducePow, Int.reduceToNat, Int.reduceLT, Int.reduceLE, Int.reduceEq, Int.reduceNe, Int.reduceAdd, Int.reduceSub, Int.reduceMul, Int.reduceNeg, q0, q1, q7, q8]
  refine cd_dec (fun g => ?_) (fun g => ?_)
  · have g' := eq_true g
    obtain ⟨x, hx, ex⟩ := Fd_at (l := l) (j := j) (by omega)
    have c1 : ((0 : Int) ≤ j) = True := eq_true (by omega)
    have wj := wrap_i64 (x := (j : Int) + 1) (by omega) (by omega)
    have hqq := hq x (List.mem_of_getElem? hx)
    simp only [fdC'] at hqq
    try simp only [go_sem, reduceIte, Nat.reduceEqDiff, Nat.reduceAdd, Nat.reduceSub, Nat.reduceMul, Nat.reduceLT, Nat.reduceLeDiff, Nat.reducePow, Int.reduceToNat, Int.reduceLT, Int.reduceLE, Int.reduceEq, Int.reduceNe, Int.reduceAdd, Int.reduceSub, Int.reduceMul, Int.reduceNeg, q0, q1, q7, q8, ex, el, g', c1]
    refine cK_vq hqq (by simp [Heap.set]) ?_
    cases hqx : q x
    · try simp only [go_sem, reduceIte, Nat.reduceEqDiff, Nat.reduceAdd, Nat.reduceSub, Nat.reduceMul, Nat.reduceLT, Nat.reduceLeDiff, Nat.reducePow, Int.reduceToNat, Int.reduceLT, Int.reduceLE, Int.reduceEq, Int.reduceNe, Int.reduceAdd, Int.reduceSub, Int.reduceMul, Int.reduceNeg, q0, q1, q7, q8, ex, wj]
      have := idx_miss hx j2 hqx
      exact ⟨⟨j + 1, by omega, by omega, rfl⟩, by omega⟩
    · try simp only [go_sem, reduceIte, Nat.reduceEqDiff, Nat.reduceAdd, Nat.reduceSub, Nat.reduceMul, Nat.reduceLT, Nat.reduceLeDiff, Nat.reducePow, Int.reduceToNat, Int.reduceLT, Int.reduceLE, Int.reduceEq, Int.reduceNe, Int.reduceAdd, Int.reduceSub, Int.reduceMul, Int.reduceNeg, q0, q1, q7, q8, ex]
      have e : idx q l = j := by
        have := idx_hit hx j2 hqx
        unfold idx
        rw [if_pos (by omega), this]
      refine finK_var (by simp [Heap.set]) ⟨by rw [e]; rfl, rfl, rfl⟩
  · try simp only [go_sem, reduceIte, Nat.reduceEqDiff, Nat.reduceAdd, Nat.reduceSub, Nat.reduceMul, Nat.reduceLT, Nat.reduceLeDiff, Nat.reducePow, Int.reduceToNat, Int.reduceLT, Int.reduceLE, Int.reduceEq, Int.reduceNe, Int.reduceAdd, Int.reduceSub, Int.reduceMul, Int.reduceNeg, q0, q1, q7, q8]
    have e : idx q l = -1 := by
      unfold idx
      rw [if_neg]
      omega
    refine finK_var (by simp [Heap.set]) ⟨by rw [e]; rfl, rfl, rfl⟩
theorem Valid1_ok (q : Pr) (x : Fd) (b : Nat) : VQ P G 47 ([] ++ [.agg (fdC' x)] ++ [.pb b 0]) b q.cells (.bool (decide (x.id = q.id))) := by
  simp only [List.nil_append, List.cons_append, fdC']
  unfold VQ
  refine VC.ofs (fun | 99999999 => [(0, [0, 1, 2, 3])] | _ => []) [3] mixed Tryz.func47 rfl rfl rfl rfl (by decide +kernel) (by simp) ?_
  simp only [go_sem, reduceIte, Nat.reduceEqDiff, Nat.reduceAdd, Nat.reduceSub, Nat.reduceMul, Nat.reduceLT, Nat.reduceLeDiff, Nat.reducePow, Int.reduceToNat, Int.reduceLT, Int.reduceLE, Int.reduceEq, Int.reduceNe, Int.reduceAdd, Int.reduceSub, Int.reduceMul, Int.reduceNeg]
  refine new_1 fun b2 h1 h2 => ?_
  try simp only [go_sem, reduceIte, Nat.reduceEqDiff, Nat.reduceAdd, Nat.reduceSub, Nat.reduceMul, Nat.reduceLT, Nat.reduceLeDiff, Nat.reducePow, Int.reduceToNat, Int.reduceLT, Int.reduceLE, Int.reduceEq, Int.reduceNe, Int.reduceAdd, Int.reduceSub, Int.reduceMul, Int.reduceNeg, h1, h2]
  exact finK_var (b := b) (by simp [Heap.set, h1, h2]) ⟨rfl, rfl, rfl⟩
/-- The type of a field, if there is one. -/
def typeOf (fs : List Fd) (id : Int) : Option Int := (fs.find? fun f => decide (f.id = id)).map (·.type)
def atomOk (fs : List Fd) (q : Pr) : Bool := !isAt q.op || match typeOf fs q.id with
  | none => false
  | some t => fitsF q t
def validF (fs : List Fd) (p : Pr) : Bool := wellF p && (subs p).all (atomOk fs)
set_option maxRecDepth 100000 in
set_option maxHeartbeats 4000000 in
theorem pValid_ok (fs : List Fd) (nx : Int) (p : Pr) : VN P G 17 [.agg [.sl .none (fs.map fdD), .int .i64 nx], .agg p.cells] (.bool (validF fs p)) := by
  have hw := wellFormed_ok (G := G) p
  unfold VN
  refine VC.small2 fun hsm => ?_
  have z1 := hsm (.agg [.sl .none (fs.map fdD), .int .i64 nx]) (List.mem_cons_self ..) (.sl .none (fs.map fdD)) (by simp [D.cells])
  simp only [Small, mostLen, List.length_map] at z1
  clear hsm
  refine VC.ofc (fun | 7 => [(0, []), (1, []), (2, []), (3, []), (4, []), (5, []), (6, []), (7, []), (8, []), (9, []), (10, []), (11, []), (12, [])] | 99999999 => [(0, [0, 1, 2, 3, 4, 5, 6, 9, 11, 16, 33])] | _ => []) [.cell 4 4] mixed Tryz.func17 rfl rfl rfl rfl (by decide +kernel) (by simp) ?_
  simp only [go_sem, reduceIte, Nat.reduceEqDiff, Nat.reduceAdd, Nat.reduceSub, Nat.reduceMul, Nat.reduceLT, Nat.reduceLeDiff, Nat.reducePow, Int.reduceToNat, Int.reduceLT, Int.reduceLE, Int.reduceEq, Int.reduceNe, Int.reduceAdd, Int.reduceSub, Int.reduceMul, Int.reduceNeg]
  intro b2
  refine new_1 fun b3 h1 h2 => ?_
  try simp only [go_sem, reduceIte, Nat.reduceEqDiff, Nat.reduceAdd, Nat.reduceSub, Nat.reduceMul, Nat.reduceLT, Nat.reduceLeDiff, Nat.reducePow, Int.reduceToNat, Int.reduceLT, Int.reduceLE, Int.reduceEq, Int.reduceNe, Int.reduceAdd, Int.reduceSub, Int.reduceMul, Int.reduceNeg, h1, h2]
  refine new_2 fun b4 h3 h4 h5 => ?_
  try simp only [go_sem, reduceIte, Nat.reduceEqDiff, Nat.reduceAdd, Nat.reduceSub, Nat.reduceMul, Nat.reduceLT, Nat.reduceLeDiff, Nat.reducePow, Int.reduceToNat, Int.reduceLT, Int.reduceLE, Int.reduceEq, Int.reduceNe, Int.reduceAdd, Int.reduceSub, Int.reduceMul, Int.reduceNeg, h1, h2, h3, h4, h5]
  refine cK_vn hw ?_
  cases hwf : wellF p
  · try simp only [go_sem, reduceIte, Nat.reduceEqDiff, Nat.reduceAdd, Nat.reduceSub, Nat.reduceMul, Nat.reduceLT, Nat.reduceLeDiff, Nat.reducePow, Int.reduceToNat, Int.reduceLT, Int.reduceLE, Int.reduceEq, Int.reduceNe, Int.reduceAdd, Int.reduceSub, Int.reduceMul, Int.reduceNeg, h1, h2, h3, h4, h5]
    exact finK_drop ⟨by simp [validF, hwf, D.er, D.er1], rfl, rfl⟩
  try simp only [go_sem, reduceIte, Nat.reduceEqDiff, Nat.reduceAdd, Nat.reduceSub, Nat.reduceMul, Nat.reduceLT, Nat.reduceLeDiff, Nat.reducePow, Int.reduceToNat, Int.reduceLT, Int.reduceLE, Int.reduceEq, Int.reduceNe, Int.reduceAdd, Int.reduceSub, Int.reduceMul, Int.reduceNeg, h1, h2, h3, h4, h5]
  generalize hβ : Heap.set _ b4 _ = β0
  have e2 : β0 b2 = some [.sl .none (fs.map fdD), .int .i64 nx] := by rw [← hβ]; simp [Heap.set, h1, h2, h3, h4, h5]
  have e3 : β0 b3 = some p.cells := by rw [← hβ]; simp [Heap.set, h1, h2, h3, h4, h5]
  have e4 : β0 b4 = some [.bool false] := by rw [← hβ]; simp [Heap.set]
  clear hβ
  refine cK_fr (d := .clo (.func 41) [] []) (args := [.agg p.cells]) (all_ok p) (Part.nil _ _) ?_ ?_
  rotate_left
  · rintro r β1 ω1 ⟨b, h, _⟩; cases h
  rintro r β1 ω1 β' ω' ⟨bq, hr, rfl, rfl⟩ hpt hkeep hω
  cases hr
  rw [joinT_nil] at hω
  subst hω
  have e2 := hkeep b2 _ e2 rfl
  have e4 := hkeep b4 _ e4 rfl
  have eq := hpt.box bq p.cells (by simp [Heap.set])
  clear hkeep hpt
  simp only [go_sem, reduceIte, Nat.reduceEqDiff, Nat.reduceAdd, Nat.reduceSub, Nat.reduceMul, Nat.reduceLT, Nat.reduceLeDiff, Nat.reducePow, Int.reduceToNat, Int.reduceLT, Int.reduceLE, Int.reduceEq, Int.reduceNe, Int.reduceAdd, Int.reduceSub, Int.reduceMul, Int.reduceNeg]
  generalize hσ : upd _ 0 _ = σ0
  have q2 : σ0 2 = .pb b2 0 := by rw [← hσ]; rfl
  have q4 : σ0 4 = .pb b4 0 := by rw [← hσ]; rfl
  clear hσ
  refine rg_all (pb := false) (I := fun vis β c ω => ω = [] ∧ c = [.bool false] ∧ ∀ q ∈ vis, atomOk fs q = true) (J := fun e β c ω => e = .ret ∧ ω = [] ∧ c = [.bool false] ∧ ∃ q ∈ subs p, atomOk fs q = false) (bo := b4) (fun | 7 => [(0, []), (1, []), (2, []), (3, []), (4, []), (5, []), (6, []), (7, []), (8, []), (9, []), (10, []), (11, []), (12, [])] | 99999999 => [(0, [0, 1, 2, 3, 4, 5, 6, 9, 11, 16, 33])] | _ => []) eq e4 ⟨rfl, rfl, fun _ h => by cases h⟩ (fun _ _ _ _ h => by cases h.1) (fun vis β β' c ω hm h => h) (fun _ _ _ _ _ _ h => h) rfl rfl rfl (by decide +kernel) (by decide +kernel) ?_ ?_ ?_
  · rintro l r q vis β c ω hl hpre ⟨rfl, rfl, hall⟩ hk hbo hlr
    rw [show roundσ σ0 #[12].toList [D.agg q.cells] = upd σ0 12 (.agg q.cells) from rfl]
    try simp only [go_sem, reduceIte, Nat.reduceEqDiff, Nat.reduceAdd, Nat.reduceSub, Nat.reduceMul, Nat.reduceLT, Nat.reduceLeDiff, Nat.reducePow, Int.reduceToNat, Int.reduceLT, Int.reduceLE, Int.reduceEq, Int.reduceNe, Int.reduceAdd, Int.reduceSub, Int.reduceMul, Int.reduceNeg, q2, q4]
    refine new_any fun b5 hb5 => ?_
    have N := And.intro (box_ne hb5 hlr) (And.intro (box_ne hb5 hbo) (And.intro (box_ne hl e4) (And.intro (box_ne hl e2) h4)))
    try simp only [go_sem, reduceIte, Nat.reduceEqDiff, Nat.reduceAdd, Nat.reduceSub, Nat.reduceMul, Nat.reduceLT, Nat.reduceLeDiff, Nat.reducePow, Int.reduceToNat, Int.reduceLT, Int.reduceLE, Int.reduceEq, Int.reduceNe, Int.reduceAdd, Int.reduceSub, Int.reduceMul, Int.reduceNeg, q2, q4, N, hbo, hlr]
    generalize hβ2 : Heap.set _ l _ = β2
    obtain ⟨g1, g2, g3, g4, g5⟩ := rg_head hl hk hbo hlr rfl hb5 _ _ hβ2
    have g6 := g1 b2 _ e2 (Ne.symm h3.1)
    clear hβ2 hb5
    have hyes : atomOk fs q = true → ∀ x ∈ vis ++ [q], atomOk fs x = true := fun hq x hx => by
      rcases List.mem_append.1 hx with hx | hx
      · exact hall x hx
      · rw [List.mem_singleton] at hx; subst hx; exact hq
    refine cK_vn (isAtom_ok q.op) ?_
    cases ha : isAt q.op
    · try simp only [go_sem, reduceIte, Nat.reduceEqDiff, Nat.reduceAdd, Nat.reduceSub, Nat.reduceMul, Nat.reduceLT, Nat.reduceLeDiff, Nat.reducePow, Int.reduceToNat, Int.reduceLT, Int.reduceLE, Int.reduceEq, Int.reduceNe, Int.reduceAdd, Int.reduceSub, Int.reduceMul, Int.reduceNeg, q2, q4, g2]
      exact rgQ_end g1 g3 g2 ⟨rfl, rfl, hyes (by simp [atomOk, ha])⟩
    · try simp only [go_sem, reduceIte, Nat.reduceEqDiff, Nat.reduceAdd, Nat.reduceSub, Nat.reduceMul, Nat.reduceLT, Nat.reduceLeDiff, Nat.reducePow, Int.reduceToNat, Int.reduceLT, Int.reduceLE, Int.reduceEq, Int.reduceNe, Int.reduceAdd, Int.reduceSub, Int.reduceMul, Int.reduceNeg, q2, q4, g2, g6]
      refine cK_vq (fs := []) (cs := []) (IndexFd_ok fs (fun x => decide (x.id = q.id)) b5 _ fun x _ => Valid1_ok q x b5) g4 ?_
      have hno : atomOk fs q = false → ∀ {β3 : Heap} {σ1 : Nat → D}, β3 = β2.set b4 [.bool false] → rgQ β' b4 l r σ0 (fun c c_1 ω => ω = [] ∧ c_1 = [.bool false] ∧ ∀ x ∈ vis ++ [q], atomOk fs x = true) (fun e β c ω => e = .ret ∧ ω = [] ∧ c = [.bool false] ∧ ∃ q ∈ subs p, atomOk fs q = false) .ret ⟨σ1, β3, []⟩ := by
        rintro hq β3 σ1 rfl
        refine rgQ_out (fun b cs e1 e2 => ?_) ?_ (hit_set rfl) ⟨rfl, rfl, rfl, q, hpre.subset (by simp), hq⟩
        · simp only [Heap.set, if_neg e2]; exact g1 b cs e1 e2
        · simp only [Heap.set, if_neg (Ne.symm N.2.2.1.1)]; exact g3
      rcases idx_find (fun x : Fd => decide (x.id = q.id)) fs with ⟨i1, i2⟩ | ⟨j, x, i1, i2, i3, i4⟩
      · have i1' := eq_true i1
        try simp only [go_sem, reduceIte, Nat.reduceEqDiff, Nat.reduceAdd, Nat.reduceSub, Nat.reduceMul, Nat.reduceLT, Nat.reduceLeDiff, Nat.reducePow, Int.reduceToNat, Int.reduceLT, Int.reduceLE, Int.reduceEq, Int.reduceNe, Int.reduceAdd, Int.reduceSub, Int.reduceMul, Int.reduceNeg, q2, q4, g2, g6, i1', decide_true]
        exact hno (by simp [atomOk, ha, typeOf, i2]) rfl
      · rw [i1]
        have i0 : ((j : Int) < 0) = False := eq_false (by omega)
        have c1 : ((0 : Int) ≤ j) = True := eq_true (by omega)
        have c2 : ((j : Int) < fs.length) = True := eq_true (by omega)
        obtain ⟨x', hx', ex⟩ := Fd_at (l := fs) (j := j) i2
        obtain rfl := Option.some.inj (hx'.symm.trans i3)
        have el : (fs.map fdD).length = fs.length := by simp
        have hq : atomOk fs q = fitsF q x'.type := by simp [atomOk, ha, typeOf, i4]
        try simp only [go_sem, reduceIte, Nat.reduceEqDiff, Nat.reduceAdd, Nat.reduceSub, Nat.reduceMul, Nat.reduceLT, Nat.reduceLeDiff, Nat.reducePow, Int.reduceToNat, Int.reduceLT, Int.reduceLE, Int.reduceEq, Int.reduceNe, Int.reduceAdd, Int.reduceSub, Int.reduceMul, Int.reduceNeg, q2, q4, g2, g4, g6, i0, c1, c2, ex, el, decide_false]
        refine cE_vn (fits_ok q x'.type) ?_
        cases hf : fitsF q x'.type
        · try simp only [go_sem, reduceIte, Nat.reduceEqDiff, Nat.reduceAdd, Nat.reduceSub, Nat.reduceMul, Nat.reduceLT, Nat.reduceLeDiff, Nat.reducePow, Int.reduceToNat, Int.reduceLT, Int.reduceLE, Int.reduceEq, Int.reduceNe, Int.reduceAdd, Int.reduceSub, Int.reduceMul, Int.reduceNeg, q2, q4, g2, g4, g6, i0]
          exact hno (by rw [hq, hf]) rfl
        · try simp only [go_sem, reduceIte, Nat.reduceEqDiff, Nat.reduceAdd, Nat.reduceSub, Nat.reduceMul, Nat.reduceLT, Nat.reduceLeDiff, Nat.reducePow, Int.reduceToNat, Int.reduceLT, Int.reduceLE, Int.reduceEq, Int.reduceNe, Int.reduceAdd, Int.reduceSub, Int.reduceMul, Int.reduceNeg, q2, q4, g2, g4, g6, i0]
          exact rgQ_end g1 g3 g2 ⟨rfl, rfl, hyes (by rw [hq, hf])⟩
  · rintro β c ω hk hbo ⟨rfl, rfl, hall⟩
    try simp only [go_sem, reduceIte, Nat.reduceEqDiff, Nat.reduceAdd, Nat.reduceSub, Nat.reduceMul, Nat.reduceLT, Nat.reduceLeDiff, Nat.reducePow, Int.reduceToNat, Int.reduceLT, Int.reduceLE, Int.reduceEq, Int.reduceNe, Int.reduceAdd, Int.reduceSub, Int.reduceMul, Int.reduceNeg, q2, q4, hbo]
    refine finK_drop ⟨?_, rfl, rfl⟩
    rw [validF, hwf, Bool.true_and, List.all_eq_true.2 hall]; rfl
  · rintro e β c ω hk hbo ⟨rfl, rfl, rfl, q, hq, hn⟩
    try simp only [go_sem, reduceIte, Nat.reduceEqDiff, Nat.reduceAdd, Nat.reduceSub, Nat.reduceMul, Nat.reduceLT, Nat.reduceLeDiff, Nat.reducePow, Int.reduceToNat, Int.reduceLT, Int.reduceLE, Int.reduceEq, Int.reduceNe, Int.reduceAdd, Int.reduceSub, Int.reduceMul, Int.reduceNeg, q2, q4, hbo]
    refine finK_drop ⟨?_, rfl, rfl⟩
    rw [validF, show (subs p).all (atomOk fs) = false from by
      rw [List.all_eq_false]; exact ⟨q, hq, by simp [hn]⟩, Bool.and_false]; rfl
end Go.Proofs.YtbfkhepfgibonaaGreatS
