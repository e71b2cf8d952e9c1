import Derived.Test.YtnoenipdooackaaDoorCD
set_option linter.unusedVariables false
set_option linter.unusedSimpArgs false
namespace Go.Proofs.YtnoenipdooackaaDoorS
open Go Go.Proofs.YtnoenipdooackaaDoorV

variable {G : Heap}
attribute [local irreducible] VN VC VX VQ

def fitS (s : ByteArray) : ByteArray := s.extract 0 (min s.size 200)
def fitV (v : Vl) : Vl := if v.null = true then Vl.nul else ⟨false, 0, fitS v.s⟩
theorem Fit_ok (v : Vl) : VN P G 39 [.agg v.cells, .int .i64 4] (.agg (fitV v).cells) := by
  obtain ⟨vn, vi, vs⟩ := v
  simp only [Vl.cells]
  unfold VN
  refine VC.ofc (fun | 99999999 => [(0, [0, 1, 2, 4, 6, 8, 9, 15, 22, 28])] | _ => []) [.cell 4 72] mixed Tryd.func39 rfl rfl rfl rfl (by decide +kernel) (by simp) ?_
  cases vn
  all_goals simp only [go_sem, reduceIte, Nat.reduceEqDiff, Nat.reduceAdd, Nat.reduceSub, Nat.reduceMul, Nat.reduceLT, Nat.reduceLeDiff, Nat.reducePow, Int.reduceToNat, Int.reduceLT, Int.reduceLE, Int.reduceEq, Int.reduceNe, Int.reduceAdd, Int.reduceSub, Int.reduceMul, Int.reduceNeg]
  all_goals intro b0
  all_goals refine new_1 fun b1 h1 h2 => ?_
  all_goals try simp only [go_sem, reduceIte, Nat.reduceEqDiff, Nat.reduceAdd, Nat.reduceSub, Nat.reduceMul, Nat.reduceLT, Nat.reduceLeDiff, Nat.reducePow, Int.reduceToNat, Int.reduceLT, Int.reduceLE, Int.reduceEq, Int.reduceNe, Int.reduceAdd, Int.reduceSub, Int.reduceMul, Int.reduceNeg, h1, h2]
  · refine ⟨?_, finK_drop ⟨?_, rfl, rfl⟩⟩
    · by_cases g : (200 : Int) < vs.size
      · rw [if_pos g]; omega
      · rw [if_neg g]; omega
    · simp only [fitV, fitS, Bool.false_eq_true, if_false]
      by_cases g : (200 : Int) < vs.size
      · rw [if_pos g, Nat.min_eq_right (by omega)]; rfl
      · rw [if_neg g, Nat.min_eq_left (by omega)]; rfl
  · exact finK_drop ⟨rfl, rfl, rfl⟩
def formB (rows : Int) (b : Bd) : Bd :=
  let k := (b.nulls % 18446744073709551616) % (rows + 1)
  let x : Vl := ⟨false, b.min.n, (fitV b.min).s⟩
  let y : Vl := ⟨false, b.max.n, (fitV b.max).s⟩
  if k = rows then ⟨b.id, k, Vl.nul, Vl.nul⟩ else if 0 < cmpV x y then ⟨b.id, k, y, x⟩ else ⟨b.id, k, x, y⟩
def formS (rows : Int) (acc : List Bd) (b : Bd) : List Bd :=
  if 64 ≤ acc.length then acc
  else match acc.getLast? with
    | some z => if b.id ≤ z.id then acc else acc ++ [formB rows b]
    | none => acc ++ [formB rows b]
def formF (u : Sm) : Sm := ⟨bop .and .i64 u.rows 1023, u.l.foldl (formS (bop .and .i64 u.rows 1023)) []⟩
theorem formS_full (rows : Int) : ∀ (l : List Bd) (acc : List Bd), 64 ≤ acc.length → l.foldl (formS rows) acc = acc
  | [], acc, h => rfl
  | b :: l, acc, h => by
    rw [List.foldl_cons, show formS rows acc b = acc from by rw [formS, if_pos h]]
    exact formS_full rows l acc h
theorem and1023 (n : Int) : 0 ≤ bop .and .i64 n 1023 ∧ bop .and .i64 n 1023 ≤ 1023 := by
  simp only [bop]
  have h : (BitVec.ofInt IntKind.i64.bits n &&& BitVec.ofInt IntKind.i64.bits 1023).toNat ≤ 1023 := by
    rw [BitVec.toNat_and]
    exact Nat.le_trans Nat.and_le_right (by decide)
  rw [wrap_i64 (by omega) (by omega)]
  omega
set_option maxHeartbeats 4000000 in
theorem Form_ok (u : Sm) : VN P G 19 [.agg u.cells] (.agg (formF u).cells) := by
  obtain ⟨rows, hrows⟩ : ∃ r, bop .and .i64 u.rows 1023 = r := ⟨_, rfl⟩
  have hr := and1023 u.rows
  rw [hrows] at hr
  rw [formF, hrows]
  simp only [Sm.cells]
  unfold VN
  refine VC.small2 fun hsm => ?_
  have z1 := hsm (.agg u.cells) (List.mem_cons_self ..) (.sl .none (u.l.map Bd.d)) (by simp [D.cells, Sm.cells])
  simp only [Small, mostLen, List.length_map] at z1
  clear hsm
  refine VC.ofc (fun | 7 => [(0, []), (1, []), (2, []), (3, []), (4, []), (5, []), (6, []), (7, []), (8, []), (9, []), (10, []), (11, []), (12, []), (13, [])] | 9 => [(0, []), (1, []), (3, []), (4, [2]), (2, [6, 7]), (5, [6, 7]), (6, []), (7, []), (8, []), (9, [])] | 10 => [(0, []), (1, []), (2, [7, 9]), (3, []), (4, []), (5, [7, 9, 11]), (6, []), (7, []), (8, []), (9, []), (10, []), (11, []), (12, []), (13, [])] | 15 => [(0, []), (1, [3]), (2, []), (3, []), (4, []), (5, [])] | 99999999 => [(0, [0, 1, 2, 3, 4, 5, 6, 7, 8, 23, 47, 77, 84])] | _ => []) [.cell 2 24] mixed Tryd.func19 rfl rfl rfl rfl (by decide +kernel) (by simp) ?_
  simp only [go_sem, reduceIte, Nat.reduceEqDiff, Nat.reduceAdd, Nat.reduceSub, Nat.reduceMul, Nat.reduceLT, Nat.reduceLeDiff, Nat.reducePow, Int.reduceToNat, Int.reduceLT, Int.reduceLE, Int.reduceEq, Int.reduceNe, Int.reduceAdd, Int.reduceSub, Int.reduceMul, Int.reduceNeg]
  intro b0
  refine new_1 fun b1 h1 h2 => ?_
  try simp only [go_sem, reduceIte, Nat.reduceEqDiff, Nat.reduceAdd, Nat.reduceSub, Nat.reduceMul, Nat.reduceLT, Nat.reduceLeDiff, Nat.reducePow, Int.reduceToNat, Int.reduceLT, Int.reduceLE, Int.reduceEq, Int.reduceNe, Int.reduceAdd, Int.reduceSub, Int.reduceMul, Int.reduceNeg, h1, h2, hrows]
  refine new_2 fun b2 h3 h4 h5 => ?_
  generalize hβ : Heap.set _ b2 _ = β0
  have e0 : β0 b0 = some [.int .i64 u.rows, .sl .none (u.l.map Bd.d)] := by rw [← hβ]; simp [Heap.set, h1, h2, h3, h4, h5]
  have e1 : β0 b1 = some [.int .i64 0, .sl .full []] := by rw [← hβ]; simp [Heap.set, h1, h2, h3, h4, h5]
  have e2 : β0 b2 = some [.int .i64 rows, .sl .full []] := by rw [← hβ]; simp [Heap.set]
  clear hβ
  refine vwq_loop (fun v => ∃ (j : Nat) (acc : List Bd) (tk : Tk), j ≤ u.l.length ∧ acc.length ≤ 64 ∧ TW 8 tk v.ω ∧ (u.l.drop j).foldl (formS rows) acc = u.l.foldl (formS rows) [] ∧ v.σ 1 = .pb b0 0 ∧ v.σ 2 = .pb b1 0 ∧ v.σ 3 = .pb b2 0 ∧ v.σ 4 = .int .i64 j ∧ v.β b0 = some [.int .i64 u.rows, .sl .none (u.l.map Bd.d)] ∧ v.β b1 = some [.int .i64 0, .sl .full []] ∧ v.β b2 = some [.int .i64 rows, .sl tk (acc.map Bd.d)]) (fun v => u.l.length - (ival (v.σ 4)).toNat) ?_ ?_
  · exact ⟨0, [], .full, by omega, by simp, TW.full 8, rfl, rfl, rfl, rfl, rfl, e0, e1, e2⟩
  clear e0 e1 e2 β0
  rintro σ β ω ⟨j, acc, tk, hj, ha, hw, hf, q1, q2, q3, q4, e0, e1, e2⟩
  dsimp only at hw q1 q2 q3 q4 e0 e1 e2
  have ho := hw.ok
  have hg := hw.gone
  have hlu : ((u.l.map Bd.d).length : Int) = u.l.length := by rw [List.length_map]
  have hla : ((acc.map Bd.d).length : Int) = acc.length := by rw [List.length_map]
  by_cases g1 : (j : Int) < u.l.length
  case neg =>
    try simp only [go_sem, reduceIte, Nat.reduceEqDiff, Nat.reduceAdd, Nat.reduceSub, Nat.reduceMul, Nat.reduceLT, Nat.reduceLeDiff, Nat.reducePow, Int.reduceToNat, Int.reduceLT, Int.reduceLE, Int.reduceEq, Int.reduceNe, Int.reduceAdd, Int.reduceSub, Int.reduceMul, Int.reduceNeg, q1, q2, q3, q4, e0, e1, e2, hlu, hla, g1]
    rw [List.drop_eq_nil_of_le (by omega), List.foldl_nil] at hf
    exact finK_drop ⟨by rw [← hf]; rfl, rfl, rfl⟩
  by_cases g2 : (acc.length : Int) < 64
  case neg =>
    try simp only [go_sem, reduceIte, Nat.reduceEqDiff, Nat.reduceAdd, Nat.reduceSub, Nat.reduceMul, Nat.reduceLT, Nat.reduceLeDiff, Nat.reducePow, Int.reduceToNat, Int.reduceLT, Int.reduceLE, Int.reduceEq, Int.reduceNe, Int.reduceAdd, Int.reduceSub, Int.reduceMul, Int.reduceNeg, q1, q2, q3, q4, e0, e1, e2, hlu, hla, g1, g2]
    rw [formS_full _ _ _ (by omega)] at hf
    exact finK_drop ⟨by rw [← hf]; rfl, rfl, rfl⟩
  obtain ⟨x, hx, ex⟩ := Bd_at (l := u.l) (j := j) (by rw [List.length_map]; omega)
  have wj := wrap_i64 (x := (j : Int) + 1) (by omega) (by omega)
  have c1 : ((0 : Int) ≤ j) = True := eq_true (by omega)
  have g1' := eq_true g1
  have hne : ¬ 64 ≤ acc.length := by omega
  rw [drop_at hx, List.foldl_cons] at hf
  try simp only [go_sem, reduceIte, Nat.reduceEqDiff, Nat.reduceAdd, Nat.reduceSub, Nat.reduceMul, Nat.reduceLT, Nat.reduceLeDiff, Nat.reducePow, Int.reduceToNat, Int.reduceLT, Int.reduceLE, Int.reduceEq, Int.reduceNe, Int.reduceAdd, Int.reduceSub, Int.reduceMul, Int.reduceNeg, q1, q2, q3, q4, e0, e1, e2, ex, hlu, hla, g1', g2, c1]
  refine new_any fun b3 hb => ?_
  have m0 := box_ne hb e0
  have m1 := box_ne hb e1
  have m2 := box_ne hb e2
  clear hb
  have hfb := Fit_ok (G := G) x.min
  have hfc := Fit_ok (G := G) x.max
  simp only [Vl.cells] at hfb hfc
  obtain ⟨k, hk⟩ : ∃ k, (x.nulls % 18446744073709551616) % (rows + 1) = k := ⟨_, rfl⟩
  have k1 : 0 ≤ k := by rw [← hk]; exact Int.emod_nonneg _ (by omega)
  have k2 : k < rows + 1 := by rw [← hk]; exact Int.emod_lt_of_pos _ (by omega)
  have w2 : IntKind.i64.wrap (rows + 1) = rows + 1 := wrap_i64 (by omega) (by omega)
  have w3 : (rows + 1) % 18446744073709551616 = rows + 1 := by omega
  have w4 : (x.nulls % 18446744073709551616).tmod (rows + 1) = k := by rw [Int.tmod_eq_emod_of_nonneg (by omega), hk]
  have w5 : IntKind.i64.wrap k = k := wrap_i64 (by omega) (by omega)
  have w6 : (rows + 1 = 0) = False := eq_false (by omega)
  have hcmp := refCompare_ok (G := G) ⟨false, x.min.n, (fitV x.min).s⟩ ⟨false, x.max.n, (fitV x.max).s⟩
  simp only [Vl.d, Vl.cells] at hcmp
  obtain ⟨kn, hkn⟩ : ∃ kn, formB rows x = kn := ⟨_, rfl⟩
  have hB : formB rows x = if k = rows then ⟨x.id, k, Vl.nul, Vl.nul⟩ else if 0 < cmpV (⟨false, x.min.n, (fitV x.min).s⟩ : Vl) ⟨false, x.max.n, (fitV x.max).s⟩ then ⟨x.id, k, ⟨false, x.max.n, (fitV x.max).s⟩, ⟨false, x.min.n, (fitV x.min).s⟩⟩ else ⟨x.id, k, ⟨false, x.min.n, (fitV x.min).s⟩, ⟨false, x.max.n, (fitV x.max).s⟩⟩ := by
    subst hk; rfl
  rcases Nat.eq_zero_or_pos acc.length with hz | hz
  case' inl =>
    obtain rfl := List.eq_nil_of_length_eq_zero hz
    have hS : formS rows [] x = [] ++ [kn] := by rw [← hkn]; rfl
    rw [hS] at hf
    try simp only [go_sem, reduceIte, Nat.reduceEqDiff, Nat.reduceAdd, Nat.reduceSub, Nat.reduceMul, Nat.reduceLT, Nat.reduceLeDiff, Nat.reducePow, Int.reduceToNat, Int.reduceLT, Int.reduceLE, Int.reduceEq, Int.reduceNe, Int.reduceAdd, Int.reduceSub, Int.reduceMul, Int.reduceNeg, List.map_nil, List.length_nil, q1, q2, q3, q4, e0, e1, e2, ex, m0, m1, m2]
  case' inr =>
    obtain ⟨i, hi⟩ : ∃ i, acc.length = i + 1 := ⟨acc.length - 1, by omega⟩
    obtain ⟨y, hy, ey⟩ := Bd_at (l := acc) (j := i) (by rw [List.length_map]; omega)
    have hg' : acc.getLast? = some y := by rw [List.getLast?_eq_getElem?, hi]; exact hy
    have hla' : ((acc.map Bd.d).length : Int) = ((i + 1 : Nat) : Int) := by rw [hla, hi]
    have c3 : ((0 : Int) < ((i + 1 : Nat) : Int)) = True := eq_true (by omega)
    have c4 : ((0 : Int) ≤ (i : Int)) = True := eq_true (by omega)
    have c5 : ((i : Int) < ((i + 1 : Nat) : Int)) = True := eq_true (by omega)
    have wk : IntKind.i64.wrap (((i + 1 : Nat) : Int) - 1) = (i : Int) := by rw [wrap_i64 (by omega) (by omega)]; omega
    by_cases kk : x.id ≤ y.id
    · have hS : formS rows acc x = acc := by rw [formS, if_neg hne, hg']; simp only [if_pos kk]
      rw [hS] at hf
      try simp only [go_sem, reduceIte, Nat.reduceEqDiff, Nat.reduceAdd, Nat.reduceSub, Nat.reduceMul, Nat.reduceLT, Nat.reduceLeDiff, Nat.reducePow, Int.reduceToNat, Int.reduceLT, Int.reduceLE, Int.reduceEq, Int.reduceNe, Int.reduceAdd, Int.reduceSub, Int.reduceMul, Int.reduceNeg, q1, q2, q3, q4, e0, e1, e2, ex, hla', m0, m1, m2, c3, c4, c5, wk, ey, kk, wj]
      refine ⟨⟨j + 1, acc, tk, by omega, ha, hw, hf, ?_⟩, by omega⟩
      simp [Heap.set, e0, e1, e2, m0, m1, m2]
    have hS : formS rows acc x = acc ++ [kn] := by rw [formS, if_neg hne, hg']; simp only [if_neg kk, hkn]
    rw [hS] at hf
    try simp only [go_sem, reduceIte, Nat.reduceEqDiff, Nat.reduceAdd, Nat.reduceSub, Nat.reduceMul, Nat.reduceLT, Nat.reduceLeDiff, Nat.reducePow, Int.reduceToNat, Int.reduceLT, Int.reduceLE, Int.reduceEq, Int.reduceNe, Int.reduceAdd, Int.reduceSub, Int.reduceMul, Int.reduceNeg, q1, q2, q3, q4, e0, e1, e2, ex, hla', m0, m1, m2, c3, c4, c5, wk, ey, kk]
  all_goals
    try simp only [go_sem, reduceIte, Nat.reduceEqDiff, Nat.reduceAdd, Nat.reduceSub, Nat.reduceMul, Nat.reduceLT, Nat.reduceLeDiff, Nat.reducePow, Int.reduceToNat, Int.reduceLT, Int.reduceLE, Int.reduceEq, Int.reduceNe, Int.reduceAdd, Int.reduceSub, Int.reduceMul, Int.reduceNeg, q1, q2, q3, q4, e0, e1, e2, ex, m0, m1, m2, w2, w3, w4, w5, w6]
    refine ⟨by omega, cE_vn hfb ?_⟩
    try simp only [go_sem, reduceIte, Nat.reduceEqDiff, Nat.reduceAdd, Nat.reduceSub, Nat.reduceMul, Nat.reduceLT, Nat.reduceLeDiff, Nat.reducePow, Int.reduceToNat, Int.reduceLT, Int.reduceLE, Int.reduceEq, Int.reduceNe, Int.reduceAdd, Int.reduceSub, Int.reduceMul, Int.reduceNeg, q1, q2, q3, q4, e0, e1, e2, ex, m0, m1, m2]
    refine cE_vn hfc ?_
    try simp only [go_sem, reduceIte, Nat.reduceEqDiff, Nat.reduceAdd, Nat.reduceSub, Nat.reduceMul, Nat.reduceLT, Nat.reduceLeDiff, Nat.reducePow, Int.reduceToNat, Int.reduceLT, Int.reduceLE, Int.reduceEq, Int.reduceNe, Int.reduceAdd, Int.reduceSub, Int.reduceMul, Int.reduceNeg, q1, q2, q3, q4, e0, e1, e2, ex, m0, m1, m2]
    refine new_any fun b4 hb4 => ?_
    simp only [set_none] at hb4
    have n0 := box_ne hb4.2.2.2 e0
    have n1 := box_ne hb4.2.2.2 e1
    have n2 := box_ne hb4.2.2.2 e2
    try simp only [go_sem, reduceIte, Nat.reduceEqDiff, Nat.reduceAdd, Nat.reduceSub, Nat.reduceMul, Nat.reduceLT, Nat.reduceLeDiff, Nat.reducePow, Int.reduceToNat, Int.reduceLT, Int.reduceLE, Int.reduceEq, Int.reduceNe, Int.reduceAdd, Int.reduceSub, Int.reduceMul, Int.reduceNeg, q1, q2, q3, q4, e0, e1, e2, ex, m0, m1, m2, n0, n1, n2, hb4]
    refine new_any fun b5 hb5 => ?_
    simp only [set_none] at hb5
    have p0 := box_ne hb5.2.2.2.2 e0
    have p1 := box_ne hb5.2.2.2.2 e1
    have p2 := box_ne hb5.2.2.2.2 e2
    repeat' (first | simp only [go_sem, reduceIte, Nat.reduceEqDiff, Nat.reduceAdd, Nat.reduceSub, Nat.reduceMul, Nat.reduceLT, Nat.reduceLeDiff, Nat.reducePow, Int.reduceToNat, Int.reduceLT, Int.reduceLE, Int.reduceEq, Int.reduceNe, Int.reduceAdd, Int.reduceSub, Int.reduceMul, Int.reduceNeg, q1, q2, q3, q4, e0, e1, e2, ex, m0, m1, m2, n0, n1, n2, hb4, p0, p1, p2, hb5, wj, ho, hg] | refine cd_dec (fun _ => ?_) (fun _ => ?_) | refine cK_vn hcmp ?_ | (refine ⟨(show ¬ rdAdd _ _ _ _ _ from by simp [rdAdd, hb4, hb5, m0, m1, m2, n0, n1, n2, p0, p1, p2]), ?_⟩) | fail)
  all_goals
    rename_i d1 d2
    rw [hkn] at hB
    first | rw [if_pos d2] at hB | rw [if_neg d2, if_pos d1] at hB | rw [if_neg d2, if_neg d1] at hB
  all_goals first
    | refine ⟨Bd_cells8 _, by rw [List.length_map]; omega, fun t' _ => ⟨⟨j + 1, acc ++ [kn], .live t' 8, by omega, by simp; omega, TW.live 8 t', hf, ?_⟩, by omega⟩⟩
    | refine fun t' _ => ⟨⟨j + 1, [] ++ [kn], .live t' 8, by omega, by simp, TW.live 8 t', hf, ?_⟩, by omega⟩
  all_goals simp [Heap.set, e0, e1, e2, m0, m1, m2, n0, n1, n2, p0, p1, p2, hB, Bd.d, Bd.cells, Vl.nul, h1, h2, h3, h4, h5]
end Go.Proofs.YtnoenipdooackaaDoorS
