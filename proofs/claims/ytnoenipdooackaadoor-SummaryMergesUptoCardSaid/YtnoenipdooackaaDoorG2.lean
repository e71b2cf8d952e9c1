import Derived.Test.YtnoenipdooackaaDoorG1
set_option linter.unusedVariables false
set_option linter.unusedSimpArgs false
namespace Go.Proofs.YtnoenipdooackaaDoorS
open Go Go.Proofs.YtnoenipdooackaaDoorV

variable {G : Heap}
attribute [local irreducible] VN VC VX VQ VT0

theorem map_er (l : List Bd) : (l.map Bd.d).map D.er = l.map Bd.d := by
  rw [List.map_map]; exact List.map_congr_left fun b _ => rfl
theorem CloneBd_ok (tk : Tk) (l : List Bd) (h : l.length ≤ 2^40) : VN P G 55 [.sl tk (l.map Bd.d)] (.sl .none (l.map Bd.d)) := by
  unfold VN
  refine VC.nilcmps (fun | 99999999 => [(0, [0, 2, 4])] | _ => []) [2] mixed Tryd.func55 rfl rfl rfl (by simp) (by decide +kernel) (by decide +kernel) Tryd.underlying22 ?_
  simp only [go_sem, reduceIte, Nat.reduceEqDiff, Nat.reduceAdd, Nat.reduceSub, Nat.reduceMul, Nat.reduceLT, Nat.reduceLeDiff, Nat.reducePow, Int.reduceToNat, Int.reduceLT, Int.reduceLE, Int.reduceEq, Int.reduceNe, Int.reduceAdd, Int.reduceSub, Int.reduceMul, Int.reduceNeg]
  refine ⟨_, _, rfl, fun b hb => ?_⟩
  cases b
  all_goals simp only [go_sem, reduceIte, Nat.reduceEqDiff, Nat.reduceAdd, Nat.reduceSub, Nat.reduceMul, Nat.reduceLT, Nat.reduceLeDiff, Nat.reducePow, Int.reduceToNat, Int.reduceLT, Int.reduceLE, Int.reduceEq, Int.reduceNe, Int.reduceAdd, Int.reduceSub, Int.reduceMul, Int.reduceNeg, cd_true, cd_false]
  · exact ⟨fun d hd => by obtain ⟨y, _, rfl⟩ := List.mem_map.1 hd; exact ⟨rfl, rfl⟩, by simp only [List.length_map]; omega, fun t' => finK_drop ⟨by rw [map_er]; rfl, rfl, rfl⟩⟩
  · have := hb rfl
    cases l with
    | nil => exact finK_drop ⟨rfl, rfl, rfl⟩
    | cons a l => cases this
theorem filterMap_len {α β : Type} (f : α → Option β) (l : List α) : (l.filterMap f).length ≤ l.length := List.length_filterMap_le f l
set_option maxHeartbeats 4000000 in
theorem Merge_ok (a b : Sm) (hr : I64 (a.rows + b.rows)) (hn : ∀ x ∈ a.l, ∀ y ∈ b.l, I64 (x.nulls + y.nulls)) (za : a.l.length ≤ 1048576) (zb : b.l.length ≤ 1048576) : VN P G 26 [.agg a.cells, .agg b.cells] (.agg (mrgF a b).cells) := by
  have ka := CloneBd_ok (G := G) .none a.l (by omega)
  have kb := CloneBd_ok (G := G) .none b.l (by omega)
  simp only [Sm.cells]
  unfold VN
  refine VC.ofc (fun | 2 => [(0, []), (1, [4]), (2, []), (3, []), (4, []), (5, []), (6, [])] | 4 => [(0, []), (1, [4]), (2, []), (3, []), (4, []), (5, []), (6, [])] | 11 => [(0, []), (1, [13, 18]), (2, []), (3, [13, 18]), (4, []), (5, [13, 18]), (6, []), (7, [13, 18]), (8, []), (9, []), (10, []), (11, []), (12, []), (14, []), (15, [13]), (16, []), (17, [13]), (13, []), (18, []), (19, []), (20, []), (21, []), (22, []), (23, [])] | 99999999 => [(0, [0, 1, 2, 3, 4, 5, 7, 8, 9, 10, 20, 37, 38, 39, 40, 50])] | _ => []) [.cell 4 24] mixed Tryd.func26 rfl rfl rfl rfl (by decide +kernel) (by simp) ?_
  simp only [go_sem, reduceIte, Nat.reduceEqDiff, Nat.reduceAdd, Nat.reduceSub, Nat.reduceMul, Nat.reduceLT, Nat.reduceLeDiff, Nat.reducePow, Int.reduceToNat, Int.reduceLT, Int.reduceLE, Int.reduceEq, Int.reduceNe, Int.reduceAdd, Int.reduceSub, Int.reduceMul, Int.reduceNeg]
  intro b0
  refine new_1 fun b1 h1 h2 => ?_
  try simp only [go_sem, reduceIte, Nat.reduceEqDiff, Nat.reduceAdd, Nat.reduceSub, Nat.reduceMul, Nat.reduceLT, Nat.reduceLeDiff, Nat.reducePow, Int.reduceToNat, Int.reduceLT, Int.reduceLE, Int.reduceEq, Int.reduceNe, Int.reduceAdd, Int.reduceSub, Int.reduceMul, Int.reduceNeg, h1, h2]
  refine new_2 fun b2 h3 h4 h5 => ?_
  try simp only [go_sem, reduceIte, Nat.reduceEqDiff, Nat.reduceAdd, Nat.reduceSub, Nat.reduceMul, Nat.reduceLT, Nat.reduceLeDiff, Nat.reducePow, Int.reduceToNat, Int.reduceLT, Int.reduceLE, Int.reduceEq, Int.reduceNe, Int.reduceAdd, Int.reduceSub, Int.reduceMul, Int.reduceNeg, h1, h2, h3, h4, h5]
  by_cases g1 : a.rows = 0
  · try simp only [go_sem, reduceIte, Nat.reduceEqDiff, Nat.reduceAdd, Nat.reduceSub, Nat.reduceMul, Nat.reduceLT, Nat.reduceLeDiff, Nat.reducePow, Int.reduceToNat, Int.reduceLT, Int.reduceLE, Int.reduceEq, Int.reduceNe, Int.reduceAdd, Int.reduceSub, Int.reduceMul, Int.reduceNeg, h1, h2, h3, h4, h5, g1]
    refine cE_vn kb ?_
    try simp only [go_sem, reduceIte, Nat.reduceEqDiff, Nat.reduceAdd, Nat.reduceSub, Nat.reduceMul, Nat.reduceLT, Nat.reduceLeDiff, Nat.reducePow, Int.reduceToNat, Int.reduceLT, Int.reduceLE, Int.reduceEq, Int.reduceNe, Int.reduceAdd, Int.reduceSub, Int.reduceMul, Int.reduceNeg, h1, h2, h3, h4, h5, g1]
    refine ⟨(show ¬ rdAdd _ _ _ _ _ from by simp [rdAdd, h1, h2, h3, h4, h5]), ?_⟩
    exact finK_drop ⟨by rw [mrgF, if_pos g1]; rfl, rfl, rfl⟩
  by_cases g2 : b.rows = 0
  · try simp only [go_sem, reduceIte, Nat.reduceEqDiff, Nat.reduceAdd, Nat.reduceSub, Nat.reduceMul, Nat.reduceLT, Nat.reduceLeDiff, Nat.reducePow, Int.reduceToNat, Int.reduceLT, Int.reduceLE, Int.reduceEq, Int.reduceNe, Int.reduceAdd, Int.reduceSub, Int.reduceMul, Int.reduceNeg, h1, h2, h3, h4, h5, g1, g2]
    refine cE_vn ka ?_
    try simp only [go_sem, reduceIte, Nat.reduceEqDiff, Nat.reduceAdd, Nat.reduceSub, Nat.reduceMul, Nat.reduceLT, Nat.reduceLeDiff, Nat.reducePow, Int.reduceToNat, Int.reduceLT, Int.reduceLE, Int.reduceEq, Int.reduceNe, Int.reduceAdd, Int.reduceSub, Int.reduceMul, Int.reduceNeg, h1, h2, h3, h4, h5, g1, g2]
    refine ⟨(show ¬ rdAdd _ _ _ _ _ from by simp [rdAdd, h1, h2, h3, h4, h5]), ?_⟩
    exact finK_drop ⟨by rw [mrgF, if_neg g1, if_pos g2]; rfl, rfl, rfl⟩
  have wr := wrap_i64 hr.1 hr.2
  try simp only [go_sem, reduceIte, Nat.reduceEqDiff, Nat.reduceAdd, Nat.reduceSub, Nat.reduceMul, Nat.reduceLT, Nat.reduceLeDiff, Nat.reducePow, Int.reduceToNat, Int.reduceLT, Int.reduceLE, Int.reduceEq, Int.reduceNe, Int.reduceAdd, Int.reduceSub, Int.reduceMul, Int.reduceNeg, h1, h2, h3, h4, h5, g1, g2, wr]
  refine new_any fun b3 h6 => ?_
  simp only [set_none] at h6
  try simp only [go_sem, reduceIte, Nat.reduceEqDiff, Nat.reduceAdd, Nat.reduceSub, Nat.reduceMul, Nat.reduceLT, Nat.reduceLeDiff, Nat.reducePow, Int.reduceToNat, Int.reduceLT, Int.reduceLE, Int.reduceEq, Int.reduceNe, Int.reduceAdd, Int.reduceSub, Int.reduceMul, Int.reduceNeg, h1, h2, h3, h4, h5, h6]
  generalize hβ : Heap.set _ b3 _ = β0
  have e0 : β0 b0 = some [.int .i64 a.rows, .sl .none (a.l.map Bd.d)] := by rw [← hβ]; simp [Heap.set, h1, h2, h3, h4, h5, h6]
  have e1 : β0 b1 = some [.int .i64 b.rows, .sl .none (b.l.map Bd.d)] := by rw [← hβ]; simp [Heap.set, h1, h2, h3, h4, h5, h6]
  have e2 : β0 b2 = some [.int .i64 0, .sl .full []] := by rw [← hβ]; simp [Heap.set, h1, h2, h3, h4, h5, h6]
  have e3 : β0 b3 = some [.int .i64 (a.rows + b.rows), .sl .full []] := by rw [← hβ]; simp [Heap.set]
  have n23 : b2 ≠ b3 ∧ b3 ≠ b2 := by simp [h6]
  clear hβ
  refine vwq_loop (fun v => ∃ (j : Nat) (tk : Tk), j ≤ a.l.length ∧ TW 8 tk v.ω ∧ v.σ 2 = .pb b0 0 ∧ v.σ 3 = .pb b1 0 ∧ v.σ 4 = .pb b2 0 ∧ v.σ 5 = .pb b3 0 ∧ v.σ 37 = .sl .none (a.l.map Bd.d) ∧ v.σ 38 = .int .i64 a.l.length ∧ v.σ 39 = .int .i64 j ∧ v.β b0 = some [.int .i64 a.rows, .sl .none (a.l.map Bd.d)] ∧ v.β b1 = some [.int .i64 b.rows, .sl .none (b.l.map Bd.d)] ∧ v.β b2 = some [.int .i64 0, .sl .full []] ∧ v.β b3 = some [.int .i64 (a.rows + b.rows), .sl tk (((a.l.take j).filterMap (mrgB b.l)).map Bd.d)]) (fun v => a.l.length - (ival (v.σ 39)).toNat) ?_ ?_
  · exact ⟨0, .full, by omega, TW.full 8, rfl, rfl, rfl, rfl, rfl, by rw [← List.length_map (f := Bd.d)]; rfl, rfl, e0, e1, e2, e3⟩
  clear e0 e1 e2 e3 β0
  rintro σ β ω ⟨j, tk, hj, hw, q2, q3, q4, q5, q37, q38, q39, e0, e1, e2, e3⟩
  dsimp only at hw q2 q3 q4 q5 q37 q38 q39 e0 e1 e2 e3
  have ho := hw.ok
  have hg := hw.gone
  try simp only [go_sem, reduceIte, Nat.reduceEqDiff, Nat.reduceAdd, Nat.reduceSub, Nat.reduceMul, Nat.reduceLT, Nat.reduceLeDiff, Nat.reducePow, Int.reduceToNat, Int.reduceLT, Int.reduceLE, Int.reduceEq, Int.reduceNe, Int.reduceAdd, Int.reduceSub, Int.reduceMul, Int.reduceNeg, q2, q3, q4, q5, q37, q38, q39, e0, e1, e2, e3]
  refine cd_dec (fun g => ?_) (fun g => ?_)
  · obtain ⟨x, hx, ex⟩ := Bd_at (l := a.l) (j := j) (by rw [List.length_map]; omega)
    have wj := wrap_i64 (x := (j : Int) + 1) (by omega) (by omega)
    have hxm := List.mem_of_getElem? hx
    obtain ⟨acc, hacc⟩ : ∃ acc, (a.l.take j).filterMap (mrgB b.l) = acc := ⟨_, rfl⟩
    have hal : acc.length ≤ 1048576 := by
      rw [← hacc]
      have := filterMap_len (mrgB b.l) (a.l.take j)
      rw [List.length_take] at this
      omega
    have hn1 : (a.l.take (j + 1)).filterMap (mrgB b.l) = acc ++ (mrgB b.l x).toList := by
      rw [List.take_add_one, hx, List.filterMap_append, hacc]
      refine congrArg (acc ++ ·) ?_
      simp only [Option.toList_some]
      cases h : mrgB b.l x with
      | none => rw [List.filterMap_cons_none h]; rfl
      | some z => rw [List.filterMap_cons_some h]; rfl
    have hf := find_ok (G := G) b x.id
    rw [hacc] at e3
    try simp only [go_sem, reduceIte, Nat.reduceEqDiff, Nat.reduceAdd, Nat.reduceSub, Nat.reduceMul, Nat.reduceLT, Nat.reduceLeDiff, Nat.reducePow, Int.reduceToNat, Int.reduceLT, Int.reduceLE, Int.reduceEq, Int.reduceNe, Int.reduceAdd, Int.reduceSub, Int.reduceMul, Int.reduceNeg, q2, q3, q4, q5, q37, q38, q39, e0, e1, e2, e3, ex]
    refine ⟨by rw [List.length_map]; omega, new_any fun b4 hb => ?_⟩
    have m0 := box_ne hb e0
    have m1 := box_ne hb e1
    have m2 := box_ne hb e2
    have m3 := box_ne hb e3
    clear hb
    try simp only [go_sem, reduceIte, Nat.reduceEqDiff, Nat.reduceAdd, Nat.reduceSub, Nat.reduceMul, Nat.reduceLT, Nat.reduceLeDiff, Nat.reducePow, Int.reduceToNat, Int.reduceLT, Int.reduceLE, Int.reduceEq, Int.reduceNe, Int.reduceAdd, Int.reduceSub, Int.reduceMul, Int.reduceNeg, q2, q3, q4, q5, q37, q38, q39, e0, e1, e2, e3, ex, m0, m1, m2, m3]
    cases hfb : findB b.l x.id with
    | none =>
      rw [hfb] at hf
      simp only [Sm.cells, orZ, Option.getD_none, Option.isSome_none, Bd.zero, Vl.zero, Bd.cells] at hf
      refine cK_vn hf ?_
      have hm : mrgB b.l x = none := by rw [mrgB, hfb]; rfl
      rw [hm] at hn1
      try simp only [go_sem, reduceIte, Nat.reduceEqDiff, Nat.reduceAdd, Nat.reduceSub, Nat.reduceMul, Nat.reduceLT, Nat.reduceLeDiff, Nat.reducePow, Int.reduceToNat, Int.reduceLT, Int.reduceLE, Int.reduceEq, Int.reduceNe, Int.reduceAdd, Int.reduceSub, Int.reduceMul, Int.reduceNeg, q2, q3, q4, q5, q37, q38, q39, e0, e1, e2, e3, ex, m0, m1, m2, m3]
      refine new_any fun b5 hb => ?_
      simp only [set_none] at hb
      have p0 := box_ne hb.2.2 e0
      have p1 := box_ne hb.2.2 e1
      have p2 := box_ne hb.2.2 e2
      have p3 := box_ne hb.2.2 e3
      try simp only [go_sem, reduceIte, Nat.reduceEqDiff, Nat.reduceAdd, Nat.reduceSub, Nat.reduceMul, Nat.reduceLT, Nat.reduceLeDiff, Nat.reducePow, Int.reduceToNat, Int.reduceLT, Int.reduceLE, Int.reduceEq, Int.reduceNe, Int.reduceAdd, Int.reduceSub, Int.reduceMul, Int.reduceNeg, q2, q3, q4, q5, q37, q38, q39, e0, e1, e2, e3, ex, m0, m1, m2, m3, p0, p1, p2, p3, hb, wj]
      refine ⟨⟨j + 1, tk, by omega, hw, ?_⟩, by omega⟩
      simp [Heap.set, e0, e1, e2, e3, m0, m1, m2, m3, p0, p1, p2, p3, hn1]
    | some y =>
      rw [hfb] at hf
      simp only [Sm.cells, orZ, Option.getD_some, Option.isSome_some, Bd.cells] at hf
      refine cK_vn hf ?_
      obtain ⟨kn, hkn⟩ : ∃ kn : Bd, (⟨x.id, x.nulls + y.nulls, lesserV x.min y.min, greaterV x.max y.max⟩ : Bd) = kn := ⟨_, rfl⟩
      have hm : mrgB b.l x = some kn := by rw [mrgB, hfb, ← hkn]; rfl
      rw [hm] at hn1
      have hy := hn x hxm y (findB_some hfb).1
      have wn := wrap_i64 hy.1 hy.2
      have hc1 := lesser_ok (G := G) x.min y.min
      have hc2 := greater_ok (G := G) x.max y.max
      simp only [Vl.cells] at hc1 hc2
      try simp only [go_sem, reduceIte, Nat.reduceEqDiff, Nat.reduceAdd, Nat.reduceSub, Nat.reduceMul, Nat.reduceLT, Nat.reduceLeDiff, Nat.reducePow, Int.reduceToNat, Int.reduceLT, Int.reduceLE, Int.reduceEq, Int.reduceNe, Int.reduceAdd, Int.reduceSub, Int.reduceMul, Int.reduceNeg, q2, q3, q4, q5, q37, q38, q39, e0, e1, e2, e3, ex, m0, m1, m2, m3]
      refine new_any fun b5 hb => ?_
      simp only [set_none] at hb
      have p0 := box_ne hb.2.2 e0
      have p1 := box_ne hb.2.2 e1
      have p2 := box_ne hb.2.2 e2
      have p3 := box_ne hb.2.2 e3
      repeat' (first | simp only [go_sem, reduceIte, Nat.reduceEqDiff, Nat.reduceAdd, Nat.reduceSub, Nat.reduceMul, Nat.reduceLT, Nat.reduceLeDiff, Nat.reducePow, Int.reduceToNat, Int.reduceLT, Int.reduceLE, Int.reduceEq, Int.reduceNe, Int.reduceAdd, Int.reduceSub, Int.reduceMul, Int.reduceNeg, q2, q3, q4, q5, q37, q38, q39, e0, e1, e2, e3, ex, m0, m1, m2, m3, p0, p1, p2, p3, hb, wj, wn, ho, hg] | refine cE_vn hc1 ?_ | refine cE_vn hc2 ?_ | (refine ⟨(show ¬ rdAdd _ _ _ _ _ from by simp [rdAdd, hb, m0, m1, m2, m3, p0, p1, p2, p3]), ?_⟩) | fail)
      refine ⟨Bd_cells8 _, by rw [List.length_map]; omega, fun t' _ => ⟨by simp [rdAdd, hb, m0, m1, m2, m3, p0, p1, p2, p3], ⟨j + 1, .live t' 8, by omega, TW.live 8 t', ?_⟩, by omega⟩⟩
      simp [Heap.set, e0, e1, e2, e3, m0, m1, m2, m3, p0, p1, p2, p3, hn1, ← hkn, Bd.d, Bd.cells, n23, h6]
  · try simp only [go_sem, reduceIte, Nat.reduceEqDiff, Nat.reduceAdd, Nat.reduceSub, Nat.reduceMul, Nat.reduceLT, Nat.reduceLeDiff, Nat.reducePow, Int.reduceToNat, Int.reduceLT, Int.reduceLE, Int.reduceEq, Int.reduceNe, Int.reduceAdd, Int.reduceSub, Int.reduceMul, Int.reduceNeg, q2, q3, q4, q5, q37, q38, q39, e0, e1, e2, e3]
    rw [List.take_of_length_le (by omega)]
    exact finK_drop ⟨by rw [mrgF, if_neg g1, if_neg g2]; rfl, rfl, rfl⟩
end Go.Proofs.YtnoenipdooackaaDoorS
