/-
  Programs: the law ProgramGuards.
  Conditions: none beyond the case's own.
-/
import Derived.Test.YtpblgfgcoamgmaaGreatG8
set_option linter.unusedVariables false
set_option linter.unusedSimpArgs false
namespace Go.Proofs.YtpblgfgcoamgmaaGreatS
open Go Go.Proofs.YtpblgfgcoamgmaaGreatV

variable {G : Heap}
attribute [local irreducible] VN VC VX VQ VY VW VTA VT0 VPP VP

theorem addF_I (g : Gu) (n : Int) (l : Ln) (h : I64 n) : I64 (addF g n l) := by
  unfold addF
  split
  · split
    · have h1 : IntKind.i64.signed = true := rfl
      have h2 : IntKind.i64.bits = 64 := rfl
      simp only [IntKind.wrap, h1, Bool.true_and, h2]
      have e1 : (2 : Int) ^ 64 = 18446744073709551616 := by decide
      have e2 : (2 : Int) ^ (64 - 1) = 9223372036854775808 := by decide
      simp only [e1, e2, decide_eq_true_eq]
      split <;> constructor <;> omega
    · exact h
  · exact h
theorem sumF_I (g : Gu) (t : Tbl) : I64 (sumF g t) := by
  have : ∀ (l : List Ln) (n : Int), I64 n → I64 (l.foldl (addF g) n) := by
    intro l
    induction l with
    | nil => intro n h; exact h
    | cons a l ih => intro n h; exact ih _ (addF_I g n a h)
  exact this t.l 0 (by constructor <;> decide)
theorem check_one (t : Tbl) (g : Gu) : checkF t [g] = if badG g (sumF g t) = true then (0, 270) else (1, 0) := by
  unfold checkF
  cases h : badG g (sumF g t) <;> simp [List.findIdx_cons, h]
theorem runF_one {fs : List Fd} {t : Tbl} (ht : TMd fs 30 t) (g : Gu) : ∃ v : Tbl, runF (Pr.nul, Pr.nul, [], [g]) t = (v, if badG g (sumF g t) = true then 270 else 0) := by
  have h1 := ht.len
  have h2 := ht.next
  have h3 : (keepL (Pr.nul, Pr.nul, [], [g]) t).length ≤ t.l.length := List.length_filter_le _ _
  unfold runF
  dsimp only
  rw [check_one]
  by_cases h : badG g (sumF g t) = true
  · simp only [h, if_true]
    exact ⟨_, rfl⟩
  · have h' := (Bool.not_eq_true _).mp h
    simp only [h', Bool.false_eq_true, if_false]
    rw [if_neg (by simp), if_neg (by simp only [List.length_nil]; omega)]
    exact ⟨_, rfl⟩
set_option maxRecDepth 100000 in
set_option maxHeartbeats 16000000 in
theorem guards27_ok (c : Cs) (hc : CsOk c) : VN P G 4 [.agg c.cells] (.bool true) := by
  have hs := law27_sanity_ok (G := G)
  have hm := made27_ok (G := G) c hc
  simp only [Cs.cells] at hm ⊢
  unfold VN
  refine VC.ofs (fun | 99999999 => [(0, [0, 1, 2, 3, 5, 6, 7, 8, 9, 10, 11, 13, 14, 15, 16, 17, 18, 19, 20, 31, 41, 84, 130])] | _ => []) [2] mixed Tryz.func4 rfl rfl rfl rfl (by decide +kernel) (by simp) ?_
  simp only [go_sem, reduceIte, Nat.reduceEqDiff, Nat.reduceAdd, Nat.reduceSub, Nat.reduceMul, Nat.reduceLT, Nat.reduceLeDiff, Nat.reducePow, Int.reduceToNat, Int.reduceLT, Int.reduceLE, Int.reduceEq, Int.reduceNe, Int.reduceAdd, Int.reduceSub, Int.reduceMul, Int.reduceNeg]
  intro b1
  generalize hβ : Heap.set Heap.nil b1 _ = β0
  have e1 := hit_set hβ
  clear hβ
  have N := trivial
  try simp only [go_sem, reduceIte, Nat.reduceEqDiff, Nat.reduceAdd, Nat.reduceSub, Nat.reduceMul, Nat.reduceLT, Nat.reduceLeDiff, Nat.reducePow, Int.reduceToNat, Int.reduceLT, Int.reduceLE, Int.reduceEq, Int.reduceNe, Int.reduceAdd, Int.reduceSub, Int.reduceMul, Int.reduceNeg, e1]
  (first | refine cK_vn (hs) ?_ | refine cE_vn (hs) ?_)
  try simp only [go_sem, reduceIte, Nat.reduceEqDiff, Nat.reduceAdd, Nat.reduceSub, Nat.reduceMul, Nat.reduceLT, Nat.reduceLeDiff, Nat.reducePow, Int.reduceToNat, Int.reduceLT, Int.reduceLE, Int.reduceEq, Int.reduceNe, Int.reduceAdd, Int.reduceSub, Int.reduceMul, Int.reduceNeg, e1]
  refine cK_vx hm ?_
  rintro _ ⟨fs, nx, t, l, rfl, hso, ht, hl6, hg⟩
  have el : (l.map pgD).length = l.length := by simp
  have elt : (t.l.map lnD).length = t.l.length := by simp
  have hl30 := ht.len
  have hnx := ht.next
  simp only [Tbl.cells]
  try simp only [go_sem, reduceIte, Nat.reduceEqDiff, Nat.reduceAdd, Nat.reduceSub, Nat.reduceMul, Nat.reduceLT, Nat.reduceLeDiff, Nat.reducePow, Int.reduceToNat, Int.reduceLT, Int.reduceLE, Int.reduceEq, Int.reduceNe, Int.reduceAdd, Int.reduceSub, Int.reduceMul, Int.reduceNeg, e1]
  refine new_any fun b4 hb4 => ?_
  have N := And.intro N (box_ne hb4 e1)
  generalize hβ_ : Heap.set _ b4 _ = β_
  have e4 := hit_set hβ_
  have e1 := keep_new hβ_ hb4 e1
  clear hβ_ hb4
  try simp only [go_sem, reduceIte, Nat.reduceEqDiff, Nat.reduceAdd, Nat.reduceSub, Nat.reduceMul, Nat.reduceLT, Nat.reduceLeDiff, Nat.reducePow, Int.reduceToNat, Int.reduceLT, Int.reduceLE, Int.reduceEq, Int.reduceNe, Int.reduceAdd, Int.reduceSub, Int.reduceMul, Int.reduceNeg, N, e1, e4]
  refine new_any fun b5 hb5 => ?_
  have N := And.intro N (box_ne hb5 e1)
  have N := And.intro N (box_ne hb5 e4)
  try simp only [go_sem, reduceIte, Nat.reduceEqDiff, Nat.reduceAdd, Nat.reduceSub, Nat.reduceMul, Nat.reduceLT, Nat.reduceLeDiff, Nat.reducePow, Int.reduceToNat, Int.reduceLT, Int.reduceLE, Int.reduceEq, Int.reduceNe, Int.reduceAdd, Int.reduceSub, Int.reduceMul, Int.reduceNeg, N, e1, e4]
  generalize hβ_ : Heap.set _ b5 _ = β_
  have e5 := hit_set hβ_
  clear hβ_ hb5
  refine vwq_loop (fun v => ∃ (i : Nat), i ≤ l.length ∧ v.σ 3 = .bool true ∧ v.σ 5 = .pb b5 0 ∧ v.σ 6 = .sl .none (l.map pgD) ∧ v.σ 7 = .int .i64 i ∧ v.β b5 = some [.int .i64 t.next, .sl .none (t.l.map lnD)] ∧ v.ω = []) (fun v => l.length - (ival (v.σ 7)).toNat) ⟨0, by omega, rfl, rfl, rfl, rfl, e5, rfl⟩ ?_
  clear e1 e4 e5
  rintro σ β ω ⟨i, hi, q3, q5, q6, q7, e5, rfl⟩
  dsimp only at q3 q5 q6 q7 e5
  try simp only [go_sem, reduceIte, Nat.reduceEqDiff, Nat.reduceAdd, Nat.reduceSub, Nat.reduceMul, Nat.reduceLT, Nat.reduceLeDiff, Nat.reducePow, Int.reduceToNat, Int.reduceLT, Int.reduceLE, Int.reduceEq, Int.reduceNe, Int.reduceAdd, Int.reduceSub, Int.reduceMul, Int.reduceNeg, q3, q5, q6, q7, e5, el]
  refine cd_dec (fun k => ?_) (fun k => ?_)
  rotate_left
  · try simp only [go_sem, reduceIte, Nat.reduceEqDiff, Nat.reduceAdd, Nat.reduceSub, Nat.reduceMul, Nat.reduceLT, Nat.reduceLeDiff, Nat.reducePow, Int.reduceToNat, Int.reduceLT, Int.reduceLE, Int.reduceEq, Int.reduceNe, Int.reduceAdd, Int.reduceSub, Int.reduceMul, Int.reduceNeg, q3, q5, q6, q7, e5]
    exact finK_drop ⟨rfl, rfl, rfl⟩
  have k' := eq_true k
  obtain ⟨g, hgx, eg⟩ := Pg_at (l := l) (j := i) (by omega)
  have hgm := hg g (List.mem_of_getElem? hgx)
  have hG3 := hgm.nGd
  have c1 : ((0 : Int) ≤ i) = True := eq_true (by omega)
  have wi := wrap_i64 (x := (i : Int) + 1) (by omega) (by omega)
  have egs : (g.2.2.2.map guD).length = g.2.2.2.length := by simp
  try simp only [go_sem, reduceIte, Nat.reduceEqDiff, Nat.reduceAdd, Nat.reduceSub, Nat.reduceMul, Nat.reduceLT, Nat.reduceLeDiff, Nat.reducePow, Int.reduceToNat, Int.reduceLT, Int.reduceLE, Int.reduceEq, Int.reduceNe, Int.reduceAdd, Int.reduceSub, Int.reduceMul, Int.reduceNeg, q3, q5, q6, q7, e5, el, eg, c1, k']
  refine vwq_loop (fun v => ∃ (j : Nat), j ≤ g.2.2.2.length ∧ v.σ 3 = .bool true ∧ v.σ 5 = .pb b5 0 ∧ v.σ 6 = .sl .none (l.map pgD) ∧ v.σ 7 = .int .i64 i ∧ v.σ 8 = .int .i64 j ∧ v.β b5 = some [.int .i64 t.next, .sl .none (t.l.map lnD)] ∧ v.ω = []) (fun v => g.2.2.2.length - (ival (v.σ 8)).toNat) ⟨0, by omega, rfl, rfl, rfl, rfl, rfl, e5, rfl⟩ ?_
  clear e5 q3 q5 q6 q7
  rintro σ β ω ⟨j, hj, q3, q5, q6, q7, q8, e5, rfl⟩
  dsimp only at q3 q5 q6 q7 q8 e5
  try simp only [go_sem, reduceIte, Nat.reduceEqDiff, Nat.reduceAdd, Nat.reduceSub, Nat.reduceMul, Nat.reduceLT, Nat.reduceLeDiff, Nat.reducePow, Int.reduceToNat, Int.reduceLT, Int.reduceLE, Int.reduceEq, Int.reduceNe, Int.reduceAdd, Int.reduceSub, Int.reduceMul, Int.reduceNeg, q3, q5, q6, q7, q8, e5, el, eg, c1, k', egs]
  refine cd_dec (fun kj => ?_) (fun kj => ?_)
  rotate_left
  · try simp only [go_sem, reduceIte, Nat.reduceEqDiff, Nat.reduceAdd, Nat.reduceSub, Nat.reduceMul, Nat.reduceLT, Nat.reduceLeDiff, Nat.reducePow, Int.reduceToNat, Int.reduceLT, Int.reduceLE, Int.reduceEq, Int.reduceNe, Int.reduceAdd, Int.reduceSub, Int.reduceMul, Int.reduceNeg, q3, q5, q6, q7, q8, e5, wi]
    exact ⟨⟨i + 1, by omega, rfl⟩, by omega⟩
  have kj' := eq_true kj
  obtain ⟨x, hx, ex⟩ := Gu_at (l := g.2.2.2) (j := j) (by omega)
  have hxm := hgm.gd x (List.mem_of_getElem? hx)
  have c2 : ((0 : Int) ≤ j) = True := eq_true (by omega)
  have wj := wrap_i64 (x := (j : Int) + 1) (by omega) (by omega)
  have hsum := rSum_ok (G := G) x t hxm.pr.lim
  obtain ⟨n, hn⟩ : ∃ n, sumF x t = n := ⟨_, rfl⟩
  have hnI : I64 n := by rw [← hn]; exact sumF_I x t
  obtain ⟨v, hrun⟩ := runF_one ht x
  have hr := run27 (G := G) (Pr.nul, Pr.nul, [], [x]) t _ ⟨by omega, by omega⟩ (by omega) hrun
  have hse : sumF (x.1, x.2.1, n, n) t = n := hn
  have hsf : sumF (x.1, x.2.1, -9223372036854775808, 9223372036854775807) t = n := hn
  have hsm : sumF (x.1, x.2.1, 1, 0) t = n := hn
  have be : badG (x.1, x.2.1, n, n) n = false := by simp [badG]
  have bf : badG (x.1, x.2.1, -9223372036854775808, 9223372036854775807) n = false := by simp [badG]; have := hnI.1; have := hnI.2; omega
  have bm : badG (x.1, x.2.1, 1, 0) n = true := by simp [badG]; omega
  have hc1 := check27 (G := G) (Pr.nul, Pr.nul, [], [(x.1, x.2.1, n, n), (x.1, x.2.1, -9223372036854775808, 9223372036854775807), (x.1, x.2.1, n, n)]) t (3, 0) (by simp [checkF, List.findIdx_cons, hse, hsf, be, bf])
  have hc2 := check27 (G := G) (Pr.nul, Pr.nul, [], [(x.1, x.2.1, n, n), (x.1, x.2.1, -9223372036854775808, 9223372036854775807), (x.1, x.2.1, 1, 0), (x.1, x.2.1, 1, 0)]) t (2, 270) (by simp [checkF, List.findIdx_cons, hse, hsf, hsm, be, bf, bm])
  rw [hn] at hsum hr
  simp only [Tbl.cells, guC] at hsum hr hc1 hc2
  try simp only [go_sem, reduceIte, Nat.reduceEqDiff, Nat.reduceAdd, Nat.reduceSub, Nat.reduceMul, Nat.reduceLT, Nat.reduceLeDiff, Nat.reducePow, Int.reduceToNat, Int.reduceLT, Int.reduceLE, Int.reduceEq, Int.reduceNe, Int.reduceAdd, Int.reduceSub, Int.reduceMul, Int.reduceNeg, q3, q5, q6, q7, q8, e5, el, eg, c1, k', egs, ex, c2, kj']
  refine new_any fun b9 hb9 => ?_
  have N := And.intro N (box_ne hb9 e5)
  generalize hβ_ : Heap.set _ b9 _ = β_
  have e9 := hit_set hβ_
  have e5 := keep_new hβ_ hb9 e5
  clear hβ_ hb9
  try simp only [go_sem, reduceIte, Nat.reduceEqDiff, Nat.reduceAdd, Nat.reduceSub, Nat.reduceMul, Nat.reduceLT, Nat.reduceLeDiff, Nat.reducePow, Int.reduceToNat, Int.reduceLT, Int.reduceLE, Int.reduceEq, Int.reduceNe, Int.reduceAdd, Int.reduceSub, Int.reduceMul, Int.reduceNeg, N, q3, q5, q6, q7, q8, e5, e9]
  (first | refine cK_vn (hsum) ?_ | refine cE_vn (hsum) ?_)
  try simp only [go_sem, reduceIte, Nat.reduceEqDiff, Nat.reduceAdd, Nat.reduceSub, Nat.reduceMul, Nat.reduceLT, Nat.reduceLeDiff, Nat.reducePow, Int.reduceToNat, Int.reduceLT, Int.reduceLE, Int.reduceEq, Int.reduceNe, Int.reduceAdd, Int.reduceSub, Int.reduceMul, Int.reduceNeg, N, q3, q5, q6, q7, q8, e5, e9]
  have hW : ((x.2.2.1 ≤ n ∧ n ≤ x.2.2.2) = True ∧ badG x n = false) ∨ ((x.2.2.1 ≤ n ∧ n ≤ x.2.2.2) = False ∧ badG x n = true) := by
    unfold badG
    by_cases h : x.2.2.1 ≤ n ∧ n ≤ x.2.2.2
    · exact .inl ⟨eq_true h, decide_eq_false (by omega)⟩
    · exact .inr ⟨eq_false h, decide_eq_true (by omega)⟩
  rcases hW with ⟨hW, hb⟩ | ⟨hW, hb⟩
  all_goals
    rw [hb] at hr
    simp only [if_true, if_false, Bool.false_eq_true] at hr
    first | refine cK_lit hr (by rfl) ?_ | refine cE_lit hr (by rfl) ?_
    try simp only [go_sem, reduceIte, Nat.reduceEqDiff, Nat.reduceAdd, Nat.reduceSub, Nat.reduceMul, Nat.reduceLT, Nat.reduceLeDiff, Nat.reducePow, Int.reduceToNat, Int.reduceLT, Int.reduceLE, Int.reduceEq, Int.reduceNe, Int.reduceAdd, Int.reduceSub, Int.reduceMul, Int.reduceNeg, N, q3, q5, q6, q7, q8, e5, e9, hW]
    refine new_any fun b12 hb12 => ?_
    have N := And.intro N (box_ne hb12 e5)
    have N := And.intro N (box_ne hb12 e9)
    generalize hβ_ : Heap.set _ b12 _ = β_
    have e12 := hit_set hβ_
    have e5 := keep_new hβ_ hb12 e5
    have e9 := keep_new hβ_ hb12 e9
    clear hβ_ hb12
    try simp only [go_sem, reduceIte, Nat.reduceEqDiff, Nat.reduceAdd, Nat.reduceSub, Nat.reduceMul, Nat.reduceLT, Nat.reduceLeDiff, Nat.reducePow, Int.reduceToNat, Int.reduceLT, Int.reduceLE, Int.reduceEq, Int.reduceNe, Int.reduceAdd, Int.reduceSub, Int.reduceMul, Int.reduceNeg, N, q3, q5, q6, q7, q8, e5, e9, hW, decide_true, decide_false, ne_eq, not_true_eq_false, beq_self_eq_true]
    refine new_any fun b14 hb14 => ?_
    have N := And.intro N (box_ne hb14 e5)
    have N := And.intro N (box_ne hb14 e9)
    try simp only [go_sem, reduceIte, Nat.reduceEqDiff, Nat.reduceAdd, Nat.reduceSub, Nat.reduceMul, Nat.reduceLT, Nat.reduceLeDiff, Nat.reducePow, Int.reduceToNat, Int.reduceLT, Int.reduceLE, Int.reduceEq, Int.reduceNe, Int.reduceAdd, Int.reduceSub, Int.reduceMul, Int.reduceNeg, N, e5, e9]
    generalize hβ_ : Heap.set _ b14 _ = β_
    have e14 := hit_set hβ_
    have e5 := keep_new hβ_ hb14 e5
    have e9 := keep_new hβ_ hb14 e9
    clear hβ_ hb14
    refine new_any fun b15 hb15 => ?_
    have N := And.intro N (box_ne hb15 e5)
    have N := And.intro N (box_ne hb15 e9)
    have N := And.intro N (box_ne hb15 e14)
    try simp only [go_sem, reduceIte, Nat.reduceEqDiff, Nat.reduceAdd, Nat.reduceSub, Nat.reduceMul, Nat.reduceLT, Nat.reduceLeDiff, Nat.reducePow, Int.reduceToNat, Int.reduceLT, Int.reduceLE, Int.reduceEq, Int.reduceNe, Int.reduceAdd, Int.reduceSub, Int.reduceMul, Int.reduceNeg, N, e5, e9, e14]
    generalize hβ_ : Heap.set _ b15 _ = β_
    have e15 := hit_set hβ_
    have e5 := keep_new hβ_ hb15 e5
    have e9 := keep_new hβ_ hb15 e9
    have e14 := keep_new hβ_ hb15 e14
    clear hβ_ hb15
    refine new_any fun b16 hb16 => ?_
    have N := And.intro N (box_ne hb16 e5)
    have N := And.intro N (box_ne hb16 e9)
    have N := And.intro N (box_ne hb16 e14)
    have N := And.intro N (box_ne hb16 e15)
    try simp only [go_sem, reduceIte, Nat.reduceEqDiff, Nat.reduceAdd, Nat.reduceSub, Nat.reduceMul, Nat.reduceLT, Nat.reduceLeDiff, Nat.reducePow, Int.reduceToNat, Int.reduceLT, Int.reduceLE, Int.reduceEq, Int.reduceNe, Int.reduceAdd, Int.reduceSub, Int.reduceMul, Int.reduceNeg, N, e5, e9, e14, e15]
    generalize hβ_ : Heap.set _ b16 _ = β_
    have e16 := hit_set hβ_
    have e5 := keep_new hβ_ hb16 e5
    have e9 := keep_new hβ_ hb16 e9
    have e14 := keep_new hβ_ hb16 e14
    have e15 := keep_new hβ_ hb16 e15
    clear hβ_ hb16
    try simp only [go_sem, reduceIte, Nat.reduceEqDiff, Nat.reduceAdd, Nat.reduceSub, Nat.reduceMul, Nat.reduceLT, Nat.reduceLeDiff, Nat.reducePow, Int.reduceToNat, Int.reduceLT, Int.reduceLE, Int.reduceEq, Int.reduceNe, Int.reduceAdd, Int.reduceSub, Int.reduceMul, Int.reduceNeg, N, q3, q5, q6, q7, q8, e5, e14, e15, e16]
    first | refine cK_lit hc1 (by rfl) ?_ | refine cE_lit hc1 (by rfl) ?_
    try simp only [go_sem, reduceIte, Nat.reduceEqDiff, Nat.reduceAdd, Nat.reduceSub, Nat.reduceMul, Nat.reduceLT, Nat.reduceLeDiff, Nat.reducePow, Int.reduceToNat, Int.reduceLT, Int.reduceLE, Int.reduceEq, Int.reduceNe, Int.reduceAdd, Int.reduceSub, Int.reduceMul, Int.reduceNeg, N, q3, q5, q6, q7, q8, e5, e14, e15, e16]
    first | refine cK_lit hc2 (by rfl) ?_ | refine cE_lit hc2 (by rfl) ?_
    try simp only [go_sem, reduceIte, Nat.reduceEqDiff, Nat.reduceAdd, Nat.reduceSub, Nat.reduceMul, Nat.reduceLT, Nat.reduceLeDiff, Nat.reducePow, Int.reduceToNat, Int.reduceLT, Int.reduceLE, Int.reduceEq, Int.reduceNe, Int.reduceAdd, Int.reduceSub, Int.reduceMul, Int.reduceNeg, N, q3, q5, q6, q7, q8, e5, e14, e15, e16, wj, decide_false, ne_eq, not_true_eq_false]
    exact ⟨⟨j + 1, by omega, rfl⟩, by omega⟩
end Go.Proofs.YtpblgfgcoamgmaaGreatS
