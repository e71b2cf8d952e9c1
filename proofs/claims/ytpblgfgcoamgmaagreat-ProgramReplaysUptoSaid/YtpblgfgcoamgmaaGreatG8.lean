/-
  Texts of this proof, merged: K1 J4 J5.
  Conditions: as said at each part.
-/
import Derived.Test.YtpblgfgcoamgmaaGreatG7
set_option linter.unusedVariables false
set_option linter.unusedSimpArgs false
namespace Go.Proofs.YtpblgfgcoamgmaaGreatS
open Go Go.Proofs.YtpblgfgcoamgmaaGreatV

variable {G : Heap}
attribute [local irreducible] VN VC VX VQ VY VW VTA VT0 VPP VP

theorem lim_form : ∀ (n : Nat) (p : Pr), SizeOf.sizeOf p ≤ n → (∀ s ∈ subs p, FormP s) → p.Lim
  | 0, p, h, _ => by cases p; simp at h
  | n + 1, p, hn, h => by
    have h1 := h p (by rw [subs_eq]; simp)
    refine .mk p (by have := h1.k16; omega) fun k hk => lim_form n k (Nat.le_of_lt_succ (Nat.lt_of_lt_of_le (Pr.kid_lt (p := p) hk) hn)) fun s hs => h s ?_
    rw [subs_eq, subsL_flat]
    exact List.mem_cons_of_mem _ (List.mem_flatMap.2 ⟨k, hk, hs⟩)
theorem Vq.lim {fs : List Fd} {n : Nat} {q : Pr} (h : Vq fs n q) : q.Lim := lim_form _ q (Nat.le_refl _) h.vp.form
theorem filter_at {α : Type} {q : α → Bool} {l : List α} {j : Nat} {x : α} (h : l[j]? = some x) (hq : q x = true) : (l.filter q)[((l.take j).filter q).length]? = some x := by
  have e : l = l.take j ++ x :: l.drop (j + 1) := by rw [← drop_at h, List.take_append_drop]
  have e2 : l.filter q = (l.take j).filter q ++ x :: (l.drop (j + 1)).filter q := by
    conv => lhs; rw [e]
    rw [List.filter_append, List.filter_cons, if_pos hq]
  rw [e2, List.getElem?_append_right (Nat.le_refl _), Nat.sub_self]
  rfl
theorem filter_step {α : Type} {q : α → Bool} {l : List α} {j : Nat} {x : α} (h : l[j]? = some x) : ((l.take (j + 1)).filter q) = (l.take j).filter q ++ (if q x = true then [x] else []) := by
  rw [take_snoc' h, List.filter_append]
  by_cases hq : q x = true <;> simp [hq]
theorem addL_at : ∀ {n : Int} {l : List Rw} {j : Nat} {r : Rw}, l[j]? = some r → (addL n l)[j]? = some (n + j, r)
  | n, [], j, r, h => by simp at h
  | n, a :: l, 0, r, h => by simp at h; subst h; simp [addL]
  | n, a :: l, j + 1, r, h => by
    have := addL_at (n := n + 1) (l := l) (j := j) (r := r) (by simpa using h)
    simp only [addL, List.getElem?_cons_succ, this, Option.some.injEq, Prod.mk.injEq, and_true]
    omega
theorem addL_num : ∀ {n : Int} {l : List Rw} {x : Ln}, x ∈ addL n l → n ≤ x.1 ∧ x.1 < n + l.length
  | n, [], x, h => by simp [addL] at h
  | n, a :: l, x, h => by
    simp only [addL, List.mem_cons] at h
    rcases h with rfl | h
    · simp; omega
    · have := addL_num h; simp only [List.length_cons]; omega
theorem addL_asc : ∀ (n : Int) (l : List Rw), (addL n l).Pairwise fun a b => a.1 < b.1
  | n, [] => by simp [addL]
  | n, a :: l => by
    simp only [addL, List.pairwise_cons]
    exact ⟨fun b hb => by have := addL_num hb; omega, addL_asc (n + 1) l⟩
theorem run_free {fs : List Fd} {g : Pg} {t : Tbl} (ht : TMd fs 30 t) (hg : g.2.2.1.length ≤ 4) (h0 : g.2.2.2 = []) : runF g t = (⟨t.next + g.2.2.1.length, keepL g t ++ addL t.next g.2.2.1⟩, 0) := by
  have h1 := ht.len
  have h2 := ht.next
  have h3 : (keepL g t).length ≤ t.l.length := List.length_filter_le _ _
  unfold runF
  rw [h0]
  rw [if_neg (by simp [checkF]), if_neg (by omega)]
theorem tok_run {fs : List Fd} {g : Pg} {t : Tbl} (ht : TMd fs 30 t) (hg : g.2.2.1.length ≤ 4) : TOk ⟨t.next + g.2.2.1.length, keepL g t ++ addL t.next g.2.2.1⟩ := by
  have h1 := ht.len
  have h2 := ht.next
  have h3 : (keepL g t).length ≤ t.l.length := List.length_filter_le _ _
  refine ⟨?_, fun l hl => ?_, by dsimp only; omega, by simp only [List.length_append, addL_len]; omega⟩
  · dsimp only
    rw [List.pairwise_append]
    refine ⟨ht.asc.filter _, addL_asc _ _, fun a ha b hb => ?_⟩
    have p1 := ht.num a (List.mem_filter.1 ha).1
    have p2 := addL_num hb
    omega
  · rcases List.mem_append.1 hl with hl | hl
    · have := ht.num l (List.mem_filter.1 hl).1; dsimp only; omega
    · have := addL_num hl; dsimp only; omega
set_option maxRecDepth 100000 in
set_option maxHeartbeats 8000000 in
theorem keeps27_ok (c : Cs) (hc : CsOk c) : VN P G 3 [.agg c.cells] (.bool true) := by
  have hs := law27_sanity_ok (G := G)
  have hm := made27_ok (G := G) c hc
  simp only [Cs.cells] at hm ⊢
  unfold VN
  refine VC.ofs (fun | 15 => [(0, []), (1, []), (2, []), (3, []), (4, []), (5, []), (6, []), (7, []), (8, [])] | 16 => [(0, []), (1, []), (2, []), (3, []), (4, []), (5, []), (6, []), (7, []), (8, []), (9, []), (10, []), (11, []), (12, []), (13, []), (14, []), (15, []), (16, []), (17, []), (18, []), (19, []), (20, []), (21, []), (22, []), (23, []), (24, []), (25, []), (26, []), (27, []), (28, []), (29, []), (30, []), (31, []), (32, []), (33, []), (34, []), (35, [])] | 24 => [(0, []), (1, []), (2, []), (3, []), (4, []), (5, []), (6, []), (7, []), (8, []), (9, []), (10, []), (11, []), (12, []), (13, []), (14, []), (15, []), (16, []), (17, []), (18, []), (19, []), (20, []), (21, []), (22, []), (23, []), (24, []), (25, []), (26, []), (27, []), (28, []), (29, [])] | 99999999 => [(0, [0, 1, 2, 3, 5, 6, 7, 8, 9, 10, 11, 12, 13, 24, 55, 60, 71, 107, 118, 123, 155])] | _ => []) [2] mixed Tryz.func3 rfl rfl rfl rfl (by decide +kernel) (by simp) ?_
  simp only [go_sem, reduceIte, Nat.reduceEqDiff, Nat.reduceAdd, Nat.reduceSub, Nat.reduceMul, Nat.reduceLT, Nat.reduceLeDiff, Nat.reducePow, Int.reduceToNat, Int.reduceLT, Int.reduceLE, Int.reduceEq, Int.reduceNe, Int.reduceAdd, Int.reduceSub, Int.reduceMul, Int.reduceNeg]
  intro b1
  generalize hβ : Heap.set Heap.nil b1 _ = β0
  have e1 := hit_set hβ
  clear hβ
  have N := trivial
  try simp only [go_sem, reduceIte, Nat.reduceEqDiff, Nat.reduceAdd, Nat.reduceSub, Nat.reduceMul, Nat.reduceLT, Nat.reduceLeDiff, Nat.reducePow, Int.reduceToNat, Int.reduceLT, Int.reduceLE, Int.reduceEq, Int.reduceNe, Int.reduceAdd, Int.reduceSub, Int.reduceMul, Int.reduceNeg, e1]
  (first | refine cK_vn (hs) ?_ | refine cE_vn (hs) ?_)
  try simp only [go_sem, reduceIte, Nat.reduceEqDiff, Nat.reduceAdd, Nat.reduceSub, Nat.reduceMul, Nat.reduceLT, Nat.reduceLeDiff, Nat.reducePow, Int.reduceToNat, Int.reduceLT, Int.reduceLE, Int.reduceEq, Int.reduceNe, Int.reduceAdd, Int.reduceSub, Int.reduceMul, Int.reduceNeg, e1]
  refine cK_vx hm ?_
  rintro _ ⟨fs, nx, t, l, rfl, hso, ht, hl6, hg⟩
  have el : (l.map pgD).length = l.length := by simp
  have elt : (t.l.map lnD).length = t.l.length := by simp
  have hl30 := ht.len
  have hnx := ht.next
  simp only [Tbl.cells]
  try simp only [go_sem, reduceIte, Nat.reduceEqDiff, Nat.reduceAdd, Nat.reduceSub, Nat.reduceMul, Nat.reduceLT, Nat.reduceLeDiff, Nat.reducePow, Int.reduceToNat, Int.reduceLT, Int.reduceLE, Int.reduceEq, Int.reduceNe, Int.reduceAdd, Int.reduceSub, Int.reduceMul, Int.reduceNeg, e1]
  refine new_any fun b4 hb4 => ?_
  have N := And.intro N (box_ne hb4 e1)
  generalize hβ_ : Heap.set _ b4 _ = β_
  have e4 := hit_set hβ_
  have e1 := keep_new hβ_ hb4 e1
  clear hβ_ hb4
  try simp only [go_sem, reduceIte, Nat.reduceEqDiff, Nat.reduceAdd, Nat.reduceSub, Nat.reduceMul, Nat.reduceLT, Nat.reduceLeDiff, Nat.reducePow, Int.reduceToNat, Int.reduceLT, Int.reduceLE, Int.reduceEq, Int.reduceNe, Int.reduceAdd, Int.reduceSub, Int.reduceMul, Int.reduceNeg, N, e1, e4]
  refine new_any fun b5 hb5 => ?_
  have N := And.intro N (box_ne hb5 e1)
  have N := And.intro N (box_ne hb5 e4)
  try simp only [go_sem, reduceIte, Nat.reduceEqDiff, Nat.reduceAdd, Nat.reduceSub, Nat.reduceMul, Nat.reduceLT, Nat.reduceLeDiff, Nat.reducePow, Int.reduceToNat, Int.reduceLT, Int.reduceLE, Int.reduceEq, Int.reduceNe, Int.reduceAdd, Int.reduceSub, Int.reduceMul, Int.reduceNeg, N, e1, e4]
  generalize hβ_ : Heap.set _ b5 _ = β_
  have e5 := hit_set hβ_
  clear hβ_ hb5
  refine vwq_loop (fun v => ∃ (i : Nat), i ≤ l.length ∧ v.σ 3 = .bool true ∧ v.σ 5 = .pb b5 0 ∧ v.σ 6 = .sl .none (l.map pgD) ∧ v.σ 7 = .int .i64 i ∧ v.β b5 = some [.int .i64 t.next, .sl .none (t.l.map lnD)] ∧ v.ω = []) (fun v => l.length - (ival (v.σ 7)).toNat) ⟨0, by omega, rfl, rfl, rfl, rfl, e5, rfl⟩ ?_
  clear e1 e4 e5
  rintro σ β ω ⟨i, hi, q3, q5, q6, q7, e5, rfl⟩
  dsimp only at q3 q5 q6 q7 e5
  try simp only [go_sem, reduceIte, Nat.reduceEqDiff, Nat.reduceAdd, Nat.reduceSub, Nat.reduceMul, Nat.reduceLT, Nat.reduceLeDiff, Nat.reducePow, Int.reduceToNat, Int.reduceLT, Int.reduceLE, Int.reduceEq, Int.reduceNe, Int.reduceAdd, Int.reduceSub, Int.reduceMul, Int.reduceNeg, q3, q5, q6, q7, e5, el]
  refine cd_dec (fun k => ?_) (fun k => ?_)
  rotate_left
  · try simp only [go_sem, reduceIte, Nat.reduceEqDiff, Nat.reduceAdd, Nat.reduceSub, Nat.reduceMul, Nat.reduceLT, Nat.reduceLeDiff, Nat.reducePow, Int.reduceToNat, Int.reduceLT, Int.reduceLE, Int.reduceEq, Int.reduceNe, Int.reduceAdd, Int.reduceSub, Int.reduceMul, Int.reduceNeg, q3, q5, q6, q7, e5]
    exact finK_drop ⟨rfl, rfl, rfl⟩
  have k' := eq_true k
  obtain ⟨g, hgx, eg⟩ := Pg_at (l := l) (j := i) (by omega)
  have hgm := hg g (List.mem_of_getElem? hgx)
  have c1 : ((0 : Int) ≤ i) = True := eq_true (by omega)
  have wi := wrap_i64 (x := (i : Int) + 1) (by omega) (by omega)
  have hA4 := hgm.nAdd
  have hrun := run_free (g := (g.1, g.2.1, g.2.2.1, [])) ht hA4 rfl
  have hr := run27 (G := G) (g.1, g.2.1, g.2.2.1, []) t _ ⟨by omega, by omega⟩ (by omega) hrun
  have hv := ValidTable_ok (G := G) _ (tok_run (g := g) ht hA4)
  have hK : keepL (g.1, g.2.1, g.2.2.1, []) t = keepL g t := rfl
  dsimp only at hr
  rw [hK] at hr
  obtain ⟨K, hKe⟩ : ∃ K, keepL g t = K := ⟨_, rfl⟩
  rw [hKe] at hr hv
  have hK30 : K.length ≤ t.l.length := by rw [← hKe]; exact List.length_filter_le _ _
  obtain ⟨u, hu⟩ : ∃ u, K ++ addL t.next g.2.2.1 = u := ⟨_, rfl⟩
  rw [hu] at hr hv
  have hul : u.length = K.length + g.2.2.1.length := by rw [← hu, List.length_append, addL_len]
  have elu : (u.map lnD).length = u.length := by simp
  have ea : (g.2.2.1.map rwD).length = g.2.2.1.length := by simp
  simp only [Tbl.cells] at hr hv
  have wn := wrap_i64 (x := t.next + (g.2.2.1.length : Int)) (by omega) (by omega)
  try simp only [go_sem, reduceIte, Nat.reduceEqDiff, Nat.reduceAdd, Nat.reduceSub, Nat.reduceMul, Nat.reduceLT, Nat.reduceLeDiff, Nat.reducePow, Int.reduceToNat, Int.reduceLT, Int.reduceLE, Int.reduceEq, Int.reduceNe, Int.reduceAdd, Int.reduceSub, Int.reduceMul, Int.reduceNeg, q3, q5, q6, q7, e5, el, eg, c1, k']
  refine new_any fun b8 hb8 => ?_
  have N := And.intro N (box_ne hb8 e5)
  generalize hβ_ : Heap.set _ b8 _ = β_
  have e8 := hit_set hβ_
  have e5 := keep_new hβ_ hb8 e5
  clear hβ_ hb8
  try simp only [go_sem, reduceIte, Nat.reduceEqDiff, Nat.reduceAdd, Nat.reduceSub, Nat.reduceMul, Nat.reduceLT, Nat.reduceLeDiff, Nat.reducePow, Int.reduceToNat, Int.reduceLT, Int.reduceLE, Int.reduceEq, Int.reduceNe, Int.reduceAdd, Int.reduceSub, Int.reduceMul, Int.reduceNeg, N, q3, q5, q6, q7, e5, e8]
  first | refine cK_lit hr (by rfl) ?_ | refine cE_lit hr (by rfl) ?_
  try simp only [go_sem, reduceIte, Nat.reduceEqDiff, Nat.reduceAdd, Nat.reduceSub, Nat.reduceMul, Nat.reduceLT, Nat.reduceLeDiff, Nat.reducePow, Int.reduceToNat, Int.reduceLT, Int.reduceLE, Int.reduceEq, Int.reduceNe, Int.reduceAdd, Int.reduceSub, Int.reduceMul, Int.reduceNeg, N, q3, q5, q6, q7, e5, e8]
  refine new_any fun b9 hb9 => ?_
  have N := And.intro N (box_ne hb9 e5)
  have N := And.intro N (box_ne hb9 e8)
  generalize hβ_ : Heap.set _ b9 _ = β_
  have e9 := hit_set hβ_
  have e5 := keep_new hβ_ hb9 e5
  have e8 := keep_new hβ_ hb9 e8
  clear hβ_ hb9
  try simp only [go_sem, reduceIte, Nat.reduceEqDiff, Nat.reduceAdd, Nat.reduceSub, Nat.reduceMul, Nat.reduceLT, Nat.reduceLeDiff, Nat.reducePow, Int.reduceToNat, Int.reduceLT, Int.reduceLE, Int.reduceEq, Int.reduceNe, Int.reduceAdd, Int.reduceSub, Int.reduceMul, Int.reduceNeg, N, q3, q5, q6, q7, e5, e8, e9, ea, wn, ne_eq, not_true_eq_false, decide_false]
  (first | refine cK_vn (hv) ?_ | refine cE_vn (hv) ?_)
  try simp only [go_sem, reduceIte, Nat.reduceEqDiff, Nat.reduceAdd, Nat.reduceSub, Nat.reduceMul, Nat.reduceLT, Nat.reduceLeDiff, Nat.reducePow, Int.reduceToNat, Int.reduceLT, Int.reduceLE, Int.reduceEq, Int.reduceNe, Int.reduceAdd, Int.reduceSub, Int.reduceMul, Int.reduceNeg, N, q3, q5, q6, q7, e5, e8, e9, ea, wn, ne_eq, not_true_eq_false, decide_false]
  refine vwq_loop (fun v => ∃ (j : Nat), j ≤ t.l.length ∧ v.σ 3 = .bool true ∧ v.σ 5 = .pb b5 0 ∧ v.σ 6 = .sl .none (l.map pgD) ∧ v.σ 7 = .int .i64 i ∧ v.σ 8 = .pb b8 0 ∧ v.σ 9 = .pb b9 0 ∧ v.σ 11 = .int .i64 ((t.l.take j).filter fun x => !matchF g.2.1 x.2).length ∧ v.σ 12 = .int .i64 j ∧ v.β = β_ ∧ v.ω = []) (fun v => t.l.length - (ival (v.σ 12)).toNat) ⟨0, by omega, rfl, rfl, rfl, rfl, rfl, rfl, rfl, rfl, rfl, rfl⟩ ?_
  rintro σ β ω ⟨j, hj, q3, q5, q6, q7, q8, q9, q11, q12, rfl, rfl⟩
  dsimp only at q3 q5 q6 q7 q8 q9 q11 q12 e5 e8 e9
  obtain ⟨m, hm⟩ : ∃ m, ((t.l.take j).filter fun x => !matchF g.2.1 x.2).length = m := ⟨_, rfl⟩
  have hmK : m ≤ K.length := by
    rw [← hm, ← hKe]
    exact ((List.take_sublist j t.l).filter _).length_le
  rw [hm] at q11
  try simp only [go_sem, reduceIte, Nat.reduceEqDiff, Nat.reduceAdd, Nat.reduceSub, Nat.reduceMul, Nat.reduceLT, Nat.reduceLeDiff, Nat.reducePow, Int.reduceToNat, Int.reduceLT, Int.reduceLE, Int.reduceEq, Int.reduceNe, Int.reduceAdd, Int.reduceSub, Int.reduceMul, Int.reduceNeg, q3, q5, q6, q7, q8, q9, q11, q12, e5, e8, e9, elt]
  refine cd_dec (fun kj => ?_) (fun kj => ?_)
  · have kj' := eq_true kj
    obtain ⟨x, hx, ex⟩ := Ln_at (l := t.l) (j := j) (by omega)
    have hmt := rMatch_ok (G := G) x.2 g.2.1 hgm.remove.lim
    simp only [Pr.cells] at hmt
    have c2 : ((0 : Int) ≤ j) = True := eq_true (by omega)
    have wj := wrap_i64 (x := (j : Int) + 1) (by omega) (by omega)
    have hstep := congrArg List.length (filter_step (q := fun x : Ln => !matchF g.2.1 x.2) hx)
    rw [List.length_append, hm] at hstep
    try simp only [go_sem, reduceIte, Nat.reduceEqDiff, Nat.reduceAdd, Nat.reduceSub, Nat.reduceMul, Nat.reduceLT, Nat.reduceLeDiff, Nat.reducePow, Int.reduceToNat, Int.reduceLT, Int.reduceLE, Int.reduceEq, Int.reduceNe, Int.reduceAdd, Int.reduceSub, Int.reduceMul, Int.reduceNeg, q3, q5, q6, q7, q8, q9, q11, q12, e5, e8, e9, elt, ex, c2, kj']
    (first | refine cK_vn (hmt) ?_ | refine cE_vn (hmt) ?_)
    cases hmx : matchF g.2.1 x.2
    all_goals rw [hmx] at hstep
    rotate_left
    · try simp only [go_sem, reduceIte, Nat.reduceEqDiff, Nat.reduceAdd, Nat.reduceSub, Nat.reduceMul, Nat.reduceLT, Nat.reduceLeDiff, Nat.reducePow, Int.reduceToNat, Int.reduceLT, Int.reduceLE, Int.reduceEq, Int.reduceNe, Int.reduceAdd, Int.reduceSub, Int.reduceMul, Int.reduceNeg, q3, q5, q6, q7, q8, q9, q11, q12, e5, e8, e9, elt, ex, c2, kj', wj]
      refine ⟨⟨j + 1, by omega, ?_, rfl⟩, by omega⟩
      rw [hstep]; simp
    · have hat := filter_at (q := fun x : Ln => !matchF g.2.1 x.2) hx (by simp [hmx])
      rw [hm] at hat
      have hat : K[m]? = some x := by rw [← hKe]; exact hat
      have hmk2 : m < K.length := (List.getElem?_eq_some_iff.1 hat).1
      have hua : u[m]? = some x := by rw [← hu, List.getElem?_append_left hmk2]; exact hat
      obtain ⟨y, hy, ey⟩ := Ln_at (l := u) (j := m) (by omega)
      obtain rfl : y = x := Option.some.inj (hy.symm.trans hua)
      have hsr := SameRow_refl (G := G) y.2
      have m1 : ((u.length : Int) ≤ m) = False := eq_false (by omega)
      have c3 : ((0 : Int) ≤ m) = True := eq_true (by omega)
      have m2 : ((m : Int) < u.length) = True := eq_true (by omega)
      have wm := wrap_i64 (x := (m : Int) + 1) (by omega) (by omega)
      try simp only [go_sem, reduceIte, Nat.reduceEqDiff, Nat.reduceAdd, Nat.reduceSub, Nat.reduceMul, Nat.reduceLT, Nat.reduceLeDiff, Nat.reducePow, Int.reduceToNat, Int.reduceLT, Int.reduceLE, Int.reduceEq, Int.reduceNe, Int.reduceAdd, Int.reduceSub, Int.reduceMul, Int.reduceNeg, q3, q5, q6, q7, q8, q9, q11, q12, e5, e8, e9, elt, ex, c2, kj', wj, elu, m1, m2, c3, ey, ne_eq, not_true_eq_false, decide_false]
      (first | refine cK_vn (hsr) ?_ | refine cE_vn (hsr) ?_)
      try simp only [go_sem, reduceIte, Nat.reduceEqDiff, Nat.reduceAdd, Nat.reduceSub, Nat.reduceMul, Nat.reduceLT, Nat.reduceLeDiff, Nat.reducePow, Int.reduceToNat, Int.reduceLT, Int.reduceLE, Int.reduceEq, Int.reduceNe, Int.reduceAdd, Int.reduceSub, Int.reduceMul, Int.reduceNeg, q3, q5, q6, q7, q8, q9, q11, q12, e5, e8, e9, elt, ex, c2, kj', wj, elu, m1, m2, c3, ey, ne_eq, not_true_eq_false, decide_false, wm]
      refine ⟨⟨j + 1, by omega, ?_, rfl⟩, by omega⟩
      rw [hstep]; simp
  obtain rfl : j = t.l.length := by omega
  rw [List.take_length] at hm
  have hm : K.length = m := by rw [← hm, ← hKe]; rfl
  subst hm
  have w5 := wrap_i64 (x := (K.length : Int) + g.2.2.1.length) (by omega) (by omega)
  have w6 : ((u.length : Int) = K.length + g.2.2.1.length) = True := eq_true (by omega)
  try simp only [go_sem, reduceIte, Nat.reduceEqDiff, Nat.reduceAdd, Nat.reduceSub, Nat.reduceMul, Nat.reduceLT, Nat.reduceLeDiff, Nat.reducePow, Int.reduceToNat, Int.reduceLT, Int.reduceLE, Int.reduceEq, Int.reduceNe, Int.reduceAdd, Int.reduceSub, Int.reduceMul, Int.reduceNeg, q3, q5, q6, q7, q8, q9, q11, q12, e5, e8, e9, elt, elu, ea, w5, w6, ne_eq, not_true_eq_false, decide_false]
  refine vwq_loop (fun v => ∃ (j : Nat), j ≤ g.2.2.1.length ∧ v.σ 3 = .bool true ∧ v.σ 5 = .pb b5 0 ∧ v.σ 6 = .sl .none (l.map pgD) ∧ v.σ 7 = .int .i64 i ∧ v.σ 8 = .pb b8 0 ∧ v.σ 9 = .pb b9 0 ∧ v.σ 11 = .int .i64 K.length ∧ v.σ 13 = .int .i64 j ∧ v.β = β ∧ v.ω = []) (fun v => g.2.2.1.length - (ival (v.σ 13)).toNat) ⟨0, by omega, rfl, rfl, rfl, rfl, rfl, rfl, rfl, rfl, rfl, rfl⟩ ?_
  clear q3 q5 q6 q7 q8 q9 q11 q12
  rintro σ β ω ⟨j, hj, q3, q5, q6, q7, q8, q9, q11, q13, rfl, rfl⟩
  dsimp only at q3 q5 q6 q7 q8 q9 q11 q13 e5 e8 e9
  try simp only [go_sem, reduceIte, Nat.reduceEqDiff, Nat.reduceAdd, Nat.reduceSub, Nat.reduceMul, Nat.reduceLT, Nat.reduceLeDiff, Nat.reducePow, Int.reduceToNat, Int.reduceLT, Int.reduceLE, Int.reduceEq, Int.reduceNe, Int.reduceAdd, Int.reduceSub, Int.reduceMul, Int.reduceNeg, q3, q5, q6, q7, q8, q9, q11, q13, e5, e8, e9, ea]
  refine cd_dec (fun kj => ?_) (fun kj => ?_)
  · have kj' := eq_true kj
    obtain ⟨x, hx, ex⟩ := Rw_at (l := g.2.2.1) (j := j) (by omega)
    have hsr := SameRow_refl (G := G) x
    have hua : u[K.length + j]? = some (t.next + (j : Int), x) := by
      rw [← hu, List.getElem?_append_right (by omega), show K.length + j - K.length = j by omega]
      exact addL_at hx
    obtain ⟨y, hy, ey⟩ := Ln_at (l := u) (j := K.length + j) (by omega)
    obtain rfl : y = (t.next + (j : Int), x) := Option.some.inj (hy.symm.trans hua)
    have c2 : ((0 : Int) ≤ j) = True := eq_true (by omega)
    have wj := wrap_i64 (x := (j : Int) + 1) (by omega) (by omega)
    have w7 := wrap_i64 (x := (K.length : Int) + j) (by omega) (by omega)
    have w8 : (K.length : Int) + j = ((K.length + j : Nat) : Int) := by omega
    rw [w8] at w7
    have w9 := wrap_i64 (x := t.next + (j : Int)) (by omega) (by omega)
    have c3 : ((0 : Int) ≤ ((K.length + j : Nat) : Int)) = True := eq_true (by omega)
    have c4 : (((K.length + j : Nat) : Int) < u.length) = True := eq_true (by omega)
    try simp only [go_sem, reduceIte, Nat.reduceEqDiff, Nat.reduceAdd, Nat.reduceSub, Nat.reduceMul, Nat.reduceLT, Nat.reduceLeDiff, Nat.reducePow, Int.reduceToNat, Int.reduceLT, Int.reduceLE, Int.reduceEq, Int.reduceNe, Int.reduceAdd, Int.reduceSub, Int.reduceMul, Int.reduceNeg, q3, q5, q6, q7, q8, q9, q11, q13, e5, e8, e9, ea, elu, ex, ey, c2, kj', w8, w7, w9, c3, c4, ne_eq, not_true_eq_false, decide_false]
    (first | refine cK_vn (hsr) ?_ | refine cE_vn (hsr) ?_)
    try simp only [go_sem, reduceIte, Nat.reduceEqDiff, Nat.reduceAdd, Nat.reduceSub, Nat.reduceMul, Nat.reduceLT, Nat.reduceLeDiff, Nat.reducePow, Int.reduceToNat, Int.reduceLT, Int.reduceLE, Int.reduceEq, Int.reduceNe, Int.reduceAdd, Int.reduceSub, Int.reduceMul, Int.reduceNeg, q3, q5, q6, q7, q8, q9, q11, q13, e5, e8, e9, ea, elu, ex, ey, c2, kj', w8, w7, w9, c3, c4, ne_eq, not_true_eq_false, decide_false, wj]
    exact ⟨⟨j + 1, by omega, rfl⟩, by omega⟩
  · try simp only [go_sem, reduceIte, Nat.reduceEqDiff, Nat.reduceAdd, Nat.reduceSub, Nat.reduceMul, Nat.reduceLT, Nat.reduceLeDiff, Nat.reducePow, Int.reduceToNat, Int.reduceLT, Int.reduceLE, Int.reduceEq, Int.reduceNe, Int.reduceAdd, Int.reduceSub, Int.reduceMul, Int.reduceNeg, q3, q5, q6, q7, q8, q9, q11, q13, e5, e8, e9, wi]
    exact ⟨⟨i + 1, by omega, rfl⟩, by omega⟩
end Go.Proofs.YtpblgfgcoamgmaaGreatS
set_option maxRecDepth 100000
namespace Go.Proofs.YtpblgfgcoamgmaaGreatS
open Go Go.Proofs.YtpblgfgcoamgmaaGreatV

end Go.Proofs.YtpblgfgcoamgmaaGreatS
set_option maxRecDepth 100000
namespace Go.Proofs.YtpblgfgcoamgmaaGreatS
open Go Go.Proofs.YtpblgfgcoamgmaaGreatV

theorem chC {n : Nat} {ys : List D} (h : HasC Tryz.prog n 124 ys) : ∃ c : Ch, ys = c.cells ∧ True := by
  obtain ⟨m, rfl, hf⟩ := h.struct Tryz.underlying124
  obtain ⟨z1, r1, h1, ⟨z2, r2, h2, ⟨z3, r3, h3, ⟨z4, r4, h4, ⟨z5, r5, h5, ⟨z6, r6, h6, ⟨z7, r7, h7, ⟨z8, r8, h8, hr, rfl⟩, rfl⟩, rfl⟩, rfl⟩, rfl⟩, rfl⟩, rfl⟩, rfl⟩ := hf
  cases hr
  obtain ⟨a1, rfl, _⟩ := h1.i64 Tryz.underlying3
  obtain ⟨a2, rfl, _⟩ := h2.i64 Tryz.underlying3
  obtain ⟨a3, rfl, _⟩ := h3.i64 Tryz.underlying3
  obtain ⟨a4, rfl⟩ := h4.str Tryz.underlying9
  obtain ⟨a5, rfl⟩ := h5.str Tryz.underlying9
  obtain ⟨a6, rfl, _⟩ := h6.i64 Tryz.underlying3
  obtain ⟨a7, rfl, _⟩ := h7.i64 Tryz.underlying3
  obtain ⟨a8, rfl⟩ := h8.str Tryz.underlying9
  exact ⟨⟨a1, a2, a3, a4, a5, a6, a7, a8⟩, rfl, trivial⟩
theorem vsC {n : Nat} {ys : List D} (h : HasC Tryz.prog n 37 ys) : ∃ l : List Vl, ys = [vsD l] ∧ ∀ v ∈ l, I64 v.n := by
  obtain ⟨l, rfl, hl⟩ := h.slice (f := Vl.cells) (Q := fun v => I64 v.n) Tryz.underlying37 fun m x _ hx => vlC hx
  have e : (l.map fun a => pk Tryz.prog 81 a.cells) = l.map Vl.d := List.map_congr_left fun a _ => pk_agg Tryz.underlying81 _
  rw [e]
  exact ⟨l, rfl, hl⟩
theorem vssC {n : Nat} {ys : List D} (h : HasC Tryz.prog n 23 ys) : ∃ l : List (List Vl), ys = [.sl .none (l.map vsD)] ∧ ∀ x ∈ l, ∀ v ∈ x, I64 v.n := by
  obtain ⟨l, rfl, hl⟩ := h.slice (f := fun x => [vsD x]) (Q := fun x => ∀ v ∈ x, I64 v.n) Tryz.underlying23 fun m x _ hx => vsC hx
  have e : (l.map fun a => pk Tryz.prog 37 [vsD a]) = l.map vsD := List.map_congr_left fun a _ => pk_slice Tryz.underlying37 _
  rw [e]
  exact ⟨l, rfl, hl⟩
theorem guCC {n : Nat} {ys : List D} (h : HasC Tryz.prog n 58 ys) : ∃ g : Gu, ys = guC g ∧ g.1.I ∧ I64 g.2.1 ∧ I64 g.2.2.1 ∧ I64 g.2.2.2 := by
  obtain ⟨m, rfl, hf⟩ := h.struct Tryz.underlying58
  obtain ⟨z1, r1, h1, ⟨z2, r2, h2, ⟨z3, r3, h3, ⟨z4, r4, h4, hr, rfl⟩, rfl⟩, rfl⟩, rfl⟩ := hf
  cases hr
  obtain ⟨p, rfl, hp⟩ := prC _ h1
  obtain ⟨a, rfl, ha⟩ := h2.i64 Tryz.underlying3
  obtain ⟨b, rfl, hb⟩ := h3.i64 Tryz.underlying2
  obtain ⟨c, rfl, hc⟩ := h4.i64 Tryz.underlying2
  exact ⟨(p, a, b, c), rfl, hp, ha, hb, hc⟩
structure RawI (x : Raw) : Prop where
  read : x.read.I
  remove : x.remove.I
  add : ∀ l ∈ x.add, ∀ v ∈ l, I64 v.n
  gs : ∀ g ∈ x.gs, g.1.I ∧ I64 g.2.1 ∧ I64 g.2.2.1 ∧ I64 g.2.2.2
theorem rawCC {n : Nat} {ys : List D} (h : HasC Tryz.prog n 129 ys) : ∃ x : Raw, ys = x.cells ∧ RawI x := by
  obtain ⟨m, rfl, hf⟩ := h.struct Tryz.underlying129
  obtain ⟨z1, r1, h1, ⟨z2, r2, h2, ⟨z3, r3, h3, ⟨z4, r4, h4, hr, rfl⟩, rfl⟩, rfl⟩, rfl⟩ := hf
  cases hr
  obtain ⟨p, rfl, hp⟩ := prC _ h1
  obtain ⟨q, rfl, hq⟩ := prC _ h2
  obtain ⟨a, rfl, ha⟩ := vssC h3
  obtain ⟨g, rfl, hg⟩ := h4.slice (f := guC) (Q := fun g => g.1.I ∧ I64 g.2.1 ∧ I64 g.2.2.1 ∧ I64 g.2.2.2) Tryz.underlying42 fun m x _ hx => guCC hx
  have e : (g.map fun a => pk Tryz.prog 58 (guC a)) = g.map guD := List.map_congr_left fun a _ => pk_agg Tryz.underlying58 _
  rw [e]
  exact ⟨⟨p, q, a, g⟩, rfl, hp, hq, ha, hg⟩
theorem Pr.limK {p : Pr} (h : bulkL (p.kids.map Pr.d) ≤ 1048576) : p.Lim := by
  have h1 := bulk_len Pr.d Pr.bulk_pos p.kids
  refine .mk p (by omega) fun k hk => ?_
  have h2 := bulk_mem (List.mem_map_of_mem (f := Pr.d) hk)
  exact Pr.lim_of _ k (Nat.le_refl _) (by omega)
theorem Pr.bulkK (p : Pr) : bulkL (p.kids.map Pr.d) ≤ bulkL p.cells := by
  simp only [Pr.cells, bulkL, D.bulk]; omega
theorem bulk_app : ∀ (a b : List D), bulkL (a ++ b) = bulkL a + bulkL b
  | [], b => by simp [bulkL]
  | x :: a, b => by simp only [List.cons_append, bulkL, bulk_app a b]; omega
theorem RawI.ok {x : Raw} (h : RawI x) (hb : bulkL x.cells ≤ 1048576) : RawOk x := by
  rw [Raw.cells, bulk_app, bulk_app] at hb
  have b1 := x.read.bulkK
  have b2 := x.remove.bulkK
  refine ⟨⟨Pr.limK (by omega), h.read⟩, ⟨Pr.limK (by omega), h.remove⟩, h.add, fun g hg => ?_⟩
  obtain ⟨i1, i2⟩ := h.gs g hg
  refine ⟨⟨Pr.limK ?_, i1⟩, i2⟩
  have b3 := bulk_mem (List.mem_map_of_mem (f := guD) hg)
  have b4 := g.1.bulkK
  simp only [bulkL, D.bulk] at hb
  have b5 : bulkL g.1.cells ≤ (guD g).bulk := by
    simp only [guD, D.bulk, bulk_app]; omega
  omega
theorem csO {d : D} (h : HasD Tryz.prog 26 d) (hb : d.bulk ≤ 1048576) : ∃ c : Cs, d = .agg c.cells ∧ CsOk c := by
  obtain ⟨n, ys, h, rfl⟩ := h
  rw [pk_agg Tryz.underlying26] at hb ⊢
  obtain ⟨m, rfl, hf⟩ := h.struct Tryz.underlying26
  obtain ⟨z1, r1, h1, ⟨z2, r2, h2, ⟨z3, r3, h3, hr, rfl⟩, rfl⟩, rfl⟩ := hf
  cases hr
  obtain ⟨l, rfl, _⟩ := h1.slice (f := Ch.cells) (Q := fun _ => True) Tryz.underlying22 fun m x _ hx => chC hx
  have e : (l.map fun a => pk Tryz.prog 124 a.cells) = l.map Ch.d := List.map_congr_left fun a _ => pk_agg Tryz.underlying124 _
  rw [e] at hb ⊢
  obtain ⟨k, rfl, hk⟩ := vssC h2
  obtain ⟨p, rfl, hp⟩ := h3.slice (f := Raw.cells) (Q := RawI) Tryz.underlying24 fun m x _ hx => rawCC hx
  have e2 : (p.map fun a => pk Tryz.prog 129 a.cells) = p.map fun x => .agg x.cells := List.map_congr_left fun a _ => pk_agg Tryz.underlying129 _
  rw [e2] at hb ⊢
  refine ⟨⟨l, k, p⟩, rfl, hk, fun x hx => (hp x hx).ok ?_⟩
  have b1 := bulk_mem (List.mem_map_of_mem (f := fun x : Raw => D.agg x.cells) hx)
  simp only [List.cons_append, List.nil_append, List.append_nil, bulkL, D.bulk] at hb b1
  omega
end Go.Proofs.YtpblgfgcoamgmaaGreatS
