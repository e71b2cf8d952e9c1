/-
  Programs: the law ProgramEventsExplain.
  Conditions: none beyond the case's own.
-/
import Derived.Test.YtpblgfgcoamgmaaGreatG8
set_option linter.unusedVariables false
set_option linter.unusedSimpArgs false
namespace Go.Proofs.YtpblgfgcoamgmaaGreatS
open Go Go.Proofs.YtpblgfgcoamgmaaGreatV

variable {G : Heap}
attribute [local irreducible] VN VC VX VQ VY VW VTA VT0 VPP VP

theorem Ev_at {l : List Ev} {j : Nat} (h : j < l.length) : ∃ e, l[j]? = some e ∧ (l.map evD).getD j .any = .agg [.int .i64 e.1, .int .i64 e.2.1, .sl .none (e.2.2.map clD)] := at_map h
theorem touch_went {g : Pg} {t : Tbl} {k : Nat} {y : Ln} (h : (t.l.filter fun l => matchF g.2.1 l.2)[k]? = some y) : (touchF g t)[k]? = some (2, y) := by
  have hk := (List.getElem?_eq_some_iff.1 h).1
  unfold touchF
  rw [List.getElem?_append_left (by rw [List.length_map]; exact hk), List.getElem?_map, h]; rfl
theorem touch_came {g : Pg} {t : Tbl} {i : Nat} {r : Rw} (h : g.2.2.1[i]? = some r) : (touchF g t)[(t.l.filter fun l => matchF g.2.1 l.2).length + i]? = some (1, (t.next + i, r)) := by
  unfold touchF
  rw [List.getElem?_append_right (by rw [List.length_map]; omega), List.length_map, show (t.l.filter fun l => matchF g.2.1 l.2).length + i - (t.l.filter fun l => matchF g.2.1 l.2).length = i by omega, List.getElem?_map, addL_at h]; rfl
theorem touch_len (g : Pg) (t : Tbl) : (touchF g t).length = (t.l.filter fun l => matchF g.2.1 l.2).length + g.2.2.1.length := by
  simp [touchF, addL_len]
/-- The next element of a filter stands behind one that it leaves out. -/
theorem filter_later {q : Ln → Bool} {l : List Ln} {j : Nat} {x y : Ln} (hp : l.Pairwise fun a b => a.1 < b.1) (h : l[j]? = some x) (hq : q x = false) (hy : (l.filter q)[((l.take j).filter q).length]? = some y) : x.1 < y.1 := by
  have e : l = l.take j ++ x :: l.drop (j + 1) := by rw [← drop_at h, List.take_append_drop]
  have e2 : l.filter q = (l.take j).filter q ++ (l.drop (j + 1)).filter q := by
    conv => lhs; rw [e]
    rw [List.filter_append, List.filter_cons, hq]; rfl
  rw [e2, List.getElem?_append_right (Nat.le_refl _), Nat.sub_self] at hy
  have hm := (List.mem_filter.1 (List.mem_of_getElem? hy)).1
  rw [e, List.pairwise_append] at hp
  exact (List.pairwise_cons.1 hp.2.1).1 y hm
set_option maxRecDepth 100000 in
set_option maxHeartbeats 16000000 in
theorem events27_ok (c : Cs) (hc : CsOk c) : VN P G 7 [.agg c.cells] (.bool true) := by
  have hs := law27_sanity_ok (G := G)
  have hm := made27_ok (G := G) c hc
  simp only [Cs.cells] at hm ⊢
  unfold VN
  refine VC.ofs (fun | 9 => [(0, []), (1, []), (2, []), (3, []), (4, []), (5, []), (6, [])] | 15 => [(0, []), (1, []), (2, []), (3, []), (4, []), (5, []), (6, []), (7, []), (8, []), (9, []), (10, []), (11, []), (12, []), (13, []), (14, []), (15, []), (16, []), (17, []), (18, []), (19, []), (20, []), (21, []), (22, []), (23, []), (24, []), (25, []), (26, []), (27, []), (28, []), (29, []), (30, []), (31, []), (32, []), (33, []), (34, []), (35, []), (36, []), (37, []), (38, []), (39, []), (40, []), (41, [])] | 17 => [(0, []), (1, []), (2, []), (3, []), (4, []), (5, []), (6, []), (7, []), (8, []), (9, []), (10, [])] | 19 => [(0, []), (1, []), (2, []), (3, []), (4, []), (5, []), (6, []), (7, []), (8, []), (9, []), (10, []), (11, []), (12, []), (13, []), (14, []), (15, []), (16, [])] | 21 => [(0, []), (1, []), (2, []), (3, []), (4, []), (5, []), (6, []), (7, []), (8, []), (9, []), (10, [])] | 99999999 => [(0, [0, 1, 2, 3, 5, 6, 7, 8, 9, 10, 11, 12, 13, 14, 25, 52, 96, 112, 129, 153])] | _ => []) [2] mixed Tryz.func7 rfl rfl rfl rfl (by decide +kernel) (by simp) ?_
  simp only [go_sem, reduceIte, Nat.reduceEqDiff, Nat.reduceAdd, Nat.reduceSub, Nat.reduceMul, Nat.reduceLT, Nat.reduceLeDiff, Nat.reducePow, Int.reduceToNat, Int.reduceLT, Int.reduceLE, Int.reduceEq, Int.reduceNe, Int.reduceAdd, Int.reduceSub, Int.reduceMul, Int.reduceNeg]
  intro b1
  generalize hβ : Heap.set Heap.nil b1 _ = β0
  have e1 := hit_set hβ
  clear hβ
  have N := trivial
  try simp only [go_sem, reduceIte, Nat.reduceEqDiff, Nat.reduceAdd, Nat.reduceSub, Nat.reduceMul, Nat.reduceLT, Nat.reduceLeDiff, Nat.reducePow, Int.reduceToNat, Int.reduceLT, Int.reduceLE, Int.reduceEq, Int.reduceNe, Int.reduceAdd, Int.reduceSub, Int.reduceMul, Int.reduceNeg, e1]
  (first | refine cK_vn (hs) ?_ | refine cE_vn (hs) ?_)
  try simp only [go_sem, reduceIte, Nat.reduceEqDiff, Nat.reduceAdd, Nat.reduceSub, Nat.reduceMul, Nat.reduceLT, Nat.reduceLeDiff, Nat.reducePow, Int.reduceToNat, Int.reduceLT, Int.reduceLE, Int.reduceEq, Int.reduceNe, Int.reduceAdd, Int.reduceSub, Int.reduceMul, Int.reduceNeg, e1]
  refine cK_vx hm ?_
  rintro _ ⟨fs, nx, t, l, rfl, hso, ht, hl6, hg⟩
  have el : (l.map pgD).length = l.length := by simp
  have elt : (t.l.map lnD).length = t.l.length := by simp
  have hl30 := ht.len
  have hnx := ht.next
  simp only [Tbl.cells]
  try simp only [go_sem, reduceIte, Nat.reduceEqDiff, Nat.reduceAdd, Nat.reduceSub, Nat.reduceMul, Nat.reduceLT, Nat.reduceLeDiff, Nat.reducePow, Int.reduceToNat, Int.reduceLT, Int.reduceLE, Int.reduceEq, Int.reduceNe, Int.reduceAdd, Int.reduceSub, Int.reduceMul, Int.reduceNeg, e1]
  refine new_any fun b4 hb4 => ?_
  have N := And.intro N (box_ne hb4 e1)
  generalize hβ_ : Heap.set _ b4 _ = β_
  have e4 := hit_set hβ_
  have e1 := keep_new hβ_ hb4 e1
  clear hβ_ hb4
  try simp only [go_sem, reduceIte, Nat.reduceEqDiff, Nat.reduceAdd, Nat.reduceSub, Nat.reduceMul, Nat.reduceLT, Nat.reduceLeDiff, Nat.reducePow, Int.reduceToNat, Int.reduceLT, Int.reduceLE, Int.reduceEq, Int.reduceNe, Int.reduceAdd, Int.reduceSub, Int.reduceMul, Int.reduceNeg, N, e1, e4]
  refine new_any fun b5 hb5 => ?_
  have N := And.intro N (box_ne hb5 e1)
  have N := And.intro N (box_ne hb5 e4)
  try simp only [go_sem, reduceIte, Nat.reduceEqDiff, Nat.reduceAdd, Nat.reduceSub, Nat.reduceMul, Nat.reduceLT, Nat.reduceLeDiff, Nat.reducePow, Int.reduceToNat, Int.reduceLT, Int.reduceLE, Int.reduceEq, Int.reduceNe, Int.reduceAdd, Int.reduceSub, Int.reduceMul, Int.reduceNeg, N, e1, e4]
  generalize hβ_ : Heap.set _ b5 _ = β_
  have e5 := hit_set hβ_
  clear hβ_ hb5
  refine vwq_loop (fun v => ∃ (i : Nat), i ≤ l.length ∧ v.σ 3 = .bool true ∧ v.σ 5 = .pb b5 0 ∧ v.σ 6 = .sl .none (l.map pgD) ∧ v.σ 7 = .int .i64 i ∧ v.β b5 = some [.int .i64 t.next, .sl .none (t.l.map lnD)]) (fun v => l.length - (ival (v.σ 7)).toNat) ⟨0, by omega, rfl, rfl, rfl, rfl, e5⟩ ?_
  clear e1 e4 e5
  rintro σ β ω ⟨i, hi, q3, q5, q6, q7, e5⟩
  dsimp only at q3 q5 q6 q7 e5
  try simp only [go_sem, reduceIte, Nat.reduceEqDiff, Nat.reduceAdd, Nat.reduceSub, Nat.reduceMul, Nat.reduceLT, Nat.reduceLeDiff, Nat.reducePow, Int.reduceToNat, Int.reduceLT, Int.reduceLE, Int.reduceEq, Int.reduceNe, Int.reduceAdd, Int.reduceSub, Int.reduceMul, Int.reduceNeg, q3, q5, q6, q7, e5, el]
  refine cd_dec (fun k => ?_) (fun k => ?_)
  rotate_left
  · try simp only [go_sem, reduceIte, Nat.reduceEqDiff, Nat.reduceAdd, Nat.reduceSub, Nat.reduceMul, Nat.reduceLT, Nat.reduceLeDiff, Nat.reducePow, Int.reduceToNat, Int.reduceLT, Int.reduceLE, Int.reduceEq, Int.reduceNe, Int.reduceAdd, Int.reduceSub, Int.reduceMul, Int.reduceNeg, q3, q5, q6, q7, e5]
    exact finK_drop ⟨rfl, rfl, rfl⟩
  have k' := eq_true k
  obtain ⟨g, hgx, eg⟩ := Pg_at (l := l) (j := i) (by omega)
  have hgm := hg g (List.mem_of_getElem? hgx)
  have c1 : ((0 : Int) ≤ i) = True := eq_true (by omega)
  have wi := wrap_i64 (x := (i : Int) + 1) (by omega) (by omega)
  have hA4 := hgm.nAdd
  have hrun := run_free (g := (g.1, g.2.1, g.2.2.1, [])) ht hA4 rfl
  have hr := run27 (G := G) (g.1, g.2.1, g.2.2.1, []) t _ ⟨by omega, by omega⟩ (by omega) hrun
  have hK : keepL (g.1, g.2.1, g.2.2.1, []) t = keepL g t := rfl
  dsimp only at hr
  rw [hK] at hr
  have htc := Touched_ok (G := G) g t ⟨by omega, by omega⟩ (by omega) (by omega) (by omega)
  have hstb := SameTable_refl (G := G) ⟨t.next + g.2.2.1.length, keepL g t ++ addL t.next g.2.2.1⟩
  obtain ⟨F, hF⟩ : ∃ F, (t.l.filter fun l => matchF g.2.1 l.2) = F := ⟨_, rfl⟩
  have hwent : ∀ {k : Nat} {y : Ln}, F[k]? = some y → (touchF g t)[k]? = some (2, y) := fun {k y} h => touch_went (by rw [hF]; exact h)
  have hcame : ∀ {i : Nat} {r : Rw}, g.2.2.1[i]? = some r → (touchF g t)[F.length + i]? = some (1, (t.next + i, r)) := fun {i r} h => by have := touch_came (t := t) h; rwa [hF] at this
  have hEl := touch_len g t
  rw [hF] at hEl
  have hF30 : F.length ≤ t.l.length := by rw [← hF]; exact List.length_filter_le _ _
  generalize touchF g t = E at htc hwent hcame hEl
  have eE : (E.map evD).length = E.length := by simp
  simp only [Tbl.cells, Pg.cells16, Pg.c16] at hr htc hstb
  try simp only [go_sem, reduceIte, Nat.reduceEqDiff, Nat.reduceAdd, Nat.reduceSub, Nat.reduceMul, Nat.reduceLT, Nat.reduceLeDiff, Nat.reducePow, Int.reduceToNat, Int.reduceLT, Int.reduceLE, Int.reduceEq, Int.reduceNe, Int.reduceAdd, Int.reduceSub, Int.reduceMul, Int.reduceNeg, q3, q5, q6, q7, e5, el, eg, c1, k']
  refine new_any fun b8 hb8 => ?_
  have N := And.intro N (box_ne hb8 e5)
  generalize hβ_ : Heap.set _ b8 _ = β_
  have e8 := hit_set hβ_
  have e5 := keep_new hβ_ hb8 e5
  clear hβ_ hb8
  try simp only [go_sem, reduceIte, Nat.reduceEqDiff, Nat.reduceAdd, Nat.reduceSub, Nat.reduceMul, Nat.reduceLT, Nat.reduceLeDiff, Nat.reducePow, Int.reduceToNat, Int.reduceLT, Int.reduceLE, Int.reduceEq, Int.reduceNe, Int.reduceAdd, Int.reduceSub, Int.reduceMul, Int.reduceNeg, N, q3, q5, q6, q7, e5, e8]
  first | refine cK_lit hr (by rfl) ?_ | refine cE_lit hr (by rfl) ?_
  try simp only [go_sem, reduceIte, Nat.reduceEqDiff, Nat.reduceAdd, Nat.reduceSub, Nat.reduceMul, Nat.reduceLT, Nat.reduceLeDiff, Nat.reducePow, Int.reduceToNat, Int.reduceLT, Int.reduceLE, Int.reduceEq, Int.reduceNe, Int.reduceAdd, Int.reduceSub, Int.reduceMul, Int.reduceNeg, N, q3, q5, q6, q7, e5, e8, el, eg, c1, k']
  refine new_any fun b9 hb9 => ?_
  have N := And.intro N (box_ne hb9 e5)
  have N := And.intro N (box_ne hb9 e8)
  generalize hβ_ : Heap.set _ b9 _ = β_
  have e9 := hit_set hβ_
  have e5 := keep_new hβ_ hb9 e5
  have e8 := keep_new hβ_ hb9 e8
  clear hβ_ hb9
  try simp only [go_sem, reduceIte, Nat.reduceEqDiff, Nat.reduceAdd, Nat.reduceSub, Nat.reduceMul, Nat.reduceLT, Nat.reduceLeDiff, Nat.reducePow, Int.reduceToNat, Int.reduceLT, Int.reduceLE, Int.reduceEq, Int.reduceNe, Int.reduceAdd, Int.reduceSub, Int.reduceMul, Int.reduceNeg, N, q3, q5, q6, q7, e5, e9, el, eg, c1, k']
  (first | refine cK_vn (htc) ?_ | refine cE_vn (htc) ?_)
  try simp only [go_sem, reduceIte, Nat.reduceEqDiff, Nat.reduceAdd, Nat.reduceSub, Nat.reduceMul, Nat.reduceLT, Nat.reduceLeDiff, Nat.reducePow, Int.reduceToNat, Int.reduceLT, Int.reduceLE, Int.reduceEq, Int.reduceNe, Int.reduceAdd, Int.reduceSub, Int.reduceMul, Int.reduceNeg, N, q3, q5, q6, q7, e5, e9, el, eg, c1, k']
  refine new_any fun b12 hb12 => ?_
  have N := And.intro N (box_ne hb12 e5)
  have N := And.intro N (box_ne hb12 e9)
  generalize hβ_ : Heap.set _ b12 _ = β_
  have e12 := hit_set hβ_
  have e5 := keep_new hβ_ hb12 e5
  have e9 := keep_new hβ_ hb12 e9
  clear hβ_ hb12
  refine vwq_loop (fun v => ∃ (j : Nat) (tk : Tk), j ≤ t.l.length ∧ v.σ 3 = .bool true ∧ v.σ 5 = .pb b5 0 ∧ v.σ 6 = .sl .none (l.map pgD) ∧ v.σ 7 = .int .i64 i ∧ v.σ 9 = .pb b9 0 ∧ v.σ 10 = .int .i64 0 ∧ v.σ 11 = .sl .none (E.map evD) ∧ v.σ 12 = .pb b12 0 ∧ v.σ 13 = .int .i64 ((t.l.take j).filter fun x => matchF g.2.1 x.2).length ∧ v.σ 14 = .int .i64 j ∧ tokOk 2 v.ω tk ∧ v.β b5 = some [.int .i64 t.next, .sl .none (t.l.map lnD)] ∧ v.β b9 = some [.int .i64 (t.next + g.2.2.1.length), .sl .none ((keepL g t ++ addL t.next g.2.2.1).map lnD)] ∧ v.β b12 = some [.int .i64 t.next, .sl tk (((t.l.take j).filter fun x => !matchF g.2.1 x.2).map lnD)]) (fun v => t.l.length - (ival (v.σ 14)).toNat) ⟨0, .full, by omega, rfl, rfl, rfl, rfl, rfl, rfl, rfl, rfl, rfl, rfl, trivial, e5, e9, e12⟩ ?_
  clear e5 e8 e9 e12 q3 q5 q6 q7
  rintro σ β ω ⟨j, tk, hj, q3, q5, q6, q7, q9, q10, q11, q12, q13, q14, hw, e5, e9, e12⟩
  dsimp only at q3 q5 q6 q7 q9 q10 q11 q12 q13 q14 hw e5 e9 e12
  have hto := eq_true hw
  obtain ⟨m, hm⟩ : ∃ m, ((t.l.take j).filter fun x => matchF g.2.1 x.2).length = m := ⟨_, rfl⟩
  obtain ⟨K, hK⟩ : ∃ K, ((t.l.take j).filter fun x => !matchF g.2.1 x.2) = K := ⟨_, rfl⟩
  have hmF : m ≤ F.length := by
    rw [← hm, ← hF]
    exact ((List.take_sublist j t.l).filter _).length_le
  have hKl : K.length ≤ t.l.length := by
    rw [← hK]
    exact Nat.le_trans (List.length_filter_le _ _) (by simp; omega)
  rw [hm] at q13
  rw [hK] at e12
  try simp only [go_sem, reduceIte, Nat.reduceEqDiff, Nat.reduceAdd, Nat.reduceSub, Nat.reduceMul, Nat.reduceLT, Nat.reduceLeDiff, Nat.reducePow, Int.reduceToNat, Int.reduceLT, Int.reduceLE, Int.reduceEq, Int.reduceNe, Int.reduceAdd, Int.reduceSub, Int.reduceMul, Int.reduceNeg, q3, q5, q6, q7, q9, q10, q11, q12, q13, q14, e5, e9, e12, elt]
  refine cd_dec (fun kj => ?_) (fun kj => ?_)
  · have kj' := eq_true kj
    obtain ⟨x, hx, ex⟩ := Ln_at (l := t.l) (j := j) (by omega)
    have c2 : ((0 : Int) ≤ j) = True := eq_true (by omega)
    have wj := wrap_i64 (x := (j : Int) + 1) (by omega) (by omega)
    have wm := wrap_i64 (x := (m : Int) + 1) (by omega) (by omega)
    have hs1 := congrArg List.length (filter_step (q := fun x : Ln => matchF g.2.1 x.2) hx)
    rw [List.length_append, hm] at hs1
    have hs2 := filter_step (q := fun x : Ln => !matchF g.2.1 x.2) hx
    rw [hK] at hs2
    have c3 : ((0 : Int) ≤ m) = True := eq_true (by omega)
    cases hmx : matchF g.2.1 x.2
    all_goals rw [hmx] at hs1 hs2
    · simp only [Bool.not_false, if_true, Bool.false_eq_true, if_false, List.length_nil] at hs1 hs2
      have fin : ∀ {β' : Heap} {ω' : List Nat}, True := fun {_ _} => trivial
      by_cases hmE : m < E.length
      · have c4 : ((m : Int) < E.length) = True := eq_true (by omega)
        obtain ⟨y, hy, ey⟩ := Ev_at (l := E) (j := m) hmE
        by_cases h2 : y.1 = 2
        · have hyF : m < F.length := by
            apply Classical.byContradiction
            intro hn
            obtain ⟨a, ha⟩ : ∃ a, m = F.length + a := ⟨m - F.length, by omega⟩
            obtain ⟨r, hrr⟩ : ∃ r, g.2.2.1[a]? = some r := ⟨g.2.2.1[a]'(by omega), by simp⟩
            have := hcame hrr
            rw [← ha, hy] at this
            cases this
            exact absurd h2 (by simp)
          obtain ⟨z, hz⟩ : ∃ z, F[m]? = some z := ⟨F[m]'hyF, by simp⟩
          have hyz := Option.some.inj (hy.symm.trans (hwent hz))
          have hlt : x.1 < z.1 := filter_later (q := fun x : Ln => matchF g.2.1 x.2) ht.asc hx hmx (by rw [hm, hF]; exact hz)
          have h2' := eq_true h2
          have h3' : (y.2.1 = x.1) = False := eq_false (by rw [hyz]; dsimp only; omega)
          try simp only [go_sem, reduceIte, Nat.reduceEqDiff, Nat.reduceAdd, Nat.reduceSub, Nat.reduceMul, Nat.reduceLT, Nat.reduceLeDiff, Nat.reducePow, Int.reduceToNat, Int.reduceLT, Int.reduceLE, Int.reduceEq, Int.reduceNe, Int.reduceAdd, Int.reduceSub, Int.reduceMul, Int.reduceNeg, q3, q5, q6, q7, q9, q10, q11, q12, q13, q14, e5, e9, e12, elt, eE, ex, ey, c2, c3, c4, kj', h2', h3', hto, wj]
          refine ⟨Ln_cells2 _, by rw [List.length_map]; omega, fun t' _ => ⟨⟨j + 1, .live t' 2, by omega, by rw [hs1]; rfl, rfl, ⟨by simp, rfl⟩, by rw [hs2]; simp [lnD, N, Heap.set, e5, e9]⟩, by omega⟩⟩
        · have h2' := eq_false h2
          try simp only [go_sem, reduceIte, Nat.reduceEqDiff, Nat.reduceAdd, Nat.reduceSub, Nat.reduceMul, Nat.reduceLT, Nat.reduceLeDiff, Nat.reducePow, Int.reduceToNat, Int.reduceLT, Int.reduceLE, Int.reduceEq, Int.reduceNe, Int.reduceAdd, Int.reduceSub, Int.reduceMul, Int.reduceNeg, q3, q5, q6, q7, q9, q10, q11, q12, q13, q14, e5, e9, e12, elt, eE, ex, ey, c2, c3, c4, kj', h2', hto, wj]
          refine ⟨Ln_cells2 _, by rw [List.length_map]; omega, fun t' _ => ⟨⟨j + 1, .live t' 2, by omega, by rw [hs1]; rfl, rfl, ⟨by simp, rfl⟩, by rw [hs2]; simp [lnD, N, Heap.set, e5, e9]⟩, by omega⟩⟩
      · have c4 : ((m : Int) < E.length) = False := eq_false (by omega)
        try simp only [go_sem, reduceIte, Nat.reduceEqDiff, Nat.reduceAdd, Nat.reduceSub, Nat.reduceMul, Nat.reduceLT, Nat.reduceLeDiff, Nat.reducePow, Int.reduceToNat, Int.reduceLT, Int.reduceLE, Int.reduceEq, Int.reduceNe, Int.reduceAdd, Int.reduceSub, Int.reduceMul, Int.reduceNeg, q3, q5, q6, q7, q9, q10, q11, q12, q13, q14, e5, e9, e12, elt, eE, ex, c2, c3, c4, kj', hto, wj]
        refine ⟨Ln_cells2 _, by rw [List.length_map]; omega, fun t' _ => ⟨⟨j + 1, .live t' 2, by omega, by rw [hs1]; rfl, rfl, ⟨by simp, rfl⟩, by rw [hs2]; simp [lnD, N, Heap.set, e5, e9]⟩, by omega⟩⟩
    · simp only [Bool.not_true, if_true, Bool.false_eq_true, if_false, List.append_nil, List.length_singleton] at hs1 hs2
      have hfa := filter_at (q := fun x : Ln => matchF g.2.1 x.2) hx hmx
      rw [hm, hF] at hfa
      have hmF2 := (List.getElem?_eq_some_iff.1 hfa).1
      obtain ⟨y, hy, ey⟩ := Ev_at (l := E) (j := m) (by omega)
      obtain rfl : y = (2, x) := Option.some.inj (hy.symm.trans (hwent hfa))
      have c4 : ((m : Int) < E.length) = True := eq_true (by omega)
      have hsr := SameRow_refl (G := G) x.2
      try simp only [go_sem, reduceIte, Nat.reduceEqDiff, Nat.reduceAdd, Nat.reduceSub, Nat.reduceMul, Nat.reduceLT, Nat.reduceLeDiff, Nat.reducePow, Int.reduceToNat, Int.reduceLT, Int.reduceLE, Int.reduceEq, Int.reduceNe, Int.reduceAdd, Int.reduceSub, Int.reduceMul, Int.reduceNeg, q3, q5, q6, q7, q9, q10, q11, q12, q13, q14, e5, e9, e12, elt, eE, ex, ey, c2, c3, c4, kj', decide_true]
      (first | refine cK_vn (hsr) ?_ | refine cE_vn (hsr) ?_)
      try simp only [go_sem, reduceIte, Nat.reduceEqDiff, Nat.reduceAdd, Nat.reduceSub, Nat.reduceMul, Nat.reduceLT, Nat.reduceLeDiff, Nat.reducePow, Int.reduceToNat, Int.reduceLT, Int.reduceLE, Int.reduceEq, Int.reduceNe, Int.reduceAdd, Int.reduceSub, Int.reduceMul, Int.reduceNeg, q3, q5, q6, q7, q9, q10, q11, q12, q13, q14, e5, e9, e12, elt, eE, ex, ey, c2, c3, c4, kj', decide_true, wj, wm]
      exact ⟨⟨j + 1, tk, by omega, by rw [hs1]; rfl, rfl, hw, by rw [hs2]⟩, by omega⟩
  obtain rfl : j = t.l.length := by omega
  rw [List.take_length] at hm hK
  have hmF : F.length = m := by rw [← hm, ← hF]
  subst hmF
  have hKe : keepL g t = K := hK
  rw [hKe] at hstb e9
  try simp only [go_sem, reduceIte, Nat.reduceEqDiff, Nat.reduceAdd, Nat.reduceSub, Nat.reduceMul, Nat.reduceLT, Nat.reduceLeDiff, Nat.reducePow, Int.reduceToNat, Int.reduceLT, Int.reduceLE, Int.reduceEq, Int.reduceNe, Int.reduceAdd, Int.reduceSub, Int.reduceMul, Int.reduceNeg, q3, q5, q6, q7, q9, q10, q11, q12, q13, q14, e5, e9, e12, elt]
  refine vwq_loop (fun v => ∃ (a : Nat) (tk : Tk), a ≤ g.2.2.1.length ∧ v.σ 3 = .bool true ∧ v.σ 5 = .pb b5 0 ∧ v.σ 6 = .sl .none (l.map pgD) ∧ v.σ 7 = .int .i64 i ∧ v.σ 9 = .pb b9 0 ∧ v.σ 10 = .int .i64 0 ∧ v.σ 11 = .sl .none (E.map evD) ∧ v.σ 12 = .pb b12 0 ∧ v.σ 13 = .int .i64 ((F.length + a : Nat) : Int) ∧ tokOk 2 v.ω tk ∧ v.β b5 = some [.int .i64 t.next, .sl .none (t.l.map lnD)] ∧ v.β b9 = some [.int .i64 (t.next + g.2.2.1.length), .sl .none ((K ++ addL t.next g.2.2.1).map lnD)] ∧ v.β b12 = some [.int .i64 (t.next + a), .sl tk ((K ++ addL t.next (g.2.2.1.take a)).map lnD)]) (fun v => E.length - (ival (v.σ 13)).toNat) ⟨0, tk, by omega, rfl, rfl, rfl, rfl, rfl, rfl, rfl, rfl, rfl, hw, e5, e9, by simpa [addL] using e12⟩ ?_
  clear e5 e9 e12 q3 q5 q6 q7 q9 q10 q11 q12 q13 q14 hw hto
  rintro σ β ω ⟨a, tk, ha, q3, q5, q6, q7, q9, q10, q11, q12, q13, hw, e5, e9, e12⟩
  dsimp only at q3 q5 q6 q7 q9 q10 q11 q12 q13 hw e5 e9 e12
  have hto := eq_true hw
  try simp only [go_sem, reduceIte, Nat.reduceEqDiff, Nat.reduceAdd, Nat.reduceSub, Nat.reduceMul, Nat.reduceLT, Nat.reduceLeDiff, Nat.reducePow, Int.reduceToNat, Int.reduceLT, Int.reduceLE, Int.reduceEq, Int.reduceNe, Int.reduceAdd, Int.reduceSub, Int.reduceMul, Int.reduceNeg, q3, q5, q6, q7, q9, q10, q11, q12, q13, e5, e9, e12, eE]
  refine cd_dec (fun kj => ?_) (fun kj => ?_)
  · have kj' := eq_true kj
    obtain ⟨r, hrr⟩ : ∃ r, g.2.2.1[a]? = some r := ⟨g.2.2.1[a]'(by omega), by simp⟩
    obtain ⟨y, hy, ey⟩ := Ev_at (l := E) (j := F.length + a) (by omega)
    obtain rfl : y = (1, (t.next + (a : Int), r)) := Option.some.inj (hy.symm.trans (hcame hrr))
    have c2 : ((0 : Int) ≤ ((F.length + a : Nat) : Int)) = True := eq_true (by omega)
    have wm := wrap_i64 (x := ((F.length + a : Nat) : Int) + 1) (by omega) (by omega)
    have wn := wrap_i64 (x := t.next + (a : Int) + 1) (by omega) (by omega)
    have hs : addL t.next (g.2.2.1.take (a + 1)) = addL t.next (g.2.2.1.take a) ++ [(t.next + a, r)] := by
      rw [take_snoc' hrr, addL_snoc, List.length_take, Nat.min_eq_left (by have := (List.getElem?_eq_some_iff.1 hrr).1; omega)]
    try simp only [go_sem, reduceIte, Nat.reduceEqDiff, Nat.reduceAdd, Nat.reduceSub, Nat.reduceMul, Nat.reduceLT, Nat.reduceLeDiff, Nat.reducePow, Int.reduceToNat, Int.reduceLT, Int.reduceLE, Int.reduceEq, Int.reduceNe, Int.reduceAdd, Int.reduceSub, Int.reduceMul, Int.reduceNeg, q3, q5, q6, q7, q9, q10, q11, q12, q13, e5, e9, e12, eE, ey, c2, kj', ne_eq, not_true_eq_false, decide_false, hto, wm, wn]
    have hl1 : (addL t.next (g.2.2.1.take a)).length ≤ a := by rw [addL_len, List.length_take]; omega
    refine ⟨Ln_cells2 _, by rw [List.length_map, List.length_append]; omega, fun t' _ => ⟨⟨a + 1, .live t' 2, by omega, by congr 1, ⟨by simp, rfl⟩, ?_⟩, by omega⟩⟩
    rw [hs]; simp [lnD, Int.add_assoc, N, Heap.set, e5, e9]
  · obtain rfl : a = g.2.2.1.length := by omega
    rw [List.take_length] at e12
    try simp only [go_sem, reduceIte, Nat.reduceEqDiff, Nat.reduceAdd, Nat.reduceSub, Nat.reduceMul, Nat.reduceLT, Nat.reduceLeDiff, Nat.reducePow, Int.reduceToNat, Int.reduceLT, Int.reduceLE, Int.reduceEq, Int.reduceNe, Int.reduceAdd, Int.reduceSub, Int.reduceMul, Int.reduceNeg, q3, q5, q6, q7, q9, q10, q11, q12, q13, e5, e9, e12, eE, ne_eq, not_true_eq_false, decide_false]
    first | refine cK_lit hstb (by rfl) ?_ | refine cE_lit hstb (by rfl) ?_
    try simp only [go_sem, reduceIte, Nat.reduceEqDiff, Nat.reduceAdd, Nat.reduceSub, Nat.reduceMul, Nat.reduceLT, Nat.reduceLeDiff, Nat.reducePow, Int.reduceToNat, Int.reduceLT, Int.reduceLE, Int.reduceEq, Int.reduceNe, Int.reduceAdd, Int.reduceSub, Int.reduceMul, Int.reduceNeg, q3, q5, q6, q7, q9, q10, q11, q12, q13, e5, e9, e12, eE, ne_eq, not_true_eq_false, decide_false, wi]
    exact ⟨⟨i + 1, by omega, rfl⟩, by omega⟩
end Go.Proofs.YtpblgfgcoamgmaaGreatS
