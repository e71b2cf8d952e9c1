/-
  Predicates: fenlandref05.Type, Valid, fenlandref08.Type, fits, Valid.
-/
import Derived.Test.YtbfkhepfgibonaaGreatQI
set_option linter.unusedVariables false
set_option linter.unusedSimpArgs false
namespace Go.Proofs.YtbfkhepfgibonaaGreatS
open Go Go.Proofs.YtbfkhepfgibonaaGreatV

variable {G : Heap}
attribute [local irreducible] VN VC VX VQ VY VW VTA VT0

theorem rTy_ok (t : Int) : VN P G 79 [.int .i64 t] (.bool (isTy t)) := by
  unfold VN
  refine VC.ofs (fun | 99999999 => [(0, [0, 2])] | _ => []) [2] mixed Tryz.func79 rfl rfl rfl rfl (by decide +kernel) (by simp) ?_
  simp only [go_sem, reduceIte, Nat.reduceEqDiff, Nat.reduceAdd, Nat.reduceSub, Nat.reduceMul, Nat.reduceLT, Nat.reduceLeDiff, Nat.reducePow, Int.reduceToNat, Int.reduceLT, Int.reduceLE, Int.reduceEq, Int.reduceNe, Int.reduceAdd, Int.reduceSub, Int.reduceMul, Int.reduceNeg]
  exact finK_drop ⟨by simp [isTy, D.er, D.er1], rfl, rfl⟩
set_option maxHeartbeats 2000000 in
theorem rValid5_ok (v : Vl) (t : Int) (hv : I64' v.n) : VN P G 80 [.agg v.cells, .int .i64 t] (.bool (valOk v t)) := by
  have hi := rTy_ok (G := G) t
  obtain ⟨vn, vi, vs⟩ := v
  obtain ⟨v1, v2⟩ := hv
  dsimp only at v1 v2
  simp only [Vl.cells]
  unfold VN
  refine VC.ofs (fun | 99999999 => [(0, [0, 1, 2, 4, 7, 9, 18, 19, 34, 49, 54])] | _ => []) [4] mixed Tryz.func80 rfl rfl rfl rfl (by decide +kernel) (by simp) ?_
  simp only [go_sem, reduceIte, Nat.reduceEqDiff, Nat.reduceAdd, Nat.reduceSub, Nat.reduceMul, Nat.reduceLT, Nat.reduceLeDiff, Nat.reducePow, Int.reduceToNat, Int.reduceLT, Int.reduceLE, Int.reduceEq, Int.reduceNe, Int.reduceAdd, Int.reduceSub, Int.reduceMul, Int.reduceNeg]
  intro b2
  refine cK_vn hi ?_
  by_cases ht : 1 ≤ t ∧ t ≤ 5
  · rw [show isTy t = true from decide_eq_true ht]
    cases vn
    · try simp only [go_sem, reduceIte, Nat.reduceEqDiff, Nat.reduceAdd, Nat.reduceSub, Nat.reduceMul, Nat.reduceLT, Nat.reduceLeDiff, Nat.reducePow, Int.reduceToNat, Int.reduceLT, Int.reduceLE, Int.reduceEq, Int.reduceNe, Int.reduceAdd, Int.reduceSub, Int.reduceMul, Int.reduceNeg, ]
      obtain rfl | rfl | rfl | rfl | rfl : t = 4 ∨ t = 1 ∨ t = 2 ∨ t = 3 ∨ t = 5 := by omega
      all_goals
        try simp only [go_sem, reduceIte, Nat.reduceEqDiff, Nat.reduceAdd, Nat.reduceSub, Nat.reduceMul, Nat.reduceLT, Nat.reduceLeDiff, Nat.reducePow, Int.reduceToNat, Int.reduceLT, Int.reduceLE, Int.reduceEq, Int.reduceNe, Int.reduceAdd, Int.reduceSub, Int.reduceMul, Int.reduceNeg, ]
        refine finK_drop ⟨congrArg (fun b => Out.ret (D.bool b)) ?_, rfl, rfl⟩
        rw [Bool.eq_iff_iff]
        simp [valOk, isTy, limT, bemp, and_assoc]
        try (intros; omega)
    · try simp only [go_sem, reduceIte, Nat.reduceEqDiff, Nat.reduceAdd, Nat.reduceSub, Nat.reduceMul, Nat.reduceLT, Nat.reduceLeDiff, Nat.reducePow, Int.reduceToNat, Int.reduceLT, Int.reduceLE, Int.reduceEq, Int.reduceNe, Int.reduceAdd, Int.reduceSub, Int.reduceMul, Int.reduceNeg, ]
      refine finK_drop ⟨congrArg (fun b => Out.ret (D.bool b)) ?_, rfl, rfl⟩
      rw [Bool.eq_iff_iff]
      simp [valOk, isTy, ht, Vl.nul, bemp]
  · rw [show isTy t = false from decide_eq_false ht]
    try simp only [go_sem, reduceIte, Nat.reduceEqDiff, Nat.reduceAdd, Nat.reduceSub, Nat.reduceMul, Nat.reduceLT, Nat.reduceLeDiff, Nat.reducePow, Int.reduceToNat, Int.reduceLT, Int.reduceLE, Int.reduceEq, Int.reduceNe, Int.reduceAdd, Int.reduceSub, Int.reduceMul, Int.reduceNeg, ]
    exact finK_drop ⟨by simp [valOk, isTy, ht, D.er, D.er1], rfl, rfl⟩
/-- The type of a field, or 0. -/
def typR (fs : List Fd) (id : Int) : Int := (typeOf fs id).getD 0
theorem typR_at {fs : List Fd} {id : Int} {j : Nat} (h : ∀ i x, fs[i]? = some x → i < j → x.id ≠ id) {x : Fd} (hx : fs[j]? = some x) (he : x.id = id) : typR fs id = x.type := by
  unfold typR typeOf
  have : fs.find? (fun f => decide (f.id = id)) = some x := by
    rw [List.find?_eq_some_iff_getElem]
    obtain ⟨hj, rfl⟩ := List.getElem?_eq_some_iff.1 hx
    refine ⟨by simp [he], j, hj, rfl, fun i hi => ?_⟩
    simpa using h i fs[i] (by simp) hi
  rw [this]; rfl
theorem typR_no {fs : List Fd} {id : Int} (h : ∀ x ∈ fs, x.id ≠ id) : typR fs id = 0 := by
  unfold typR typeOf
  have : fs.find? (fun f => decide (f.id = id)) = none := by
    rw [List.find?_eq_none]; intro x hx; simpa using h x hx
  rw [this]; rfl
theorem atomOk_typR (fs : List Fd) (q : Pr) : atomOk fs q = (!isAt q.op || fitsF q (typR fs q.id)) := by
  unfold atomOk typR
  cases typeOf fs q.id with
  | none => simp [fitsF, isTy]
  | some t => rfl
set_option maxHeartbeats 2000000 in
theorem rType_ok (fs : List Fd) (nx id : Int) : VN P G 78 [.agg [.sl .none (fs.map fdD), .int .i64 nx], .int .i64 id] (.int .i64 (typR fs id)) := by
  unfold VN
  refine VC.small2 fun hsm => ?_
  have z1 := hsm (.agg [.sl .none (fs.map fdD), .int .i64 nx]) (List.mem_cons_self ..) (.sl .none (fs.map fdD)) (by simp [D.cells])
  simp only [Small, mostLen, List.length_map] at z1
  clear hsm
  refine VC.ofs (fun | 99999999 => [(0, [0, 1, 2, 4, 5, 10, 20])] | _ => []) [4] mixed Tryz.func78 rfl rfl rfl rfl (by decide +kernel) (by simp) ?_
  have el : (fs.map fdD).length = fs.length := by simp
  simp only [go_sem, reduceIte, Nat.reduceEqDiff, Nat.reduceAdd, Nat.reduceSub, Nat.reduceMul, Nat.reduceLT, Nat.reduceLeDiff, Nat.reducePow, Int.reduceToNat, Int.reduceLT, Int.reduceLE, Int.reduceEq, Int.reduceNe, Int.reduceAdd, Int.reduceSub, Int.reduceMul, Int.reduceNeg]
  intro b2
  generalize hβ : Heap.set _ b2 _ = β0
  have e2 : β0 b2 = some [.sl .none (fs.map fdD), .int .i64 nx] := hit_set hβ
  clear hβ
  refine vwq_loop (fun v => ∃ (j : Nat), j ≤ fs.length ∧ (∀ i x, fs[i]? = some x → i < j → x.id ≠ id) ∧ v.σ 1 = .int .i64 id ∧ v.σ 2 = .pb b2 0 ∧ v.σ 5 = .int .i64 j ∧ v.β = β0 ∧ v.ω = []) (fun v => fs.length - (ival (v.σ 5)).toNat) ⟨0, by omega, fun i x _ h => by omega, rfl, rfl, rfl, rfl, rfl⟩ ?_
  rintro σ β ω ⟨j, hj, hno, q1, q2, q5, rfl, rfl⟩
  dsimp only at q1 q2 q5 e2
  try simp only [go_sem, reduceIte, Nat.reduceEqDiff, Nat.reduceAdd, Nat.reduceSub, Nat.reduceMul, Nat.reduceLT, Nat.reduceLeDiff, Nat.reducePow, Int.reduceToNat, Int.reduceLT, Int.reduceLE, Int.reduceEq, Int.reduceNe, Int.reduceAdd, Int.reduceSub, Int.reduceMul, Int.reduceNeg, q1, q2, q5, e2, el]
  refine cd_dec (fun g => ?_) (fun g => ?_)
  · have g' := eq_true g
    obtain ⟨x, hx, ex⟩ := Fd_at (l := fs) (j := j) (by omega)
    have c1 : ((0 : Int) ≤ j) = True := eq_true (by omega)
    have wj := wrap_i64 (x := (j : Int) + 1) (by omega) (by omega)
    try simp only [go_sem, reduceIte, Nat.reduceEqDiff, Nat.reduceAdd, Nat.reduceSub, Nat.reduceMul, Nat.reduceLT, Nat.reduceLeDiff, Nat.reducePow, Int.reduceToNat, Int.reduceLT, Int.reduceLE, Int.reduceEq, Int.reduceNe, Int.reduceAdd, Int.reduceSub, Int.reduceMul, Int.reduceNeg, q1, q2, q5, e2, el, g', c1, ex]
    refine cd_dec (fun g3 => ?_) (fun g3 => ?_)
    · try simp only [go_sem, reduceIte, Nat.reduceEqDiff, Nat.reduceAdd, Nat.reduceSub, Nat.reduceMul, Nat.reduceLT, Nat.reduceLeDiff, Nat.reducePow, Int.reduceToNat, Int.reduceLT, Int.reduceLE, Int.reduceEq, Int.reduceNe, Int.reduceAdd, Int.reduceSub, Int.reduceMul, Int.reduceNeg, q1, q2, q5, e2, el, g', c1, ex]
      refine finK_drop ⟨?_, rfl, rfl⟩
      rw [typR_at hno hx g3]; rfl
    · try simp only [go_sem, reduceIte, Nat.reduceEqDiff, Nat.reduceAdd, Nat.reduceSub, Nat.reduceMul, Nat.reduceLT, Nat.reduceLeDiff, Nat.reducePow, Int.reduceToNat, Int.reduceLT, Int.reduceLE, Int.reduceEq, Int.reduceNe, Int.reduceAdd, Int.reduceSub, Int.reduceMul, Int.reduceNeg, q1, q2, q5, e2, el, wj]
      refine ⟨⟨j + 1, by omega, fun i y hi hlt => ?_, rfl⟩, by omega⟩
      by_cases hij : i = j
      · subst hij
        obtain rfl := Option.some.inj (hx.symm.trans hi)
        exact g3
      · exact hno i y hi (by omega)
  · try simp only [go_sem, reduceIte, Nat.reduceEqDiff, Nat.reduceAdd, Nat.reduceSub, Nat.reduceMul, Nat.reduceLT, Nat.reduceLeDiff, Nat.reducePow, Int.reduceToNat, Int.reduceLT, Int.reduceLE, Int.reduceEq, Int.reduceNe, Int.reduceAdd, Int.reduceSub, Int.reduceMul, Int.reduceNeg, q1, q2, q5, e2, el]
    refine finK_drop ⟨?_, rfl, rfl⟩
    rw [typR_no fun x hx => by
      obtain ⟨i, hi⟩ := List.getElem?_of_mem hx
      exact hno i x hi (by have := (List.getElem?_eq_some_iff.1 hi).1; omega)]; rfl
theorem incF_iff : ∀ l : List Vl, incF l = true ↔ ∀ i a b, l[i]? = some a → l[i + 1]? = some b → cmpV a b < 0
  | [] => by simp [incF]
  | [x] => by simp [incF]
  | x :: y :: l => by
    rw [incF, Bool.and_eq_true, incF_iff (y :: l), decide_eq_true_iff]
    constructor
    · rintro ⟨h1, h2⟩ i a b ha hb
      cases i with
      | zero => simp at ha hb; subst ha; subst hb; exact h1
      | succ i => exact h2 i a b (by simpa using ha) (by simpa using hb)
    · intro h
      exact ⟨h 0 x y rfl rfl, fun i a b ha hb => h (i + 1) a b (by simpa using ha) (by simpa using hb)⟩
set_option maxRecDepth 100000 in
set_option maxHeartbeats 4000000 in
theorem rfits_step (fs : List Fd) (nx : Int) (p : Pr) (hF : FormP p) (hP : PI p) (ih : ∀ k ∈ p.kids, VN P G 50 [.agg [.sl .none (fs.map fdD), .int .i64 nx], .agg k.cells] (.bool ((subs k).all (atomOk fs)))) : VN P G 50 [.agg [.sl .none (fs.map fdD), .int .i64 nx], .agg p.cells] (.bool ((subs p).all (atomOk fs))) := by
  have hsub : (subs p).all (atomOk fs) = (atomOk fs p && p.kids.all fun k => (subs k).all (atomOk fs)) := by
    rw [subs_eq, List.all_cons, subsL_flat, List.all_flatMap]
  have htyp := rType_ok (G := G) fs nx p.id
  have hat := atomOk_typR fs p
  obtain ⟨t, ht⟩ : ∃ t, typR fs p.id = t := ⟨_, rfl⟩
  rw [ht] at htyp hat
  have hty := rTy_ok (G := G) t
  unfold VN
  refine VC.small2 fun hsm => ?_
  have z1 := hsm (.agg p.cells) (List.mem_cons_of_mem _ (List.mem_cons_self ..)) (.sl .none (p.set.map Vl.d)) (by simp [D.cells, Pr.cells])
  have z2 := hsm (.agg p.cells) (List.mem_cons_of_mem _ (List.mem_cons_self ..)) (.sl .none (p.kids.map Pr.d)) (by simp [D.cells, Pr.cells])
  simp only [Small, mostLen, List.length_map] at z1 z2
  clear hsm
  have el : (p.kids.map Pr.d).length = p.kids.length := by simp
  have es : (p.set.map Vl.d).length = p.set.length := by simp
  refine VC.ofs (fun | 4 => [(0, []), (1, []), (2, []), (3, []), (4, []), (5, []), (6, []), (7, [])] | 14 => [(0, []), (1, []), (2, []), (3, []), (4, []), (5, []), (6, []), (7, []), (8, []), (9, []), (10, []), (11, []), (12, []), (13, []), (14, []), (15, []), (16, []), (17, []), (18, []), (19, []), (20, []), (21, []), (22, []), (23, []), (24, []), (25, []), (26, []), (27, []), (28, []), (29, []), (30, []), (31, []), (32, []), (33, []), (34, [])] | 99999999 => [(0, [0, 1, 2, 3, 4, 5, 6, 7, 12, 22, 30, 66, 71, 108])] | _ => []) [4] mixed Tryz.func50 rfl rfl rfl rfl (by decide +kernel) (by simp) ?_
  simp only [go_sem, reduceIte, Nat.reduceEqDiff, Nat.reduceAdd, Nat.reduceSub, Nat.reduceMul, Nat.reduceLT, Nat.reduceLeDiff, Nat.reducePow, Int.reduceToNat, Int.reduceLT, Int.reduceLE, Int.reduceEq, Int.reduceNe, Int.reduceAdd, Int.reduceSub, Int.reduceMul, Int.reduceNeg]
  refine fun b2 => new_1 fun b3 h1 h2 => ?_
  have N := And.intro h1 h2
  generalize hβ : Heap.set _ b3 _ = β0
  have e2 : β0 b2 = some [.sl .none (fs.map fdD), .int .i64 nx] := by rw [← hβ]; simp [Heap.set, N]
  have e3 : β0 b3 = some p.cells := hit_set hβ
  clear hβ h1 h2
  refine vwq_loop (fun v => ∃ (j : Nat), j ≤ p.kids.length ∧ (∀ k ∈ p.kids.take j, (subs k).all (atomOk fs) = true) ∧ v.σ 2 = .pb b2 0 ∧ v.σ 3 = .pb b3 0 ∧ v.σ 5 = .int .i64 j ∧ v.β = β0 ∧ v.ω = []) (fun v => p.kids.length - (ival (v.σ 5)).toNat) ⟨0, by omega, by simp, rfl, rfl, rfl, rfl, rfl⟩ ?_
  rintro σ β ω ⟨j, hj, hv, q2, q3, q5, rfl, rfl⟩
  dsimp only at q2 q3 q5 e2 e3
  try simp only [go_sem, reduceIte, Nat.reduceEqDiff, Nat.reduceAdd, Nat.reduceSub, Nat.reduceMul, Nat.reduceLT, Nat.reduceLeDiff, Nat.reducePow, Int.reduceToNat, Int.reduceLT, Int.reduceLE, Int.reduceEq, Int.reduceNe, Int.reduceAdd, Int.reduceSub, Int.reduceMul, Int.reduceNeg, N, q2, q3, q5, e2, e3, el]
  refine cd_dec (fun g => ?_) (fun g => ?_)
  · have g' := eq_true g
    obtain ⟨k, hx, ex⟩ := Pr_at (l := p.kids) (j := j) (by omega)
    have c1 : ((0 : Int) ≤ j) = True := eq_true (by omega)
    have wj := wrap_i64 (x := (j : Int) + 1) (by omega) (by omega)
    have hk := ih k (List.mem_of_getElem? hx)
    simp only [Pr.cells] at hk
    try simp only [go_sem, reduceIte, Nat.reduceEqDiff, Nat.reduceAdd, Nat.reduceSub, Nat.reduceMul, Nat.reduceLT, Nat.reduceLeDiff, Nat.reducePow, Int.reduceToNat, Int.reduceLT, Int.reduceLE, Int.reduceEq, Int.reduceNe, Int.reduceAdd, Int.reduceSub, Int.reduceMul, Int.reduceNeg, N, q2, q3, q5, e2, e3, el, g', c1, ex]
    refine cE_vn hk ?_
    cases hwk : (subs k).all (atomOk fs)
    · try simp only [go_sem, reduceIte, Nat.reduceEqDiff, Nat.reduceAdd, Nat.reduceSub, Nat.reduceMul, Nat.reduceLT, Nat.reduceLeDiff, Nat.reducePow, Int.reduceToNat, Int.reduceLT, Int.reduceLE, Int.reduceEq, Int.reduceNe, Int.reduceAdd, Int.reduceSub, Int.reduceMul, Int.reduceNeg, N, q2, q3, q5, e2, e3, el]
      refine finK_drop ⟨?_, rfl, rfl⟩
      rw [hsub, show (p.kids.all fun k => (subs k).all (atomOk fs)) = false from by
        rw [List.all_eq_false]; exact ⟨k, List.mem_of_getElem? hx, by simp [hwk]⟩, Bool.and_false]; rfl
    · try simp only [go_sem, reduceIte, Nat.reduceEqDiff, Nat.reduceAdd, Nat.reduceSub, Nat.reduceMul, Nat.reduceLT, Nat.reduceLeDiff, Nat.reducePow, Int.reduceToNat, Int.reduceLT, Int.reduceLE, Int.reduceEq, Int.reduceNe, Int.reduceAdd, Int.reduceSub, Int.reduceMul, Int.reduceNeg, N, q2, q3, q5, e2, e3, el, wj]
      refine ⟨⟨j + 1, by omega, fun x hm => ?_, rfl⟩, by omega⟩
      rw [List.take_add_one, hx] at hm
      rcases List.mem_append.1 hm with hm | hm
      · exact hv x hm
      · simp at hm; subst hm; exact hwk
  · rw [List.take_of_length_le (by omega)] at hv
    have hsub2 : (subs p).all (atomOk fs) = atomOk fs p := by
      rw [hsub, show (p.kids.all fun k => (subs k).all (atomOk fs)) = true from List.all_eq_true.2 hv, Bool.and_true]
    rw [hsub2, hat]
    try simp only [go_sem, reduceIte, Nat.reduceEqDiff, Nat.reduceAdd, Nat.reduceSub, Nat.reduceMul, Nat.reduceLT, Nat.reduceLeDiff, Nat.reducePow, Int.reduceToNat, Int.reduceLT, Int.reduceLE, Int.reduceEq, Int.reduceNe, Int.reduceAdd, Int.reduceSub, Int.reduceMul, Int.reduceNeg, N, q2, q3, q5, e2, e3, el]
    by_cases ha : p.op < 1 ∨ 4 < p.op
    · have ha' := eq_true ha
      try simp only [go_sem, reduceIte, Nat.reduceEqDiff, Nat.reduceAdd, Nat.reduceSub, Nat.reduceMul, Nat.reduceLT, Nat.reduceLeDiff, Nat.reducePow, Int.reduceToNat, Int.reduceLT, Int.reduceLE, Int.reduceEq, Int.reduceNe, Int.reduceAdd, Int.reduceSub, Int.reduceMul, Int.reduceNeg, N, q2, q3, q5, e2, e3, ha', decide_true]
      refine finK_drop ⟨?_, rfl, rfl⟩
      rw [show isAt p.op = false from by simp [isAt]; omega]; rfl
    have ha' := eq_false ha
    rw [show isAt p.op = true from by simp [isAt]; omega, Bool.not_true, Bool.false_or]
    try simp only [go_sem, reduceIte, Nat.reduceEqDiff, Nat.reduceAdd, Nat.reduceSub, Nat.reduceMul, Nat.reduceLT, Nat.reduceLeDiff, Nat.reducePow, Int.reduceToNat, Int.reduceLT, Int.reduceLE, Int.reduceEq, Int.reduceNe, Int.reduceAdd, Int.reduceSub, Int.reduceMul, Int.reduceNeg, N, q2, q3, q5, e2, e3, ha', decide_false]
    refine cK_vn htyp ?_
    try simp only [go_sem, reduceIte, Nat.reduceEqDiff, Nat.reduceAdd, Nat.reduceSub, Nat.reduceMul, Nat.reduceLT, Nat.reduceLeDiff, Nat.reducePow, Int.reduceToNat, Int.reduceLT, Int.reduceLE, Int.reduceEq, Int.reduceNe, Int.reduceAdd, Int.reduceSub, Int.reduceMul, Int.reduceNeg, N, q2, q3, q5, e2, e3]
    refine cK_vn hty ?_
    cases hT : isTy t
    · try simp only [go_sem, reduceIte, Nat.reduceEqDiff, Nat.reduceAdd, Nat.reduceSub, Nat.reduceMul, Nat.reduceLT, Nat.reduceLeDiff, Nat.reducePow, Int.reduceToNat, Int.reduceLT, Int.reduceLE, Int.reduceEq, Int.reduceNe, Int.reduceAdd, Int.reduceSub, Int.reduceMul, Int.reduceNeg, N, q2, q3, q5, e2, e3]
      exact finK_drop ⟨by simp [fitsF, hT, D.er, D.er1], rfl, rfl⟩
    try simp only [go_sem, reduceIte, Nat.reduceEqDiff, Nat.reduceAdd, Nat.reduceSub, Nat.reduceMul, Nat.reduceLT, Nat.reduceLeDiff, Nat.reducePow, Int.reduceToNat, Int.reduceLT, Int.reduceLE, Int.reduceEq, Int.reduceNe, Int.reduceAdd, Int.reduceSub, Int.reduceMul, Int.reduceNeg, N, q2, q3, q5, e2, e3, es]
    refine ⟨fun h => ⟨h, fun h2 => ⟨h, h2⟩⟩, fun h => ⟨h, fun h2 => ⟨h, h2⟩⟩, cd_dec (fun g2 => ?_) (fun g2 => ?_)⟩
    · try simp only [go_sem, reduceIte, Nat.reduceEqDiff, Nat.reduceAdd, Nat.reduceSub, Nat.reduceMul, Nat.reduceLT, Nat.reduceLeDiff, Nat.reducePow, Int.reduceToNat, Int.reduceLT, Int.reduceLE, Int.reduceEq, Int.reduceNe, Int.reduceAdd, Int.reduceSub, Int.reduceMul, Int.reduceNeg, N, q2, q3, q5, e2, e3, es]
      refine finK_drop ⟨?_, rfl, rfl⟩
      have : fitsF p t = false := by
        unfold fitsF
        rw [hT, Bool.true_and]
        rcases g2 with (⟨a, b⟩ | ⟨a, b⟩) | ⟨a, b⟩
        · rw [if_pos a]; simp [b]
        · rw [if_neg (by omega), if_pos a]; simp [b]
        · rw [if_neg (by omega), if_neg (by omega), if_pos a, show decide (0 < p.set.length) = false from decide_eq_false (by omega)]; simp
      rw [this]; rfl
    have hset : p.op ≠ 2 → p.set.length = 0 := fun h => by
      have h9 := hF.set
      have h8 : (usedP p).set = [] := by cases p; exact if_neg h
      rw [h9, h8]; rfl
    have hfit : fitsF p t = (incF p.set && !p.set.any (wrongV t)) := by
      unfold fitsF
      rw [hT, Bool.true_and]
      by_cases a2 : p.op = 2
      · rw [if_neg (by omega), if_neg (by omega), if_pos a2, show decide (0 < p.set.length) = true from decide_eq_true (by omega), Bool.and_true]
      · have h0 := List.eq_nil_of_length_eq_zero (hset a2)
        rw [h0]
        by_cases a1 : p.op = 1
        · rw [if_pos a1]; simp [incF]; omega
        · rw [if_neg a1]
          by_cases a3 : p.op = 3
          · rw [if_pos a3]; simp [incF]; omega
          · rw [if_neg a3, if_neg a2]; simp [incF]
    rw [hfit]
    clear hv ih
    try simp only [go_sem, reduceIte, Nat.reduceEqDiff, Nat.reduceAdd, Nat.reduceSub, Nat.reduceMul, Nat.reduceLT, Nat.reduceLeDiff, Nat.reducePow, Int.reduceToNat, Int.reduceLT, Int.reduceLE, Int.reduceEq, Int.reduceNe, Int.reduceAdd, Int.reduceSub, Int.reduceMul, Int.reduceNeg, N, q2, q3, q5, e2, e3, es]
    refine vwq_loop (fun v => ∃ (j : Nat), j ≤ p.set.length ∧ (∀ i x, p.set[i]? = some x → i < j → wrongV t x = false) ∧ (∀ i x y, p.set[i]? = some x → p.set[i + 1]? = some y → i + 1 < j → cmpV x y < 0) ∧ v.σ 3 = .pb b3 0 ∧ v.σ 6 = .int .i64 t ∧ v.σ 7 = .int .i64 j ∧ v.β = β ∧ v.ω = []) (fun v => p.set.length - (ival (v.σ 7)).toNat) ⟨0, by omega, fun i x _ h => by omega, fun i x y _ _ h => by omega, rfl, rfl, rfl, rfl, rfl⟩ ?_
    clear q2 q3 q5
    rintro σ β2 ω ⟨j, hj, hv1, hv2, q3, q6, q7, rfl, rfl⟩
    dsimp only at q3 q6 q7 e2 e3
    try simp only [go_sem, reduceIte, Nat.reduceEqDiff, Nat.reduceAdd, Nat.reduceSub, Nat.reduceMul, Nat.reduceLT, Nat.reduceLeDiff, Nat.reducePow, Int.reduceToNat, Int.reduceLT, Int.reduceLE, Int.reduceEq, Int.reduceNe, Int.reduceAdd, Int.reduceSub, Int.reduceMul, Int.reduceNeg, q3, q6, q7, e3, es]
    refine cd_dec (fun g => ?_) (fun g => ?_)
    · have g' := eq_true g
      obtain ⟨x, hx, ex⟩ := Vl_at (l := p.set) (j := j) (by omega)
      have c1 : ((0 : Int) ≤ j) = True := eq_true (by omega)
      have wj := wrap_i64 (x := (j : Int) + 1) (by omega) (by omega)
      have hval := rValid5_ok (G := G) x t (hP.set x (List.mem_of_getElem? hx))
      simp only [Vl.cells] at hval
      have hfalse : wrongV t x = true → (incF p.set && !p.set.any (wrongV t)) = false := fun h => by
        rw [show p.set.any (wrongV t) = true from List.any_eq_true.2 ⟨x, List.mem_of_getElem? hx, h⟩]; simp
      cases hn : x.null
      · try simp only [go_sem, reduceIte, Nat.reduceEqDiff, Nat.reduceAdd, Nat.reduceSub, Nat.reduceMul, Nat.reduceLT, Nat.reduceLeDiff, Nat.reducePow, Int.reduceToNat, Int.reduceLT, Int.reduceLE, Int.reduceEq, Int.reduceNe, Int.reduceAdd, Int.reduceSub, Int.reduceMul, Int.reduceNeg, q3, q6, q7, e3, es, g', c1, ex, hn]
        rw [hn] at hval
        refine cE_vn hval ?_
        cases hvk : valOk x t
        · try simp only [go_sem, reduceIte, Nat.reduceEqDiff, Nat.reduceAdd, Nat.reduceSub, Nat.reduceMul, Nat.reduceLT, Nat.reduceLeDiff, Nat.reducePow, Int.reduceToNat, Int.reduceLT, Int.reduceLE, Int.reduceEq, Int.reduceNe, Int.reduceAdd, Int.reduceSub, Int.reduceMul, Int.reduceNeg, q3, q6, q7, e3, es, g', c1, ex, hn]
          exact finK_drop ⟨by rw [hfalse (by simp [wrongV, hvk])]; rfl, rfl, rfl⟩
        have hwx : wrongV t x = false := by simp [wrongV, hn, hvk]
        have hv1' : ∀ i y, p.set[i]? = some y → i < j + 1 → wrongV t y = false := fun i y hi hlt => by
          by_cases hij : i = j
          · subst hij
            obtain rfl := Option.some.inj (hx.symm.trans hi)
            exact hwx
          · exact hv1 i y hi (by omega)
        obtain rfl | ⟨k, rfl⟩ : j = 0 ∨ ∃ k, j = k + 1 := by
          cases j with
          | zero => exact .inl rfl
          | succ k => exact .inr ⟨k, rfl⟩
        · have c9 : ((0 : Int) < ((0 : Nat) : Int)) = False := eq_false (by omega)
          try simp only [go_sem, reduceIte, Nat.reduceEqDiff, Nat.reduceAdd, Nat.reduceSub, Nat.reduceMul, Nat.reduceLT, Nat.reduceLeDiff, Nat.reducePow, Int.reduceToNat, Int.reduceLT, Int.reduceLE, Int.reduceEq, Int.reduceNe, Int.reduceAdd, Int.reduceSub, Int.reduceMul, Int.reduceNeg, q3, q6, q7, e3, es, g', c1, ex, hn, c9, wj]
          exact ⟨⟨1, by omega, hv1', fun i x y _ _ h => by omega, rfl⟩, by omega⟩
        · obtain ⟨y, hy, ey⟩ := Vl_at (l := p.set) (j := k) (by rw [es]; omega)
          have c9 : ((0 : Int) < ((k + 1 : Nat) : Int)) = True := eq_true (by omega)
          have c8 : ((0 : Int) ≤ k) = True := eq_true (by omega)
          have c7 : ((k : Int) < p.set.length) = True := eq_true (by omega)
          have w1 : IntKind.i64.wrap (((k + 1 : Nat) : Int) - 1) = (k : Int) := by rw [wrap_i64 (by omega) (by omega)]; omega
          have hc := refCompare_ok (G := G) y x
          simp only [Vl.d, Vl.cells, hn] at hc
          try simp only [go_sem, reduceIte, Nat.reduceEqDiff, Nat.reduceAdd, Nat.reduceSub, Nat.reduceMul, Nat.reduceLT, Nat.reduceLeDiff, Nat.reducePow, Int.reduceToNat, Int.reduceLT, Int.reduceLE, Int.reduceEq, Int.reduceNe, Int.reduceAdd, Int.reduceSub, Int.reduceMul, Int.reduceNeg, q3, q6, q7, e3, es, g', c1, ex, hn, c9, c8, c7, w1, ey]
          refine cE_vn hc ?_
          try simp only [go_sem, reduceIte, Nat.reduceEqDiff, Nat.reduceAdd, Nat.reduceSub, Nat.reduceMul, Nat.reduceLT, Nat.reduceLeDiff, Nat.reducePow, Int.reduceToNat, Int.reduceLT, Int.reduceLE, Int.reduceEq, Int.reduceNe, Int.reduceAdd, Int.reduceSub, Int.reduceMul, Int.reduceNeg, q3, q6, q7, e3, es, g', c1, ex, hn, c9, c8, c7, w1, ey]
          by_cases hlt : cmpV y x < 0
          · have hle := eq_false (show ¬ 0 ≤ cmpV y x by omega)
            try simp only [go_sem, reduceIte, Nat.reduceEqDiff, Nat.reduceAdd, Nat.reduceSub, Nat.reduceMul, Nat.reduceLT, Nat.reduceLeDiff, Nat.reducePow, Int.reduceToNat, Int.reduceLT, Int.reduceLE, Int.reduceEq, Int.reduceNe, Int.reduceAdd, Int.reduceSub, Int.reduceMul, Int.reduceNeg, q3, q6, q7, e3, es, hle, decide_false, wj]
            refine ⟨⟨k + 2, by omega, hv1', fun i a b ha hb hi => ?_, rfl⟩, by omega⟩
            by_cases hik : i = k
            · subst hik
              obtain rfl := Option.some.inj (hy.symm.trans ha)
              obtain rfl := Option.some.inj (hx.symm.trans hb)
              exact hlt
            · exact hv2 i a b ha hb (by omega)
          · have hle := eq_true (show 0 ≤ cmpV y x by omega)
            try simp only [go_sem, reduceIte, Nat.reduceEqDiff, Nat.reduceAdd, Nat.reduceSub, Nat.reduceMul, Nat.reduceLT, Nat.reduceLeDiff, Nat.reducePow, Int.reduceToNat, Int.reduceLT, Int.reduceLE, Int.reduceEq, Int.reduceNe, Int.reduceAdd, Int.reduceSub, Int.reduceMul, Int.reduceNeg, q3, q6, q7, e3, es, hle, decide_true]
            refine finK_drop ⟨?_, rfl, rfl⟩
            have : incF p.set = false := by
              rw [Bool.eq_false_iff]; intro h
              exact hlt ((incF_iff _).1 h k y x hy hx)
            rw [this]; rfl
      · try simp only [go_sem, reduceIte, Nat.reduceEqDiff, Nat.reduceAdd, Nat.reduceSub, Nat.reduceMul, Nat.reduceLT, Nat.reduceLeDiff, Nat.reducePow, Int.reduceToNat, Int.reduceLT, Int.reduceLE, Int.reduceEq, Int.reduceNe, Int.reduceAdd, Int.reduceSub, Int.reduceMul, Int.reduceNeg, q3, q6, q7, e3, es, g', c1, ex, hn]
        exact finK_drop ⟨by rw [hfalse (by simp [wrongV, hn])]; rfl, rfl, rfl⟩
    · try simp only [go_sem, reduceIte, Nat.reduceEqDiff, Nat.reduceAdd, Nat.reduceSub, Nat.reduceMul, Nat.reduceLT, Nat.reduceLeDiff, Nat.reducePow, Int.reduceToNat, Int.reduceLT, Int.reduceLE, Int.reduceEq, Int.reduceNe, Int.reduceAdd, Int.reduceSub, Int.reduceMul, Int.reduceNeg, q3, q6, q7, e3, es]
      refine finK_drop ⟨?_, rfl, rfl⟩
      have i1 : incF p.set = true := (incF_iff _).2 fun i a b ha hb => hv2 i a b ha hb (by have := (List.getElem?_eq_some_iff.1 hb).1; omega)
      have i2 : p.set.any (wrongV t) = false := by
        rw [List.any_eq_false]; intro x hx
        obtain ⟨i, hi⟩ := List.getElem?_of_mem hx
        rw [hv1 i x hi (by have := (List.getElem?_eq_some_iff.1 hi).1; omega)]; simp
      rw [i1, i2]; rfl
theorem rfits_ok (fs : List Fd) (nx : Int) : ∀ (n : Nat) (p : Pr), SizeOf.sizeOf p ≤ n → (∀ q ∈ subs p, FormP q ∧ PI q) → VN P G 50 [.agg [.sl .none (fs.map fdD), .int .i64 nx], .agg p.cells] (.bool ((subs p).all (atomOk fs)))
  | 0, p, h, _ => by cases p; simp at h
  | n + 1, p, h, hq => by
    have h0 := hq p (by rw [subs_eq]; simp)
    exact rfits_step fs nx p h0.1 h0.2 fun k hk => rfits_ok fs nx n k (Nat.le_of_lt_succ (Nat.lt_of_lt_of_le (Pr.kid_lt hk) h)) fun q hqk => hq q (by
      rw [subs_eq, subsL_flat]; exact List.mem_cons_of_mem _ (List.mem_flatMap.2 ⟨k, hk, hqk⟩))
theorem rValid_ok (fs : List Fd) (nx : Int) (p : Pr) (hp : ∀ q ∈ subs p, PI q) : VN P G 18 [.agg [.sl .none (fs.map fdD), .int .i64 nx], .agg p.cells] (.bool (validF fs p)) := by
  have h1 := Formed_ok (G := G) p
  unfold VN
  refine VC.ofs (fun | 99999999 => [(0, [0, 1, 2, 3, 4])] | _ => []) [4] mixed Tryz.func18 rfl rfl rfl rfl (by decide +kernel) (by simp) ?_
  simp only [go_sem, reduceIte, Nat.reduceEqDiff, Nat.reduceAdd, Nat.reduceSub, Nat.reduceMul, Nat.reduceLT, Nat.reduceLeDiff, Nat.reducePow, Int.reduceToNat, Int.reduceLT, Int.reduceLE, Int.reduceEq, Int.reduceNe, Int.reduceAdd, Int.reduceSub, Int.reduceMul, Int.reduceNeg]
  refine fun b2 => new_1 fun b3 q1 q2 => ?_
  try simp only [go_sem, reduceIte, Nat.reduceEqDiff, Nat.reduceAdd, Nat.reduceSub, Nat.reduceMul, Nat.reduceLT, Nat.reduceLeDiff, Nat.reducePow, Int.reduceToNat, Int.reduceLT, Int.reduceLE, Int.reduceEq, Int.reduceNe, Int.reduceAdd, Int.reduceSub, Int.reduceMul, Int.reduceNeg, q1, q2]
  refine cK_vn h1 ?_
  cases hw : wellF p
  · try simp only [go_sem, reduceIte, Nat.reduceEqDiff, Nat.reduceAdd, Nat.reduceSub, Nat.reduceMul, Nat.reduceLT, Nat.reduceLeDiff, Nat.reducePow, Int.reduceToNat, Int.reduceLT, Int.reduceLE, Int.reduceEq, Int.reduceNe, Int.reduceAdd, Int.reduceSub, Int.reduceMul, Int.reduceNeg, q1, q2]
    exact finK_drop ⟨by simp [validF, hw, D.er, D.er1], rfl, rfl⟩
  · try simp only [go_sem, reduceIte, Nat.reduceEqDiff, Nat.reduceAdd, Nat.reduceSub, Nat.reduceMul, Nat.reduceLT, Nat.reduceLeDiff, Nat.reducePow, Int.reduceToNat, Int.reduceLT, Int.reduceLE, Int.reduceEq, Int.reduceNe, Int.reduceAdd, Int.reduceSub, Int.reduceMul, Int.reduceNeg, q1, q2]
    refine cK_vn (rfits_ok fs nx _ p (Nat.le_refl _) fun q hq => ⟨wellF_form hw q hq, hp q hq⟩) ?_
    try simp only [go_sem, reduceIte, Nat.reduceEqDiff, Nat.reduceAdd, Nat.reduceSub, Nat.reduceMul, Nat.reduceLT, Nat.reduceLeDiff, Nat.reducePow, Int.reduceToNat, Int.reduceLT, Int.reduceLE, Int.reduceEq, Int.reduceNe, Int.reduceAdd, Int.reduceSub, Int.reduceMul, Int.reduceNeg, q1, q2]
    exact finK_drop ⟨by simp [validF, hw, D.er, D.er1], rfl, rfl⟩
end Go.Proofs.YtbfkhepfgibonaaGreatS
