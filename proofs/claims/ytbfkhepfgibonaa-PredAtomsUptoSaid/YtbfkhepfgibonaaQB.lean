/-
  Predicates: only the cells of its own fields count (fenlandlaw08.PredLocal).
-/
import Derived.Test.YtbfkhepfgibonaaQ9
set_option linter.unusedVariables false
set_option linter.unusedSimpArgs false
namespace Go.Proofs.YtbfkhepfgibonaaS
open Go Go.Proofs.YtbfkhepfgibonaaV

variable {G : Heap}
attribute [local irreducible] VN VC VX VQ VY VW VTA

theorem atomIds_append (a b : List Pr) : atomIds (a ++ b) = atomIds a ++ atomIds b := by simp [atomIds]
theorem mem_atom_self {p : Pr} (h : isAt p.op = true) : p.id ∈ atomIds (subs p) := by
  rw [subs_eq]
  simp [atomIds, h]
theorem mem_atom_kid {p k : Pr} {i : Int} (hk : k ∈ p.kids) (h : i ∈ atomIds (subs k)) : i ∈ atomIds (subs p) := by
  simp only [atomIds, List.mem_map, List.mem_filter] at h ⊢
  obtain ⟨q, ⟨h1, h2⟩, h3⟩ := h
  refine ⟨q, ⟨?_, h2⟩, h3⟩
  rw [subs_eq, subsL_flat]
  exact List.mem_cons_of_mem _ (List.mem_flatMap.2 ⟨k, hk, h1⟩)
theorem evK_na {op s s' : Int} (ks : List Int) (h : isAt op = false) : evK op s ks = evK op s' ks := by
  have h' : ¬ (op = 1 ∨ op = 2 ∨ op = 3 ∨ op = 4) := by
    rintro (rfl | rfl | rfl | rfl) <;> cases h
  simp only [evK, if_neg h']
theorem eval_local {r r' : Rw} : ∀ (n : Nat) (p : Pr), SizeOf.sizeOf p ≤ n → (∀ i ∈ atomIds (subs p), valV r i = valV r' i) → evalP r p = evalP r' p
  | 0, p, h, _ => by cases p; simp at h
  | n + 1, p, h, hv => by
    have hk : p.kids.map (evalP r) = p.kids.map (evalP r') := List.map_congr_left fun k hk =>
      eval_local n k (Nat.le_of_lt_succ (Nat.lt_of_lt_of_le (Pr.kid_lt hk) h)) fun i hi => hv i (mem_atom_kid hk hi)
    rw [evalP_eq, evalP_eq, hk]
    cases ha : isAt p.op
    · exact evK_na _ ha
    · rw [hv _ (mem_atom_self ha)]
theorem pEval_t (t : Tk) (r : Rw) (p : Pr) : VN P G 14 [.agg p.cells, .agg [.sl t (r.map clD)]] (.int .i64 (evalP r p)) := by
  refine VN.er ?_
  have h := pEval_ok (G := G) r p
  have e : (r.map clD).map D.er = r.map clD := by rw [List.map_map]; rfl
  simpa [D.er, D.er1, Pr_er, e] using h
def ownF (l : List Int) (r : Rw) : Rw := r.flatMap fun c => List.replicate (l.count c.1) c
theorem ownF_val {l : List Int} {i : Int} (hi : i ∈ l) : ∀ r : Rw, valV (ownF l r) i = valV r i
  | [] => rfl
  | c :: r => by
    have ih := ownF_val hi r
    unfold ownF at ih ⊢
    rw [List.flatMap_cons]
    conv => rhs; rw [valV]
    by_cases e : c.1 = i
    · rw [if_pos e]
      have : 0 < l.count c.1 := by rw [e]; exact List.count_pos_iff.2 hi
      obtain ⟨k, hk⟩ : ∃ k, l.count c.1 = k + 1 := ⟨l.count c.1 - 1, by omega⟩
      rw [hk, List.replicate_succ, List.cons_append, valV, if_pos e]
    · rw [if_neg e, ← ih]
      generalize l.count c.1 = k
      induction k with
      | zero => rfl
      | succ k ihk => rw [List.replicate_succ, List.cons_append, valV, if_neg e, ihk]
theorem own_eval (p : Pr) (r : Rw) : evalP (ownF (fieldsF p) r) p = evalP r p :=
  eval_local _ p (Nat.le_refl _) fun i hi => ownF_val (((fieldsF_spec p).2 i).2 hi) r
theorem more_eval (p : Pr) (r : Rw) (c : Cl) (h : c.1 ∉ fieldsF p) : evalP (c :: r) p = evalP r p :=
  eval_local _ p (Nat.le_refl _) fun i hi => by
    rw [valV, if_neg (fun e => h (by rw [e]; exact ((fieldsF_spec p).2 i).2 hi))]
theorem fields_lt {p : Pr} {k : Nat} (h0 : 0 < k) (h : k < (fieldsF p).length) : (fieldsF p).getD (k - 1) 0 < (fieldsF p).getD k 0 := by
  have := List.pairwise_iff_getElem.1 (fieldsF_spec p).1 (k - 1) k (by omega) h (by omega)
  simpa [List.getD, h, show k - 1 < (fieldsF p).length by omega] using this
theorem ownF_len (l : List Int) (r : Rw) : (ownF l r).length ≤ r.length * l.length := by
  unfold ownF
  induction r with
  | nil => simp
  | cons c r ih =>
    have := List.count_le_length (a := c.1) (l := l)
    rw [List.flatMap_cons, List.length_append, List.length_replicate, List.length_cons, Nat.succ_mul]; omega
set_option maxRecDepth 100000 in
set_option maxHeartbeats 8000000 in
theorem local_ok (p : Pr) (r : Rw) (c : Cl) (hn : (subs p).length ≤ 1048576) : VN P G 4 [.agg p.cells, .agg [.sl .none (r.map clD)], clD c] (.bool true) := by
  have hs := law08_sanity_ok (G := G)
  have w1 := Small_ok (G := G) p 300
  have hf := Fields_ok (G := G) p (by omega)
  have hE := fun t r => pEval_t (G := G) t r p
  have hfl := fieldsF_le p
  have hev1 := own_eval p r
  have hev2 := fun h => more_eval p r c h
  have hinc := fun k => fields_lt (p := p) (k := k)
  obtain ⟨l, hl⟩ : ∃ l, fieldsF p = l := ⟨_, rfl⟩
  rw [hl] at hf hfl hev1 hev2
  simp only [hl] at hinc
  clear hl
  unfold VN
  refine VC.ofs (fun | 12 => [(0, []), (1, []), (2, []), (3, []), (4, []), (5, []), (6, []), (7, []), (8, []), (9, []), (10, [])] | 13 => [(0, []), (1, []), (2, []), (3, []), (4, []), (5, []), (6, []), (7, []), (8, []), (9, []), (10, [])] | 19 => [(0, []), (1, []), (2, []), (3, []), (4, []), (5, []), (6, []), (7, []), (8, []), (9, []), (10, []), (11, []), (12, []), (13, [])] | 21 => [(0, []), (1, []), (2, []), (3, []), (4, []), (5, []), (6, [])] | 99999999 => [(0, [0, 1, 2, 3, 4, 5, 6, 7, 8, 9, 10, 11, 12, 13, 14, 24, 33, 39, 52, 75, 91, 98])] | _ => []) [6] mixed Try.func4 rfl rfl rfl rfl (by decide +kernel) (by simp) ?_
  have er : (r.map clD).length = r.length := by simp
  have el : (l.map iE).length = l.length := by simp
  simp only [go_sem, reduceIte, Nat.reduceEqDiff, Nat.reduceAdd, Nat.reduceSub, Nat.reduceMul, Nat.reduceLT, Nat.reduceLeDiff, Nat.reducePow, Int.reduceToNat, Int.reduceLT, Int.reduceLE, Int.reduceEq, Int.reduceNe, Int.reduceAdd, Int.reduceSub, Int.reduceMul, Int.reduceNeg, clD]
  refine fun b3 => new_1 fun b4 q1 q2 => new_2 fun b5 q3 q4 q5 => ?_
  have N := And.intro q1 (And.intro q2 (And.intro q3 (And.intro q4 q5)))
  generalize hβ : Heap.set _ b5 _ = β0
  have e3 : β0 b3 = some p.cells := by rw [← hβ]; simp [Heap.set, N]
  have e4 : β0 b4 = some [.sl .none (r.map clD)] := by rw [← hβ]; simp [Heap.set, N]
  have e5 : β0 b5 = some [.int .i64 c.1, .bool c.2.null, .int .i64 c.2.n, .str c.2.s] := hit_set hβ
  clear hβ
  refine cK_vn hs ?_
  try simp only [go_sem, reduceIte, Nat.reduceEqDiff, Nat.reduceAdd, Nat.reduceSub, Nat.reduceMul, Nat.reduceLT, Nat.reduceLeDiff, Nat.reducePow, Int.reduceToNat, Int.reduceLT, Int.reduceLE, Int.reduceEq, Int.reduceNe, Int.reduceAdd, Int.reduceSub, Int.reduceMul, Int.reduceNeg, N, e3, e4, e5, er]
  refine cK_vx w1 ?_
  rintro _ ⟨b1, rfl⟩
  cases b1
  · try simp only [go_sem, reduceIte, Nat.reduceEqDiff, Nat.reduceAdd, Nat.reduceSub, Nat.reduceMul, Nat.reduceLT, Nat.reduceLeDiff, Nat.reducePow, Int.reduceToNat, Int.reduceLT, Int.reduceLE, Int.reduceEq, Int.reduceNe, Int.reduceAdd, Int.reduceSub, Int.reduceMul, Int.reduceNeg, N, e3, e4, e5, er]
    exact finK_drop ⟨rfl, rfl, rfl⟩
  try simp only [go_sem, reduceIte, Nat.reduceEqDiff, Nat.reduceAdd, Nat.reduceSub, Nat.reduceMul, Nat.reduceLT, Nat.reduceLeDiff, Nat.reducePow, Int.reduceToNat, Int.reduceLT, Int.reduceLE, Int.reduceEq, Int.reduceNe, Int.reduceAdd, Int.reduceSub, Int.reduceMul, Int.reduceNeg, N, e3, e4, e5, er]
  refine cd_dec (fun _ => ?_) (fun hr60 => ?_)
  · try simp only [go_sem, reduceIte, Nat.reduceEqDiff, Nat.reduceAdd, Nat.reduceSub, Nat.reduceMul, Nat.reduceLT, Nat.reduceLeDiff, Nat.reducePow, Int.reduceToNat, Int.reduceLT, Int.reduceLE, Int.reduceEq, Int.reduceNe, Int.reduceAdd, Int.reduceSub, Int.reduceMul, Int.reduceNeg, N, e3, e4, e5, er]
    exact finK_drop ⟨rfl, rfl, rfl⟩
  try simp only [go_sem, reduceIte, Nat.reduceEqDiff, Nat.reduceAdd, Nat.reduceSub, Nat.reduceMul, Nat.reduceLT, Nat.reduceLeDiff, Nat.reducePow, Int.reduceToNat, Int.reduceLT, Int.reduceLE, Int.reduceEq, Int.reduceNe, Int.reduceAdd, Int.reduceSub, Int.reduceMul, Int.reduceNeg, N, e3, e4, e5, er]
  refine cK_vn hf ?_
  try simp only [go_sem, reduceIte, Nat.reduceEqDiff, Nat.reduceAdd, Nat.reduceSub, Nat.reduceMul, Nat.reduceLT, Nat.reduceLeDiff, Nat.reducePow, Int.reduceToNat, Int.reduceLT, Int.reduceLE, Int.reduceEq, Int.reduceNe, Int.reduceAdd, Int.reduceSub, Int.reduceMul, Int.reduceNeg, N, e3, e4, e5, er, el]
  have N := And.intro N trivial
  refine new_any fun b9 hb9 => ?_
  have N := And.intro N (box_ne hb9 e3)
  have N := And.intro N (box_ne hb9 e4)
  have N := And.intro N (box_ne hb9 e5)
  generalize hβ_ : Heap.set _ b9 _ = β_
  have e9 := hit_set hβ_
  have e3 := keep_new hβ_ hb9 e3
  have e4 := keep_new hβ_ hb9 e4
  have e5 := keep_new hβ_ hb9 e5
  clear hβ_ hb9
  try simp only [go_sem, reduceIte, Nat.reduceEqDiff, Nat.reduceAdd, Nat.reduceSub, Nat.reduceMul, Nat.reduceLT, Nat.reduceLeDiff, Nat.reducePow, Int.reduceToNat, Int.reduceLT, Int.reduceLE, Int.reduceEq, Int.reduceNe, Int.reduceAdd, Int.reduceSub, Int.reduceMul, Int.reduceNeg, N, e3, e4, e5, e9]
  have hr60' : r.length ≤ 60 := by simp at hr60; omega
  have hsm : ∀ i k : Nat, (ownF l (r.take i)).length + k ≤ 60 * 1048576 + k := fun i k => by
    have h1 := ownF_len l (r.take i)
    have h2 : (r.take i).length ≤ 60 := by rw [List.length_take]; omega
    have h3 := Nat.mul_le_mul h2 (show l.length ≤ 1048576 by omega)
    omega
  refine vwq_loop (fun v => ∃ (i : Nat) (t : Tk), i ≤ r.length ∧ TW 4 t v.ω ∧ v.β b3 = some p.cells ∧ v.β b4 = some [.sl .none (r.map clD)] ∧ v.β b5 = some [.int .i64 c.1, .bool c.2.null, .int .i64 c.2.n, .str c.2.s] ∧ v.β b9 = some [.sl t ((ownF l (r.take i)).map clD)] ∧ v.σ 3 = .pb b3 0 ∧ v.σ 4 = .pb b4 0 ∧ v.σ 5 = .pb b5 0 ∧ v.σ 7 = .bool true ∧ v.σ 8 = .sl .none (l.map iE) ∧ v.σ 9 = .pb b9 0 ∧ v.σ 10 = .int .i64 i) (fun v => r.length - (ival (v.σ 10)).toNat) ⟨0, .full, by omega, TW.full 4, by simp only [Heap.set, N, if_false]; exact e3, by simp only [Heap.set, N, if_false]; exact e4, by simp only [Heap.set, N, if_false]; exact e5, by first | exact e9 | (simp only [Heap.set, if_true]; rfl), rfl, rfl, rfl, rfl, rfl, rfl, rfl⟩ ?_
  clear e3 e4 e5 e9
  rintro σ β ω ⟨i, t, hi, hw, e3, e4, e5, e9, q3, q4, q5, q7, q8, q9, q10⟩
  dsimp only at hw e3 e4 e5 e9 q3 q4 q5 q7 q8 q9 q10
  try simp only [go_sem, reduceIte, Nat.reduceEqDiff, Nat.reduceAdd, Nat.reduceSub, Nat.reduceMul, Nat.reduceLT, Nat.reduceLeDiff, Nat.reducePow, Int.reduceToNat, Int.reduceLT, Int.reduceLE, Int.reduceEq, Int.reduceNe, Int.reduceAdd, Int.reduceSub, Int.reduceMul, Int.reduceNeg, q3, q4, q5, q7, q8, q9, q10, e4, er]
  refine cd_dec (fun g => ?_) (fun g => ?_)
  · have wi := wrap_i64 (x := (i : Int) + 1) (by omega) (by omega)
    obtain ⟨x, hx, ex⟩ := Cl_at (l := r) (j := i) (by omega)
    have hown : ownF l (r.take (i + 1)) = ownF l (r.take i) ++ List.replicate (l.count x.1) x := by
      unfold ownF; rw [List.take_add_one, hx, List.flatMap_append]; simp
    have ci : ((0 : Int) ≤ i) = True := eq_true (by omega)
    have gi := eq_true g
    try simp only [go_sem, reduceIte, Nat.reduceEqDiff, Nat.reduceAdd, Nat.reduceSub, Nat.reduceMul, Nat.reduceLT, Nat.reduceLeDiff, Nat.reducePow, Int.reduceToNat, Int.reduceLT, Int.reduceLE, Int.reduceEq, Int.reduceNe, Int.reduceAdd, Int.reduceSub, Int.reduceMul, Int.reduceNeg, q3, q4, q5, q7, q8, q9, q10, e4, er]
    refine vwq_loop (fun v => ∃ (k : Nat) (t : Tk), k ≤ l.length ∧ TW 4 t v.ω ∧ v.β b3 = some p.cells ∧ v.β b4 = some [.sl .none (r.map clD)] ∧ v.β b5 = some [.int .i64 c.1, .bool c.2.null, .int .i64 c.2.n, .str c.2.s] ∧ v.β b9 = some [.sl t ((ownF l (r.take i) ++ List.replicate ((l.take k).count x.1) x).map clD)] ∧ v.σ 3 = .pb b3 0 ∧ v.σ 4 = .pb b4 0 ∧ v.σ 5 = .pb b5 0 ∧ v.σ 7 = .bool true ∧ v.σ 8 = .sl .none (l.map iE) ∧ v.σ 9 = .pb b9 0 ∧ v.σ 10 = .int .i64 i ∧ v.σ 11 = .int .i64 k) (fun v => l.length - (ival (v.σ 11)).toNat) ⟨0, t, by omega, hw, e3, e4, e5, by simpa using e9, rfl, rfl, rfl, rfl, rfl, rfl, rfl, rfl⟩ ?_
    clear e3 e4 e5 e9 q3 q4 q5 q7 q8 q9 q10 hw
    rintro σ β ω ⟨k, t, hk, hw, e3, e4, e5, e9, q3, q4, q5, q7, q8, q9, q10, q11⟩
    dsimp only at hw e3 e4 e5 e9 q3 q4 q5 q7 q8 q9 q10 q11
    try simp only [go_sem, reduceIte, Nat.reduceEqDiff, Nat.reduceAdd, Nat.reduceSub, Nat.reduceMul, Nat.reduceLT, Nat.reduceLeDiff, Nat.reducePow, Int.reduceToNat, Int.reduceLT, Int.reduceLE, Int.reduceEq, Int.reduceNe, Int.reduceAdd, Int.reduceSub, Int.reduceMul, Int.reduceNeg, q3, q4, q5, q7, q8, q9, q10, q11, e4, er, el]
    refine cd_dec (fun gk => ?_) (fun gk => ?_)
    · have wk := wrap_i64 (x := (k : Int) + 1) (by omega) (by omega)
      have ck : ((0 : Int) ≤ k) = True := eq_true (by omega)
      have gk' := eq_true gk
      obtain ⟨y, hy⟩ : ∃ y, l[k]? = some y := ⟨l[k]'(by omega), by simp⟩
      have ey : (l.map iE).getD k .any = .int .i64 y := by simp [List.getD, hy, iE]
      have hto := hw.ok
      have htg := hw.gone
      have hcnt : (l.take (k + 1)).count x.1 = (l.take k).count x.1 + if y = x.1 then 1 else 0 := by
        rw [List.take_add_one, hy, List.count_append]
        by_cases e : y = x.1 <;> simp [e]
      try simp only [go_sem, reduceIte, Nat.reduceEqDiff, Nat.reduceAdd, Nat.reduceSub, Nat.reduceMul, Nat.reduceLT, Nat.reduceLeDiff, Nat.reducePow, Int.reduceToNat, Int.reduceLT, Int.reduceLE, Int.reduceEq, Int.reduceNe, Int.reduceAdd, Int.reduceSub, Int.reduceMul, Int.reduceNeg, q3, q4, q5, q7, q8, q9, q10, q11, e4, er, el, ey, ex, ci, gi, ck, gk']
      refine cd_dec (fun ge => ?_) (fun ge => ?_)
      · try simp only [go_sem, reduceIte, Nat.reduceEqDiff, Nat.reduceAdd, Nat.reduceSub, Nat.reduceMul, Nat.reduceLT, Nat.reduceLeDiff, Nat.reducePow, Int.reduceToNat, Int.reduceLT, Int.reduceLE, Int.reduceEq, Int.reduceNe, Int.reduceAdd, Int.reduceSub, Int.reduceMul, Int.reduceNeg, q3, q4, q5, q7, q8, q9, q10, q11, e4, e9, er, el, ex, ci, gi, hto, htg, wk]
        rw [if_pos ge] at hcnt
        have hs2 := hsm i ((l.take k).count x.1)
        have hc2 : (l.take k).count x.1 ≤ 1048576 := Nat.le_trans List.count_le_length (by rw [List.length_take]; omega)
        refine ⟨fun z hz => ?_, by simp only [List.length_map, List.length_append, List.length_replicate]; omega, fun t' _ => ⟨⟨k + 1, .live t' 4, by omega, TW.live 4 t', ?_⟩, by omega⟩⟩
        · obtain ⟨y, _, rfl⟩ := List.mem_map.1 hz
          rfl
        simp only [Heap.set, N, if_true, if_false, e3, e4, e5, true_and, hcnt]
        exact ⟨by rw [List.replicate_succ']; simp [clD], by simp⟩
      · try simp only [go_sem, reduceIte, Nat.reduceEqDiff, Nat.reduceAdd, Nat.reduceSub, Nat.reduceMul, Nat.reduceLT, Nat.reduceLeDiff, Nat.reducePow, Int.reduceToNat, Int.reduceLT, Int.reduceLE, Int.reduceEq, Int.reduceNe, Int.reduceAdd, Int.reduceSub, Int.reduceMul, Int.reduceNeg, q3, q4, q5, q7, q8, q9, q10, q11, e4, er, el, wk]
        rw [if_neg ge] at hcnt
        exact ⟨⟨k + 1, t, by omega, hw, e3, e5, by rw [hcnt]; exact e9, rfl⟩, by omega⟩
    · try simp only [go_sem, reduceIte, Nat.reduceEqDiff, Nat.reduceAdd, Nat.reduceSub, Nat.reduceMul, Nat.reduceLT, Nat.reduceLeDiff, Nat.reducePow, Int.reduceToNat, Int.reduceLT, Int.reduceLE, Int.reduceEq, Int.reduceNe, Int.reduceAdd, Int.reduceSub, Int.reduceMul, Int.reduceNeg, q3, q4, q5, q7, q8, q9, q10, q11, wi]
      rw [show l.take k = l from List.take_of_length_le (by omega), ← hown] at e9
      exact ⟨⟨i + 1, t, by omega, hw, e3, e4, e5, e9, rfl⟩, by omega⟩
  · try simp only [go_sem, reduceIte, Nat.reduceEqDiff, Nat.reduceAdd, Nat.reduceSub, Nat.reduceMul, Nat.reduceLT, Nat.reduceLeDiff, Nat.reducePow, Int.reduceToNat, Int.reduceLT, Int.reduceLE, Int.reduceEq, Int.reduceNe, Int.reduceAdd, Int.reduceSub, Int.reduceMul, Int.reduceNeg, q3, q4, q5, q7, q8, q9, q10, e5]
    rw [List.take_of_length_le (by omega)] at e9
    obtain rfl : i = r.length := by omega
    have N := trivial
    refine new_any fun b12 hb12 => ?_
    have N := And.intro N (box_ne hb12 e3)
    have N := And.intro N (box_ne hb12 e4)
    have N := And.intro N (box_ne hb12 e5)
    have N := And.intro N (box_ne hb12 e9)
    try simp only [go_sem, reduceIte, Nat.reduceEqDiff, Nat.reduceAdd, Nat.reduceSub, Nat.reduceMul, Nat.reduceLT, Nat.reduceLeDiff, Nat.reducePow, Int.reduceToNat, Int.reduceLT, Int.reduceLE, Int.reduceEq, Int.reduceNe, Int.reduceAdd, Int.reduceSub, Int.reduceMul, Int.reduceNeg, N, e4, er]
    rw [show (r.map clD).map D.er = r.map clD by rw [List.map_map]; rfl]
    refine ⟨fun d hd => (by obtain ⟨y, _, rfl⟩ := List.mem_map.1 hd; exact ⟨rfl, rfl⟩), by rw [er]; omega, fun t' _ => ?_⟩
    have hs1 := fun t => hE t (ownF l r)
    simp only [hev1] at hs1
    refine vwq_loop (fun v => ∃ (k : Nat) (t2 : Tk) (m : Rw), k ≤ l.length ∧ v.β b3 = some p.cells ∧ v.β b4 = some [.sl .none (r.map clD)] ∧ v.β b5 = some [.int .i64 c.1, .bool c.2.null, .int .i64 c.2.n, .str c.2.s] ∧ v.β b9 = some [.sl t ((ownF l r).map clD)] ∧ v.β b12 = some [.sl t2 (m.map clD)] ∧ (m = r ∨ m = c :: r ∧ c.1 ∉ l.take k) ∧ v.σ 3 = .pb b3 0 ∧ v.σ 4 = .pb b4 0 ∧ v.σ 5 = .pb b5 0 ∧ v.σ 7 = .bool true ∧ v.σ 8 = .sl .none (l.map iE) ∧ v.σ 9 = .pb b9 0 ∧ v.σ 12 = .pb b12 0 ∧ v.σ 13 = .int .i64 k) (fun v => l.length - (ival (v.σ 13)).toNat) ⟨0, .live t' 4, c :: r, by omega, by simp only [Heap.set, N, if_false]; exact e3, by simp only [Heap.set, N, if_false]; exact e4, by simp only [Heap.set, N, if_false]; exact e5, by simp only [Heap.set, N, if_false]; exact e9, by simp only [Heap.set, if_true]; rfl, .inr ⟨rfl, by simp⟩, rfl, rfl, rfl, rfl, rfl, rfl, rfl, rfl⟩ ?_
    clear e3 e4 e5 e9 q3 q4 q5 q7 q8 q9 q10 hw
    rintro σ β ω ⟨k, t2, m, hk, e3, e4, e5, e9, e12, hm, q3, q4, q5, q7, q8, q9, q12, q13⟩
    dsimp only at e3 e4 e5 e9 e12 q3 q4 q5 q7 q8 q9 q12 q13
    try simp only [go_sem, reduceIte, Nat.reduceEqDiff, Nat.reduceAdd, Nat.reduceSub, Nat.reduceMul, Nat.reduceLT, Nat.reduceLeDiff, Nat.reducePow, Int.reduceToNat, Int.reduceLT, Int.reduceLE, Int.reduceEq, Int.reduceNe, Int.reduceAdd, Int.reduceSub, Int.reduceMul, Int.reduceNeg, q3, q4, q5, q7, q8, q9, q12, q13, el]
    refine cd_dec (fun gk => ?_) (fun gk => ?_)
    · have wk := wrap_i64 (x := (k : Int) + 1) (by omega) (by omega)
      have ck : ((0 : Int) ≤ k) = True := eq_true (by omega)
      have gk' := eq_true gk
      obtain ⟨y, hy⟩ : ∃ y, l[k]? = some y := ⟨l[k]'(by omega), by simp⟩
      have ey : (l.map iE).getD k .any = .int .i64 y := by simp [List.getD, hy, iE]
      have fin : ∀ (m' : Rw) (t3 : Tk), (m' = r ∨ m' = c :: r ∧ c.1 ∉ l.take (k + 1)) → True := fun _ _ _ => trivial
      have hnot : m = c :: r ∧ c.1 ∉ l.take k → ¬ y = c.1 → m = c :: r ∧ c.1 ∉ l.take (k + 1) := fun h1 h2 => ⟨h1.1, by
        rw [List.take_add_one, hy]; simp only [Option.toList_some, List.mem_append, List.mem_cons, List.not_mem_nil, or_false, not_or]
        exact ⟨h1.2, fun e => h2 e.symm⟩⟩
      by_cases k0 : k = 0
      · subst k0
        try simp only [go_sem, reduceIte, Nat.reduceEqDiff, Nat.reduceAdd, Nat.reduceSub, Nat.reduceMul, Nat.reduceLT, Nat.reduceLeDiff, Nat.reducePow, Int.reduceToNat, Int.reduceLT, Int.reduceLE, Int.reduceEq, Int.reduceNe, Int.reduceAdd, Int.reduceSub, Int.reduceMul, Int.reduceNeg, q3, q4, q5, q7, q8, q9, q12, q13, el, ey, ck, gk', e5]
        refine ⟨by omega, cd_dec (fun e => ?_) (fun e => ?_)⟩
        · try simp only [go_sem, reduceIte, Nat.reduceEqDiff, Nat.reduceAdd, Nat.reduceSub, Nat.reduceMul, Nat.reduceLT, Nat.reduceLeDiff, Nat.reducePow, Int.reduceToNat, Int.reduceLT, Int.reduceLE, Int.reduceEq, Int.reduceNe, Int.reduceAdd, Int.reduceSub, Int.reduceMul, Int.reduceNeg, q3, q4, q5, q7, q8, q9, q12, q13, e4, e12, N]
          refine ⟨⟨1, .none, r, by omega, ?_⟩, by omega⟩
          simp [Heap.set, N, e3, e5, e9]
        · try simp only [go_sem, reduceIte, Nat.reduceEqDiff, Nat.reduceAdd, Nat.reduceSub, Nat.reduceMul, Nat.reduceLT, Nat.reduceLeDiff, Nat.reducePow, Int.reduceToNat, Int.reduceLT, Int.reduceLE, Int.reduceEq, Int.reduceNe, Int.reduceAdd, Int.reduceSub, Int.reduceMul, Int.reduceNeg, q3, q4, q5, q7, q8, q9, q12, q13]
          refine ⟨⟨1, t2, m, by omega, e3, e4, e5, e9, e12, ?_, rfl⟩, by omega⟩
          rcases hm with h | h
          · exact .inl h
          · exact .inr (hnot h e)
      · have hlt := hinc k (by omega) (by omega)
        obtain ⟨j, rfl⟩ : ∃ j, k = j + 1 := ⟨k - 1, by omega⟩
        obtain ⟨z, hz⟩ : ∃ z, l[j]? = some z := ⟨l[j]'(by omega), by simp⟩
        have ez : (l.map iE).getD j .any = .int .i64 z := by simp [List.getD, hz, iE]
        have hzy : z < y := by simpa [List.getD, hz, hy] using hlt
        have w1 : IntKind.i64.wrap (((j + 1 : Nat) : Int) - 1) = (j : Int) := by rw [show ((j + 1 : Nat) : Int) - 1 = (j : Int) by omega]; exact wrap_i64 (by omega) (by omega)
        have cp : ((0 : Int) < ((j + 1 : Nat) : Int)) = True := eq_true (by omega)
        have cj : ((0 : Int) ≤ j) = True := eq_true (by omega)
        have gj : ((j : Int) < (l.length : Nat)) = True := eq_true (by omega)
        have nge : (z ≥ y) = False := eq_false (by omega)
        try simp only [go_sem, reduceIte, Nat.reduceEqDiff, Nat.reduceAdd, Nat.reduceSub, Nat.reduceMul, Nat.reduceLT, Nat.reduceLeDiff, Nat.reducePow, Int.reduceToNat, Int.reduceLT, Int.reduceLE, Int.reduceEq, Int.reduceNe, Int.reduceAdd, Int.reduceSub, Int.reduceMul, Int.reduceNeg, q3, q4, q5, q7, q8, q9, q12, q13, el, ey, ez, ck, cj, gj, gk', e5, w1, cp, nge, Int.toNat_natCast, decide_true, decide_false]
        have wk' : IntKind.i64.wrap (((j + 1 : Nat) : Int) + 1) = ((j + 1 + 1 : Nat) : Int) := by rw [wk]; omega
        refine cd_dec (fun e => ?_) (fun e => ?_)
        · try simp only [go_sem, reduceIte, Nat.reduceEqDiff, Nat.reduceAdd, Nat.reduceSub, Nat.reduceMul, Nat.reduceLT, Nat.reduceLeDiff, Nat.reducePow, Int.reduceToNat, Int.reduceLT, Int.reduceLE, Int.reduceEq, Int.reduceNe, Int.reduceAdd, Int.reduceSub, Int.reduceMul, Int.reduceNeg, q3, q4, q5, q7, q8, q9, q12, q13, e4, e12, N, wk']
          refine ⟨⟨j + 1 + 1, .none, r, by omega, ?_⟩, by omega⟩
          simp [Heap.set, N, e3, e5, e9]
        · try simp only [go_sem, reduceIte, Nat.reduceEqDiff, Nat.reduceAdd, Nat.reduceSub, Nat.reduceMul, Nat.reduceLT, Nat.reduceLeDiff, Nat.reducePow, Int.reduceToNat, Int.reduceLT, Int.reduceLE, Int.reduceEq, Int.reduceNe, Int.reduceAdd, Int.reduceSub, Int.reduceMul, Int.reduceNeg, q3, q4, q5, q7, q8, q9, q12, q13, wk']
          refine ⟨⟨j + 1 + 1, t2, m, by omega, e3, e4, e5, e9, e12, ?_, rfl⟩, by omega⟩
          rcases hm with h | h
          · exact .inl h
          · exact .inr (hnot h e)
    · have hs2 := hE .none r
      have hs3 : ∀ t, VN P G 14 [.agg p.cells, .agg [.sl t (m.map clD)]] (.int .i64 (evalP r p)) := fun t => by
        have := hE t m
        rw [show evalP m p = evalP r p from by
          rcases hm with rfl | ⟨rfl, h⟩
          · rfl
          · exact hev2 (by rwa [List.take_of_length_le (by omega)] at h)] at this
        exact this
      try simp only [go_sem, reduceIte, Nat.reduceEqDiff, Nat.reduceAdd, Nat.reduceSub, Nat.reduceMul, Nat.reduceLT, Nat.reduceLeDiff, Nat.reducePow, Int.reduceToNat, Int.reduceLT, Int.reduceLE, Int.reduceEq, Int.reduceNe, Int.reduceAdd, Int.reduceSub, Int.reduceMul, Int.reduceNeg, q3, q4, q5, q7, q8, q9, q12, q13, e3, e4, e9, e12]
      refine cK_vn hs2 ?_
      try simp only [go_sem, reduceIte, Nat.reduceEqDiff, Nat.reduceAdd, Nat.reduceSub, Nat.reduceMul, Nat.reduceLT, Nat.reduceLeDiff, Nat.reducePow, Int.reduceToNat, Int.reduceLT, Int.reduceLE, Int.reduceEq, Int.reduceNe, Int.reduceAdd, Int.reduceSub, Int.reduceMul, Int.reduceNeg, q3, q4, q5, q7, q8, q9, q12, q13, e3, e4, e9, e12]
      refine cK_vn (hs1 _) ?_
      try simp only [go_sem, reduceIte, Nat.reduceEqDiff, Nat.reduceAdd, Nat.reduceSub, Nat.reduceMul, Nat.reduceLT, Nat.reduceLeDiff, Nat.reducePow, Int.reduceToNat, Int.reduceLT, Int.reduceLE, Int.reduceEq, Int.reduceNe, Int.reduceAdd, Int.reduceSub, Int.reduceMul, Int.reduceNeg, q3, q4, q5, q7, q8, q9, q12, q13, e3, e4, e9, e12, decide_true]
      refine cK_vn (hs3 _) ?_
      try simp only [go_sem, reduceIte, Nat.reduceEqDiff, Nat.reduceAdd, Nat.reduceSub, Nat.reduceMul, Nat.reduceLT, Nat.reduceLeDiff, Nat.reducePow, Int.reduceToNat, Int.reduceLT, Int.reduceLE, Int.reduceEq, Int.reduceNe, Int.reduceAdd, Int.reduceSub, Int.reduceMul, Int.reduceNeg, q3, q4, q5, q7, q8, q9, q12, q13, e3, e4, e9, e12, decide_true]
      exact finK_drop ⟨rfl, rfl, rfl⟩
end Go.Proofs.YtbfkhepfgibonaaS
