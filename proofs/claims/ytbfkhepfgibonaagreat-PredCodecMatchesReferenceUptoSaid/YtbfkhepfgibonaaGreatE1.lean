
import Derived.Test.YtbfkhepfgibonaaGreatCD
set_option linter.unusedVariables false
set_option linter.unusedSimpArgs false
namespace Go.Proofs.YtbfkhepfgibonaaGreatS
open Go Go.Proofs.YtbfkhepfgibonaaGreatV

variable {G : Heap}
attribute [local irreducible] VN VC VX VQ

def truth (b : Bool) : Int := if b then 1 else 0
theorem truth_ok (b : Bool) : VN P G 40 [.bool b] (.int .i64 (truth b)) := by
  unfold VN
  refine VC.ofs (fun | 99999999 => [(0, [0, 2, 3])] | _ => []) [2] mixed Tryz.func40 rfl rfl rfl rfl (by decide +kernel) (by simp) ?_
  cases b
  all_goals simp only [go_sem, reduceIte, Nat.reduceEqDiff, Nat.reduceAdd, Nat.reduceSub, Nat.reduceMul, Nat.reduceLT, Nat.reduceLeDiff, Nat.reducePow, Int.reduceToNat, Int.reduceLT, Int.reduceLE, Int.reduceEq, Int.reduceNe, Int.reduceAdd, Int.reduceSub, Int.reduceMul, Int.reduceNeg]
  all_goals exact finK_drop ⟨rfl, rfl, rfl⟩
theorem begins08_ok (s t : ByteArray) : VN P G 65 [.str s, .str t] (.bool (pre s t)) := by
  unfold VN
  refine VC.ofs (fun | 99999999 => [(0, [0, 1, 4])] | _ => []) [4] mixed Tryz.func65 rfl rfl rfl rfl (by decide +kernel) (by simp) ?_
  simp only [go_sem, reduceIte, Nat.reduceEqDiff, Nat.reduceAdd, Nat.reduceSub, Nat.reduceMul, Nat.reduceLT, Nat.reduceLeDiff, Nat.reducePow, Int.reduceToNat, Int.reduceLT, Int.reduceLE, Int.reduceEq, Int.reduceNe, Int.reduceAdd, Int.reduceSub, Int.reduceMul, Int.reduceNeg]
  exact ⟨fun _ => by omega, finK_drop ⟨by rw [pre_eq]; rfl, rfl, rfl⟩⟩
/-- The value of a field, as the reference looks it up. -/
def valV (r : Rw) (id : Int) : Vl := match r with
  | [] => Vl.nul
  | c :: l => if c.1 = id then c.2 else valV l id
theorem getV_valV (r : Rw) (id : Int) : getV r id = if (valV r id).null = true then Vl.nul else valV r id := by
  induction r with
  | nil => rfl
  | cons c l ih => simp only [getV, valV]; split <;> simp_all
theorem Value_ok (r : Rw) (id : Int) : VN P G 39 [.agg [.sl .none (r.map clD)], .int .i64 id] (.agg (valV r id).cells) := by
  unfold VN
  refine VC.small2 fun hsm => ?_
  have z1 := hsm (.agg [.sl .none (r.map clD)]) (List.mem_cons_self ..) (.sl .none (r.map clD)) (by simp [D.cells])
  simp only [Small, mostLen, List.length_map] at z1
  clear hsm
  refine VC.ofc (fun | 99999999 => [(0, [0, 1, 2, 4, 5, 10, 20])] | _ => []) [.cell 4 51] mixed Tryz.func39 rfl rfl rfl rfl (by decide +kernel) (by simp) ?_
  simp only [go_sem, reduceIte, Nat.reduceEqDiff, Nat.reduceAdd, Nat.reduceSub, Nat.reduceMul, Nat.reduceLT, Nat.reduceLeDiff, Nat.reducePow, Int.reduceToNat, Int.reduceLT, Int.reduceLE, Int.reduceEq, Int.reduceNe, Int.reduceAdd, Int.reduceSub, Int.reduceMul, Int.reduceNeg]
  intro b0
  refine new_1 fun b1 h1 h2 => ?_
  try simp only [go_sem, reduceIte, Nat.reduceEqDiff, Nat.reduceAdd, Nat.reduceSub, Nat.reduceMul, Nat.reduceLT, Nat.reduceLeDiff, Nat.reducePow, Int.reduceToNat, Int.reduceLT, Int.reduceLE, Int.reduceEq, Int.reduceNe, Int.reduceAdd, Int.reduceSub, Int.reduceMul, Int.reduceNeg, h1, h2]
  generalize hβ : Heap.set _ b1 _ = β0
  have e0 : β0 b0 = some [.sl .none (r.map clD)] := by rw [← hβ]; simp [Heap.set, h1, h2]
  have e1 : β0 b1 = some [.bool false, .int .i64 0, .str ByteArray.empty] := by rw [← hβ]; simp [Heap.set]
  clear hβ
  refine vwq_loop (fun v => ∃ (j : Nat), j ≤ r.length ∧ valV (r.drop j) id = valV r id ∧ v.σ 1 = .int .i64 id ∧ v.σ 2 = .pb b0 0 ∧ v.σ 4 = .pb b1 0 ∧ v.σ 5 = .int .i64 j ∧ v.β = β0 ∧ v.ω = []) (fun v => r.length - (ival (v.σ 5)).toNat) ⟨0, by omega, rfl, rfl, rfl, rfl, rfl, rfl, rfl⟩ ?_
  rintro σ β ω ⟨j, j1, j2, q1, q2, q4, q5, rfl, rfl⟩
  dsimp only at q1 q2 q4 q5 e0 e1
  try simp only [go_sem, reduceIte, Nat.reduceEqDiff, Nat.reduceAdd, Nat.reduceSub, Nat.reduceMul, Nat.reduceLT, Nat.reduceLeDiff, Nat.reducePow, Int.reduceToNat, Int.reduceLT, Int.reduceLE, Int.reduceEq, Int.reduceNe, Int.reduceAdd, Int.reduceSub, Int.reduceMul, Int.reduceNeg, q1, q2, q4, q5, e0, e1]
  refine cd_dec (fun g => ?_) (fun g => ?_)
  · obtain ⟨x, hx, ex⟩ := Cl_at (l := r) (j := j) (by rw [List.length_map] at g; omega)
    rw [drop_at hx, valV] at j2
    have g1 := eq_true g
    rw [List.length_map] at g
    have wj := wrap_i64 (x := (j : Int) + 1) (by omega) (by omega)
    have c1 : ((0 : Int) ≤ j) = True := eq_true (by omega)
    try simp only [go_sem, reduceIte, Nat.reduceEqDiff, Nat.reduceAdd, Nat.reduceSub, Nat.reduceMul, Nat.reduceLT, Nat.reduceLeDiff, Nat.reducePow, Int.reduceToNat, Int.reduceLT, Int.reduceLE, Int.reduceEq, Int.reduceNe, Int.reduceAdd, Int.reduceSub, Int.reduceMul, Int.reduceNeg, q1, q2, q4, q5, e0, e1, ex, g1, c1]
    refine cd_dec (fun k => ?_) (fun k => ?_)
    · try simp only [go_sem, reduceIte, Nat.reduceEqDiff, Nat.reduceAdd, Nat.reduceSub, Nat.reduceMul, Nat.reduceLT, Nat.reduceLeDiff, Nat.reducePow, Int.reduceToNat, Int.reduceLT, Int.reduceLE, Int.reduceEq, Int.reduceNe, Int.reduceAdd, Int.reduceSub, Int.reduceMul, Int.reduceNeg, q1, q2, q4, q5, e0, e1, ex, g1, c1, h1, h2]
      exact finK_drop ⟨by rw [← j2, if_pos k]; rfl, rfl, rfl⟩
    · try simp only [go_sem, reduceIte, Nat.reduceEqDiff, Nat.reduceAdd, Nat.reduceSub, Nat.reduceMul, Nat.reduceLT, Nat.reduceLeDiff, Nat.reducePow, Int.reduceToNat, Int.reduceLT, Int.reduceLE, Int.reduceEq, Int.reduceNe, Int.reduceAdd, Int.reduceSub, Int.reduceMul, Int.reduceNeg, q1, q2, q4, q5, e0, e1, ex, wj]
      rw [if_neg k] at j2
      exact ⟨⟨j + 1, by omega, j2, rfl⟩, by omega⟩
  · try simp only [go_sem, reduceIte, Nat.reduceEqDiff, Nat.reduceAdd, Nat.reduceSub, Nat.reduceMul, Nat.reduceLT, Nat.reduceLeDiff, Nat.reducePow, Int.reduceToNat, Int.reduceLT, Int.reduceLE, Int.reduceEq, Int.reduceNe, Int.reduceAdd, Int.reduceSub, Int.reduceMul, Int.reduceNeg, q1, q2, q4, q5, e0, e1]
    rw [List.length_map] at g
    rw [List.drop_eq_nil_of_le (by omega), valV] at j2
    exact finK_drop ⟨by rw [← j2]; rfl, rfl, rfl⟩
def within (v : Vl) (l : List Vl) : Bool := l.any fun x => !x.null && decide (x.n = v.n) && decide (x.s = v.s)
theorem within_ok (v : Vl) (l : List Vl) : VN P G 64 [.agg v.cells, .sl .none (l.map Vl.d)] (.bool (within v l)) := by
  simp only [Vl.cells]
  unfold VN
  refine VC.small2 fun hsm => ?_
  have z1 := hsm (.sl .none (l.map Vl.d)) (by simp) (.sl .none (l.map Vl.d)) (by simp [D.cells])
  simp only [Small, mostLen, List.length_map] at z1
  clear hsm
  refine VC.ofs (fun | 4 => [(0, []), (1, []), (2, []), (3, []), (4, []), (5, []), (6, []), (7, []), (8, []), (9, []), (10, []), (11, []), (12, []), (13, []), (14, []), (15, []), (16, []), (17, []), (18, []), (19, []), (20, []), (21, []), (22, []), (23, []), (24, []), (25, [])] | 99999999 => [(0, [0, 1, 2, 4, 5, 9, 37])] | _ => []) [4] mixed Tryz.func64 rfl rfl rfl rfl (by decide +kernel) (by simp) ?_
  simp only [go_sem, reduceIte, Nat.reduceEqDiff, Nat.reduceAdd, Nat.reduceSub, Nat.reduceMul, Nat.reduceLT, Nat.reduceLeDiff, Nat.reducePow, Int.reduceToNat, Int.reduceLT, Int.reduceLE, Int.reduceEq, Int.reduceNe, Int.reduceAdd, Int.reduceSub, Int.reduceMul, Int.reduceNeg]
  intro b0
  generalize hβ : Heap.set _ b0 _ = β0
  have e0 : β0 b0 = some [.bool v.null, .int .i64 v.n, .str v.s] := by rw [← hβ]; simp [Heap.set]
  clear hβ
  refine vwq_loop (fun u => ∃ (j : Nat), j ≤ l.length ∧ within v (l.drop j) = within v l ∧ u.σ 1 = .sl .none (l.map Vl.d) ∧ u.σ 2 = .pb b0 0 ∧ u.σ 5 = .int .i64 j ∧ u.β = β0 ∧ u.ω = []) (fun u => l.length - (ival (u.σ 5)).toNat) ⟨0, by omega, rfl, rfl, rfl, rfl, rfl, rfl⟩ ?_
  rintro σ β ω ⟨j, j1, j2, q1, q2, q5, rfl, rfl⟩
  dsimp only at q1 q2 q5 e0
  try simp only [go_sem, reduceIte, Nat.reduceEqDiff, Nat.reduceAdd, Nat.reduceSub, Nat.reduceMul, Nat.reduceLT, Nat.reduceLeDiff, Nat.reducePow, Int.reduceToNat, Int.reduceLT, Int.reduceLE, Int.reduceEq, Int.reduceNe, Int.reduceAdd, Int.reduceSub, Int.reduceMul, Int.reduceNeg, q1, q2, q5, e0]
  refine cd_dec (fun g => ?_) (fun g => ?_)
  · obtain ⟨x, hx, ex⟩ := Vl_at g
    have g1 := eq_true g
    rw [List.length_map] at g
    rw [drop_at hx, within, List.any_cons] at j2
    have wj := wrap_i64 (x := (j : Int) + 1) (by omega) (by omega)
    have c1 : ((0 : Int) ≤ j) = True := eq_true (by omega)
    obtain ⟨xn, xi, xs⟩ := x
    dsimp only at ex j2
    cases xn
    · by_cases k1 : xi = v.n
      · by_cases k2 : xs = v.s
        all_goals try simp only [go_sem, reduceIte, Nat.reduceEqDiff, Nat.reduceAdd, Nat.reduceSub, Nat.reduceMul, Nat.reduceLT, Nat.reduceLeDiff, Nat.reducePow, Int.reduceToNat, Int.reduceLT, Int.reduceLE, Int.reduceEq, Int.reduceNe, Int.reduceAdd, Int.reduceSub, Int.reduceMul, Int.reduceNeg, q1, q2, q5, e0, ex, g1, c1, k1, k2]
        · exact finK_drop ⟨by rw [← j2]; simp [k1, k2, D.er, D.er1], rfl, rfl⟩
        · try simp only [go_sem, reduceIte, Nat.reduceEqDiff, Nat.reduceAdd, Nat.reduceSub, Nat.reduceMul, Nat.reduceLT, Nat.reduceLeDiff, Nat.reducePow, Int.reduceToNat, Int.reduceLT, Int.reduceLE, Int.reduceEq, Int.reduceNe, Int.reduceAdd, Int.reduceSub, Int.reduceMul, Int.reduceNeg, q1, q2, q5, e0, ex, g1, c1, k1, k2, wj]
          exact ⟨⟨j + 1, by omega, by rw [← j2]; simp [k2, within], rfl⟩, by omega⟩
      · try simp only [go_sem, reduceIte, Nat.reduceEqDiff, Nat.reduceAdd, Nat.reduceSub, Nat.reduceMul, Nat.reduceLT, Nat.reduceLeDiff, Nat.reducePow, Int.reduceToNat, Int.reduceLT, Int.reduceLE, Int.reduceEq, Int.reduceNe, Int.reduceAdd, Int.reduceSub, Int.reduceMul, Int.reduceNeg, q1, q2, q5, e0, ex, g1, c1, k1]
        try simp only [go_sem, reduceIte, Nat.reduceEqDiff, Nat.reduceAdd, Nat.reduceSub, Nat.reduceMul, Nat.reduceLT, Nat.reduceLeDiff, Nat.reducePow, Int.reduceToNat, Int.reduceLT, Int.reduceLE, Int.reduceEq, Int.reduceNe, Int.reduceAdd, Int.reduceSub, Int.reduceMul, Int.reduceNeg, q1, q2, q5, e0, ex, g1, c1, k1, wj]
        exact ⟨⟨j + 1, by omega, by rw [← j2]; simp [k1, within], rfl⟩, by omega⟩
    · try simp only [go_sem, reduceIte, Nat.reduceEqDiff, Nat.reduceAdd, Nat.reduceSub, Nat.reduceMul, Nat.reduceLT, Nat.reduceLeDiff, Nat.reducePow, Int.reduceToNat, Int.reduceLT, Int.reduceLE, Int.reduceEq, Int.reduceNe, Int.reduceAdd, Int.reduceSub, Int.reduceMul, Int.reduceNeg, q1, q2, q5, e0, ex, g1, c1]
      try simp only [go_sem, reduceIte, Nat.reduceEqDiff, Nat.reduceAdd, Nat.reduceSub, Nat.reduceMul, Nat.reduceLT, Nat.reduceLeDiff, Nat.reducePow, Int.reduceToNat, Int.reduceLT, Int.reduceLE, Int.reduceEq, Int.reduceNe, Int.reduceAdd, Int.reduceSub, Int.reduceMul, Int.reduceNeg, q1, q2, q5, e0, ex, g1, c1, wj]
      exact ⟨⟨j + 1, by omega, by rw [← j2]; simp [within], rfl⟩, by omega⟩
  · try simp only [go_sem, reduceIte, Nat.reduceEqDiff, Nat.reduceAdd, Nat.reduceSub, Nat.reduceMul, Nat.reduceLT, Nat.reduceLeDiff, Nat.reducePow, Int.reduceToNat, Int.reduceLT, Int.reduceLE, Int.reduceEq, Int.reduceNe, Int.reduceAdd, Int.reduceSub, Int.reduceMul, Int.reduceNeg, q1, q2, q5, e0]
    rw [List.length_map] at g
    rw [List.drop_eq_nil_of_le (by omega)] at j2
    exact finK_drop ⟨by rw [← j2]; rfl, rfl, rfl⟩
def simpleF (p : Pr) (v : Vl) : Int := if p.op = 4 then truth v.null else if v.null = true then 2 else if p.op = 1 then truth (decide (p.lo ≤ v.n) && decide (v.n ≤ p.hi)) else if p.op = 2 then truth (within v p.set) else truth (pre v.s p.text)
theorem simple_ok (p : Pr) (v : Vl) : VN P G 38 [.agg p.cells, .agg v.cells] (.int .i64 (simpleF p v)) := by
  have hw := within_ok (G := G) v p.set
  have hb := begins08_ok (G := G) v.s p.text
  obtain ⟨vn, vi, vs⟩ := v
  simp only [Pr.cells, Vl.cells] at hw ⊢
  unfold VN
  refine VC.ofs (fun | 99999999 => [(0, [0, 1, 2, 3, 4, 5, 12, 15, 32])] | _ => []) [4] mixed Tryz.func38 rfl rfl rfl rfl (by decide +kernel) (by simp) ?_
  cases vn
  all_goals simp only [go_sem, reduceIte, Nat.reduceEqDiff, Nat.reduceAdd, Nat.reduceSub, Nat.reduceMul, Nat.reduceLT, Nat.reduceLeDiff, Nat.reducePow, Int.reduceToNat, Int.reduceLT, Int.reduceLE, Int.reduceEq, Int.reduceNe, Int.reduceAdd, Int.reduceSub, Int.reduceMul, Int.reduceNeg]
  all_goals intro b0
  all_goals refine new_1 fun b1 h1 h2 => ?_
  all_goals repeat' (first | simp only [go_sem, reduceIte, Nat.reduceEqDiff, Nat.reduceAdd, Nat.reduceSub, Nat.reduceMul, Nat.reduceLT, Nat.reduceLeDiff, Nat.reducePow, Int.reduceToNat, Int.reduceLT, Int.reduceLE, Int.reduceEq, Int.reduceNe, Int.reduceAdd, Int.reduceSub, Int.reduceMul, Int.reduceNeg, h1, h2] | refine cd_dec (fun _ => ?_) (fun _ => ?_) | refine cd_b (fun _ => ?_) (fun _ => ?_) | refine cK_vn (truth_ok _) ?_ | refine cK_vn hw ?_ | refine cK_vn hb ?_)
  all_goals refine finK_drop ⟨?_, rfl, rfl⟩
  all_goals simp_all [simpleF, D.er, D.er1]

def evK (op simple : Int) (ks : List Int) : Int :=
  if op = 0 then 1
  else if op = 1 ∨ op = 2 ∨ op = 3 ∨ op = 4 then simple
  else if op = 5 then (if 0 < (ks.count 0 : Int) ∨ (ks.count 1 : Int) = ks.length then truth (decide ((ks.count 0 : Int) = 0)) else 2)
  else if op = 6 then (if 0 < (ks.count 1 : Int) ∨ (ks.count 0 : Int) = ks.length then truth (decide (0 < (ks.count 1 : Int))) else 2)
  else if op = 7 then (if (ks.length : Int) = 1 ∧ (ks.count 1 : Int) + ks.count 0 = 1 then truth (decide ((ks.count 0 : Int) = 1)) else 2)
  else 2
mutual
def evalP (r : Rw) : Pr → Int
  | .mk op id lo hi set text kids => evK op (simpleF (.mk op id lo hi set text kids) (valV r id)) (evalPs r kids)
def evalPs (r : Rw) : List Pr → List Int
  | [] => []
  | p :: l => evalP r p :: evalPs r l
end
theorem evalPs_eq (r : Rw) : ∀ l : List Pr, evalPs r l = l.map (evalP r)
  | [] => by simp only [evalPs, List.map_nil]
  | p :: l => by simp only [evalPs, evalPs_eq r l, List.map_cons]
theorem evalP_eq (r : Rw) (p : Pr) : evalP r p = evK p.op (simpleF p (valV r p.id)) (p.kids.map (evalP r)) := by
  cases p; simp only [evalP, evalPs_eq]; rfl
theorem count_take {ks : List Int} {j : Nat} {x : Int} (h : ks[j]? = some x) (a : Int) : (ks.take (j + 1)).count a = (ks.take j).count a + if x = a then 1 else 0 := by
  rw [List.take_add_one, h, Option.toList_some, List.count_append]
  by_cases e : x = a <;> simp [e]
set_option maxHeartbeats 4000000 in
theorem eval_step (r : Rw) (p : Pr) (z : p.kids.length ≤ 1048576) (ih : ∀ k ∈ p.kids, VN P G 9 [.agg k.cells, .agg [.sl .none (r.map clD)]] (.int .i64 (evalP r k))) : VN P G 9 [.agg p.cells, .agg [.sl .none (r.map clD)]] (.int .i64 (evalP r p)) := by
  have hs := simple_ok (G := G) p (valV r p.id)
  have hv := Value_ok (G := G) r p.id
  obtain ⟨ks, hks⟩ : ∃ ks, p.kids.map (evalP r) = ks := ⟨_, rfl⟩
  have hlen : ks.length = p.kids.length := by rw [← hks, List.length_map]
  have hE : evalP r p = evK p.op (simpleF p (valV r p.id)) ks := by rw [evalP_eq, hks]
  rw [hE]
  simp only [Pr.cells, Vl.cells] at hs hv ⊢
  unfold VN
  refine VC.ofs (fun | 5 => [(0, []), (1, []), (2, []), (3, []), (4, []), (5, []), (6, [])] | 18 => [(0, [4]), (1, []), (2, []), (3, []), (4, []), (5, []), (6, [])] | 99999999 => [(0, [0, 1, 2, 3, 4, 5, 6, 7, 8, 13, 22, 23, 27, 35, 36, 38, 49, 57, 61, 69, 73, 82])] | _ => []) [4] mixed Tryz.func9 rfl rfl rfl rfl (by decide +kernel) (by simp) ?_
  simp only [go_sem, reduceIte, Nat.reduceEqDiff, Nat.reduceAdd, Nat.reduceSub, Nat.reduceMul, Nat.reduceLT, Nat.reduceLeDiff, Nat.reducePow, Int.reduceToNat, Int.reduceLT, Int.reduceLE, Int.reduceEq, Int.reduceNe, Int.reduceAdd, Int.reduceSub, Int.reduceMul, Int.reduceNeg]
  intro b0
  refine new_1 fun b1 h1 h2 => ?_
  try simp only [go_sem, reduceIte, Nat.reduceEqDiff, Nat.reduceAdd, Nat.reduceSub, Nat.reduceMul, Nat.reduceLT, Nat.reduceLeDiff, Nat.reducePow, Int.reduceToNat, Int.reduceLT, Int.reduceLE, Int.reduceEq, Int.reduceNe, Int.reduceAdd, Int.reduceSub, Int.reduceMul, Int.reduceNeg, h1, h2]
  generalize hβ : Heap.set _ b1 _ = β0
  have e0 : β0 b0 = some p.cells := by rw [← hβ]; simp [Heap.set, h1, h2, Pr.cells]
  have e1 : β0 b1 = some [.sl .none (r.map clD)] := by rw [← hβ]; simp [Heap.set]
  clear hβ
  refine vwq_loop (fun v => ∃ (j : Nat), j ≤ ks.length ∧ v.σ 2 = .pb b0 0 ∧ v.σ 3 = .pb b1 0 ∧ v.σ 5 = .int .i64 ((ks.take j).count 1 : Nat) ∧ v.σ 6 = .int .i64 ((ks.take j).count 0 : Nat) ∧ v.σ 7 = .int .i64 j ∧ v.β = β0 ∧ v.ω = []) (fun v => ks.length - (ival (v.σ 7)).toNat) ⟨0, by omega, rfl, rfl, rfl, rfl, rfl, rfl, rfl⟩ ?_
  rintro σ β ω ⟨j, j1, q2, q3, q5, q6, q7, rfl, rfl⟩
  dsimp only [Pr.cells] at q2 q3 q5 q6 q7 e0 e1
  have hl : ((p.kids.map Pr.d).length : Int) = ks.length := by rw [List.length_map, hlen]
  try simp only [go_sem, reduceIte, Nat.reduceEqDiff, Nat.reduceAdd, Nat.reduceSub, Nat.reduceMul, Nat.reduceLT, Nat.reduceLeDiff, Nat.reducePow, Int.reduceToNat, Int.reduceLT, Int.reduceLE, Int.reduceEq, Int.reduceNe, Int.reduceAdd, Int.reduceSub, Int.reduceMul, Int.reduceNeg, q2, q3, q5, q6, q7, e0, e1, hl]
  refine cd_dec (fun g => ?_) (fun g => ?_)
  · obtain ⟨x, hx, ex⟩ := Pr_at (l := p.kids) (j := j) (by rw [List.length_map]; omega)
    have hm := ih x (List.mem_of_getElem? hx)
    have hkx : ks[j]? = some (evalP r x) := by rw [← hks, List.getElem?_map, hx]; rfl
    simp only [Pr.cells] at hm
    have wj := wrap_i64 (x := (j : Int) + 1) (by omega) (by omega)
    have k0 := List.count_le_length (a := (0 : Int)) (l := ks.take j)
    have k1 := List.count_le_length (a := (1 : Int)) (l := ks.take j)
    rw [List.length_take] at k0 k1
    have w5 := wrap_i64 (x := ((ks.take j).count 1 : Int) + 1) (by omega) (by omega)
    have w6 := wrap_i64 (x := ((ks.take j).count 0 : Int) + 1) (by omega) (by omega)
    have c1 : ((0 : Int) ≤ j) = True := eq_true (by omega)
    have c2 : ((j : Int) < ks.length) = True := eq_true g
    have t1 := count_take hkx 1
    have t0 := count_take hkx 0
    try simp only [go_sem, reduceIte, Nat.reduceEqDiff, Nat.reduceAdd, Nat.reduceSub, Nat.reduceMul, Nat.reduceLT, Nat.reduceLeDiff, Nat.reducePow, Int.reduceToNat, Int.reduceLT, Int.reduceLE, Int.reduceEq, Int.reduceNe, Int.reduceAdd, Int.reduceSub, Int.reduceMul, Int.reduceNeg, q2, q3, q5, q6, q7, e0, e1, ex, c1, c2, hl]
    refine cE_vn hm ?_
    generalize evalP r x = y at t1 t0
    by_cases y1 : y = 1
    · subst y1
      try simp only [go_sem, reduceIte, Nat.reduceEqDiff, Nat.reduceAdd, Nat.reduceSub, Nat.reduceMul, Nat.reduceLT, Nat.reduceLeDiff, Nat.reducePow, Int.reduceToNat, Int.reduceLT, Int.reduceLE, Int.reduceEq, Int.reduceNe, Int.reduceAdd, Int.reduceSub, Int.reduceMul, Int.reduceNeg, q2, q3, q5, q6, q7, e0, e1, ex, wj, w5, w6]
      exact ⟨⟨j + 1, by omega, by simp [t1, t0], by simp [t0], rfl⟩, by omega⟩
    by_cases y0 : y = 0
    · subst y0
      try simp only [go_sem, reduceIte, Nat.reduceEqDiff, Nat.reduceAdd, Nat.reduceSub, Nat.reduceMul, Nat.reduceLT, Nat.reduceLeDiff, Nat.reducePow, Int.reduceToNat, Int.reduceLT, Int.reduceLE, Int.reduceEq, Int.reduceNe, Int.reduceAdd, Int.reduceSub, Int.reduceMul, Int.reduceNeg, q2, q3, q5, q6, q7, e0, e1, ex, wj, w5, w6]
      exact ⟨⟨j + 1, by omega, by simp [t1], by simp [t0], rfl⟩, by omega⟩
    · try simp only [go_sem, reduceIte, Nat.reduceEqDiff, Nat.reduceAdd, Nat.reduceSub, Nat.reduceMul, Nat.reduceLT, Nat.reduceLeDiff, Nat.reducePow, Int.reduceToNat, Int.reduceLT, Int.reduceLE, Int.reduceEq, Int.reduceNe, Int.reduceAdd, Int.reduceSub, Int.reduceMul, Int.reduceNeg, q2, q3, q5, q6, q7, e0, e1, ex, wj, y1, y0]
      exact ⟨⟨j + 1, by omega, by simp [t1, y1], by simp [t0, y0], rfl⟩, by omega⟩
  · have hj' : ks.take j = ks := List.take_of_length_le (by omega)
    obtain ⟨ye, hye⟩ : ∃ ye, ks.count 1 = ye := ⟨_, rfl⟩
    obtain ⟨no, hno⟩ : ∃ no, ks.count 0 = no := ⟨_, rfl⟩
    have k0 := List.count_le_length (a := (0 : Int)) (l := ks)
    have k1 := List.count_le_length (a := (1 : Int)) (l := ks)
    have t1 : (ks.take j).count 1 = ye := by rw [hj', hye]
    have t0 : (ks.take j).count 0 = no := by rw [hj', hno]
    rw [hye] at k1
    rw [hno] at k0
    have wn := wrap_i64 (x := (ye : Int) + no) (by omega) (by omega)
    simp only [evK, hye, hno]
    try simp only [go_sem, reduceIte, Nat.reduceEqDiff, Nat.reduceAdd, Nat.reduceSub, Nat.reduceMul, Nat.reduceLT, Nat.reduceLeDiff, Nat.reducePow, Int.reduceToNat, Int.reduceLT, Int.reduceLE, Int.reduceEq, Int.reduceNe, Int.reduceAdd, Int.reduceSub, Int.reduceMul, Int.reduceNeg, q2, q3, q5, q6, q7, e0, e1, hl, t1, t0]
    by_cases o0 : p.op = 0
    · try simp only [go_sem, reduceIte, Nat.reduceEqDiff, Nat.reduceAdd, Nat.reduceSub, Nat.reduceMul, Nat.reduceLT, Nat.reduceLeDiff, Nat.reducePow, Int.reduceToNat, Int.reduceLT, Int.reduceLE, Int.reduceEq, Int.reduceNe, Int.reduceAdd, Int.reduceSub, Int.reduceMul, Int.reduceNeg, q2, q3, q5, q6, q7, e0, e1, hl, t1, t0, o0]
      exact finK_drop ⟨rfl, rfl, rfl⟩
    by_cases o1 : p.op = 1 ∨ p.op = 2 ∨ p.op = 3 ∨ p.op = 4
    · rw [if_neg o0, if_pos o1]
      rcases o1 with h | h | h | h
      all_goals
        simp only [h] at hs
        repeat' (first | simp only [go_sem, reduceIte, Nat.reduceEqDiff, Nat.reduceAdd, Nat.reduceSub, Nat.reduceMul, Nat.reduceLT, Nat.reduceLeDiff, Nat.reducePow, Int.reduceToNat, Int.reduceLT, Int.reduceLE, Int.reduceEq, Int.reduceNe, Int.reduceAdd, Int.reduceSub, Int.reduceMul, Int.reduceNeg, q2, q3, q5, q6, q7, e0, e1, hl, t1, t0, h] | refine cE_vn hv ?_ | refine cE_vn hs ?_)
        exact finK_drop ⟨rfl, rfl, rfl⟩
    have f1 := eq_false (fun h => o1 (.inl h) : ¬ p.op = 1)
    have f2 := eq_false (fun h => o1 (.inr (.inl h)) : ¬ p.op = 2)
    have f3 := eq_false (fun h => o1 (.inr (.inr (.inl h))) : ¬ p.op = 3)
    have f4 := eq_false (fun h => o1 (.inr (.inr (.inr h))) : ¬ p.op = 4)
    rw [if_neg o0, if_neg o1]
    by_cases o5 : p.op = 5
    · by_cases a0 : (0 : Int) < no
      · repeat' (first | simp only [go_sem, reduceIte, Nat.reduceEqDiff, Nat.reduceAdd, Nat.reduceSub, Nat.reduceMul, Nat.reduceLT, Nat.reduceLeDiff, Nat.reducePow, Int.reduceToNat, Int.reduceLT, Int.reduceLE, Int.reduceEq, Int.reduceNe, Int.reduceAdd, Int.reduceSub, Int.reduceMul, Int.reduceNeg, q2, q3, q5, q6, q7, e0, e1, hl, t1, t0, o5, a0] | refine cK_vn (truth_ok _) ?_)
        exact finK_drop ⟨by simp [o5, D.er, D.er1], rfl, rfl⟩
      · by_cases a1 : (ye : Int) = ks.length
        all_goals repeat' (first | simp only [go_sem, reduceIte, Nat.reduceEqDiff, Nat.reduceAdd, Nat.reduceSub, Nat.reduceMul, Nat.reduceLT, Nat.reduceLeDiff, Nat.reducePow, Int.reduceToNat, Int.reduceLT, Int.reduceLE, Int.reduceEq, Int.reduceNe, Int.reduceAdd, Int.reduceSub, Int.reduceMul, Int.reduceNeg, q2, q3, q5, q6, q7, e0, e1, hl, t1, t0, o5, a0, a1] | refine cK_vn (truth_ok _) ?_)
        all_goals exact finK_drop ⟨by simp [o5, a0, a1, D.er, D.er1], rfl, rfl⟩
    by_cases o6 : p.op = 6
    · by_cases a0 : (0 : Int) < ye
      · repeat' (first | simp only [go_sem, reduceIte, Nat.reduceEqDiff, Nat.reduceAdd, Nat.reduceSub, Nat.reduceMul, Nat.reduceLT, Nat.reduceLeDiff, Nat.reducePow, Int.reduceToNat, Int.reduceLT, Int.reduceLE, Int.reduceEq, Int.reduceNe, Int.reduceAdd, Int.reduceSub, Int.reduceMul, Int.reduceNeg, q2, q3, q5, q6, q7, e0, e1, hl, t1, t0, o6, a0] | refine cK_vn (truth_ok _) ?_)
        exact finK_drop ⟨by simp [o6, D.er, D.er1], rfl, rfl⟩
      · by_cases a1 : (no : Int) = ks.length
        all_goals repeat' (first | simp only [go_sem, reduceIte, Nat.reduceEqDiff, Nat.reduceAdd, Nat.reduceSub, Nat.reduceMul, Nat.reduceLT, Nat.reduceLeDiff, Nat.reducePow, Int.reduceToNat, Int.reduceLT, Int.reduceLE, Int.reduceEq, Int.reduceNe, Int.reduceAdd, Int.reduceSub, Int.reduceMul, Int.reduceNeg, q2, q3, q5, q6, q7, e0, e1, hl, t1, t0, o6, a0, a1] | refine cK_vn (truth_ok _) ?_)
        all_goals exact finK_drop ⟨by simp [o6, a0, a1, D.er, D.er1], rfl, rfl⟩
    by_cases o7 : p.op = 7
    · by_cases a0 : (ks.length : Int) = 1
      · by_cases a1 : (ye : Int) + no = 1
        all_goals repeat' (first | simp only [go_sem, reduceIte, Nat.reduceEqDiff, Nat.reduceAdd, Nat.reduceSub, Nat.reduceMul, Nat.reduceLT, Nat.reduceLeDiff, Nat.reducePow, Int.reduceToNat, Int.reduceLT, Int.reduceLE, Int.reduceEq, Int.reduceNe, Int.reduceAdd, Int.reduceSub, Int.reduceMul, Int.reduceNeg, q2, q3, q5, q6, q7, e0, e1, hl, t1, t0, o7, a0, wn, a1] | refine cK_vn (truth_ok _) ?_)
        all_goals exact finK_drop ⟨by simp [o7, a0, a1, D.er, D.er1], rfl, rfl⟩
      · repeat' (first | simp only [go_sem, reduceIte, Nat.reduceEqDiff, Nat.reduceAdd, Nat.reduceSub, Nat.reduceMul, Nat.reduceLT, Nat.reduceLeDiff, Nat.reducePow, Int.reduceToNat, Int.reduceLT, Int.reduceLE, Int.reduceEq, Int.reduceNe, Int.reduceAdd, Int.reduceSub, Int.reduceMul, Int.reduceNeg, q2, q3, q5, q6, q7, e0, e1, hl, t1, t0, o7, a0, wn] | refine cK_vn (truth_ok _) ?_)
        exact finK_drop ⟨by simp [o7, a0, D.er, D.er1], rfl, rfl⟩
    · try simp only [go_sem, reduceIte, Nat.reduceEqDiff, Nat.reduceAdd, Nat.reduceSub, Nat.reduceMul, Nat.reduceLT, Nat.reduceLeDiff, Nat.reducePow, Int.reduceToNat, Int.reduceLT, Int.reduceLE, Int.reduceEq, Int.reduceNe, Int.reduceAdd, Int.reduceSub, Int.reduceMul, Int.reduceNeg, q2, q3, q5, q6, q7, e0, e1, hl, t1, t0, o0, f1, f2, f3, f4, o5, o6, o7]
      exact finK_drop ⟨by simp [o5, o6, o7, D.er, D.er1], rfl, rfl⟩
end Go.Proofs.YtbfkhepfgibonaaGreatS
