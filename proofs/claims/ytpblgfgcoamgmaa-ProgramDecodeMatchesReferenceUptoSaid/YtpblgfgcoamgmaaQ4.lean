/-
  Predicates (package pred): which predicates are well-formed.
  Conditions: none.
-/
import Derived.Test.YtpblgfgcoamgmaaQ2
set_option linter.unusedVariables false
set_option linter.unusedSimpArgs false
namespace Go.Proofs.YtpblgfgcoamgmaaS
open Go Go.Proofs.YtpblgfgcoamgmaaV

variable {G : Heap}
attribute [local irreducible] VN VC VX VQ VP VY VW

/-- The depth of a predicate, at most one more than a limit. -/
def depN : Nat → Pr → Nat
  | 0, _ => 1
  | n + 1, p => (p.kids.map (depN n)).foldl max 0 + 1
theorem depN_le : ∀ n p, depN n p ≤ n + 1
  | 0, p => by simp [depN]
  | n + 1, p => by
    have h : ∀ (l : List Nat) (a : Nat), a ≤ n + 1 → (∀ x ∈ l, x ≤ n + 1) → l.foldl max a ≤ n + 1 := by
      intro l
      induction l with
      | nil => intro a ha _; simpa using ha
      | cons x l ih => intro a ha hl; exact ih _ (by have := hl x (by simp); omega) fun y hy => hl y (by simp [hy])
    have := h (p.kids.map (depN n)) 0 (by omega) fun x hx => by
      obtain ⟨k, _, rfl⟩ := List.mem_map.1 hx; exact depN_le n k
    simp only [depN]; omega
theorem depth_ok : ∀ (n : Nat) (p : Pr), n ≤ 100 → VN P G 74 [.agg p.cells, .int .i64 ((n : Int) + 1)] (.int .i64 (depN n p))
  | n, p, hn => by
    unfold VN
    refine VC.small2 fun hsm => ?_
    have z1 := hsm (.agg p.cells) (List.mem_cons_self ..) (.sl .none (p.kids.map Pr.d)) (by simp [D.cells, Pr.cells])
    simp only [Small, mostLen, List.length_map] at z1
    clear hsm
    refine VC.ofs (fun | 99999999 => [(0, [0, 1, 2, 4, 5, 7, 9, 11, 12, 13, 14])] | _ => []) [4] mixed Try.func74 rfl rfl rfl rfl (by decide +kernel) (by simp) ?_
    simp only [go_sem, reduceIte, Nat.reduceEqDiff, Nat.reduceAdd, Nat.reduceSub, Nat.reduceMul, Nat.reduceLT, Nat.reduceLeDiff, Nat.reducePow, Int.reduceToNat, Int.reduceLT, Int.reduceLE, Int.reduceEq, Int.reduceNe, Int.reduceAdd, Int.reduceSub, Int.reduceMul, Int.reduceNeg]
    intro b2
    have el : (p.kids.map Pr.d).length = p.kids.length := by simp
    cases n with
    | zero =>
      try simp only [go_sem, reduceIte, Nat.reduceEqDiff, Nat.reduceAdd, Nat.reduceSub, Nat.reduceMul, Nat.reduceLT, Nat.reduceLeDiff, Nat.reducePow, Int.reduceToNat, Int.reduceLT, Int.reduceLE, Int.reduceEq, Int.reduceNe, Int.reduceAdd, Int.reduceSub, Int.reduceMul, Int.reduceNeg, Int.lt_irrefl, decide_false, show ((1 : Int) < ((0 : Nat) : Int) + 1) = False from by simp]
      exact finK_drop ⟨rfl, rfl, rfl⟩
    | succ n =>
      have g1 : ((1 : Int) < ((n + 1 : Nat) : Int) + 1) = True := eq_true (by omega)
      try simp only [go_sem, reduceIte, Nat.reduceEqDiff, Nat.reduceAdd, Nat.reduceSub, Nat.reduceMul, Nat.reduceLT, Nat.reduceLeDiff, Nat.reducePow, Int.reduceToNat, Int.reduceLT, Int.reduceLE, Int.reduceEq, Int.reduceNe, Int.reduceAdd, Int.reduceSub, Int.reduceMul, Int.reduceNeg, g1, el]
      generalize hβ : Heap.set _ b2 _ = β0
      have e2 : β0 b2 = some p.cells := by rw [← hβ]; simp [Heap.set]
      clear hβ
      refine vwq_loop (fun v => ∃ (j m : Nat), j ≤ p.kids.length ∧ ((p.kids.drop j).map (depN n)).foldl max m = (p.kids.map (depN n)).foldl max 0 ∧ m ≤ n + 1 ∧ v.σ 1 = .int .i64 (((n + 1 : Nat) : Int) + 1) ∧ v.σ 5 = .int .i64 m ∧ v.σ 11 = .sl .none (p.kids.map Pr.d) ∧ v.σ 12 = .int .i64 p.kids.length ∧ v.σ 13 = .int .i64 j ∧ v.ω = []) (fun v => p.kids.length - (ival (v.σ 13)).toNat) ⟨0, 0, by omega, rfl, by omega, rfl, rfl, rfl, rfl, rfl, rfl⟩ ?_
      clear e2 β0
      rintro σ β ω ⟨j, m, hj, hf, hm, q1, q5, q11, q12, q13, rfl⟩
      dsimp only at q1 q5 q11 q12 q13
      try simp only [go_sem, reduceIte, Nat.reduceEqDiff, Nat.reduceAdd, Nat.reduceSub, Nat.reduceMul, Nat.reduceLT, Nat.reduceLeDiff, Nat.reducePow, Int.reduceToNat, Int.reduceLT, Int.reduceLE, Int.reduceEq, Int.reduceNe, Int.reduceAdd, Int.reduceSub, Int.reduceMul, Int.reduceNeg, q1, q5, q11, q12, q13]
      refine cd_dec (fun g => ?_) (fun g => ?_)
      · have g' := eq_true g
        obtain ⟨k, hx, ex⟩ := Pr_pat (ps := p.kids) (j := j) (by omega)
        have c1 : ((0 : Int) ≤ j) = True := eq_true (by omega)
        have wj := wrap_i64 (x := (j : Int) + 1) (by omega) (by omega)
        have w1 : IntKind.i64.wrap (((n + 1 : Nat) : Int) + 1 - 1) = (n : Int) + 1 := by rw [wrap_i64 (by omega) (by omega)]; omega
        have ih := depth_ok n k (by omega)
        have hk := depN_le n k
        rw [drop_at hx, List.map_cons, List.foldl_cons] at hf
        try simp only [go_sem, reduceIte, Nat.reduceEqDiff, Nat.reduceAdd, Nat.reduceSub, Nat.reduceMul, Nat.reduceLT, Nat.reduceLeDiff, Nat.reducePow, Int.reduceToNat, Int.reduceLT, Int.reduceLE, Int.reduceEq, Int.reduceNe, Int.reduceAdd, Int.reduceSub, Int.reduceMul, Int.reduceNeg, q1, q5, q11, q12, q13, c1, g', ex, el]
        have N := trivial
        refine new_any fun b7 hb7 => ?_
        try simp only [go_sem, reduceIte, Nat.reduceEqDiff, Nat.reduceAdd, Nat.reduceSub, Nat.reduceMul, Nat.reduceLT, Nat.reduceLeDiff, Nat.reducePow, Int.reduceToNat, Int.reduceLT, Int.reduceLE, Int.reduceEq, Int.reduceNe, Int.reduceAdd, Int.reduceSub, Int.reduceMul, Int.reduceNeg, q1, q5, q11, q12, q13, c1, g', ex, el, w1]
        refine cK_vn ih ?_
        try simp only [go_sem, reduceIte, Nat.reduceEqDiff, Nat.reduceAdd, Nat.reduceSub, Nat.reduceMul, Nat.reduceLT, Nat.reduceLeDiff, Nat.reducePow, Int.reduceToNat, Int.reduceLT, Int.reduceLE, Int.reduceEq, Int.reduceNe, Int.reduceAdd, Int.reduceSub, Int.reduceMul, Int.reduceNeg, q1, q5, q11, q12, q13, c1, g', ex, el, wj]
        refine ⟨⟨j + 1, max m (depN n k), by omega, hf, by omega, ?_, rfl⟩, by omega⟩
        congr 1; split <;> omega
      · try simp only [go_sem, reduceIte, Nat.reduceEqDiff, Nat.reduceAdd, Nat.reduceSub, Nat.reduceMul, Nat.reduceLT, Nat.reduceLeDiff, Nat.reducePow, Int.reduceToNat, Int.reduceLT, Int.reduceLE, Int.reduceEq, Int.reduceNe, Int.reduceAdd, Int.reduceSub, Int.reduceMul, Int.reduceNeg, q1, q5, q11, q12, q13]
        rw [List.drop_eq_nil_of_le (by omega)] at hf
        have wm := wrap_i64 (x := (m : Int) + 1) (by omega) (by omega)
        try simp only [go_sem, reduceIte, Nat.reduceEqDiff, Nat.reduceAdd, Nat.reduceSub, Nat.reduceMul, Nat.reduceLT, Nat.reduceLeDiff, Nat.reducePow, Int.reduceToNat, Int.reduceLT, Int.reduceLE, Int.reduceEq, Int.reduceNe, Int.reduceAdd, Int.reduceSub, Int.reduceMul, Int.reduceNeg, q1, q5, q11, q12, q13, wm]
        refine finK_drop ⟨?_, rfl, rfl⟩
        simp only [List.map_nil, List.foldl_nil] at hf
        simp only [depN, ← hf]; rfl
/-- A predicate without what its operator does not have. -/
def usedP (p : Pr) : Pr := .mk p.op (if isAt p.op then p.id else 0) (if p.op = 1 then p.lo else 0) (if p.op = 1 then p.hi else 0) (if p.op = 2 then p.set else []) (if p.op = 3 then p.text else ByteArray.empty) (if 5 ≤ p.op ∧ p.op ≤ 7 then p.kids else [])
theorem usedP_cells (p : Pr) : (usedP p).cells = [.int .i64 p.op, .int .i64 (if isAt p.op then p.id else 0), .int .i64 (if p.op = 1 then p.lo else 0), .int .i64 (if p.op = 1 then p.hi else 0), .sl .none ((if p.op = 2 then p.set else []).map Vl.d), .str (if p.op = 3 then p.text else ByteArray.empty), .sl .none ((if 5 ≤ p.op ∧ p.op ≤ 7 then p.kids else []).map Pr.d)] := rfl
theorem used_ok (p : Pr) : VN P G 88 [.agg p.cells] (.agg (usedP p).cells) := by
  have ha := isAtom_ok (G := G) p.op
  unfold VN
  refine VC.ofc (fun | 6 => [(0, []), (1, []), (2, []), (3, [5]), (4, []), (5, []), (6, []), (7, [])] | 99999999 => [(0, [0, 1, 2, 3, 9, 14, 15, 23, 28, 33])] | _ => []) [.cell 2 27] mixed Try.func88 rfl rfl rfl rfl (by decide +kernel) (by simp) ?_
  simp only [go_sem, reduceIte, Nat.reduceEqDiff, Nat.reduceAdd, Nat.reduceSub, Nat.reduceMul, Nat.reduceLT, Nat.reduceLeDiff, Nat.reducePow, Int.reduceToNat, Int.reduceLT, Int.reduceLE, Int.reduceEq, Int.reduceNe, Int.reduceAdd, Int.reduceSub, Int.reduceMul, Int.reduceNeg]
  intro b1
  refine new_1 fun b2 h1 h2 => ?_
  try simp only [go_sem, reduceIte, Nat.reduceEqDiff, Nat.reduceAdd, Nat.reduceSub, Nat.reduceMul, Nat.reduceLT, Nat.reduceLeDiff, Nat.reducePow, Int.reduceToNat, Int.reduceLT, Int.reduceLE, Int.reduceEq, Int.reduceNe, Int.reduceAdd, Int.reduceSub, Int.reduceMul, Int.reduceNeg, h1, h2]
  refine new_2 fun b3 h3 h4 h5 => ?_
  try simp only [go_sem, reduceIte, Nat.reduceEqDiff, Nat.reduceAdd, Nat.reduceSub, Nat.reduceMul, Nat.reduceLT, Nat.reduceLeDiff, Nat.reducePow, Int.reduceToNat, Int.reduceLT, Int.reduceLE, Int.reduceEq, Int.reduceNe, Int.reduceAdd, Int.reduceSub, Int.reduceMul, Int.reduceNeg, h1, h2, h3, h4, h5]
  refine cK_vn ha ?_
  cases hx : isAt p.op
  · try simp only [go_sem, reduceIte, Nat.reduceEqDiff, Nat.reduceAdd, Nat.reduceSub, Nat.reduceMul, Nat.reduceLT, Nat.reduceLeDiff, Nat.reducePow, Int.reduceToNat, Int.reduceLT, Int.reduceLE, Int.reduceEq, Int.reduceNe, Int.reduceAdd, Int.reduceSub, Int.reduceMul, Int.reduceNeg, h1, h2, h3, h4, h5]
    by_cases k1 : p.op = 1
    · simp [isAt, k1] at hx
    by_cases k2 : p.op = 2
    · simp [isAt, k2] at hx
    by_cases k3 : p.op = 3
    · simp [isAt, k3] at hx
    by_cases k5 : p.op = 5
    · try simp only [go_sem, reduceIte, Nat.reduceEqDiff, Nat.reduceAdd, Nat.reduceSub, Nat.reduceMul, Nat.reduceLT, Nat.reduceLeDiff, Nat.reducePow, Int.reduceToNat, Int.reduceLT, Int.reduceLE, Int.reduceEq, Int.reduceNe, Int.reduceAdd, Int.reduceSub, Int.reduceMul, Int.reduceNeg, h1, h2, h3, h4, h5, k1, k2, k3, k5]
      exact finK_drop ⟨by rw [usedP_cells]; simp [isAt, k5, D.er, D.er1], rfl, rfl⟩
    by_cases k6 : p.op = 6
    · try simp only [go_sem, reduceIte, Nat.reduceEqDiff, Nat.reduceAdd, Nat.reduceSub, Nat.reduceMul, Nat.reduceLT, Nat.reduceLeDiff, Nat.reducePow, Int.reduceToNat, Int.reduceLT, Int.reduceLE, Int.reduceEq, Int.reduceNe, Int.reduceAdd, Int.reduceSub, Int.reduceMul, Int.reduceNeg, h1, h2, h3, h4, h5, k1, k2, k3, k5, k6]
      exact finK_drop ⟨by rw [usedP_cells]; simp [isAt, k6, D.er, D.er1], rfl, rfl⟩
    by_cases k7 : p.op = 7
    · try simp only [go_sem, reduceIte, Nat.reduceEqDiff, Nat.reduceAdd, Nat.reduceSub, Nat.reduceMul, Nat.reduceLT, Nat.reduceLeDiff, Nat.reducePow, Int.reduceToNat, Int.reduceLT, Int.reduceLE, Int.reduceEq, Int.reduceNe, Int.reduceAdd, Int.reduceSub, Int.reduceMul, Int.reduceNeg, h1, h2, h3, h4, h5, k1, k2, k3, k5, k6, k7]
      exact finK_drop ⟨by rw [usedP_cells]; simp [isAt, k7, D.er, D.er1], rfl, rfl⟩
    · try simp only [go_sem, reduceIte, Nat.reduceEqDiff, Nat.reduceAdd, Nat.reduceSub, Nat.reduceMul, Nat.reduceLT, Nat.reduceLeDiff, Nat.reducePow, Int.reduceToNat, Int.reduceLT, Int.reduceLE, Int.reduceEq, Int.reduceNe, Int.reduceAdd, Int.reduceSub, Int.reduceMul, Int.reduceNeg, h1, h2, h3, h4, h5, k1, k2, k3, k5, k6, k7, decide_false]
      have k8 : ¬ (5 ≤ p.op ∧ p.op ≤ 7) := by omega
      exact finK_drop ⟨by rw [usedP_cells]; simp [hx, k1, k2, k3, k8, D.er, D.er1], rfl, rfl⟩
  · try simp only [go_sem, reduceIte, Nat.reduceEqDiff, Nat.reduceAdd, Nat.reduceSub, Nat.reduceMul, Nat.reduceLT, Nat.reduceLeDiff, Nat.reducePow, Int.reduceToNat, Int.reduceLT, Int.reduceLE, Int.reduceEq, Int.reduceNe, Int.reduceAdd, Int.reduceSub, Int.reduceMul, Int.reduceNeg, h1, h2, h3, h4, h5]
    by_cases k1 : p.op = 1
    · try simp only [go_sem, reduceIte, Nat.reduceEqDiff, Nat.reduceAdd, Nat.reduceSub, Nat.reduceMul, Nat.reduceLT, Nat.reduceLeDiff, Nat.reducePow, Int.reduceToNat, Int.reduceLT, Int.reduceLE, Int.reduceEq, Int.reduceNe, Int.reduceAdd, Int.reduceSub, Int.reduceMul, Int.reduceNeg, h1, h2, h3, h4, h5, k1]
      repeat' (first | (refine ⟨by simp [rdAdd, h1, h2, h3, h4, h5], ?_⟩) | simp only [go_sem, reduceIte, Nat.reduceEqDiff, Nat.reduceAdd, Nat.reduceSub, Nat.reduceMul, Nat.reduceLT, Nat.reduceLeDiff, Nat.reducePow, Int.reduceToNat, Int.reduceLT, Int.reduceLE, Int.reduceEq, Int.reduceNe, Int.reduceAdd, Int.reduceSub, Int.reduceMul, Int.reduceNeg, h1, h2, h3, h4, h5, k1])
      exact finK_drop ⟨by rw [usedP_cells]; simp [isAt, k1, D.er, D.er1], rfl, rfl⟩
    by_cases k2 : p.op = 2
    · try simp only [go_sem, reduceIte, Nat.reduceEqDiff, Nat.reduceAdd, Nat.reduceSub, Nat.reduceMul, Nat.reduceLT, Nat.reduceLeDiff, Nat.reducePow, Int.reduceToNat, Int.reduceLT, Int.reduceLE, Int.reduceEq, Int.reduceNe, Int.reduceAdd, Int.reduceSub, Int.reduceMul, Int.reduceNeg, h1, h2, h3, h4, h5, k1, k2]
      exact finK_drop ⟨by rw [usedP_cells]; simp [isAt, k2, D.er, D.er1], rfl, rfl⟩
    by_cases k3 : p.op = 3
    · try simp only [go_sem, reduceIte, Nat.reduceEqDiff, Nat.reduceAdd, Nat.reduceSub, Nat.reduceMul, Nat.reduceLT, Nat.reduceLeDiff, Nat.reducePow, Int.reduceToNat, Int.reduceLT, Int.reduceLE, Int.reduceEq, Int.reduceNe, Int.reduceAdd, Int.reduceSub, Int.reduceMul, Int.reduceNeg, h1, h2, h3, h4, h5, k1, k2, k3]
      exact finK_drop ⟨by rw [usedP_cells]; simp [isAt, k3, D.er, D.er1], rfl, rfl⟩
    · have k4 : p.op = 4 := by simp [isAt] at hx; omega
      try simp only [go_sem, reduceIte, Nat.reduceEqDiff, Nat.reduceAdd, Nat.reduceSub, Nat.reduceMul, Nat.reduceLT, Nat.reduceLeDiff, Nat.reducePow, Int.reduceToNat, Int.reduceLT, Int.reduceLE, Int.reduceEq, Int.reduceNe, Int.reduceAdd, Int.reduceSub, Int.reduceMul, Int.reduceNeg, h1, h2, h3, h4, h5, k1, k2, k3, k4]
      exact finK_drop ⟨by rw [usedP_cells]; simp [isAt, k4, D.er, D.er1], rfl, rfl⟩
def longV (v : Vl) : Bool := decide (200 < (v.s.size : Int))
theorem formed1_ok (v : Vl) : VN P G 89 [.agg v.cells] (.bool (longV v)) := by
  simp only [Vl.cells]
  unfold VN
  refine VC.ofs (fun | 99999999 => [(0, [0, 1, 2])] | _ => []) [2] mixed Try.func89 rfl rfl rfl rfl (by decide +kernel) (by simp) ?_
  simp only [go_sem, reduceIte, Nat.reduceEqDiff, Nat.reduceAdd, Nat.reduceSub, Nat.reduceMul, Nat.reduceLT, Nat.reduceLeDiff, Nat.reducePow, Int.reduceToNat, Int.reduceLT, Int.reduceLE, Int.reduceEq, Int.reduceNe, Int.reduceAdd, Int.reduceSub, Int.reduceMul, Int.reduceNeg]
  exact fun _ => finK_drop ⟨rfl, rfl, rfl⟩
theorem VN.vq {P : Program} {f : FuncId} {args : List D} {d : D} (h : VN P G f args d) (b : Nat) (X : List D) : VQ P G f args b X d := by
  unfold VQ
  exact h.call _ _ ⟨rfl, rfl, rfl⟩
/-- Is a predicate alone, without the ones inside it, well-formed? -/
structure FormP (p : Pr) : Prop where
  op : 0 ≤ p.op ∧ p.op ≤ 7
  id : p.id = (usedP p).id
  lo : p.lo = (usedP p).lo
  hi : p.hi = (usedP p).hi
  text : p.text = (usedP p).text
  set : p.set.length = (usedP p).set.length
  kids : p.kids.length = (usedP p).kids.length
  s16 : p.set.length ≤ 16
  k16 : p.kids.length ≤ 16
  one : p.op = 7 → p.kids.length = 1
  t200 : p.text.size ≤ 200
  v200 : ∀ v ∈ p.set, v.s.size ≤ 200
theorem formP_iff (p : Pr) : FormP p ↔ ((0 ≤ p.op ∧ p.op ≤ 7) ∧ p.id = (usedP p).id ∧ p.lo = (usedP p).lo ∧ p.hi = (usedP p).hi ∧ p.text = (usedP p).text ∧ p.set.length = (usedP p).set.length ∧ p.kids.length = (usedP p).kids.length ∧ p.set.length ≤ 16 ∧ p.kids.length ≤ 16 ∧ (p.op = 7 → p.kids.length = 1) ∧ p.text.size ≤ 200 ∧ ∀ v ∈ p.set, v.s.size ≤ 200) :=
  ⟨fun ⟨a, b, c, d, e, f, g, h, i, j, k, l⟩ => ⟨a, b, c, d, e, f, g, h, i, j, k, l⟩, fun ⟨a, b, c, d, e, f, g, h, i, j, k, l⟩ => ⟨a, b, c, d, e, f, g, h, i, j, k, l⟩⟩
instance (p : Pr) : Decidable (FormP p) := decidable_of_iff _ (formP_iff p).symm
set_option maxRecDepth 100000 in
set_option maxHeartbeats 4000000 in
theorem formed_ok (p : Pr) : VN P G 75 [.agg p.cells] (.bool (decide (FormP p))) := by
  have hu := used_ok (G := G) p
  obtain ⟨u, hue⟩ : ∃ u, usedP p = u := ⟨_, rfl⟩
  rw [hue] at hu
  have hF : FormP p ↔ _ := formP_iff p
  rw [hue] at hF
  unfold VN
  refine VC.ofs (fun | 99999999 => [(0, [0, 1, 2, 3, 4, 7, 16, 61])] | _ => []) [2] mixed Try.func75 rfl rfl rfl rfl (by decide +kernel) (by simp) ?_
  simp only [go_sem, reduceIte, Nat.reduceEqDiff, Nat.reduceAdd, Nat.reduceSub, Nat.reduceMul, Nat.reduceLT, Nat.reduceLeDiff, Nat.reducePow, Int.reduceToNat, Int.reduceLT, Int.reduceLE, Int.reduceEq, Int.reduceNe, Int.reduceAdd, Int.reduceSub, Int.reduceMul, Int.reduceNeg]
  intro b1
  refine cK_vn hu ?_
  try simp only [go_sem, reduceIte, Nat.reduceEqDiff, Nat.reduceAdd, Nat.reduceSub, Nat.reduceMul, Nat.reduceLT, Nat.reduceLeDiff, Nat.reducePow, Int.reduceToNat, Int.reduceLT, Int.reduceLE, Int.reduceEq, Int.reduceNe, Int.reduceAdd, Int.reduceSub, Int.reduceMul, Int.reduceNeg, ]
  refine new_1 fun b3 h1 h2 => ?_
  try simp only [go_sem, reduceIte, Nat.reduceEqDiff, Nat.reduceAdd, Nat.reduceSub, Nat.reduceMul, Nat.reduceLT, Nat.reduceLeDiff, Nat.reducePow, Int.reduceToNat, Int.reduceLT, Int.reduceLE, Int.reduceEq, Int.reduceNe, Int.reduceAdd, Int.reduceSub, Int.reduceMul, Int.reduceNeg, h1, h2]
  have e1 : (p.set.map Vl.d).length = p.set.length := by simp
  have e2 : (p.kids.map Pr.d).length = p.kids.length := by simp
  have e3 : (u.set.map Vl.d).length = u.set.length := by simp
  have e4 : (u.kids.map Pr.d).length = u.kids.length := by simp
  refine cd_dec (fun k1 => ?_) (fun k1 => ?_)
  · try simp only [go_sem, reduceIte, Nat.reduceEqDiff, Nat.reduceAdd, Nat.reduceSub, Nat.reduceMul, Nat.reduceLT, Nat.reduceLeDiff, Nat.reducePow, Int.reduceToNat, Int.reduceLT, Int.reduceLE, Int.reduceEq, Int.reduceNe, Int.reduceAdd, Int.reduceSub, Int.reduceMul, Int.reduceNeg, h1, h2]
    exact finK_drop ⟨by rw [decide_eq_false (by rw [hF]; omega)]; rfl, rfl, rfl⟩
  try simp only [go_sem, reduceIte, Nat.reduceEqDiff, Nat.reduceAdd, Nat.reduceSub, Nat.reduceMul, Nat.reduceLT, Nat.reduceLeDiff, Nat.reducePow, Int.reduceToNat, Int.reduceLT, Int.reduceLE, Int.reduceEq, Int.reduceNe, Int.reduceAdd, Int.reduceSub, Int.reduceMul, Int.reduceNeg, h1, h2, e1, e2, e3, e4]
  refine cd_dec (fun k2 => ?_) (fun k2 => ?_)
  · try simp only [go_sem, reduceIte, Nat.reduceEqDiff, Nat.reduceAdd, Nat.reduceSub, Nat.reduceMul, Nat.reduceLT, Nat.reduceLeDiff, Nat.reducePow, Int.reduceToNat, Int.reduceLT, Int.reduceLE, Int.reduceEq, Int.reduceNe, Int.reduceAdd, Int.reduceSub, Int.reduceMul, Int.reduceNeg, h1, h2]
    exact finK_drop ⟨by rw [decide_eq_false (by rw [hF]; rintro ⟨_, g1, g2, g3, g4, g5, g6, _⟩; simp only [g1, g2, g3, g4, g5, g6, ne_eq, not_true_eq_false, or_self] at k2)]; rfl, rfl, rfl⟩
  try simp only [go_sem, reduceIte, Nat.reduceEqDiff, Nat.reduceAdd, Nat.reduceSub, Nat.reduceMul, Nat.reduceLT, Nat.reduceLeDiff, Nat.reducePow, Int.reduceToNat, Int.reduceLT, Int.reduceLE, Int.reduceEq, Int.reduceNe, Int.reduceAdd, Int.reduceSub, Int.reduceMul, Int.reduceNeg, h1, h2, e1, e2, e3, e4]
  refine ⟨fun h => ⟨h, fun h2 => ⟨h, h2⟩⟩, cd_dec (fun k3 => ?_) (fun k3 => ?_)⟩
  · try simp only [go_sem, reduceIte, Nat.reduceEqDiff, Nat.reduceAdd, Nat.reduceSub, Nat.reduceMul, Nat.reduceLT, Nat.reduceLeDiff, Nat.reducePow, Int.reduceToNat, Int.reduceLT, Int.reduceLE, Int.reduceEq, Int.reduceNe, Int.reduceAdd, Int.reduceSub, Int.reduceMul, Int.reduceNeg, h1, h2]
    refine finK_drop ⟨?_, rfl, rfl⟩
    rw [decide_eq_false]; rfl
    rw [hF]
    rintro ⟨_, _, _, _, _, _, _, g1, g2, g3, _⟩
    rcases k3 with k3 | ⟨k3, k4⟩
    · split at k3 <;> omega
    · have := g3 k3; omega
  have hlv : ∀ x ∈ p.set, VQ P G 89 ([] ++ [.agg x.cells] ++ []) b1 p.cells (.bool (longV x)) := fun x _ => by
    simp only [List.nil_append, List.append_nil]
    exact VN.vq (formed1_ok x) _ _
  have hcf := ContainsF_ok p.set longV b1 p.cells hlv
  have hns : (∀ v ∈ p.set, v.s.size ≤ 200) ↔ p.set.any longV = false := by
    rw [List.any_eq_false]
    simp only [longV, decide_eq_true_eq]
    exact ⟨fun h v hv => by have := h v hv; omega, fun h v hv => by have := h v hv; omega⟩
  have hrest : FormP p ↔ (p.text.size ≤ 200 ∧ ∀ v ∈ p.set, v.s.size ≤ 200) := by
    rw [hF]
    refine ⟨fun ⟨_, _, _, _, _, _, _, _, _, _, g1, g2⟩ => ⟨g1, g2⟩, fun ⟨g1, g2⟩ => ?_⟩
    simp only [not_or, ne_eq, Decidable.not_not] at k2 k3
    obtain ⟨⟨⟨⟨⟨a1, a2⟩, a3⟩, a4⟩, a5⟩, a6⟩ := k2
    obtain ⟨a7, a8⟩ := k3
    refine ⟨by omega, a1, a2, a3, a4, by omega, by omega, ?_, ?_, fun h => ?_, g1, g2⟩
    · split at a7 <;> omega
    · split at a7 <;> omega
    · have : ¬ ¬ (p.kids.length : Int) = 1 := fun h' => a8 ⟨h, h'⟩
      omega
  by_cases k5 : (p.text.size : Int) ≤ 200
  · have k5' := eq_true k5
    try simp only [go_sem, reduceIte, Nat.reduceEqDiff, Nat.reduceAdd, Nat.reduceSub, Nat.reduceMul, Nat.reduceLT, Nat.reduceLeDiff, Nat.reducePow, Int.reduceToNat, Int.reduceLT, Int.reduceLE, Int.reduceEq, Int.reduceNe, Int.reduceAdd, Int.reduceSub, Int.reduceMul, Int.reduceNeg, h1, h2, k5', decide_true]
    refine cK_vq (fs := []) (cs := []) hcf (by simp [Heap.set, h1, h2]) ?_
    try simp only [go_sem, reduceIte, Nat.reduceEqDiff, Nat.reduceAdd, Nat.reduceSub, Nat.reduceMul, Nat.reduceLT, Nat.reduceLeDiff, Nat.reducePow, Int.reduceToNat, Int.reduceLT, Int.reduceLE, Int.reduceEq, Int.reduceNe, Int.reduceAdd, Int.reduceSub, Int.reduceMul, Int.reduceNeg, h1, h2, k5']
    refine finK_drop ⟨?_, rfl, rfl⟩
    have : decide (FormP p) = !p.set.any longV := by
      cases hx : p.set.any longV
      · rw [decide_eq_true (hrest.2 ⟨by omega, hns.2 hx⟩)]; rfl
      · rw [decide_eq_false (fun h => by have := hns.1 (hrest.1 h).2; rw [hx] at this; cases this)]; rfl
    rw [this]; rfl
  · have k5' := eq_false k5
    try simp only [go_sem, reduceIte, Nat.reduceEqDiff, Nat.reduceAdd, Nat.reduceSub, Nat.reduceMul, Nat.reduceLT, Nat.reduceLeDiff, Nat.reducePow, Int.reduceToNat, Int.reduceLT, Int.reduceLE, Int.reduceEq, Int.reduceNe, Int.reduceAdd, Int.reduceSub, Int.reduceMul, Int.reduceNeg, h1, h2, k5', decide_false]
    exact finK_drop ⟨by rw [decide_eq_false (fun h => by have := (hrest.1 h).1; omega)]; rfl, rfl, rfl⟩
def wellF (p : Pr) : Bool := decide (depN 8 p ≤ 8) && (subs p).all fun q => decide (FormP q)
set_option maxRecDepth 100000 in
set_option maxHeartbeats 1000000 in
theorem wellFormed_ok (p : Pr) : VN P G 53 [.agg p.cells] (.bool (wellF p)) := by
  have hd := depth_ok (G := G) 8 p (by omega)
  rw [show (((8 : Nat) : Int) + 1) = 9 from rfl] at hd
  unfold VN
  refine VC.ofc (fun | 99999999 => [(0, [0, 1, 2, 3, 6, 8, 12])] | _ => []) [.cell 2 4] mixed Try.func53 rfl rfl rfl rfl (by decide +kernel) (by simp) ?_
  simp only [go_sem, reduceIte, Nat.reduceEqDiff, Nat.reduceAdd, Nat.reduceSub, Nat.reduceMul, Nat.reduceLT, Nat.reduceLeDiff, Nat.reducePow, Int.reduceToNat, Int.reduceLT, Int.reduceLE, Int.reduceEq, Int.reduceNe, Int.reduceAdd, Int.reduceSub, Int.reduceMul, Int.reduceNeg]
  intro b1
  refine new_1 fun b2 h1 h2 => ?_
  try simp only [go_sem, reduceIte, Nat.reduceEqDiff, Nat.reduceAdd, Nat.reduceSub, Nat.reduceMul, Nat.reduceLT, Nat.reduceLeDiff, Nat.reducePow, Int.reduceToNat, Int.reduceLT, Int.reduceLE, Int.reduceEq, Int.reduceNe, Int.reduceAdd, Int.reduceSub, Int.reduceMul, Int.reduceNeg, h1, h2]
  refine cK_vn hd ?_
  try simp only [go_sem, reduceIte, Nat.reduceEqDiff, Nat.reduceAdd, Nat.reduceSub, Nat.reduceMul, Nat.reduceLT, Nat.reduceLeDiff, Nat.reducePow, Int.reduceToNat, Int.reduceLT, Int.reduceLE, Int.reduceEq, Int.reduceNe, Int.reduceAdd, Int.reduceSub, Int.reduceMul, Int.reduceNeg, h1, h2]
  refine cd_dec (fun k => ?_) (fun k => ?_)
  · try simp only [go_sem, reduceIte, Nat.reduceEqDiff, Nat.reduceAdd, Nat.reduceSub, Nat.reduceMul, Nat.reduceLT, Nat.reduceLeDiff, Nat.reducePow, Int.reduceToNat, Int.reduceLT, Int.reduceLE, Int.reduceEq, Int.reduceNe, Int.reduceAdd, Int.reduceSub, Int.reduceMul, Int.reduceNeg, h1, h2]
    exact finK_drop ⟨by rw [wellF, decide_eq_false (show ¬ depN 8 p ≤ 8 by omega)]; rfl, rfl, rfl⟩
  try simp only [go_sem, reduceIte, Nat.reduceEqDiff, Nat.reduceAdd, Nat.reduceSub, Nat.reduceMul, Nat.reduceLT, Nat.reduceLeDiff, Nat.reducePow, Int.reduceToNat, Int.reduceLT, Int.reduceLE, Int.reduceEq, Int.reduceNe, Int.reduceAdd, Int.reduceSub, Int.reduceMul, Int.reduceNeg, h1, h2]
  generalize hβ : Heap.set _ b2 _ = β0
  have e1 : β0 b1 = some p.cells := by rw [← hβ]; simp [Heap.set, h1, h2]
  have e2 : β0 b2 = some [.bool false] := by rw [← hβ]; simp [Heap.set]
  clear hβ
  refine cK_fr (d := .clo (.func 54) [] []) (args := [.agg p.cells]) (all_ok p) (Part.nil _ _) ?_ ?_
  rotate_left
  · rintro r β1 ω1 ⟨b, h, _⟩; cases h
  rintro r β1 ω1 β' ω' ⟨bq, h3, rfl, rfl⟩ hpt hkeep hω
  cases h3
  rw [joinT_nil] at hω
  subst hω
  have e2 := hkeep b2 _ e2 rfl
  have eq := hpt.box bq p.cells (by simp [Heap.set])
  clear hkeep hpt
  simp only [go_sem, reduceIte, Nat.reduceEqDiff, Nat.reduceAdd, Nat.reduceSub, Nat.reduceMul, Nat.reduceLT, Nat.reduceLeDiff, Nat.reducePow, Int.reduceToNat, Int.reduceLT, Int.reduceLE, Int.reduceEq, Int.reduceNe, Int.reduceAdd, Int.reduceSub, Int.reduceMul, Int.reduceNeg]
  generalize hσ : upd _ 0 _ = σ0
  have q2 : σ0 2 = .pb b2 0 := by rw [← hσ]; rfl
  clear hσ
  refine rg_all (pb := false) (I := fun vis β c ω => ω = [] ∧ c = [.bool false] ∧ ∀ q ∈ vis, FormP q) (J := fun e β c ω => e = .ret ∧ ω = [] ∧ c = [.bool false] ∧ ∃ q ∈ subs p, ¬ FormP q) (bo := b2) (fun | 99999999 => [(0, [0, 1, 2, 3, 6, 8, 12])] | _ => []) eq e2 ⟨rfl, rfl, fun _ h => by cases h⟩ (fun _ _ _ _ h => by cases h.1) (fun vis β β' c ω hm h => h) (fun _ _ _ _ _ _ h => h) rfl rfl rfl (by decide +kernel) (by decide +kernel) ?_ ?_ ?_
  · rintro l r q vis β c ω hl hpre ⟨rfl, rfl, hall⟩ hk hbo hlr
    rw [show roundσ σ0 #[9].toList [D.agg q.cells] = upd σ0 9 (.agg q.cells) from rfl]
    try simp only [go_sem, reduceIte, Nat.reduceEqDiff, Nat.reduceAdd, Nat.reduceSub, Nat.reduceMul, Nat.reduceLT, Nat.reduceLeDiff, Nat.reducePow, Int.reduceToNat, Int.reduceLT, Int.reduceLE, Int.reduceEq, Int.reduceNe, Int.reduceAdd, Int.reduceSub, Int.reduceMul, Int.reduceNeg, q2]
    refine new_any fun b4 hb4 => ?_
    have N := And.intro (box_ne hb4 hlr) (And.intro (box_ne hb4 hbo) (box_ne hl e2))
    try simp only [go_sem, reduceIte, Nat.reduceEqDiff, Nat.reduceAdd, Nat.reduceSub, Nat.reduceMul, Nat.reduceLT, Nat.reduceLeDiff, Nat.reducePow, Int.reduceToNat, Int.reduceLT, Int.reduceLE, Int.reduceEq, Int.reduceNe, Int.reduceAdd, Int.reduceSub, Int.reduceMul, Int.reduceNeg, q2, N, hbo, hlr]
    generalize hβ2 : Heap.set _ l _ = β2
    obtain ⟨g1, g2, g3, g4, g5⟩ := rg_head hl hk hbo hlr rfl hb4 _ _ hβ2
    clear hβ2 hb4
    refine cK_vn (formed_ok q) ?_
    by_cases hq : FormP q
    · have hq' := decide_eq_true hq
      try simp only [go_sem, reduceIte, Nat.reduceEqDiff, Nat.reduceAdd, Nat.reduceSub, Nat.reduceMul, Nat.reduceLT, Nat.reduceLeDiff, Nat.reducePow, Int.reduceToNat, Int.reduceLT, Int.reduceLE, Int.reduceEq, Int.reduceNe, Int.reduceAdd, Int.reduceSub, Int.reduceMul, Int.reduceNeg, q2, hq', g2]
      exact rgQ_end g1 g3 g2 ⟨rfl, rfl, fun x hx => by
        rcases List.mem_append.1 hx with hx | hx
        · exact hall x hx
        · rw [List.mem_singleton] at hx; subst hx; exact hq⟩
    · have hq' := decide_eq_false hq
      try simp only [go_sem, reduceIte, Nat.reduceEqDiff, Nat.reduceAdd, Nat.reduceSub, Nat.reduceMul, Nat.reduceLT, Nat.reduceLeDiff, Nat.reducePow, Int.reduceToNat, Int.reduceLT, Int.reduceLE, Int.reduceEq, Int.reduceNe, Int.reduceAdd, Int.reduceSub, Int.reduceMul, Int.reduceNeg, q2, hq', g2]
      refine rgQ_out (fun b cs e1 e2 => ?_) ?_ (hit_set rfl) ⟨rfl, rfl, rfl, q, hpre.subset (by simp), hq⟩
      · simp only [Heap.set, if_neg e2]; exact g1 b cs e1 e2
      · simp only [Heap.set, if_neg (Ne.symm N.2.2.1)]; exact g3
  · rintro β c ω hk hbo ⟨rfl, rfl, hall⟩
    try simp only [go_sem, reduceIte, Nat.reduceEqDiff, Nat.reduceAdd, Nat.reduceSub, Nat.reduceMul, Nat.reduceLT, Nat.reduceLeDiff, Nat.reducePow, Int.reduceToNat, Int.reduceLT, Int.reduceLE, Int.reduceEq, Int.reduceNe, Int.reduceAdd, Int.reduceSub, Int.reduceMul, Int.reduceNeg, q2, hbo]
    refine finK_drop ⟨?_, rfl, rfl⟩
    rw [wellF, decide_eq_true (show depN 8 p ≤ 8 by omega), Bool.true_and, List.all_eq_true.2 fun q hq => decide_eq_true (hall q hq)]; rfl
  · rintro e β c ω hk hbo ⟨rfl, rfl, rfl, q, hq, hn⟩
    try simp only [go_sem, reduceIte, Nat.reduceEqDiff, Nat.reduceAdd, Nat.reduceSub, Nat.reduceMul, Nat.reduceLT, Nat.reduceLeDiff, Nat.reducePow, Int.reduceToNat, Int.reduceLT, Int.reduceLE, Int.reduceEq, Int.reduceNe, Int.reduceAdd, Int.reduceSub, Int.reduceMul, Int.reduceNeg, q2, hbo]
    refine finK_drop ⟨?_, rfl, rfl⟩
    rw [wellF, show ((subs p).all fun q => decide (FormP q)) = false from by
      rw [List.all_eq_false]; exact ⟨q, hq, by simp [hn]⟩, Bool.and_false]; rfl
end Go.Proofs.YtpblgfgcoamgmaaS
