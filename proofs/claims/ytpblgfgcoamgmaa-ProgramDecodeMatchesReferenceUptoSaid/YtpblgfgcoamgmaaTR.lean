/-
  Programs: sums, guards and the running of a program (package program).
  Conditions: none.
-/
import Derived.Test.YtpblgfgcoamgmaaTS
import Derived.Test.YtpblgfgcoamgmaaQ6
set_option linter.unusedVariables false
set_option linter.unusedSimpArgs false
namespace Go.Proofs.YtpblgfgcoamgmaaS
open Go Go.Proofs.YtpblgfgcoamgmaaV

variable {G : Heap}
attribute [local irreducible] VN VC VX VQ VY VW VTA VT0 VPP VP

theorem IndexCl_ok (l : List Cl) (q : Cl → Bool) {f : FuncId} {fs cs : List D} (b : Nat) (X : List D) (hq : ∀ x ∈ l, VQ P G f (fs ++ [clD x] ++ cs) b X (.bool (q x))) :
    VQ P G 48 [.sl .none (l.map clD), .clo (.func f) fs cs] b X (.int .i64 (idx q l)) := by
  unfold VQ
  refine VC.small2 fun hsm => ?_
  have z1 := hsm (.sl .none (l.map clD)) (List.mem_cons_self ..) (.sl .none (l.map clD)) (by simp [D.cells])
  simp only [Small, mostLen, List.length_map] at z1
  clear hsm
  refine VC.ofs (fun | 99999999 => [(0, [0, 1, 4, 5, 7, 8, 9, 16])] | _ => []) [4] mixed Try.func48 rfl rfl rfl rfl (by decide +kernel) (by simp) ?_
  simp only [go_sem, reduceIte, Nat.reduceEqDiff, Nat.reduceAdd, Nat.reduceSub, Nat.reduceMul, Nat.reduceLT, Nat.reduceLeDiff, Nat.reducePow, Int.reduceToNat, Int.reduceLT, Int.reduceLE, Int.reduceEq, Int.reduceNe, Int.reduceAdd, Int.reduceSub, Int.reduceMul, Int.reduceNeg]
  refine vwq_loop (fun u => ∃ (j : Nat), j ≤ l.length ∧ j ≤ l.findIdx q ∧ u.σ 0 = .sl .none (l.map clD) ∧ u.σ 1 = .clo (.func f) fs cs ∧ u.σ 7 = .int .i64 l.length ∧ u.σ 8 = .int .i64 j ∧ u.β = Heap.nil.set b X ∧ u.ω = []) (fun u => l.length - (ival (u.σ 8)).toNat) ⟨0, by omega, by omega, rfl, rfl, by rw [← List.length_map (f := clD)]; rfl, rfl, rfl, rfl⟩ ?_
  rintro σ β ω ⟨j, j1, j2, q0, q1, q7, q8, rfl, rfl⟩
  dsimp only at q0 q1 q7 q8
  try simp only [go_sem, reduceIte, Nat.reduceEqDiff, Nat.reduceAdd, Nat.reduceSub, Nat.reduceMul, Nat.reduceLT, Nat.reduceLeDiff, Nat.reducePow, Int.reduceToNat, Int.reduceLT, Int.reduceLE, Int.reduceEq, Int.reduceNe, Int.reduceAdd, Int.reduceSub, Int.reduceMul, Int.reduceNeg, q0, q1, q7, q8]
  refine cd_dec (fun g => ?_) (fun g => ?_)
  · have g' : (j : Int) < ((l.map clD).length : Nat) := by rw [List.length_map]; exact g
    obtain ⟨x, hx, ex⟩ := Cl_at (l := l) (j := j) (by omega)
    have hx' := hq x (List.mem_of_getElem? hx)
    unfold clD at hx'
    try simp only [go_sem, reduceIte, Nat.reduceEqDiff, Nat.reduceAdd, Nat.reduceSub, Nat.reduceMul, Nat.reduceLT, Nat.reduceLeDiff, Nat.reducePow, Int.reduceToNat, Int.reduceLT, Int.reduceLE, Int.reduceEq, Int.reduceNe, Int.reduceAdd, Int.reduceSub, Int.reduceMul, Int.reduceNeg, q0, q1, q7, q8, ex]
    refine ⟨by omega, cK_vq hx' (by simp [Heap.set]) ?_⟩
    cases hqx : q x
    · try simp only [go_sem, reduceIte, Nat.reduceEqDiff, Nat.reduceAdd, Nat.reduceSub, Nat.reduceMul, Nat.reduceLT, Nat.reduceLeDiff, Nat.reducePow, Int.reduceToNat, Int.reduceLT, Int.reduceLE, Int.reduceEq, Int.reduceNe, Int.reduceAdd, Int.reduceSub, Int.reduceMul, Int.reduceNeg, q0, q1, q7, q8, ex]
      rw [wrap_i64 (x := (j : Int) + 1) (by omega) (by omega)]
      have := idx_miss hx j2 hqx
      exact ⟨⟨j + 1, by omega, by omega, rfl⟩, by omega⟩
    · try simp only [go_sem, reduceIte, Nat.reduceEqDiff, Nat.reduceAdd, Nat.reduceSub, Nat.reduceMul, Nat.reduceLT, Nat.reduceLeDiff, Nat.reducePow, Int.reduceToNat, Int.reduceLT, Int.reduceLE, Int.reduceEq, Int.reduceNe, Int.reduceAdd, Int.reduceSub, Int.reduceMul, Int.reduceNeg, q0, q1, q7, q8, ex]
      have e : idx q l = j := by
        have := idx_hit hx j2 hqx
        unfold idx
        rw [if_pos (by omega), this]
      refine finK_var (by simp [Heap.set]) ⟨by rw [e]; rfl, rfl, rfl⟩
  · try simp only [go_sem, reduceIte, Nat.reduceEqDiff, Nat.reduceAdd, Nat.reduceSub, Nat.reduceMul, Nat.reduceLT, Nat.reduceLeDiff, Nat.reducePow, Int.reduceToNat, Int.reduceLT, Int.reduceLE, Int.reduceEq, Int.reduceNe, Int.reduceAdd, Int.reduceSub, Int.reduceMul, Int.reduceNeg, q0, q1, q7, q8]
    have e : idx q l = -1 := by
      unfold idx
      rw [if_neg]
      omega
    refine finK_var (by simp [Heap.set]) ⟨by rw [e]; rfl, rfl, rfl⟩
def guC (g : Gu) : List D := [.int .i64 g.1.op, .int .i64 g.1.id, .int .i64 g.1.lo, .int .i64 g.1.hi, .sl .none (g.1.set.map Vl.d), .str g.1.text, .sl .none (g.1.kids.map Pr.d), .int .i64 g.2.1, .int .i64 g.2.2.1, .int .i64 g.2.2.2]
theorem sum1_ok (x : Cl) (g : Gu) (b : Nat) : VQ P G 49 ([] ++ [clD x] ++ [.pb b 0]) b (guC g) (.bool (decide (x.1 = g.2.1))) := by
  simp only [clD, List.nil_append, List.cons_append]
  unfold VQ guC
  refine VC.ofs (fun | 99999999 => [(0, [0, 1, 2, 3])] | _ => []) [3] mixed Try.func49 rfl rfl rfl rfl (by decide +kernel) (by simp) ?_
  simp only [go_sem, reduceIte, Nat.reduceEqDiff, Nat.reduceAdd, Nat.reduceSub, Nat.reduceMul, Nat.reduceLT, Nat.reduceLeDiff, Nat.reducePow, Int.reduceToNat, Int.reduceLT, Int.reduceLE, Int.reduceEq, Int.reduceNe, Int.reduceAdd, Int.reduceSub, Int.reduceMul, Int.reduceNeg]
  refine new_1 fun b0 h1 h2 => ?_
  try simp only [go_sem, reduceIte, Nat.reduceEqDiff, Nat.reduceAdd, Nat.reduceSub, Nat.reduceMul, Nat.reduceLT, Nat.reduceLeDiff, Nat.reducePow, Int.reduceToNat, Int.reduceLT, Int.reduceLE, Int.reduceEq, Int.reduceNe, Int.reduceAdd, Int.reduceSub, Int.reduceMul, Int.reduceNeg, h1, h2]
  exact finK_var (by simp [Heap.set, h1, h2]) ⟨rfl, rfl, rfl⟩
/-- What a row adds to a sum. -/
def hitV (r : Rw) (id : Int) : Option Int := match r.find? fun c => decide (c.1 = id) with
  | some c => if c.2.null = true then none else some c.2.n
  | none => none
def addF (g : Gu) (n : Int) (l : Ln) : Int := if matchF g.1 l.2 = true then match hitV l.2 g.2.1 with | some v => IntKind.i64.wrap (n + v) | none => n else n
def sumF (g : Gu) (t : Tbl) : Int := t.l.foldl (addF g) 0
theorem psum_ok (g : Gu) (t : Tbl) : VN P G 28 [.agg (guC g), .agg t.cells] (.int .i64 (sumF g t)) := by
  unfold VN
  refine VC.small2 fun hsm => ?_
  have z1 := hsm (.agg t.cells) (by simp) (.sl .none (t.l.map lnD)) (by simp [D.cells, Tbl.cells])
  simp only [Small, mostLen, List.length_map] at z1
  clear hsm
  refine VC.ofs (fun | 99999999 => [(0, [0, 1, 2, 3, 4, 5, 7, 8, 10, 11, 12, 13, 21, 39])] | _ => []) [4] mixed Try.func28 rfl rfl rfl rfl (by decide +kernel) (by simp) ?_
  have el : (t.l.map lnD).length = t.l.length := by simp
  simp only [Tbl.cells, guC]
  simp only [go_sem, reduceIte, Nat.reduceEqDiff, Nat.reduceAdd, Nat.reduceSub, Nat.reduceMul, Nat.reduceLT, Nat.reduceLeDiff, Nat.reducePow, Int.reduceToNat, Int.reduceLT, Int.reduceLE, Int.reduceEq, Int.reduceNe, Int.reduceAdd, Int.reduceSub, Int.reduceMul, Int.reduceNeg]
  refine fun b2 => new_1 fun b3 q1 q2 => ?_
  have N := And.intro q1 q2
  try simp only [go_sem, reduceIte, Nat.reduceEqDiff, Nat.reduceAdd, Nat.reduceSub, Nat.reduceMul, Nat.reduceLT, Nat.reduceLeDiff, Nat.reducePow, Int.reduceToNat, Int.reduceLT, Int.reduceLE, Int.reduceEq, Int.reduceNe, Int.reduceAdd, Int.reduceSub, Int.reduceMul, Int.reduceNeg, q1, q2, el]
  refine vwq_loop (fun v => ∃ (j : Nat), j ≤ t.l.length ∧ v.σ 2 = .pb b2 0 ∧ v.σ 3 = .pb b3 0 ∧ v.σ 5 = .int .i64 ((t.l.take j).foldl (addF g) 0) ∧ v.σ 10 = .sl .none (t.l.map lnD) ∧ v.σ 11 = .int .i64 t.l.length ∧ v.σ 12 = .int .i64 j ∧ v.β b2 = some (guC g) ∧ v.β b3 = some t.cells ∧ v.ω = []) (fun v => t.l.length - (ival (v.σ 12)).toNat) ⟨0, by omega, rfl, rfl, rfl, rfl, rfl, rfl, by simp [Heap.set, q1, q2, guC], by simp [Heap.set, Tbl.cells], rfl⟩ ?_
  clear q1 q2
  rintro σ β ω ⟨j, hj, q2, q3, q5, q10, q11, q12, e2, e3, rfl⟩
  dsimp only [guC, Tbl.cells] at q2 q3 q5 q10 q11 q12 e2 e3
  obtain ⟨n, hn⟩ : ∃ n, (t.l.take j).foldl (addF g) 0 = n := ⟨_, rfl⟩
  rw [hn] at q5
  try simp only [go_sem, reduceIte, Nat.reduceEqDiff, Nat.reduceAdd, Nat.reduceSub, Nat.reduceMul, Nat.reduceLT, Nat.reduceLeDiff, Nat.reducePow, Int.reduceToNat, Int.reduceLT, Int.reduceLE, Int.reduceEq, Int.reduceNe, Int.reduceAdd, Int.reduceSub, Int.reduceMul, Int.reduceNeg, q2, q3, q5, q10, q11, q12, el, e2, e3]
  refine cd_dec (fun k => ?_) (fun k => ?_)
  · have k' := eq_true k
    obtain ⟨x, hx, ex⟩ := Ln_at (l := t.l) (j := j) (by omega)
    have hm := pMatch_ok (G := G) x.2 g.1
    simp only [Pr.cells] at hm
    have c1 : ((0 : Int) ≤ j) = True := eq_true (by omega)
    have wj := wrap_i64 (x := (j : Int) + 1) (by omega) (by omega)
    have hs : (t.l.take (j + 1)).foldl (addF g) 0 = addF g n x := by
      obtain ⟨h1, h2⟩ := List.getElem?_eq_some_iff.1 hx
      rw [List.take_succ_eq_append_getElem h1, List.foldl_append, hn, h2]; rfl
    obtain ⟨A, hA⟩ : ∃ A, (t.l.take (j + 1)).foldl (addF g) 0 = A := ⟨_, rfl⟩
    rw [hA] at hs
    have N := trivial
    try simp only [go_sem, reduceIte, Nat.reduceEqDiff, Nat.reduceAdd, Nat.reduceSub, Nat.reduceMul, Nat.reduceLT, Nat.reduceLeDiff, Nat.reducePow, Int.reduceToNat, Int.reduceLT, Int.reduceLE, Int.reduceEq, Int.reduceNe, Int.reduceAdd, Int.reduceSub, Int.reduceMul, Int.reduceNeg, q2, q3, q5, q10, q11, q12, el, e2, e3, ex, c1, k', wj]
    refine new_any fun b7 hb7 => ?_
    have N := And.intro N (box_ne hb7 e2)
    have N := And.intro N (box_ne hb7 e3)
    generalize hβ_ : Heap.set _ b7 _ = β_
    have e7 := hit_set hβ_
    have e2 := keep_new hβ_ hb7 e2
    have e3 := keep_new hβ_ hb7 e3
    clear hβ_ hb7
    try simp only [go_sem, reduceIte, Nat.reduceEqDiff, Nat.reduceAdd, Nat.reduceSub, Nat.reduceMul, Nat.reduceLT, Nat.reduceLeDiff, Nat.reducePow, Int.reduceToNat, Int.reduceLT, Int.reduceLE, Int.reduceEq, Int.reduceNe, Int.reduceAdd, Int.reduceSub, Int.reduceMul, Int.reduceNeg, N, q2, q3, q5, q10, q11, q12, el, e2, e3, ex, c1, k', wj, e7]
    (first | refine cK_vn (hm) ?_ | refine cE_vn (hm) ?_)
    unfold addF at hs
    cases hmx : matchF g.1 x.2
    · rw [hmx] at hs
      try simp only [go_sem, reduceIte, Nat.reduceEqDiff, Nat.reduceAdd, Nat.reduceSub, Nat.reduceMul, Nat.reduceLT, Nat.reduceLeDiff, Nat.reducePow, Int.reduceToNat, Int.reduceLT, Int.reduceLE, Int.reduceEq, Int.reduceNe, Int.reduceAdd, Int.reduceSub, Int.reduceMul, Int.reduceNeg, N, q2, q3, q5, q10, q11, q12, el, e2, e3, ex, c1, k', wj, e7]
      exact ⟨⟨j + 1, by omega, by rw [hA, hs]; rfl, rfl, rfl, rfl⟩, by omega⟩
    · rw [hmx] at hs
      try simp only [go_sem, reduceIte, Nat.reduceEqDiff, Nat.reduceAdd, Nat.reduceSub, Nat.reduceMul, Nat.reduceLT, Nat.reduceLeDiff, Nat.reducePow, Int.reduceToNat, Int.reduceLT, Int.reduceLE, Int.reduceEq, Int.reduceNe, Int.reduceAdd, Int.reduceSub, Int.reduceMul, Int.reduceNeg, N, q2, q3, q5, q10, q11, q12, el, e2, e3, ex, c1, k', wj, e7]
      refine cK_vq (IndexCl_ok x.2 (fun c => decide (c.1 = g.2.1)) b2 (guC g) fun y _ => sum1_ok y g b2) e2 ?_
      unfold hitV at hs
      rcases idx_find (fun c : Cl => decide (c.1 = g.2.1)) x.2 with ⟨h1, h2⟩ | ⟨i, y, h1, h2, h3, h4⟩
      · have h1' := eq_false (show ¬ 0 ≤ idx (fun c : Cl => decide (c.1 = g.2.1)) x.2 by omega)
        rw [h2] at hs
        try simp only [go_sem, reduceIte, Nat.reduceEqDiff, Nat.reduceAdd, Nat.reduceSub, Nat.reduceMul, Nat.reduceLT, Nat.reduceLeDiff, Nat.reducePow, Int.reduceToNat, Int.reduceLT, Int.reduceLE, Int.reduceEq, Int.reduceNe, Int.reduceAdd, Int.reduceSub, Int.reduceMul, Int.reduceNeg, N, q2, q3, q5, q10, q11, q12, el, e2, e3, ex, c1, k', wj, e7, h1']
        exact ⟨⟨j + 1, by omega, by rw [hA, hs]; rfl, rfl, rfl, rfl⟩, by omega⟩
      · rw [h1]
        rw [h4] at hs
        dsimp only at hs
        obtain ⟨y', hy', ey⟩ := Cl_at (l := x.2) (j := i) h2
        obtain rfl : y' = y := Option.some.inj (hy'.symm.trans h3)
        have c2 : ((0 : Int) ≤ i) = True := eq_true (by omega)
        have c3 : ((i : Int) < ((x.2.map clD).length : Nat)) = True := eq_true (by rw [List.length_map]; omega)
        cases hny : y'.2.null
        · rw [hny] at hs
          try simp only [go_sem, reduceIte, Nat.reduceEqDiff, Nat.reduceAdd, Nat.reduceSub, Nat.reduceMul, Nat.reduceLT, Nat.reduceLeDiff, Nat.reducePow, Int.reduceToNat, Int.reduceLT, Int.reduceLE, Int.reduceEq, Int.reduceNe, Int.reduceAdd, Int.reduceSub, Int.reduceMul, Int.reduceNeg, N, q2, q3, q5, q10, q11, q12, el, e2, e3, ex, c1, k', wj, e7, c2, c3, ey, hny]
          exact ⟨⟨j + 1, by omega, by rw [hA, hs]; rfl, rfl, rfl, rfl⟩, by omega⟩
        · rw [hny] at hs
          try simp only [go_sem, reduceIte, Nat.reduceEqDiff, Nat.reduceAdd, Nat.reduceSub, Nat.reduceMul, Nat.reduceLT, Nat.reduceLeDiff, Nat.reducePow, Int.reduceToNat, Int.reduceLT, Int.reduceLE, Int.reduceEq, Int.reduceNe, Int.reduceAdd, Int.reduceSub, Int.reduceMul, Int.reduceNeg, N, q2, q3, q5, q10, q11, q12, el, e2, e3, ex, c1, k', wj, e7, c2, c3, ey, hny]
          exact ⟨⟨j + 1, by omega, by rw [hA, hs]; rfl, rfl, rfl, rfl⟩, by omega⟩
  · try simp only [go_sem, reduceIte, Nat.reduceEqDiff, Nat.reduceAdd, Nat.reduceSub, Nat.reduceMul, Nat.reduceLT, Nat.reduceLeDiff, Nat.reducePow, Int.reduceToNat, Int.reduceLT, Int.reduceLE, Int.reduceEq, Int.reduceNe, Int.reduceAdd, Int.reduceSub, Int.reduceMul, Int.reduceNeg, q2, q3, q5, q10, q11, q12]
    obtain rfl : j = t.l.length := by omega
    rw [List.take_length] at hn
    exact finK_drop ⟨by rw [← hn]; rfl, rfl, rfl⟩
/-- The first guard that is violated (from place i), and the error. -/
def badG (g : Gu) (n : Int) : Bool := decide (n < g.2.2.1 ∨ g.2.2.2 < n)
def checkF (t : Tbl) (gs : List Gu) : Int × Int := if gs.findIdx (fun g => badG g (sumF g t)) < gs.length then ((gs.findIdx fun g => badG g (sumF g t) : Nat), 270) else (gs.length, 0)
theorem Check_ok (g : Pg) (t : Tbl) : VN P G 9 [.agg g.cells, .agg t.cells] (.tup [.int .i64 (checkF t g.2.2.2).1, .int .i64 (checkF t g.2.2.2).2]) := by
  unfold VN
  refine VC.small2 fun hsm => ?_
  have z1 := hsm (.agg g.cells) (by simp) (.sl .none (g.2.2.2.map guD)) (by simp [D.cells, Pg.cells])
  simp only [Small, mostLen, List.length_map] at z1
  clear hsm
  refine VC.ofs (fun | 99999999 => [(0, [0, 1, 2, 3, 4, 5, 6, 7, 8, 10, 11, 12, 13, 29])] | _ => []) [4, 5] mixed Try.func9 rfl rfl rfl rfl (by decide +kernel) (by simp) ?_
  have el : (g.2.2.2.map guD).length = g.2.2.2.length := by simp
  simp only [Tbl.cells, Pg.cells16, Pg.c16]
  simp only [go_sem, reduceIte, Nat.reduceEqDiff, Nat.reduceAdd, Nat.reduceSub, Nat.reduceMul, Nat.reduceLT, Nat.reduceLeDiff, Nat.reducePow, Int.reduceToNat, Int.reduceLT, Int.reduceLE, Int.reduceEq, Int.reduceNe, Int.reduceAdd, Int.reduceSub, Int.reduceMul, Int.reduceNeg]
  refine fun b2 => new_1 fun b3 q1 q2 => ?_
  have N := And.intro q1 q2
  try simp only [go_sem, reduceIte, Nat.reduceEqDiff, Nat.reduceAdd, Nat.reduceSub, Nat.reduceMul, Nat.reduceLT, Nat.reduceLeDiff, Nat.reducePow, Int.reduceToNat, Int.reduceLT, Int.reduceLE, Int.reduceEq, Int.reduceNe, Int.reduceAdd, Int.reduceSub, Int.reduceMul, Int.reduceNeg, q1, q2, el]
  refine vwq_loop (fun v => ∃ (j : Nat), j ≤ g.2.2.2.length ∧ j ≤ g.2.2.2.findIdx (fun x => badG x (sumF x t)) ∧ v.σ 2 = .pb b2 0 ∧ v.σ 3 = .pb b3 0 ∧ v.σ 10 = .sl .none (g.2.2.2.map guD) ∧ v.σ 11 = .int .i64 g.2.2.2.length ∧ v.σ 12 = .int .i64 j ∧ v.β b2 = some g.c16 ∧ v.β b3 = some t.cells ∧ v.ω = []) (fun v => g.2.2.2.length - (ival (v.σ 12)).toNat) ⟨0, by omega, by omega, rfl, rfl, rfl, rfl, rfl, by simp [Heap.set, q1, q2, Pg.c16], by simp [Heap.set, Tbl.cells], rfl⟩ ?_
  clear q1 q2
  rintro σ β ω ⟨j, hj, hf, q2, q3, q10, q11, q12, e2, e3, rfl⟩
  dsimp only [Pg.c16, Tbl.cells] at q2 q3 q10 q11 q12 e2 e3
  try simp only [go_sem, reduceIte, Nat.reduceEqDiff, Nat.reduceAdd, Nat.reduceSub, Nat.reduceMul, Nat.reduceLT, Nat.reduceLeDiff, Nat.reducePow, Int.reduceToNat, Int.reduceLT, Int.reduceLE, Int.reduceEq, Int.reduceNe, Int.reduceAdd, Int.reduceSub, Int.reduceMul, Int.reduceNeg, q2, q3, q10, q11, q12, el, e2, e3]
  refine cd_dec (fun k => ?_) (fun k => ?_)
  · have k' := eq_true k
    obtain ⟨x, hx, ex⟩ := Gu_at (l := g.2.2.2) (j := j) (by omega)
    have hs := psum_ok (G := G) x t
    simp only [guC, Tbl.cells] at hs
    have c1 : ((0 : Int) ≤ j) = True := eq_true (by omega)
    have wj := wrap_i64 (x := (j : Int) + 1) (by omega) (by omega)
    have N := trivial
    try simp only [go_sem, reduceIte, Nat.reduceEqDiff, Nat.reduceAdd, Nat.reduceSub, Nat.reduceMul, Nat.reduceLT, Nat.reduceLeDiff, Nat.reducePow, Int.reduceToNat, Int.reduceLT, Int.reduceLE, Int.reduceEq, Int.reduceNe, Int.reduceAdd, Int.reduceSub, Int.reduceMul, Int.reduceNeg, q2, q3, q10, q11, q12, el, e2, e3, ex, c1, k', wj]
    refine new_any fun b7 hb7 => ?_
    have N := And.intro N (box_ne hb7 e2)
    have N := And.intro N (box_ne hb7 e3)
    generalize hβ_ : Heap.set _ b7 _ = β_
    have e7 := hit_set hβ_
    have e2 := keep_new hβ_ hb7 e2
    have e3 := keep_new hβ_ hb7 e3
    clear hβ_ hb7
    try simp only [go_sem, reduceIte, Nat.reduceEqDiff, Nat.reduceAdd, Nat.reduceSub, Nat.reduceMul, Nat.reduceLT, Nat.reduceLeDiff, Nat.reducePow, Int.reduceToNat, Int.reduceLT, Int.reduceLE, Int.reduceEq, Int.reduceNe, Int.reduceAdd, Int.reduceSub, Int.reduceMul, Int.reduceNeg, N, q2, q3, q10, q11, q12, el, e2, e3, ex, c1, k', wj, e7]
    (first | refine cK_vn (hs) ?_ | refine cE_vn (hs) ?_)
    try simp only [go_sem, reduceIte, Nat.reduceEqDiff, Nat.reduceAdd, Nat.reduceSub, Nat.reduceMul, Nat.reduceLT, Nat.reduceLeDiff, Nat.reducePow, Int.reduceToNat, Int.reduceLT, Int.reduceLE, Int.reduceEq, Int.reduceNe, Int.reduceAdd, Int.reduceSub, Int.reduceMul, Int.reduceNeg, N, q2, q3, q10, q11, q12, el, e2, e3, ex, c1, k', wj, e7]
    refine cd_dec (fun kb => ?_) (fun kb => ?_)
    · have hi := idx_hit (q := fun x => badG x (sumF x t)) hx hf (decide_eq_true kb)
      have hF : checkF t g.2.2.2 = ((j : Int), 270) := by unfold checkF; rw [if_pos (by omega), hi]
      rw [hF]
      try simp only [go_sem, reduceIte, Nat.reduceEqDiff, Nat.reduceAdd, Nat.reduceSub, Nat.reduceMul, Nat.reduceLT, Nat.reduceLeDiff, Nat.reducePow, Int.reduceToNat, Int.reduceLT, Int.reduceLE, Int.reduceEq, Int.reduceNe, Int.reduceAdd, Int.reduceSub, Int.reduceMul, Int.reduceNeg, N, q2, q3, q10, q11, q12, el, e2, e3, ex, c1, k', wj, e7]
      exact finK_drop ⟨rfl, rfl, rfl⟩
    · have hi := idx_miss (q := fun x => badG x (sumF x t)) hx hf (decide_eq_false kb)
      try simp only [go_sem, reduceIte, Nat.reduceEqDiff, Nat.reduceAdd, Nat.reduceSub, Nat.reduceMul, Nat.reduceLT, Nat.reduceLeDiff, Nat.reducePow, Int.reduceToNat, Int.reduceLT, Int.reduceLE, Int.reduceEq, Int.reduceNe, Int.reduceAdd, Int.reduceSub, Int.reduceMul, Int.reduceNeg, N, q2, q3, q10, q11, q12, el, e2, e3, ex, c1, k', wj, e7]
      exact ⟨⟨j + 1, by omega, by omega, rfl, rfl, rfl⟩, by omega⟩
  · have hF : checkF t g.2.2.2 = ((g.2.2.2.length : Int), 0) := by unfold checkF; rw [if_neg (by omega)]
    rw [hF]
    try simp only [go_sem, reduceIte, Nat.reduceEqDiff, Nat.reduceAdd, Nat.reduceSub, Nat.reduceMul, Nat.reduceLT, Nat.reduceLeDiff, Nat.reducePow, Int.reduceToNat, Int.reduceLT, Int.reduceLE, Int.reduceEq, Int.reduceNe, Int.reduceAdd, Int.reduceSub, Int.reduceMul, Int.reduceNeg, q2, q3, q10, q11, q12, e2, el]
    exact finK_drop ⟨rfl, rfl, rfl⟩
/-- Added rows with their numbers. -/
def addL : Int → List Rw → List Ln
  | _, [] => []
  | n, r :: l => (n, r) :: addL (n + 1) l
theorem addL_snoc : ∀ (n : Int) (l : List Rw) (r : Rw), addL n (l ++ [r]) = addL n l ++ [(n + l.length, r)]
  | n, [], r => by simp [addL]
  | n, a :: l, r => by
    have ih := addL_snoc (n + 1) l r
    simp only [List.cons_append, addL, ih, List.length_cons]
    simp only [List.cons.injEq, true_and, List.append_cancel_left_eq, Prod.mk.injEq, and_true]
    omega
theorem addL_len : ∀ (n : Int) (l : List Rw), (addL n l).length = l.length
  | _, [] => rfl
  | n, a :: l => by simp [addL, addL_len]
def Tbl.nul : Tbl := ⟨0, []⟩
def keepL (g : Pg) (t : Tbl) : List Ln := t.l.filter fun l => !matchF g.2.1 l.2
def runF (g : Pg) (t : Tbl) : Tbl × Int :=
  if (checkF t g.2.2.2).2 ≠ 0 then (Tbl.nul, (checkF t g.2.2.2).2)
  else if 4096 < ((keepL g t).length : Int) + g.2.2.1.length ∨ 4611686018427387904 - (g.2.2.1.length : Int) < t.next then (Tbl.nul, 2)
  else (⟨t.next + g.2.2.1.length, keepL g t ++ addL t.next g.2.2.1⟩, 0)
theorem Ln_cells2 (l : List Ln) : ∀ x ∈ l.map lnD, x.cells.length = 2 := fun x hx => by
  obtain ⟨y, _, rfl⟩ := List.mem_map.1 hx; rfl
set_option maxHeartbeats 4000000 in
theorem Run_ok (g : Pg) (t : Tbl) (hn : I64 t.next) (ht : t.l.length ≤ 1048576) : VN P G 8 [.agg g.cells, .agg t.cells] (.tup [.agg (runF g t).1.cells, .int .i64 (runF g t).2]) := by
  have hc := Check_ok (G := G) g t
  obtain ⟨V, hV⟩ : ∃ V, runF g t = V := ⟨_, rfl⟩
  rw [hV]
  unfold runF at hV
  generalize checkF t g.2.2.2 = c at hc hV
  simp only [Tbl.cells, Pg.cells16, Pg.c16] at hc
  unfold VN
  refine VC.small2 fun hsm => ?_
  have z1 := hsm (.agg g.cells) (by simp) (.sl .none (g.2.2.1.map rwD)) (by simp [D.cells, Pg.cells])
  have z2 := hsm (.agg t.cells) (by simp) (.sl .none (t.l.map lnD)) (by simp [D.cells, Tbl.cells])
  simp only [Small, mostLen, List.length_map] at z1 z2
  clear hsm
  refine VC.ofc (fun | 99999999 => [(0, [0, 1, 2, 3, 4, 5, 7, 8, 10, 12, 20, 27, 28, 29, 30, 38, 62, 65, 66, 67, 68])] | _ => []) [.cell 4 48, .tmp 5] mixed Try.func8 rfl rfl rfl rfl (by decide +kernel) (by simp) ?_
  have el : (t.l.map lnD).length = t.l.length := by simp
  have ea : (g.2.2.1.map rwD).length = g.2.2.1.length := by simp
  simp only [Tbl.cells, Pg.cells16, Pg.c16]
  simp only [go_sem, reduceIte, Nat.reduceEqDiff, Nat.reduceAdd, Nat.reduceSub, Nat.reduceMul, Nat.reduceLT, Nat.reduceLeDiff, Nat.reducePow, Int.reduceToNat, Int.reduceLT, Int.reduceLE, Int.reduceEq, Int.reduceNe, Int.reduceAdd, Int.reduceSub, Int.reduceMul, Int.reduceNeg]
  intro b2
  generalize hβ : Heap.set Heap.nil b2 _ = β0
  have e2 := hit_set hβ
  clear hβ
  have N := trivial
  try simp only [go_sem, reduceIte, Nat.reduceEqDiff, Nat.reduceAdd, Nat.reduceSub, Nat.reduceMul, Nat.reduceLT, Nat.reduceLeDiff, Nat.reducePow, Int.reduceToNat, Int.reduceLT, Int.reduceLE, Int.reduceEq, Int.reduceNe, Int.reduceAdd, Int.reduceSub, Int.reduceMul, Int.reduceNeg, e2]
  refine new_any fun b3 hb3 => ?_
  have N := And.intro N (box_ne hb3 e2)
  generalize hβ_ : Heap.set _ b3 _ = β_
  have e3 := hit_set hβ_
  have e2 := keep_new hβ_ hb3 e2
  clear hβ_ hb3
  try simp only [go_sem, reduceIte, Nat.reduceEqDiff, Nat.reduceAdd, Nat.reduceSub, Nat.reduceMul, Nat.reduceLT, Nat.reduceLeDiff, Nat.reducePow, Int.reduceToNat, Int.reduceLT, Int.reduceLE, Int.reduceEq, Int.reduceNe, Int.reduceAdd, Int.reduceSub, Int.reduceMul, Int.reduceNeg, N, e2, e3]
  refine new_any fun b4 hb4 => ?_
  have N := And.intro N (box_ne hb4 e2)
  have N := And.intro N (box_ne hb4 e3)
  generalize hβ_ : Heap.set _ b4 _ = β_
  have e4 := hit_set hβ_
  have e2 := keep_new hβ_ hb4 e2
  have e3 := keep_new hβ_ hb4 e3
  clear hβ_ hb4
  try simp only [go_sem, reduceIte, Nat.reduceEqDiff, Nat.reduceAdd, Nat.reduceSub, Nat.reduceMul, Nat.reduceLT, Nat.reduceLeDiff, Nat.reducePow, Int.reduceToNat, Int.reduceLT, Int.reduceLE, Int.reduceEq, Int.reduceNe, Int.reduceAdd, Int.reduceSub, Int.reduceMul, Int.reduceNeg, N, e2, e3, e4]
  (first | refine cK_vn (hc) ?_ | refine cE_vn (hc) ?_)
  try simp only [go_sem, reduceIte, Nat.reduceEqDiff, Nat.reduceAdd, Nat.reduceSub, Nat.reduceMul, Nat.reduceLT, Nat.reduceLeDiff, Nat.reducePow, Int.reduceToNat, Int.reduceLT, Int.reduceLE, Int.reduceEq, Int.reduceNe, Int.reduceAdd, Int.reduceSub, Int.reduceMul, Int.reduceNeg, N, e2, e3, e4]
  by_cases k : c.2 = 0
  rotate_left
  · rw [if_pos k] at hV
    subst hV
    try simp only [go_sem, reduceIte, Nat.reduceEqDiff, Nat.reduceAdd, Nat.reduceSub, Nat.reduceMul, Nat.reduceLT, Nat.reduceLeDiff, Nat.reducePow, Int.reduceToNat, Int.reduceLT, Int.reduceLE, Int.reduceEq, Int.reduceNe, Int.reduceAdd, Int.reduceSub, Int.reduceMul, Int.reduceNeg, N, e2, e3, e4, ne_eq, k]
    exact finK_drop ⟨rfl, rfl, rfl⟩
  rw [if_neg (fun h => h k)] at hV
  try simp only [go_sem, reduceIte, Nat.reduceEqDiff, Nat.reduceAdd, Nat.reduceSub, Nat.reduceMul, Nat.reduceLT, Nat.reduceLeDiff, Nat.reducePow, Int.reduceToNat, Int.reduceLT, Int.reduceLE, Int.reduceEq, Int.reduceNe, Int.reduceAdd, Int.reduceSub, Int.reduceMul, Int.reduceNeg, N, e2, e3, e4, ne_eq, k]
  refine new_any fun b8 hb8 => ?_
  have N := And.intro N (box_ne hb8 e2)
  have N := And.intro N (box_ne hb8 e3)
  have N := And.intro N (box_ne hb8 e4)
  generalize hβ_ : Heap.set _ b8 _ = β_
  have e8 := hit_set hβ_
  have e2 := keep_new hβ_ hb8 e2
  have e3 := keep_new hβ_ hb8 e3
  have e4 := keep_new hβ_ hb8 e4
  clear hβ_ hb8
  try simp only [go_sem, reduceIte, Nat.reduceEqDiff, Nat.reduceAdd, Nat.reduceSub, Nat.reduceMul, Nat.reduceLT, Nat.reduceLeDiff, Nat.reducePow, Int.reduceToNat, Int.reduceLT, Int.reduceLE, Int.reduceEq, Int.reduceNe, Int.reduceAdd, Int.reduceSub, Int.reduceMul, Int.reduceNeg, N, e2, e3, e4, e8, el]
  refine vwq_loop (fun v => ∃ (j : Nat) (tk : Tk), j ≤ t.l.length ∧ v.σ 2 = .pb b2 0 ∧ v.σ 3 = .pb b3 0 ∧ v.σ 4 = .pb b4 0 ∧ v.σ 8 = .pb b8 0 ∧ v.σ 27 = .sl .none (t.l.map lnD) ∧ v.σ 28 = .int .i64 t.l.length ∧ v.σ 29 = .int .i64 j ∧ v.β b2 = some g.c16 ∧ v.β b3 = some t.cells ∧ v.β b4 = some [.int .i64 0, .sl .full []] ∧ v.β b8 = some [.int .i64 t.next, .sl tk (((t.l.take j).filter fun l => !matchF g.2.1 l.2).map lnD)] ∧ TW 2 tk v.ω) (fun v => t.l.length - (ival (v.σ 29)).toNat) ⟨0, .full, by omega, rfl, rfl, rfl, rfl, rfl, rfl, rfl, e2, e3, e4, e8, TW.full 2⟩ ?_
  clear e2 e3 e4 e8
  rintro σ β ω ⟨j, tk, hj, q2, q3, q4, q8, q27, q28, q29, e2, e3, e4, e8, hw⟩
  dsimp only [Pg.c16, Tbl.cells] at q2 q3 q4 q8 q27 q28 q29 e2 e3 e4 e8 hw
  have hto := hw.ok
  have htg := hw.gone
  obtain ⟨L, hL⟩ : ∃ L, ((t.l.take j).filter fun l => !matchF g.2.1 l.2) = L := ⟨_, rfl⟩
  have hLl : L.length ≤ j := by rw [← hL]; exact Nat.le_trans (List.length_filter_le _ _) (by simp; omega)
  rw [hL] at e8
  try simp only [go_sem, reduceIte, Nat.reduceEqDiff, Nat.reduceAdd, Nat.reduceSub, Nat.reduceMul, Nat.reduceLT, Nat.reduceLeDiff, Nat.reducePow, Int.reduceToNat, Int.reduceLT, Int.reduceLE, Int.reduceEq, Int.reduceNe, Int.reduceAdd, Int.reduceSub, Int.reduceMul, Int.reduceNeg, q2, q3, q4, q8, q27, q28, q29, e2, e3, e4, e8]
  refine cd_dec (fun kj => ?_) (fun kj => ?_)
  · have k' := eq_true kj
    obtain ⟨x, hx, ex⟩ := Ln_at (l := t.l) (j := j) (by omega)
    have hm := pMatch_ok (G := G) x.2 g.2.1
    simp only [Pr.cells] at hm
    have c1 : ((0 : Int) ≤ j) = True := eq_true (by omega)
    have wj := wrap_i64 (x := (j : Int) + 1) (by omega) (by omega)
    have hs : ((t.l.take (j + 1)).filter fun l => !matchF g.2.1 l.2) = L ++ (if matchF g.2.1 x.2 = true then [] else [x]) := by
      obtain ⟨h1, h2⟩ := List.getElem?_eq_some_iff.1 hx
      rw [List.take_succ_eq_append_getElem h1, List.filter_append, hL, h2]
      by_cases h : matchF g.2.1 x.2 = true <;> simp [h]
    try simp only [go_sem, reduceIte, Nat.reduceEqDiff, Nat.reduceAdd, Nat.reduceSub, Nat.reduceMul, Nat.reduceLT, Nat.reduceLeDiff, Nat.reducePow, Int.reduceToNat, Int.reduceLT, Int.reduceLE, Int.reduceEq, Int.reduceNe, Int.reduceAdd, Int.reduceSub, Int.reduceMul, Int.reduceNeg, q2, q3, q4, q8, q27, q28, q29, e2, e3, e4, e8, el, ex, c1, k', wj]
    refine new_any fun b10 hb10 => ?_
    have N := And.intro N (box_ne hb10 e2)
    have N := And.intro N (box_ne hb10 e3)
    have N := And.intro N (box_ne hb10 e4)
    have N := And.intro N (box_ne hb10 e8)
    generalize hβ_ : Heap.set _ b10 _ = β_
    have e10 := hit_set hβ_
    have e2 := keep_new hβ_ hb10 e2
    have e3 := keep_new hβ_ hb10 e3
    have e4 := keep_new hβ_ hb10 e4
    have e8 := keep_new hβ_ hb10 e8
    clear hβ_ hb10
    try simp only [go_sem, reduceIte, Nat.reduceEqDiff, Nat.reduceAdd, Nat.reduceSub, Nat.reduceMul, Nat.reduceLT, Nat.reduceLeDiff, Nat.reducePow, Int.reduceToNat, Int.reduceLT, Int.reduceLE, Int.reduceEq, Int.reduceNe, Int.reduceAdd, Int.reduceSub, Int.reduceMul, Int.reduceNeg, N, q2, q3, q4, q8, q27, q28, q29, e2, e3, e4, e8, e10, el, ex, c1, k', wj]
    (first | refine cK_vn (hm) ?_ | refine cE_vn (hm) ?_)
    cases hmx : matchF g.2.1 x.2
    · rw [hmx] at hs
      try simp only [go_sem, reduceIte, Nat.reduceEqDiff, Nat.reduceAdd, Nat.reduceSub, Nat.reduceMul, Nat.reduceLT, Nat.reduceLeDiff, Nat.reducePow, Int.reduceToNat, Int.reduceLT, Int.reduceLE, Int.reduceEq, Int.reduceNe, Int.reduceAdd, Int.reduceSub, Int.reduceMul, Int.reduceNeg, N, q2, q3, q4, q8, q27, q28, q29, e2, e3, e4, e8, e10, el, ex, c1, k', wj, hto, htg]
      refine ⟨Ln_cells2 L, by rw [List.length_map]; omega, fun t' _ => ⟨⟨j + 1, .live t' 2, by omega, rfl, ?_⟩, by omega⟩⟩
      rw [hs]
      exact ⟨rfl, rfl, by simp [lnD], TW.live 2 t'⟩
    · rw [hmx] at hs
      try simp only [go_sem, reduceIte, Nat.reduceEqDiff, Nat.reduceAdd, Nat.reduceSub, Nat.reduceMul, Nat.reduceLT, Nat.reduceLeDiff, Nat.reducePow, Int.reduceToNat, Int.reduceLT, Int.reduceLE, Int.reduceEq, Int.reduceNe, Int.reduceAdd, Int.reduceSub, Int.reduceMul, Int.reduceNeg, N, q2, q3, q4, q8, q27, q28, q29, e2, e3, e4, e8, e10, el, ex, c1, k', wj, hto, htg]
      refine ⟨⟨j + 1, tk, by omega, rfl, rfl, rfl, ?_, hw⟩, by omega⟩
      rw [hs]; simp
  · obtain rfl : j = t.l.length := by omega
    rw [List.take_length] at hL
    have hK : keepL g t = L := hL
    rw [hK] at hV
    clear hL hK
    try simp only [go_sem, reduceIte, Nat.reduceEqDiff, Nat.reduceAdd, Nat.reduceSub, Nat.reduceMul, Nat.reduceLT, Nat.reduceLeDiff, Nat.reducePow, Int.reduceToNat, Int.reduceLT, Int.reduceLE, Int.reduceEq, Int.reduceNe, Int.reduceAdd, Int.reduceSub, Int.reduceMul, Int.reduceNeg, q2, q3, q4, q8, q27, q28, q29, e2, e3, e4, e8, ea]
    have eL : (L.map lnD).length = L.length := by simp
    have w1 := wrap_i64 (x := ((L.length : Nat) : Int) + g.2.2.1.length) (by omega) (by omega)
    have w2 := wrap_i64 (x := 4611686018427387904 - ((g.2.2.1.length : Nat) : Int)) (by omega) (by omega)
    rw [eL, w1, w2]
    refine cd_dec (fun kk => ?_) (fun kk => ?_)
    · rw [if_pos kk] at hV
      subst hV
      try simp only [go_sem, reduceIte, Nat.reduceEqDiff, Nat.reduceAdd, Nat.reduceSub, Nat.reduceMul, Nat.reduceLT, Nat.reduceLeDiff, Nat.reducePow, Int.reduceToNat, Int.reduceLT, Int.reduceLE, Int.reduceEq, Int.reduceNe, Int.reduceAdd, Int.reduceSub, Int.reduceMul, Int.reduceNeg, N, q2, q3, q4, q8, q27, q28, q29, e2, e3, e4, e8, ea]
      exact finK_drop ⟨rfl, rfl, rfl⟩
    rw [if_neg kk] at hV
    subst hV
    try simp only [go_sem, reduceIte, Nat.reduceEqDiff, Nat.reduceAdd, Nat.reduceSub, Nat.reduceMul, Nat.reduceLT, Nat.reduceLeDiff, Nat.reducePow, Int.reduceToNat, Int.reduceLT, Int.reduceLE, Int.reduceEq, Int.reduceNe, Int.reduceAdd, Int.reduceSub, Int.reduceMul, Int.reduceNeg, N, q2, q3, q4, q8, q27, q28, q29, e2, e3, e4, e8, ea]
    clear q27 q28 q29 hj kj
    refine vwq_loop (fun v => ∃ (j : Nat) (tk : Tk), j ≤ g.2.2.1.length ∧ v.σ 4 = .pb b4 0 ∧ v.σ 8 = .pb b8 0 ∧ v.σ 65 = .sl .none (g.2.2.1.map rwD) ∧ v.σ 66 = .int .i64 g.2.2.1.length ∧ v.σ 67 = .int .i64 j ∧ v.β b4 = some [.int .i64 0, .sl .full []] ∧ v.β b8 = some [.int .i64 (t.next + j), .sl tk ((L ++ addL t.next (g.2.2.1.take j)).map lnD)] ∧ TW 2 tk v.ω) (fun v => g.2.2.1.length - (ival (v.σ 67)).toNat) ⟨0, tk, by omega, rfl, rfl, rfl, rfl, rfl, e4, by simpa [addL] using e8, hw⟩ ?_
    clear e2 e3 e4 e8 q2 q3 q4 q8 hw hto htg
    rintro σ β ω ⟨j, tk, hj, q4, q8, q65, q66, q67, e4, e8, hw⟩
    dsimp only at q4 q8 q65 q66 q67 e4 e8 hw
    have hto := hw.ok
    have htg := hw.gone
    try simp only [go_sem, reduceIte, Nat.reduceEqDiff, Nat.reduceAdd, Nat.reduceSub, Nat.reduceMul, Nat.reduceLT, Nat.reduceLeDiff, Nat.reducePow, Int.reduceToNat, Int.reduceLT, Int.reduceLE, Int.reduceEq, Int.reduceNe, Int.reduceAdd, Int.reduceSub, Int.reduceMul, Int.reduceNeg, q4, q8, q65, q66, q67, e4, e8]
    refine cd_dec (fun kj => ?_) (fun kj => ?_)
    · have k' := eq_true kj
      obtain ⟨x, hx, ex⟩ := Rw_at (l := g.2.2.1) (j := j) (by omega)
      have c1 : ((0 : Int) ≤ j) = True := eq_true (by omega)
      have wj := wrap_i64 (x := (j : Int) + 1) (by omega) (by omega)
      have wn := wrap_i64 (x := t.next + (j : Int) + 1) (by omega) (by omega)
      have hs : addL t.next (g.2.2.1.take (j + 1)) = addL t.next (g.2.2.1.take j) ++ [(t.next + j, x)] := by
        obtain ⟨h1, h2⟩ := List.getElem?_eq_some_iff.1 hx
        rw [List.take_succ_eq_append_getElem h1, addL_snoc, h2, List.length_take, Nat.min_eq_left (by omega)]
      try simp only [go_sem, reduceIte, Nat.reduceEqDiff, Nat.reduceAdd, Nat.reduceSub, Nat.reduceMul, Nat.reduceLT, Nat.reduceLeDiff, Nat.reducePow, Int.reduceToNat, Int.reduceLT, Int.reduceLE, Int.reduceEq, Int.reduceNe, Int.reduceAdd, Int.reduceSub, Int.reduceMul, Int.reduceNeg, q4, q8, q65, q66, q67, e4, e8, ea, ex, c1, k', wj]
      refine new_any fun b12 hb12 => ?_
      have N := And.intro N (box_ne hb12 e4)
      have N := And.intro N (box_ne hb12 e8)
      generalize hβ_ : Heap.set _ b12 _ = β_
      have e12 := hit_set hβ_
      have e4 := keep_new hβ_ hb12 e4
      have e8 := keep_new hβ_ hb12 e8
      clear hβ_ hb12
      try simp only [go_sem, reduceIte, Nat.reduceEqDiff, Nat.reduceAdd, Nat.reduceSub, Nat.reduceMul, Nat.reduceLT, Nat.reduceLeDiff, Nat.reducePow, Int.reduceToNat, Int.reduceLT, Int.reduceLE, Int.reduceEq, Int.reduceNe, Int.reduceAdd, Int.reduceSub, Int.reduceMul, Int.reduceNeg, N, q4, q8, q65, q66, q67, e4, e8, e12, ea, ex, c1, k', wj, hto, htg, wn]
      have hl1 : (addL t.next (g.2.2.1.take j)).length ≤ j := by rw [addL_len, List.length_take]; omega
      refine ⟨Ln_cells2 _, by rw [List.length_map, List.length_append]; omega, fun t' _ => ⟨⟨j + 1, .live t' 2, by omega, rfl, ?_⟩, by omega⟩⟩
      rw [hs]
      refine ⟨?_, TW.live 2 t'⟩
      simp [lnD, Int.add_assoc]
    · try simp only [go_sem, reduceIte, Nat.reduceEqDiff, Nat.reduceAdd, Nat.reduceSub, Nat.reduceMul, Nat.reduceLT, Nat.reduceLeDiff, Nat.reducePow, Int.reduceToNat, Int.reduceLT, Int.reduceLE, Int.reduceEq, Int.reduceNe, Int.reduceAdd, Int.reduceSub, Int.reduceMul, Int.reduceNeg, q4, q8, q65, q66, q67, e4, e8]
      obtain rfl : j = g.2.2.1.length := by omega
      rw [List.take_length]
      exact finK_drop ⟨rfl, rfl, rfl⟩
end Go.Proofs.YtpblgfgcoamgmaaS
