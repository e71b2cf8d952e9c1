import Derived.Test.YtnoenipdooackaaDoorG2
set_option linter.unusedVariables false
set_option linter.unusedSimpArgs false
namespace Go.Proofs.YtnoenipdooackaaDoorS
open Go Go.Proofs.YtnoenipdooackaaDoorV

variable {G : Heap}
attribute [local irreducible] VN VC VX VQ VT0

/-- Counts that stay small. -/
def Bnd (m : Int) (u : Sm) : Prop := 0 ≤ u.rows ∧ u.rows ≤ m ∧ u.l.length ≤ 64 ∧ ∀ x ∈ u.l, 0 ≤ x.nulls ∧ x.nulls ≤ m
theorem Bnd.wide {m n : Int} {u : Sm} (h : Bnd m u) (hmn : m ≤ n) : Bnd n u := ⟨h.1, by have := h.2.1; omega, h.2.2.1, fun x hx => by have := h.2.2.2 x hx; omega⟩
theorem Bnd.mrg {m n : Int} {a b : Sm} (ha : Bnd m a) (hb : Bnd n b) : Bnd (m + n) (mrgF a b) := by
  have m0 : 0 ≤ m := by have := ha.1; have := ha.2.1; omega
  have n0 : 0 ≤ n := by have := hb.1; have := hb.2.1; omega
  unfold mrgF
  by_cases g1 : a.rows = 0
  · rw [if_pos g1]; exact hb.wide (by omega)
  by_cases g2 : b.rows = 0
  · rw [if_neg g1, if_pos g2]; exact ha.wide (by omega)
  rw [if_neg g1, if_neg g2]
  obtain ⟨a1, a2, a3, a4⟩ := ha
  obtain ⟨b1, b2, b3, b4⟩ := hb
  refine ⟨by simp only; omega, by simp only; omega, Nat.le_trans (filterMap_len _ _) a3, fun x hx => ?_⟩
  simp only [List.mem_filterMap, mrgB, Option.map_eq_some_iff] at hx
  obtain ⟨y, hy, z, hz, rfl⟩ := hx
  have h1 := a4 y hy
  have h2 := b4 z (findB_some hz).1
  simp only
  omega
theorem Bnd.form {u : Sm} (hi : ∀ x ∈ u.l, x.I) : Bnd 2147483647 (formF u) := by
  have h := (formF_ok hi).1
  simp only [formedF, Bool.and_eq_true, decide_eq_true_eq] at h
  obtain ⟨⟨⟨f1, f2⟩, f3⟩, f4⟩ := h
  refine ⟨f1, f2, f3, fun x hx => ?_⟩
  have := okL_mem _ _ _ f4 x hx
  simp only [bdOk, Bool.and_eq_true, decide_eq_true_eq] at this
  omega
theorem Merge_bnd {m n : Int} {a b : Sm} (ha : Bnd m a) (hb : Bnd n b) (h : m + n ≤ 9223372036854775807) : VN P G 26 [.agg a.cells, .agg b.cells] (.agg (mrgF a b).cells) := by
  obtain ⟨a1, a2, a3, a4⟩ := ha
  obtain ⟨b1, b2, b3, b4⟩ := hb
  exact Merge_ok a b ⟨by omega, by omega⟩ (fun x hx y hy => by have := a4 x hx; have := b4 y hy; exact ⟨by omega, by omega⟩) (by omega) (by omega)
set_option maxHeartbeats 4000000 in
theorem grows_ok (hG : G 0 = some nullC) (a b c : Sm) (p : Pr) (ia : ∀ x ∈ a.l, x.I) (ib : ∀ x ∈ b.l, x.I) (ic : ∀ x ∈ c.l, x.I) (hL : p.Lim) : VN P G 8 [.agg (a.cells ++ (b.cells ++ c.cells)), .agg p.cells] (.bool true) := by
  have s0 := sanity_ok (G := G) hG
  have la := Light_ok (G := G) a
  have lb := Light_ok (G := G) b
  have lc := Light_ok (G := G) c
  have l3 := Small_ok (G := G) p 300
  have fa := Form_ok (G := G) a
  have fb := Form_ok (G := G) b
  have fc := Form_ok (G := G) c
  have oa := (formF_ok ia).1
  have ob := (formF_ok ib).1
  have na := Bnd.form ia
  have nb := Bnd.form ib
  have nc := Bnd.form ic
  generalize formF a = A at fa oa na
  generalize formF b = B at fb ob nb
  generalize formF c = C at fc nc
  have nx := na.mrg nb
  have ny := nb.mrg nc
  have x1 := Merge_bnd (G := G) na nb (by omega)
  have x2 := Merge_bnd (G := G) nx nc (by omega)
  have x3 := Merge_bnd (G := G) nb nc (by omega)
  have x4 := Merge_bnd (G := G) na ny (by omega)
  rw [← mrgF_assoc na.1 nb.1 nc.1] at x4
  have sa : VN P G 23 [.agg (mrgF (mrgF A B) C).cells, .agg (mrgF (mrgF A B) C).cells] (.bool true) := by
    have h := refSame_ok (G := G) (mrgF (mrgF A B) C) (mrgF (mrgF A B) C)
    rw [show smSame (mrgF (mrgF A B) C) (mrgF (mrgF A B) C) = true from by simp [smSame]] at h
    exact h
  have gm := grows_may oa ob p
  have gu := grows_must oa ob p
  generalize mrgF (mrgF A B) C = W at x2 x4 sa
  generalize mrgF B C = Y at x3 x4
  generalize mrgF A B = X at x1 x2 gm gu
  have ma := May_ok (G := G) A p hL
  have mb := May_ok (G := G) B p hL
  have mx := May_ok (G := G) X p hL
  have ua := Must_ok (G := G) A p hL
  have ub := Must_ok (G := G) B p hL
  have ux := Must_ok (G := G) X p hL
  have hmay : (mayT A p = true ∧ mayT X p = true) ∨ (mayT A p = false ∧ mayT B p = true ∧ mayT X p = true) ∨ (mayT A p = false ∧ mayT B p = false) := by
    cases h1 : mayT A p <;> cases h2 : mayT B p <;> simp_all
  have hmust : mustT X p = false ∨ (mustT X p = true ∧ mustT A p = true ∧ mustT B p = true) := by
    cases h1 : mustT X p <;> simp_all
  simp only [Sm.d, Sm.cells, Pr.cells] at la lb lc l3 fa fb fc x1 x2 x3 x4 sa ma mb mx ua ub ux ⊢
  unfold VN
  refine VC.ofs (fun | 4 => [(0, []), (1, []), (3, []), (4, [2]), (6, []), (7, [2, 5]), (2, [9, 10, 11]), (5, [9, 10, 11]), (8, [9, 10, 11]), (9, []), (10, []), (11, []), (12, []), (13, []), (14, [])] | 8 => [(0, []), (1, []), (2, []), (3, []), (4, []), (5, []), (6, []), (8, [7, 11]), (9, [7]), (10, [7]), (7, []), (11, []), (12, []), (13, []), (14, []), (15, []), (16, []), (17, []), (18, [])] | 99999999 => [(0, [0, 1, 2, 3, 4, 5, 6, 7, 8, 9, 10, 11, 33])] | _ => []) [4] mixed Tryd.func8 rfl rfl rfl rfl (by decide +kernel) (by simp) ?_
  simp only [go_sem, reduceIte, Nat.reduceEqDiff, Nat.reduceAdd, Nat.reduceSub, Nat.reduceMul, Nat.reduceLT, Nat.reduceLeDiff, Nat.reducePow, Int.reduceToNat, Int.reduceLT, Int.reduceLE, Int.reduceEq, Int.reduceNe, Int.reduceAdd, Int.reduceSub, Int.reduceMul, Int.reduceNeg]
  intro b0
  refine new_1 fun b1 h1 h2 => ?_
  try simp only [go_sem, reduceIte, Nat.reduceEqDiff, Nat.reduceAdd, Nat.reduceSub, Nat.reduceMul, Nat.reduceLT, Nat.reduceLeDiff, Nat.reducePow, Int.reduceToNat, Int.reduceLT, Int.reduceLE, Int.reduceEq, Int.reduceNe, Int.reduceAdd, Int.reduceSub, Int.reduceMul, Int.reduceNeg, h1, h2]
  refine cK_vn s0 ?_
  repeat' (first | simp only [go_sem, reduceIte, Nat.reduceEqDiff, Nat.reduceAdd, Nat.reduceSub, Nat.reduceMul, Nat.reduceLT, Nat.reduceLeDiff, Nat.reducePow, Int.reduceToNat, Int.reduceLT, Int.reduceLE, Int.reduceEq, Int.reduceNe, Int.reduceAdd, Int.reduceSub, Int.reduceMul, Int.reduceNeg, h1, h2] | (refine cK_vx la ?_; rintro _ ⟨lt, rfl⟩; cases lt) | (refine cK_vx lb ?_; rintro _ ⟨lt, rfl⟩; cases lt) | (refine cK_vx lc ?_; rintro _ ⟨lt, rfl⟩; cases lt) | (refine cK_vx l3 ?_; rintro _ ⟨lt, rfl⟩; cases lt) | refine cK_vn fa ?_ | refine cK_vn fb ?_ | refine cK_vn fc ?_ | refine cE_vn fa ?_ | refine cE_vn fb ?_ | refine cE_vn fc ?_ | fail)
  all_goals first | exact finK_drop ⟨rfl, rfl, rfl⟩ | skip
  refine new_2 fun b2 h3 h4 h5 => ?_
  refine new_any fun b3 h6 => ?_
  simp only [set_none] at h6
  refine new_any fun b4 h7 => ?_
  simp only [set_none] at h7
  try simp only [go_sem, reduceIte, Nat.reduceEqDiff, Nat.reduceAdd, Nat.reduceSub, Nat.reduceMul, Nat.reduceLT, Nat.reduceLeDiff, Nat.reducePow, Int.reduceToNat, Int.reduceLT, Int.reduceLE, Int.reduceEq, Int.reduceNe, Int.reduceAdd, Int.reduceSub, Int.reduceMul, Int.reduceNeg, h1, h2, h3, h4, h5, h6, h7]
  generalize hβ : Heap.set _ b4 _ = β0
  have e0 : β0 b0 = some [.int .i64 a.rows, .sl .none (a.l.map Bd.d), .int .i64 b.rows, .sl .none (b.l.map Bd.d), .int .i64 c.rows, .sl .none (c.l.map Bd.d)] := by rw [← hβ]; simp [Heap.set, h1, h2, h3, h4, h5, h6, h7]
  have e1 : β0 b1 = some p.cells := by rw [← hβ]; simp [Heap.set, h1, h2, h3, h4, h5, h6, h7, Pr.cells]
  have e2 : β0 b2 = some [.int .i64 A.rows, .sl .none (A.l.map Bd.d)] := by rw [← hβ]; simp [Heap.set, h1, h2, h3, h4, h5, h6, h7]
  have e3 : β0 b3 = some [.int .i64 B.rows, .sl .none (B.l.map Bd.d)] := by rw [← hβ]; simp [Heap.set, h1, h2, h3, h4, h5, h6, h7]
  have e4 : β0 b4 = some [.int .i64 C.rows, .sl .none (C.l.map Bd.d)] := by rw [← hβ]; simp [Heap.set]
  simp only [Pr.cells] at e1
  refine ⟨by simp [rdAdd, h1, h2, h3, h4, h5, h6, h7], by simp [rdAdd, h1, h2, h3, h4, h5, h6, h7], by simp [rdAdd, h1, h2, h3, h4, h5, h6, h7], ?_⟩
  clear hβ h1 h2 h3 h4 h5 h6 h7
  refine cK_vn x1 ?_
  try simp only [go_sem, reduceIte, Nat.reduceEqDiff, Nat.reduceAdd, Nat.reduceSub, Nat.reduceMul, Nat.reduceLT, Nat.reduceLeDiff, Nat.reducePow, Int.reduceToNat, Int.reduceLT, Int.reduceLE, Int.reduceEq, Int.reduceNe, Int.reduceAdd, Int.reduceSub, Int.reduceMul, Int.reduceNeg, e0, e1, e2, e3, e4]
  refine new_any fun b5 hb => ?_
  have m0 := box_ne hb e0
  have m1 := box_ne hb e1
  have m2 := box_ne hb e2
  have m3 := box_ne hb e3
  have m4 := box_ne hb e4
  clear hb
  try simp only [go_sem, reduceIte, Nat.reduceEqDiff, Nat.reduceAdd, Nat.reduceSub, Nat.reduceMul, Nat.reduceLT, Nat.reduceLeDiff, Nat.reducePow, Int.reduceToNat, Int.reduceLT, Int.reduceLE, Int.reduceEq, Int.reduceNe, Int.reduceAdd, Int.reduceSub, Int.reduceMul, Int.reduceNeg, e0, e1, e2, e3, e4, m0, m1, m2, m3, m4]
  rcases hmay with ⟨y1, y2⟩ | ⟨y1, y2, y3⟩ | ⟨y1, y2⟩
  case' inl => rw [y1] at ma; rw [y2] at mx
  case' inr.inl => rw [y1] at ma; rw [y2] at mb; rw [y3] at mx
  case' inr.inr => rw [y1] at ma; rw [y2] at mb
  all_goals rcases hmust with z1 | ⟨z1, z2, z3⟩
  all_goals rw [z1] at ux
  all_goals try rw [z2] at ua
  all_goals try rw [z3] at ub
  all_goals repeat' (first | simp only [go_sem, reduceIte, Nat.reduceEqDiff, Nat.reduceAdd, Nat.reduceSub, Nat.reduceMul, Nat.reduceLT, Nat.reduceLeDiff, Nat.reducePow, Int.reduceToNat, Int.reduceLT, Int.reduceLE, Int.reduceEq, Int.reduceNe, Int.reduceAdd, Int.reduceSub, Int.reduceMul, Int.reduceNeg, e0, e1, e2, e3, e4, m0, m1, m2, m3, m4] | refine cK_vn ma ?_ | refine cK_vn mb ?_ | refine cK_vn mx ?_ | refine cK_vn ua ?_ | refine cK_vn ub ?_ | refine cK_vn ux ?_ | refine cK_vn x2 ?_ | refine cK_vn x3 ?_ | refine cK_vn x4 ?_ | refine cK_vn sa ?_ | refine cE_vn ma ?_ | refine cE_vn mb ?_ | refine cE_vn mx ?_ | refine cE_vn ua ?_ | refine cE_vn ub ?_ | refine cE_vn ux ?_ | refine cE_vn x2 ?_ | refine cE_vn x3 ?_ | refine cE_vn x4 ?_ | refine cE_vn sa ?_ | fail)
  all_goals exact finK_drop ⟨rfl, rfl, rfl⟩
end Go.Proofs.YtnoenipdooackaaDoorS
