/-
  Predicates: fenlandref08's reader (Byte, S, Count, Text).
-/
import Derived.Test.YtpblgfgcoamgmaaQ7
import Derived.Test.YtpblgfgcoamgmaaQ6
import Derived.Test.YtpblgfgcoamgmaaQ5
set_option linter.unusedVariables false
set_option linter.unusedSimpArgs false
namespace Go.Proofs.YtpblgfgcoamgmaaS
open Go Go.Proofs.YtpblgfgcoamgmaaV

variable {G : Heap}
attribute [local irreducible] VN VC VX VQ VY VW VTA VT0

/-- A reader: bytes, offset, error. -/
def rdC (b : List Nat) (s : Sc) : List D := [.sl .none (bs b), .int .i64 s.1, .int .i64 s.2]
theorem rdS_ok (b : List Nat) (s : Sc) (hb : Byt b) : VN P G 81 [.agg (rdC b s)] (.tup [.int .i64 (nxS b s).1, .agg (rdC b (nxS b s).2)]) := by
  obtain ⟨a, e⟩ := s
  have hr := refReadS_ok (G := G) .none b a hb
  simp only [rdC, triS] at hr ⊢
  unfold VN
  refine VC.ofc (fun | 2 => [(0, []), (1, []), (2, [])] | 4 => [(0, []), (1, []), (2, []), (3, []), (4, []), (5, []), (6, []), (7, [])] | 99999999 => [(0, [0, 1, 2, 3, 4, 5, 6, 9])] | _ => []) [.tmp 2, .cell 3 119] mixed Try.func81 rfl rfl rfl rfl (by decide +kernel) (by simp) ?_
  simp only [go_sem, reduceIte, Nat.reduceEqDiff, Nat.reduceAdd, Nat.reduceSub, Nat.reduceMul, Nat.reduceLT, Nat.reduceLeDiff, Nat.reducePow, Int.reduceToNat, Int.reduceLT, Int.reduceLE, Int.reduceEq, Int.reduceNe, Int.reduceAdd, Int.reduceSub, Int.reduceMul, Int.reduceNeg]
  intro b1
  refine new_1 fun b3 h1 h2 => ?_
  by_cases he : e = 0
  · subst he
    try simp only [go_sem, reduceIte, Nat.reduceEqDiff, Nat.reduceAdd, Nat.reduceSub, Nat.reduceMul, Nat.reduceLT, Nat.reduceLeDiff, Nat.reducePow, Int.reduceToNat, Int.reduceLT, Int.reduceLE, Int.reduceEq, Int.reduceNe, Int.reduceAdd, Int.reduceSub, Int.reduceMul, Int.reduceNeg, h1, h2]
    refine cK_vn hr ?_
    try simp only [go_sem, reduceIte, Nat.reduceEqDiff, Nat.reduceAdd, Nat.reduceSub, Nat.reduceMul, Nat.reduceLT, Nat.reduceLeDiff, Nat.reducePow, Int.reduceToNat, Int.reduceLT, Int.reduceLE, Int.reduceEq, Int.reduceNe, Int.reduceAdd, Int.reduceSub, Int.reduceMul, Int.reduceNeg, h1, h2]
    exact finK_drop ⟨rfl, rfl, rfl⟩
  · have he' := eq_true he
    try simp only [go_sem, reduceIte, Nat.reduceEqDiff, Nat.reduceAdd, Nat.reduceSub, Nat.reduceMul, Nat.reduceLT, Nat.reduceLeDiff, Nat.reducePow, Int.reduceToNat, Int.reduceLT, Int.reduceLE, Int.reduceEq, Int.reduceNe, Int.reduceAdd, Int.reduceSub, Int.reduceMul, Int.reduceNeg, h1, h2, he', decide_true]
    exact finK_drop ⟨by rw [nxS, if_neg he]; rfl, rfl, rfl⟩
theorem rdText_ok (b : List Nat) (s : Sc) (hb : Byt b) (hl : b.length ≤ 1099511627776) : VN P G 83 [.agg (rdC b s)] (.tup [.str (txtF b s).1, .agg (rdC b (txtF b s).2)]) := by
  obtain ⟨a, e⟩ := s
  have hr := refReadText_ok (G := G) .none b a hb (by omega)
  simp only [rdC, triT] at hr ⊢
  unfold VN
  refine VC.ofc (fun | 2 => [(0, []), (1, []), (2, [])] | 6 => [(0, []), (1, []), (2, []), (3, []), (4, []), (5, []), (6, []), (7, [])] | 99999999 => [(0, [0, 1, 2, 3, 4, 5, 6, 9, 26])] | _ => []) [.tmp 2, .cell 3 119] mixed Try.func83 rfl rfl rfl rfl (by decide +kernel) (by simp) ?_
  simp only [go_sem, reduceIte, Nat.reduceEqDiff, Nat.reduceAdd, Nat.reduceSub, Nat.reduceMul, Nat.reduceLT, Nat.reduceLeDiff, Nat.reducePow, Int.reduceToNat, Int.reduceLT, Int.reduceLE, Int.reduceEq, Int.reduceNe, Int.reduceAdd, Int.reduceSub, Int.reduceMul, Int.reduceNeg]
  intro b1
  refine new_1 fun b3 h1 h2 => ?_
  by_cases he : e = 0
  · subst he
    try simp only [go_sem, reduceIte, Nat.reduceEqDiff, Nat.reduceAdd, Nat.reduceSub, Nat.reduceMul, Nat.reduceLT, Nat.reduceLeDiff, Nat.reducePow, Int.reduceToNat, Int.reduceLT, Int.reduceLE, Int.reduceEq, Int.reduceNe, Int.reduceAdd, Int.reduceSub, Int.reduceMul, Int.reduceNeg, h1, h2]
    refine cK_vn hr ?_
    have hx : nxT b (a, 0) = (strN ((b.drop (spanF b a).1).take ((spanF b a).2.1 - (spanF b a).1)), ((((spanF b a).2.1 : Nat) : Int), (((spanF b a).2.2 : Nat) : Int))) := by rw [nxT, if_pos rfl]
    have ht : txtF b (a, 0) = ((nxT b (a, 0)).1, failS (nxT b (a, 0)).2 2 (decide (200 < ((nxT b (a, 0)).1.size : Int)))) := rfl
    rw [hx] at ht
    rw [ht]
    dsimp only
    clear hx ht hr
    obtain ⟨⟨x1, x2, x3⟩, hX⟩ : ∃ X, spanF b a = X := ⟨_, rfl⟩
    rw [hX]
    dsimp only
    generalize strN ((b.drop x1).take (x2 - x1)) = s
    try simp only [go_sem, reduceIte, Nat.reduceEqDiff, Nat.reduceAdd, Nat.reduceSub, Nat.reduceMul, Nat.reduceLT, Nat.reduceLeDiff, Nat.reducePow, Int.reduceToNat, Int.reduceLT, Int.reduceLE, Int.reduceEq, Int.reduceNe, Int.reduceAdd, Int.reduceSub, Int.reduceMul, Int.reduceNeg, h1, h2]
    by_cases e3 : (x3 : Int) = 0
    · by_cases e2 : (200 : Int) < (s.size : Nat)
      · have c := eq_true e2
        have c3 : ((x3 : Int) = 0) = True := eq_true e3
        try simp only [go_sem, reduceIte, Nat.reduceEqDiff, Nat.reduceAdd, Nat.reduceSub, Nat.reduceMul, Nat.reduceLT, Nat.reduceLeDiff, Nat.reducePow, Int.reduceToNat, Int.reduceLT, Int.reduceLE, Int.reduceEq, Int.reduceNe, Int.reduceAdd, Int.reduceSub, Int.reduceMul, Int.reduceNeg, h1, h2, c, c3, decide_true]
        exact finK_drop ⟨by simp [failS, e3, e2, D.er, D.er1], rfl, rfl⟩
      · have c := eq_false e2
        have c3 : ((x3 : Int) = 0) = True := eq_true e3
        try simp only [go_sem, reduceIte, Nat.reduceEqDiff, Nat.reduceAdd, Nat.reduceSub, Nat.reduceMul, Nat.reduceLT, Nat.reduceLeDiff, Nat.reducePow, Int.reduceToNat, Int.reduceLT, Int.reduceLE, Int.reduceEq, Int.reduceNe, Int.reduceAdd, Int.reduceSub, Int.reduceMul, Int.reduceNeg, h1, h2, c, c3, decide_false]
        exact finK_drop ⟨by simp [failS, e3, e2, D.er, D.er1], rfl, rfl⟩
    · have c3 : ((x3 : Int) = 0) = False := eq_false e3
      try simp only [go_sem, reduceIte, Nat.reduceEqDiff, Nat.reduceAdd, Nat.reduceSub, Nat.reduceMul, Nat.reduceLT, Nat.reduceLeDiff, Nat.reducePow, Int.reduceToNat, Int.reduceLT, Int.reduceLE, Int.reduceEq, Int.reduceNe, Int.reduceAdd, Int.reduceSub, Int.reduceMul, Int.reduceNeg, h1, h2, c3, decide_false]
      have e3' : ¬ x3 = 0 := by omega
      exact finK_drop ⟨by simp [failS, e3', D.er, D.er1], rfl, rfl⟩
  · have he' := eq_true he
    try simp only [go_sem, reduceIte, Nat.reduceEqDiff, Nat.reduceAdd, Nat.reduceSub, Nat.reduceMul, Nat.reduceLT, Nat.reduceLeDiff, Nat.reducePow, Int.reduceToNat, Int.reduceLT, Int.reduceLE, Int.reduceEq, Int.reduceNe, Int.reduceAdd, Int.reduceSub, Int.reduceMul, Int.reduceNeg, h1, h2, he', decide_true]
    exact finK_drop ⟨by simp [txtF, nxT, failS, he, D.er, D.er1, bemp], rfl, rfl⟩
theorem rdCount_ok (b : List Nat) (s : Sc) (hb : Byt b) : VN P G 84 [.agg (rdC b s), .int .i64 16] (.tup [.int .i64 (cntF b s).1, .agg (rdC b (cntF b s).2)]) := by
  obtain ⟨a, e⟩ := s
  have hr := refReadU_ok (G := G) .none b a hb
  simp only [rdC, tri] at hr ⊢
  have e16 : (16 : Int) % 18446744073709551616 = 16 := by decide
  unfold VN
  refine VC.ofc (fun | 2 => [(0, []), (1, []), (2, [])] | 7 => [(0, []), (1, []), (2, []), (3, []), (4, []), (5, []), (6, [])] | 8 => [(0, []), (1, []), (2, []), (3, []), (4, []), (5, []), (6, []), (7, []), (8, [])] | 99999999 => [(0, [0, 1, 2, 4, 5, 6, 7, 8, 11, 29, 31])] | _ => []) [.tmp 4, .cell 5 119] mixed Try.func84 rfl rfl rfl rfl (by decide +kernel) (by simp) ?_
  simp only [go_sem, reduceIte, Nat.reduceEqDiff, Nat.reduceAdd, Nat.reduceSub, Nat.reduceMul, Nat.reduceLT, Nat.reduceLeDiff, Nat.reducePow, Int.reduceToNat, Int.reduceLT, Int.reduceLE, Int.reduceEq, Int.reduceNe, Int.reduceAdd, Int.reduceSub, Int.reduceMul, Int.reduceNeg]
  intro b2
  refine new_1 fun b5 h1 h2 => ?_
  by_cases he : e = 0
  · subst he
    try simp only [go_sem, reduceIte, Nat.reduceEqDiff, Nat.reduceAdd, Nat.reduceSub, Nat.reduceMul, Nat.reduceLT, Nat.reduceLeDiff, Nat.reducePow, Int.reduceToNat, Int.reduceLT, Int.reduceLE, Int.reduceEq, Int.reduceNe, Int.reduceAdd, Int.reduceSub, Int.reduceMul, Int.reduceNeg, h1, h2]
    refine cK_vn hr ?_
    have hx : nxU b (a, 0) = ((readU b a).1, ((((readU b a).2.1 : Nat) : Int), (((readU b a).2.2 : Nat) : Int))) := by rw [nxU, if_pos rfl]
    unfold cntF
    rw [hx]
    dsimp only
    clear hx hr
    obtain ⟨⟨x1, x2, x3⟩, hX⟩ : ∃ X, readU b a = X := ⟨_, rfl⟩
    rw [hX]
    dsimp only
    try simp only [go_sem, reduceIte, Nat.reduceEqDiff, Nat.reduceAdd, Nat.reduceSub, Nat.reduceMul, Nat.reduceLT, Nat.reduceLeDiff, Nat.reducePow, Int.reduceToNat, Int.reduceLT, Int.reduceLE, Int.reduceEq, Int.reduceNe, Int.reduceAdd, Int.reduceSub, Int.reduceMul, Int.reduceNeg, h1, h2]
    by_cases e3 : (x3 : Int) = 0
    · by_cases e2 : (16 : Int) < (x1 : Nat)
      · have c := eq_true e2
        have c3 : ((x3 : Int) = 0) = True := eq_true e3
        have c4 : ((x3 : Int) ≠ 0) = False := eq_false (by omega)
        try simp only [go_sem, reduceIte, Nat.reduceEqDiff, Nat.reduceAdd, Nat.reduceSub, Nat.reduceMul, Nat.reduceLT, Nat.reduceLeDiff, Nat.reducePow, Int.reduceToNat, Int.reduceLT, Int.reduceLE, Int.reduceEq, Int.reduceNe, Int.reduceAdd, Int.reduceSub, Int.reduceMul, Int.reduceNeg, h1, h2, e16, c, c3, c4, decide_true, decide_false]
        exact finK_drop ⟨by simp [failS, e3, e2, D.er, D.er1], rfl, rfl⟩
      · have c := eq_false e2
        have c3 : ((x3 : Int) = 0) = True := eq_true e3
        have c4 : ((x3 : Int) ≠ 0) = False := eq_false (by omega)
        have w := wrap_i64 (x := (x1 : Int)) (by omega) (by omega)
        try simp only [go_sem, reduceIte, Nat.reduceEqDiff, Nat.reduceAdd, Nat.reduceSub, Nat.reduceMul, Nat.reduceLT, Nat.reduceLeDiff, Nat.reducePow, Int.reduceToNat, Int.reduceLT, Int.reduceLE, Int.reduceEq, Int.reduceNe, Int.reduceAdd, Int.reduceSub, Int.reduceMul, Int.reduceNeg, h1, h2, e16, c, c3, c4, decide_false, w]
        exact finK_drop ⟨by simp [failS, e3, e2, D.er, D.er1], rfl, rfl⟩
    · have c3 : ((x3 : Int) = 0) = False := eq_false e3
      have c4 : ((x3 : Int) ≠ 0) = True := eq_true e3
      try simp only [go_sem, reduceIte, Nat.reduceEqDiff, Nat.reduceAdd, Nat.reduceSub, Nat.reduceMul, Nat.reduceLT, Nat.reduceLeDiff, Nat.reducePow, Int.reduceToNat, Int.reduceLT, Int.reduceLE, Int.reduceEq, Int.reduceNe, Int.reduceAdd, Int.reduceSub, Int.reduceMul, Int.reduceNeg, h1, h2, e16, c3, c4, decide_true, decide_false]
      have e3' : ¬ x3 = 0 := by omega
      exact finK_drop ⟨by simp [failS, e3', D.er, D.er1], rfl, rfl⟩
  · have he' := eq_true he
    try simp only [go_sem, reduceIte, Nat.reduceEqDiff, Nat.reduceAdd, Nat.reduceSub, Nat.reduceMul, Nat.reduceLT, Nat.reduceLeDiff, Nat.reducePow, Int.reduceToNat, Int.reduceLT, Int.reduceLE, Int.reduceEq, Int.reduceNe, Int.reduceAdd, Int.reduceSub, Int.reduceMul, Int.reduceNeg, h1, h2, he', decide_true]
    exact finK_drop ⟨by simp [cntF, nxU, failS, he, D.er, D.er1], rfl, rfl⟩
/-- A byte that is at most some number. -/
def bytR (b : List Nat) (most : Nat) (s : Sc) : Nat × Sc :=
  if s.2 ≠ 0 then (0, s) else if (b.length : Int) ≤ s.1 then (0, (0, 6)) else if most < b.getD s.1.toNat 0 then (0, (0, 5)) else (b.getD s.1.toNat 0, (s.1 + 1, 0))
theorem rdByte_ok (b : List Nat) (m : Nat) (s : Sc) (h0 : 0 ≤ s.1) (hl : b.length ≤ 1099511627776) : VN P G 80 [.agg (rdC b s), .int .u8 m] (.tup [.int .u8 (bytR b m s).1, .agg (rdC b (bytR b m s).2)]) := by
  obtain ⟨a, e⟩ := s
  dsimp only at h0
  simp only [rdC]
  have eb : (bs b).length = b.length := bs_length b
  unfold VN
  refine VC.ofc (fun | 2 => [(0, []), (1, []), (2, [])] | 4 => [(0, []), (1, []), (2, []), (3, []), (4, [])] | 6 => [(0, []), (1, []), (2, []), (3, []), (4, [])] | 7 => [(0, []), (1, []), (2, []), (3, []), (4, []), (5, []), (6, []), (7, []), (8, []), (9, []), (10, []), (11, []), (12, []), (13, [])] | 99999999 => [(0, [0, 1, 2, 4, 5, 8, 15, 26])] | _ => []) [.tmp 4, .cell 5 119] mixed Try.func80 rfl rfl rfl rfl (by decide +kernel) (by simp) ?_
  simp only [go_sem, reduceIte, Nat.reduceEqDiff, Nat.reduceAdd, Nat.reduceSub, Nat.reduceMul, Nat.reduceLT, Nat.reduceLeDiff, Nat.reducePow, Int.reduceToNat, Int.reduceLT, Int.reduceLE, Int.reduceEq, Int.reduceNe, Int.reduceAdd, Int.reduceSub, Int.reduceMul, Int.reduceNeg]
  intro b2
  refine new_1 fun b5 h1 h2 => ?_
  by_cases he : e = 0
  · subst he
    try simp only [go_sem, reduceIte, Nat.reduceEqDiff, Nat.reduceAdd, Nat.reduceSub, Nat.reduceMul, Nat.reduceLT, Nat.reduceLeDiff, Nat.reducePow, Int.reduceToNat, Int.reduceLT, Int.reduceLE, Int.reduceEq, Int.reduceNe, Int.reduceAdd, Int.reduceSub, Int.reduceMul, Int.reduceNeg, h1, h2, eb]
    by_cases hs : (b.length : Int) ≤ a
    · have c := eq_true hs
      try simp only [go_sem, reduceIte, Nat.reduceEqDiff, Nat.reduceAdd, Nat.reduceSub, Nat.reduceMul, Nat.reduceLT, Nat.reduceLeDiff, Nat.reducePow, Int.reduceToNat, Int.reduceLT, Int.reduceLE, Int.reduceEq, Int.reduceNe, Int.reduceAdd, Int.reduceSub, Int.reduceMul, Int.reduceNeg, h1, h2, eb, c, decide_true]
      exact finK_drop ⟨by simp [bytR, hs, D.er, D.er1], rfl, rfl⟩
    · have c := eq_false hs
      have c1 := eq_true h0
      have c2 : (a < (b.length : Nat)) = True := eq_true (by omega)
      have hg := bs_get (l := b) h0 (by omega)
      have wa := wrap_i64 (x := a + 1) (by omega) (by omega)
      by_cases hm : m < b.getD a.toNat 0
      · have c3 : ((m : Int) < (b.getD a.toNat 0 : Nat)) = True := eq_true (by omega)
        try simp only [go_sem, reduceIte, Nat.reduceEqDiff, Nat.reduceAdd, Nat.reduceSub, Nat.reduceMul, Nat.reduceLT, Nat.reduceLeDiff, Nat.reducePow, Int.reduceToNat, Int.reduceLT, Int.reduceLE, Int.reduceEq, Int.reduceNe, Int.reduceAdd, Int.reduceSub, Int.reduceMul, Int.reduceNeg, h1, h2, eb, c, c1, c2, hg, c3, decide_false, decide_true]
        refine finK_drop ⟨?_, rfl, rfl⟩
        rw [bytR, if_neg (by simp), if_neg hs, if_pos hm]; rfl
      · have c3 : ((m : Int) < (b.getD a.toNat 0 : Nat)) = False := eq_false (by omega)
        try simp only [go_sem, reduceIte, Nat.reduceEqDiff, Nat.reduceAdd, Nat.reduceSub, Nat.reduceMul, Nat.reduceLT, Nat.reduceLeDiff, Nat.reducePow, Int.reduceToNat, Int.reduceLT, Int.reduceLE, Int.reduceEq, Int.reduceNe, Int.reduceAdd, Int.reduceSub, Int.reduceMul, Int.reduceNeg, h1, h2, eb, c, c1, c2, hg, c3, decide_false, wa]
        refine finK_drop ⟨?_, rfl, rfl⟩
        rw [bytR, if_neg (by simp), if_neg hs, if_neg hm]; rfl
  · have he' := eq_true he
    try simp only [go_sem, reduceIte, Nat.reduceEqDiff, Nat.reduceAdd, Nat.reduceSub, Nat.reduceMul, Nat.reduceLT, Nat.reduceLeDiff, Nat.reducePow, Int.reduceToNat, Int.reduceLT, Int.reduceLE, Int.reduceEq, Int.reduceNe, Int.reduceAdd, Int.reduceSub, Int.reduceMul, Int.reduceNeg, h1, h2, he', decide_true]
    exact finK_drop ⟨by simp [bytR, he, D.er, D.er1], rfl, rfl⟩
end Go.Proofs.YtpblgfgcoamgmaaS
