import Derived.Test.YtdemkhcloholiaaA12
import Derived.Test.YtdemkhcloholiaaA15
set_option linter.unusedVariables false
set_option linter.unusedSimpArgs false
namespace Go.Proofs.YtdemkhcloholiaaS
open Go Go.Proofs.YtdemkhcloholiaaV

variable {G : Heap}

set_option maxHeartbeats 4000000 in
set_option maxRecDepth 100000 in
theorem unique_ok (b : List Nat) (a : Int) (hb : b.length ≤ 1048576) (hB : Byt b) : VN P G 6 [.sl .none (bs b), .int .i64 a] (.bool true) := by
  have h1 := ReadU_ok (G := G) .none b a hB
  have h3 := ReadS_ok (G := G) .none b a hB
  have h7 := ReadBytes_vn (G := G) .none b a hB (by omega)
  have hin := readU_in (b := b) (at_ := a)
  have hsp : spanF b a = (let r := readU b a; if r.2.2 ≠ 0 then (0, 0, r.2.2) else if 1048576 < r.1 then (0, 0, 2) else if b.length < r.2.1 + r.1 then (0, 0, 6) else (r.2.1, r.2.1 + r.1, 0)) := rfl
  have hu := fun k v nx hk h => readU_uniq (b := b) (k := k) (v := v) (nx := nx) hB hk h
  have hv := (readU_spec b a hB).val
  by_cases he : (readU b a).2.2 = 0
  · obtain ⟨k, rfl⟩ : ∃ k : Nat, a = k := ⟨a.toNat, by have := hin he; omega⟩
    have hk : k ≤ b.length := by have := hin he; omega
    replace hu := hu k
    have hcase : (spanF b k).2.2 ≠ 0 ∨ ((spanF b k).2.2 = 0 ∧ k < (spanF b k).2.1 ∧ (spanF b k).2.1 ≤ b.length ∧ ((b.drop (spanF b k).1).take ((spanF b k).2.1 - (spanF b k).1)).length ≤ 1048576 ∧
        b.take k ++ enc ((b.drop (spanF b k).1).take ((spanF b k).2.1 - (spanF b k).1)).length ++ (b.drop (spanF b k).1).take ((spanF b k).2.1 - (spanF b k).1) = b.take (spanF b k).2.1) := by
      rw [hsp]
      simp only
      obtain ⟨u1, u2, u3⟩ := hu _ _ hk (show readU b k = ((readU b k).1, (readU b k).2.1, 0) by rw [← he])
      rw [if_neg (by omega)]
      split
      · exact .inl (by simp)
      · split
        · exact .inl (by simp)
        · refine .inr ⟨rfl, by simp only; omega, by simp only; omega, by simp only [List.length_take, List.length_drop]; omega, ?_⟩
          simp only
          have e : (readU b k).2.1 + (readU b k).1 - (readU b k).2.1 = (readU b k).1 := by omega
          have e2 : ((b.drop (readU b k).2.1).take (readU b k).1).length = (readU b k).1 := by simp only [List.length_take, List.length_drop]; omega
          rw [e, e2, u3, ← List.take_add]
    generalize readU b k = r at *
    obtain ⟨v, nx, er⟩ := r
    simp only at he
    subst he
    obtain ⟨u1, u2, u3⟩ := hu v nx hk rfl
    simp only [tri, triS] at h1 h3 hv
    have g1 : ((k : Int) < 0) = False := by simp only [eq_iff_iff, iff_false]; omega
    have g2 : ((b.length : Int) < k) = False := by simp only [eq_iff_iff, iff_false]; omega
    have g3 : ((nx : Int) < k) = False := by simp only [eq_iff_iff, iff_false]; omega
    have g4 : ((b.length : Int) < nx) = False := by simp only [eq_iff_iff, iff_false]; omega
    refine VC.ofs (fun | 3 => [(0, []), (1, []), (2, []), (3, []), (4, []), (5, []), (6, []), (7, []), (8, []), (9, []), (10, []), (11, []), (12, []), (13, []), (14, []), (15, []), (16, []), (17, []), (18, []), (19, []), (20, []), (21, []), (22, []), (23, []), (24, []), (25, []), (26, []), (28, []), (29, []), (30, []), (27, []), (31, []), (32, []), (33, []), (34, [])] | 6 => [(0, []), (1, []), (2, []), (3, []), (4, []), (5, []), (6, []), (7, []), (8, []), (9, []), (10, []), (11, []), (12, []), (13, []), (14, []), (15, []), (16, []), (17, []), (18, []), (19, []), (20, []), (21, []), (22, []), (23, []), (24, []), (25, []), (26, []), (28, []), (29, []), (30, []), (27, []), (31, []), (32, []), (33, []), (34, [])] | 9 => [(0, []), (1, []), (2, []), (3, []), (4, []), (5, []), (6, []), (7, []), (8, []), (9, []), (10, []), (11, []), (12, []), (13, []), (14, []), (15, []), (16, []), (17, []), (18, []), (19, []), (20, []), (21, []), (22, []), (23, []), (24, []), (25, []), (26, []), (28, []), (29, []), (30, []), (27, []), (31, []), (32, []), (33, []), (34, [])] | 99999999 => [(0, [0, 1, 4, 5, 6, 7, 8, 9, 10, 11, 12, 13, 14, 57, 99, 141])] | _ => []) [4] mixed Try.func6 rfl rfl rfl rfl (by decide +kernel) (by simp) ?_
    simp only [go_sem, reduceIte, Nat.reduceEqDiff, Nat.reduceAdd, Nat.reduceSub, Nat.reduceMul, Nat.reduceLT, Nat.reduceLeDiff, Nat.reducePow, Int.reduceToNat, Int.reduceLT, Int.reduceLE, Int.reduceEq, Int.reduceNe, Int.reduceAdd, Int.reduceSub, Int.reduceMul, Int.reduceNeg]
    refine cK_vn sanity_ok ?_
    simp only [go_sem, reduceIte, Nat.reduceEqDiff, Nat.reduceAdd, Nat.reduceSub, Nat.reduceMul, Nat.reduceLT, Nat.reduceLeDiff, Nat.reducePow, Int.reduceToNat, Int.reduceLT, Int.reduceLE, Int.reduceEq, Int.reduceNe, Int.reduceAdd, Int.reduceSub, Int.reduceMul, Int.reduceNeg]
    refine cK_vn h1 ?_
    simp only [go_sem, reduceIte, Nat.reduceEqDiff, Nat.reduceAdd, Nat.reduceSub, Nat.reduceMul, Nat.reduceLT, Nat.reduceLeDiff, Nat.reducePow, Int.reduceToNat, Int.reduceLT, Int.reduceLE, Int.reduceEq, Int.reduceNe, Int.reduceAdd, Int.reduceSub, Int.reduceMul, Int.reduceNeg, g1, g2, g3, g4]
    have g5 : ((v : Int) : Int) = v := rfl
    have hz := unzig_range hv
    have hl : (b.take k).length ≤ 1048576 := by simp; omega
    refine ⟨by omega, by omega, cE_vn (wU_vn _ (b.take k) v (by omega) hv) ?_⟩
    simp only [go_sem, reduceIte, Nat.reduceEqDiff, Nat.reduceAdd, Nat.reduceSub, Nat.reduceMul, Nat.reduceLT, Nat.reduceLeDiff, Nat.reducePow, Int.reduceToNat, Int.reduceLT, Int.reduceLE, Int.reduceEq, Int.reduceNe, Int.reduceAdd, Int.reduceSub, Int.reduceMul, Int.reduceNeg, g1, g2, g3, g4, Nat.sub_zero]
    refine cE_vn (SM _ _ _ _ u3) ?_
    simp only [go_sem, reduceIte, Nat.reduceEqDiff, Nat.reduceAdd, Nat.reduceSub, Nat.reduceMul, Nat.reduceLT, Nat.reduceLeDiff, Nat.reducePow, Int.reduceToNat, Int.reduceLT, Int.reduceLE, Int.reduceEq, Int.reduceNe, Int.reduceAdd, Int.reduceSub, Int.reduceMul, Int.reduceNeg, g1, g2, g3, g4, Nat.sub_zero]
    refine cK_vn h3 ?_
    simp only [go_sem, reduceIte, Nat.reduceEqDiff, Nat.reduceAdd, Nat.reduceSub, Nat.reduceMul, Nat.reduceLT, Nat.reduceLeDiff, Nat.reducePow, Int.reduceToNat, Int.reduceLT, Int.reduceLE, Int.reduceEq, Int.reduceNe, Int.reduceAdd, Int.reduceSub, Int.reduceMul, Int.reduceNeg, g1, g2, g3, g4, Nat.sub_zero]
    refine ⟨by omega, by omega, cE_vn (wS_vn _ (b.take k) (unzig v) hz (by omega)) ?_⟩
    simp only [go_sem, reduceIte, Nat.reduceEqDiff, Nat.reduceAdd, Nat.reduceSub, Nat.reduceMul, Nat.reduceLT, Nat.reduceLeDiff, Nat.reducePow, Int.reduceToNat, Int.reduceLT, Int.reduceLE, Int.reduceEq, Int.reduceNe, Int.reduceAdd, Int.reduceSub, Int.reduceMul, Int.reduceNeg, g1, g2, g3, g4, Nat.sub_zero]
    refine cE_vn (SM _ _ _ _ (by rw [zig_unzig]; exact u3)) ?_
    simp only [go_sem, reduceIte, Nat.reduceEqDiff, Nat.reduceAdd, Nat.reduceSub, Nat.reduceMul, Nat.reduceLT, Nat.reduceLeDiff, Nat.reducePow, Int.reduceToNat, Int.reduceLT, Int.reduceLE, Int.reduceEq, Int.reduceNe, Int.reduceAdd, Int.reduceSub, Int.reduceMul, Int.reduceNeg, g1, g2, g3, g4, Nat.sub_zero]
    clear hsp
    generalize spanF b k = u at h7 hcase
    obtain ⟨f, t, e2⟩ := u
    simp only at hcase
    simp only [triB0] at h7
    generalize (b.drop f).take (t - f) = p at h7 hcase
    refine cK_vn h7 ?_
    rcases hcase with g6 | ⟨rfl, q1, q2, q3, q4⟩
    · have g0 : ((e2 : Int) = 0) = False := by simp only [eq_iff_iff, iff_false]; omega
      simp only [go_sem, reduceIte, Nat.reduceEqDiff, Nat.reduceAdd, Nat.reduceSub, Nat.reduceMul, Nat.reduceLT, Nat.reduceLeDiff, Nat.reducePow, Int.reduceToNat, Int.reduceLT, Int.reduceLE, Int.reduceEq, Int.reduceNe, Int.reduceAdd, Int.reduceSub, Int.reduceMul, Int.reduceNeg, g1, g2, g3, g4, g0]
      exact finK_drop ⟨rfl, rfl, rfl⟩
    · have g7 : ((t : Int) < k) = False := by simp only [eq_iff_iff, iff_false]; omega
      have g8 : ((b.length : Int) < t) = False := by simp only [eq_iff_iff, iff_false]; omega
      simp only [go_sem, reduceIte, Nat.reduceEqDiff, Nat.reduceAdd, Nat.reduceSub, Nat.reduceMul, Nat.reduceLT, Nat.reduceLeDiff, Nat.reducePow, Int.reduceToNat, Int.reduceLT, Int.reduceLE, Int.reduceEq, Int.reduceNe, Int.reduceAdd, Int.reduceSub, Int.reduceMul, Int.reduceNeg, g1, g2, g3, g4, g7, g8]
      refine ⟨by omega, by omega, cE_vn (wBytes_vn _ _ (b.take k) p (by omega)) ?_⟩
      simp only [go_sem, reduceIte, Nat.reduceEqDiff, Nat.reduceAdd, Nat.reduceSub, Nat.reduceMul, Nat.reduceLT, Nat.reduceLeDiff, Nat.reducePow, Int.reduceToNat, Int.reduceLT, Int.reduceLE, Int.reduceEq, Int.reduceNe, Int.reduceAdd, Int.reduceSub, Int.reduceMul, Int.reduceNeg, g1, g2, g3, g4, g7, g8]
      refine cE_vn (SM _ _ _ _ q4) ?_
      simp only [go_sem, reduceIte, Nat.reduceEqDiff, Nat.reduceAdd, Nat.reduceSub, Nat.reduceMul, Nat.reduceLT, Nat.reduceLeDiff, Nat.reducePow, Int.reduceToNat, Int.reduceLT, Int.reduceLE, Int.reduceEq, Int.reduceNe, Int.reduceAdd, Int.reduceSub, Int.reduceMul, Int.reduceNeg, g1, g2, g3, g4, g7, g8]
      exact finK_drop ⟨rfl, rfl, rfl⟩
  · have h9 : spanF b a = (0, 0, (readU b a).2.2) := by
      rw [hsp]
      simp only [if_pos he]
    have hbad := (readU_spec b a hB).bad he
    generalize readU b a = r at *
    obtain ⟨v, nx, er⟩ := r
    simp only at he hbad h9
    obtain ⟨rfl, rfl⟩ := hbad
    rw [h9] at h7
    simp only [tri, triS, triB0] at h1 h3 h7
    have g0 : ((er : Int) = 0) = False := by simp only [eq_iff_iff, iff_false]; omega
    refine VC.ofs (fun | 3 => [(0, []), (1, []), (2, []), (3, []), (4, []), (5, []), (6, []), (7, []), (8, []), (9, []), (10, []), (11, []), (12, []), (13, []), (14, []), (15, []), (16, []), (17, []), (18, []), (19, []), (20, []), (21, []), (22, []), (23, []), (24, []), (25, []), (26, []), (28, []), (29, []), (30, []), (27, []), (31, []), (32, []), (33, []), (34, [])] | 6 => [(0, []), (1, []), (2, []), (3, []), (4, []), (5, []), (6, []), (7, []), (8, []), (9, []), (10, []), (11, []), (12, []), (13, []), (14, []), (15, []), (16, []), (17, []), (18, []), (19, []), (20, []), (21, []), (22, []), (23, []), (24, []), (25, []), (26, []), (28, []), (29, []), (30, []), (27, []), (31, []), (32, []), (33, []), (34, [])] | 9 => [(0, []), (1, []), (2, []), (3, []), (4, []), (5, []), (6, []), (7, []), (8, []), (9, []), (10, []), (11, []), (12, []), (13, []), (14, []), (15, []), (16, []), (17, []), (18, []), (19, []), (20, []), (21, []), (22, []), (23, []), (24, []), (25, []), (26, []), (28, []), (29, []), (30, []), (27, []), (31, []), (32, []), (33, []), (34, [])] | 99999999 => [(0, [0, 1, 4, 5, 6, 7, 8, 9, 10, 11, 12, 13, 14, 57, 99, 141])] | _ => []) [4] mixed Try.func6 rfl rfl rfl rfl (by decide +kernel) (by simp) ?_
    simp only [go_sem, reduceIte, Nat.reduceEqDiff, Nat.reduceAdd, Nat.reduceSub, Nat.reduceMul, Nat.reduceLT, Nat.reduceLeDiff, Nat.reducePow, Int.reduceToNat, Int.reduceLT, Int.reduceLE, Int.reduceEq, Int.reduceNe, Int.reduceAdd, Int.reduceSub, Int.reduceMul, Int.reduceNeg]
    refine cK_vn sanity_ok ?_
    simp only [go_sem, reduceIte, Nat.reduceEqDiff, Nat.reduceAdd, Nat.reduceSub, Nat.reduceMul, Nat.reduceLT, Nat.reduceLeDiff, Nat.reducePow, Int.reduceToNat, Int.reduceLT, Int.reduceLE, Int.reduceEq, Int.reduceNe, Int.reduceAdd, Int.reduceSub, Int.reduceMul, Int.reduceNeg]
    refine cK_vn h1 ?_
    simp only [go_sem, reduceIte, Nat.reduceEqDiff, Nat.reduceAdd, Nat.reduceSub, Nat.reduceMul, Nat.reduceLT, Nat.reduceLeDiff, Nat.reducePow, Int.reduceToNat, Int.reduceLT, Int.reduceLE, Int.reduceEq, Int.reduceNe, Int.reduceAdd, Int.reduceSub, Int.reduceMul, Int.reduceNeg, g0]
    refine cK_vn h3 ?_
    simp only [go_sem, reduceIte, Nat.reduceEqDiff, Nat.reduceAdd, Nat.reduceSub, Nat.reduceMul, Nat.reduceLT, Nat.reduceLeDiff, Nat.reducePow, Int.reduceToNat, Int.reduceLT, Int.reduceLE, Int.reduceEq, Int.reduceNe, Int.reduceAdd, Int.reduceSub, Int.reduceMul, Int.reduceNeg, g0]
    refine cK_vn h7 ?_
    simp only [go_sem, reduceIte, Nat.reduceEqDiff, Nat.reduceAdd, Nat.reduceSub, Nat.reduceMul, Nat.reduceLT, Nat.reduceLeDiff, Nat.reducePow, Int.reduceToNat, Int.reduceLT, Int.reduceLE, Int.reduceEq, Int.reduceNe, Int.reduceAdd, Int.reduceSub, Int.reduceMul, Int.reduceNeg, g0]
    have g10 : decide ((er : Int) ≠ 0) = true := decide_eq_true (by omega)
    rw [g10]
    exact finK_drop ⟨rfl, rfl, rfl⟩
end Go.Proofs.YtdemkhcloholiaaS
