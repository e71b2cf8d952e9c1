import Derived.Test.YtnoenipdooackaaDoorF3
set_option linter.unusedVariables false
set_option linter.unusedSimpArgs false
namespace Go.Proofs.YtnoenipdooackaaDoorS
open Go Go.Proofs.YtnoenipdooackaaDoorV

variable {G : Heap}
attribute [local irreducible] VN VC VX VQ VT0

set_option maxHeartbeats 4000000 in
theorem trip_ok (hG : G 0 = some nullC) (u : Sm) (b : List Nat) (n : Nat) (hi : ∀ x ∈ u.l, x.I) (hb : Byt b) (hn : n < 65536) : VN P G 5 [.agg u.cells, .sl .none (bs b), .int .u16 n] (.bool true) := by
  have s0 := sanity_ok (G := G) hG
  have l0 := Light_ok (G := G) u
  have f0 := Form_ok (G := G) u
  obtain ⟨w1, w2⟩ := formF_ok hi
  generalize formF u = w at f0 w1 w2
  simp only [Sm.d, Sm.cells] at l0 f0 ⊢
  unfold VN
  refine VC.ofs (fun | 12 => [(0, []), (1, []), (2, []), (3, []), (5, []), (6, []), (7, []), (8, []), (9, []), (4, []), (10, []), (11, []), (12, [])] | 99999999 => [(0, [0, 1, 2, 3, 6, 7, 8, 9, 10, 11, 12, 13, 14, 15, 16, 17, 26, 73, 86])] | _ => []) [6] mixed Tryd.func5 rfl rfl rfl rfl (by decide +kernel) (by simp) ?_
  simp only [go_sem, reduceIte, Nat.reduceEqDiff, Nat.reduceAdd, Nat.reduceSub, Nat.reduceMul, Nat.reduceLT, Nat.reduceLeDiff, Nat.reducePow, Int.reduceToNat, Int.reduceLT, Int.reduceLE, Int.reduceEq, Int.reduceNe, Int.reduceAdd, Int.reduceSub, Int.reduceMul, Int.reduceNeg]
  intro b0
  refine cK_vn s0 ?_
  simp only [go_sem, reduceIte, Nat.reduceEqDiff, Nat.reduceAdd, Nat.reduceSub, Nat.reduceMul, Nat.reduceLT, Nat.reduceLeDiff, Nat.reducePow, Int.reduceToNat, Int.reduceLT, Int.reduceLE, Int.reduceEq, Int.reduceNe, Int.reduceAdd, Int.reduceSub, Int.reduceMul, Int.reduceNeg]
  refine cK_vx l0 ?_
  rintro _ ⟨lt, rfl⟩
  cases lt
  · simp only [go_sem, reduceIte, Nat.reduceEqDiff, Nat.reduceAdd, Nat.reduceSub, Nat.reduceMul, Nat.reduceLT, Nat.reduceLeDiff, Nat.reducePow, Int.reduceToNat, Int.reduceLT, Int.reduceLE, Int.reduceEq, Int.reduceNe, Int.reduceAdd, Int.reduceSub, Int.reduceMul, Int.reduceNeg]
    exact finK_drop ⟨rfl, rfl, rfl⟩
  simp only [go_sem, reduceIte, Nat.reduceEqDiff, Nat.reduceAdd, Nat.reduceSub, Nat.reduceMul, Nat.reduceLT, Nat.reduceLeDiff, Nat.reducePow, Int.reduceToNat, Int.reduceLT, Int.reduceLE, Int.reduceEq, Int.reduceNe, Int.reduceAdd, Int.reduceSub, Int.reduceMul, Int.reduceNeg]
  by_cases k3 : (3000 : Int) < (b.length : Nat)
  · try simp only [go_sem, reduceIte, Nat.reduceEqDiff, Nat.reduceAdd, Nat.reduceSub, Nat.reduceMul, Nat.reduceLT, Nat.reduceLeDiff, Nat.reducePow, Int.reduceToNat, Int.reduceLT, Int.reduceLE, Int.reduceEq, Int.reduceNe, Int.reduceAdd, Int.reduceSub, Int.reduceMul, Int.reduceNeg, k3]
    exact finK_drop ⟨rfl, rfl, rfl⟩
  have z := k3
  have hwn : IntKind.i64.wrap (n : Int) = n := wrap_i64 (by omega) (by omega)
  obtain ⟨m, hm, hml⟩ : ∃ m : Nat, (if (n : Int) < (b.length : Int) then (n : Int) else (b.length : Int)) = m ∧ m ≤ b.length := by
    by_cases g : (n : Int) < b.length
    · exact ⟨n, by rw [if_pos g], by omega⟩
    · exact ⟨b.length, by rw [if_neg g], by omega⟩
  have hl := encS_len w1 w2
  have hpl : (b.take m).length = m := by rw [List.length_take]; omega
  have en := Encode_t0 hG .none (b.take m) w (by omega) w2 w1
  have d1 : ∀ tk, VN P G 21 [.sl tk (bs (b.take m ++ encS w) ++ bs b), .int .i64 m] (.tup [.agg w.cells, .int .i64 ((b.take m ++ encS w).length : Int), .int .i64 0]) := fun tk => by
    have h := decF_enc w1 w2 (b.take m) b
    have h2 := Decode_ok hG tk (b.take m ++ encS w ++ b) m (((hb.take m).append (byt_encS w)).append hb) (by simp only [List.length_append]; omega)
    rw [← List.append_assoc, hpl] at h
    rw [h, show bs (b.take m ++ encS w ++ b) = bs (b.take m ++ encS w) ++ bs b from by simp [bs]] at h2
    exact h2
  have d2 := Decode_ok hG .none b m hb (by omega)
  have hu := @decF_uniq b m
  obtain ⟨y, j, f, hy⟩ : ∃ y j f, decF b m = (y, j, f) := ⟨_, _, _, rfl⟩
  rw [hy] at d2
  have sm : VN P G 23 [.agg w.cells, .agg w.cells] (.bool true) := by
    have h := refSame_ok (G := G) w w
    rw [show smSame w w = true from by simp [smSame]] at h
    exact h
  simp only [Sm.cells] at en d1 d2 sm
  have c1 : ((0 : Int) ≤ m) = True := eq_true (by omega)
  have c2 : ((m : Int) ≤ b.length) = True := eq_true (by omega)
  try simp only [go_sem, reduceIte, Nat.reduceEqDiff, Nat.reduceAdd, Nat.reduceSub, Nat.reduceMul, Nat.reduceLT, Nat.reduceLeDiff, Nat.reducePow, Int.reduceToNat, Int.reduceLT, Int.reduceLE, Int.reduceEq, Int.reduceNe, Int.reduceAdd, Int.reduceSub, Int.reduceMul, Int.reduceNeg, k3, hwn, hm, c1, c2]
  refine cK_vn f0 ?_
  try simp only [go_sem, reduceIte, Nat.reduceEqDiff, Nat.reduceAdd, Nat.reduceSub, Nat.reduceMul, Nat.reduceLT, Nat.reduceLeDiff, Nat.reducePow, Int.reduceToNat, Int.reduceLT, Int.reduceLE, Int.reduceEq, Int.reduceNe, Int.reduceAdd, Int.reduceSub, Int.reduceMul, Int.reduceNeg, k3, hwn, hm, c1, c2]
  refine new_1 fun b1 h1 h2 => ?_
  try simp only [go_sem, reduceIte, Nat.reduceEqDiff, Nat.reduceAdd, Nat.reduceSub, Nat.reduceMul, Nat.reduceLT, Nat.reduceLeDiff, Nat.reducePow, Int.reduceToNat, Int.reduceLT, Int.reduceLE, Int.reduceEq, Int.reduceNe, Int.reduceAdd, Int.reduceSub, Int.reduceMul, Int.reduceNeg, h1, h2, hwn, hm, c1, c2]
  refine cK_t0 en fun t _ => ?_
  try simp only [go_sem, reduceIte, Nat.reduceEqDiff, Nat.reduceAdd, Nat.reduceSub, Nat.reduceMul, Nat.reduceLT, Nat.reduceLeDiff, Nat.reducePow, Int.reduceToNat, Int.reduceLT, Int.reduceLE, Int.reduceEq, Int.reduceNe, Int.reduceAdd, Int.reduceSub, Int.reduceMul, Int.reduceNeg, h1, h2, hwn, hm, c1, c2, hpl]
  refine ⟨by simp only [List.length_append]; omega, fun t' _ => ?_⟩
  refine cK_vn (d1 _) ?_
  try simp only [go_sem, reduceIte, Nat.reduceEqDiff, Nat.reduceAdd, Nat.reduceSub, Nat.reduceMul, Nat.reduceLT, Nat.reduceLeDiff, Nat.reducePow, Int.reduceToNat, Int.reduceLT, Int.reduceLE, Int.reduceEq, Int.reduceNe, Int.reduceAdd, Int.reduceSub, Int.reduceMul, Int.reduceNeg, h1, h2, hwn, hm, c1, c2, hpl]
  refine new_any fun b3 h3 => ?_
  simp only [set_none] at h3
  try simp only [go_sem, reduceIte, Nat.reduceEqDiff, Nat.reduceAdd, Nat.reduceSub, Nat.reduceMul, Nat.reduceLT, Nat.reduceLeDiff, Nat.reducePow, Int.reduceToNat, Int.reduceLT, Int.reduceLE, Int.reduceEq, Int.reduceNe, Int.reduceAdd, Int.reduceSub, Int.reduceMul, Int.reduceNeg, h1, h2, hwn, hm, c1, c2, hpl, h3]
  refine cK_vn d2 ?_
  try simp only [go_sem, reduceIte, Nat.reduceEqDiff, Nat.reduceAdd, Nat.reduceSub, Nat.reduceMul, Nat.reduceLT, Nat.reduceLeDiff, Nat.reducePow, Int.reduceToNat, Int.reduceLT, Int.reduceLE, Int.reduceEq, Int.reduceNe, Int.reduceAdd, Int.reduceSub, Int.reduceMul, Int.reduceNeg, h1, h2, hwn, hm, c1, c2, hpl, h3]
  refine new_any fun b4 h4 => ?_
  simp only [set_none] at h4
  by_cases g0 : f = 0
  · subst g0
    obtain ⟨nx, y1, y2, rfl, y3, y4, y5⟩ := hu hb hml hy
    have n1 : ((nx : Int) ≤ m) = False := eq_false (by omega)
    have n2 : ((b.length : Int) < nx) = False := eq_false (by omega)
    have n3 : ((m : Int) ≤ nx) = True := eq_true (by omega)
    have n4 : ((nx : Int) ≤ b.length) = True := eq_true (by omega)
    have n5 : ((0 : Int) ≤ nx) = True := eq_true (by omega)
    have en2 := Encode_ok hG .full [] y (by simp) y2
    have ey : encF y = encS y := by rw [encF, if_pos y1]
    have ez : (b.drop m).take (nx - m) = encS y := by
      rw [← List.drop_take, ← y5, List.drop_append_of_le_length (by omega), List.drop_of_length_le (by omega)]; rfl
    have sa := same_ok (G := G) .none .none (encS y) (encS y)
    simp only [Sm.cells, ey] at en2
    try simp only [go_sem, reduceIte, Nat.reduceEqDiff, Nat.reduceAdd, Nat.reduceSub, Nat.reduceMul, Nat.reduceLT, Nat.reduceLeDiff, Nat.reducePow, Int.reduceToNat, Int.reduceLT, Int.reduceLE, Int.reduceEq, Int.reduceNe, Int.reduceAdd, Int.reduceSub, Int.reduceMul, Int.reduceNeg, h1, h2, hwn, hm, c1, c2, hpl, h3, h4, n1, n2, n3, n4, n5]
    repeat' (first | simp only [go_sem, reduceIte, Nat.reduceEqDiff, Nat.reduceAdd, Nat.reduceSub, Nat.reduceMul, Nat.reduceLT, Nat.reduceLeDiff, Nat.reducePow, Int.reduceToNat, Int.reduceLT, Int.reduceLE, Int.reduceEq, Int.reduceNe, Int.reduceAdd, Int.reduceSub, Int.reduceMul, Int.reduceNeg, h1, h2, hwn, hm, c1, c2, hpl, h3, h4, n1, n2, n3, n4, n5, ez] | refine cE_vn en2 ?_ | refine cE_vn sa ?_ | refine cK_vn sm ?_ | fail)
    exact finK_drop ⟨rfl, rfl, rfl⟩
  · try simp only [go_sem, reduceIte, Nat.reduceEqDiff, Nat.reduceAdd, Nat.reduceSub, Nat.reduceMul, Nat.reduceLT, Nat.reduceLeDiff, Nat.reducePow, Int.reduceToNat, Int.reduceLT, Int.reduceLE, Int.reduceEq, Int.reduceNe, Int.reduceAdd, Int.reduceSub, Int.reduceMul, Int.reduceNeg, h1, h2, hwn, hm, c1, c2, hpl, h3, h4, g0]
    repeat' (first | simp only [go_sem, reduceIte, Nat.reduceEqDiff, Nat.reduceAdd, Nat.reduceSub, Nat.reduceMul, Nat.reduceLT, Nat.reduceLeDiff, Nat.reducePow, Int.reduceToNat, Int.reduceLT, Int.reduceLE, Int.reduceEq, Int.reduceNe, Int.reduceAdd, Int.reduceSub, Int.reduceMul, Int.reduceNeg, h1, h2, hwn, hm, c1, c2, hpl, h3, h4, g0] | refine cK_vn sm ?_ | fail)
    exact finK_drop ⟨rfl, rfl, rfl⟩
end Go.Proofs.YtnoenipdooackaaDoorS
