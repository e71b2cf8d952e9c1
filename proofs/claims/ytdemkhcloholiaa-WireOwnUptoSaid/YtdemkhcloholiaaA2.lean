import Derived.Test.YtdemkhcloholiaaA1
set_option linter.unusedVariables false
set_option linter.unusedSimpArgs false
namespace Go.Proofs.YtdemkhcloholiaaS
open Go Go.Proofs.YtdemkhcloholiaaV

variable {G : Heap}
theorem same_ok (t1 t2 : Tk) (x y : List Nat) : VN P G 12 [.sl t1 (bs x), .sl t2 (bs y)] (.bool (decide (x = y))) := by
  refine VC.small fun hsm => ?_
  have hx : x.length ≤ 281474976710656 := by have := hsm (.sl t1 (bs x)) (by simp); simpa [Small, bs_length, mostLen] using this
  refine VC.ofs (fun | 6 => [(0, []), (1, []), (2, []), (3, []), (4, []), (5, []), (6, []), (7, []), (8, [])] | 99999999 => [(0, [0, 1, 4, 5, 10, 14, 25])] | _ => []) [4] mixed Try.func12 rfl rfl rfl rfl (by decide +kernel) (by simp) ?_
  simp only [go_sem, reduceIte, Nat.reduceEqDiff, Nat.reduceAdd, Nat.reduceSub, Nat.reduceMul, Nat.reduceLT, Nat.reduceLeDiff, Nat.reducePow, Int.reduceToNat, Int.reduceLT, Int.reduceLE, Int.reduceEq, Int.reduceNe, Int.reduceAdd, Int.reduceSub, Int.reduceMul, Int.reduceNeg, bs_length]
  refine cd_dec (fun h => ?_) (fun h => ?_)
  · simp only [go_sem, reduceIte, Nat.reduceEqDiff, Nat.reduceAdd, Nat.reduceSub, Nat.reduceMul, Nat.reduceLT, Nat.reduceLeDiff, Nat.reducePow, Int.reduceToNat, Int.reduceLT, Int.reduceLE, Int.reduceEq, Int.reduceNe, Int.reduceAdd, Int.reduceSub, Int.reduceMul, Int.reduceNeg]
    have : x ≠ y := fun e => h (by rw [e])
    exact finK_exact ⟨by simp [this], rfl, rfl⟩
  · simp only [go_sem, reduceIte, Nat.reduceEqDiff, Nat.reduceAdd, Nat.reduceSub, Nat.reduceMul, Nat.reduceLT, Nat.reduceLeDiff, Nat.reducePow, Int.reduceToNat, Int.reduceLT, Int.reduceLE, Int.reduceEq, Int.reduceNe, Int.reduceAdd, Int.reduceSub, Int.reduceMul, Int.reduceNeg]
    have hl : x.length = y.length := by omega
    refine vwq_loop (fun s => ∃ k : Nat, s.σ 0 = .sl t1 (bs x) ∧ s.σ 1 = .sl t2 (bs y) ∧ s.σ 5 = .int .i64 k ∧ s.β = Heap.nil ∧ s.ω = [] ∧ k ≤ x.length ∧ x.take k = y.take k) (fun s => x.length - (ival (s.σ 5)).toNat) ⟨0, rfl, rfl, rfl, rfl, rfl, by omega, by simp⟩ ?_
    rintro σ β ω ⟨k, h0, h1, h5, rfl, rfl, hk, ht⟩
    dsimp only at h0 h1 h5
    simp only [go_sem, reduceIte, Nat.reduceEqDiff, Nat.reduceAdd, Nat.reduceSub, Nat.reduceMul, Nat.reduceLT, Nat.reduceLeDiff, Nat.reducePow, Int.reduceToNat, Int.reduceLT, Int.reduceLE, Int.reduceEq, Int.reduceNe, Int.reduceAdd, Int.reduceSub, Int.reduceMul, Int.reduceNeg, h0, h1, h5, bs_length]
    refine cd_dec (fun h => ?_) (fun h => ?_)
    · have hk1 : k < x.length := by omega
      have hk2 : k < y.length := by omega
      simp only [go_sem, reduceIte, Nat.reduceEqDiff, Nat.reduceAdd, Nat.reduceSub, Nat.reduceMul, Nat.reduceLT, Nat.reduceLeDiff, Nat.reducePow, Int.reduceToNat, Int.reduceLT, Int.reduceLE, Int.reduceEq, Int.reduceNe, Int.reduceAdd, Int.reduceSub, Int.reduceMul, Int.reduceNeg, h0, h1, h5, bs_length, bs_at x hk1, bs_at y hk2]
      refine ⟨by omega, by omega, cd_dec (fun hn => ?_) (fun hn => ?_)⟩
      · simp only [go_sem, reduceIte, Nat.reduceEqDiff, Nat.reduceAdd, Nat.reduceSub, Nat.reduceMul, Nat.reduceLT, Nat.reduceLeDiff, Nat.reducePow, Int.reduceToNat, Int.reduceLT, Int.reduceLE, Int.reduceEq, Int.reduceNe, Int.reduceAdd, Int.reduceSub, Int.reduceMul, Int.reduceNeg]
        refine finK_exact ⟨?_, rfl, rfl⟩
        have : x ≠ y := fun e => hn (by rw [e])
        simp [this]
      · simp only [go_sem, reduceIte, Nat.reduceEqDiff, Nat.reduceAdd, Nat.reduceSub, Nat.reduceMul, Nat.reduceLT, Nat.reduceLeDiff, Nat.reducePow, Int.reduceToNat, Int.reduceLT, Int.reduceLE, Int.reduceEq, Int.reduceNe, Int.reduceAdd, Int.reduceSub, Int.reduceMul, Int.reduceNeg, h0, h1, h5, ival_int]
        have he : x.getD k 0 = y.getD k 0 := by omega
        rw [wrap_i64 (by omega) (by omega)]
        refine ⟨⟨k + 1, by simp, by omega, ?_⟩, by omega⟩
        rw [List.take_add_one, List.take_add_one, ht]
        simp only [List.getD, List.getElem?_eq_getElem hk1, List.getElem?_eq_getElem hk2, Option.getD_some] at he
        rw [List.getElem?_eq_getElem hk1, List.getElem?_eq_getElem hk2, he]
    · simp only [go_sem, reduceIte, Nat.reduceEqDiff, Nat.reduceAdd, Nat.reduceSub, Nat.reduceMul, Nat.reduceLT, Nat.reduceLeDiff, Nat.reducePow, Int.reduceToNat, Int.reduceLT, Int.reduceLE, Int.reduceEq, Int.reduceNe, Int.reduceAdd, Int.reduceSub, Int.reduceMul, Int.reduceNeg, h0, h1, h5, bs_length]
      refine finK_exact ⟨?_, rfl, rfl⟩
      have hkx : k = x.length := by omega
      have : x = y := by
        rw [hkx, List.take_length] at ht
        rw [ht, hl, List.take_length]
      simp [this]
end Go.Proofs.YtdemkhcloholiaaS
