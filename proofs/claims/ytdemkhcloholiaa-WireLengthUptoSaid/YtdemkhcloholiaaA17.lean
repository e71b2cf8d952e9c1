import Derived.Test.YtdemkhcloholiaaA11
set_option linter.unusedVariables false
set_option linter.unusedSimpArgs false
namespace Go.Proofs.YtdemkhcloholiaaS
open Go Go.Proofs.YtdemkhcloholiaaV

variable {G : Heap}

/-- The length of an encoding, by the significant bits. -/
theorem enc_bits : ∀ n, (enc n).length = max 1 ((bitsN n + 6) / 7) := fun n => by
  induction n using Nat.strongRecOn with
  | _ n ih =>
    by_cases h : n < 128
    · rw [enc_small h]
      have := bitsN_le 7 n (by simpa using h)
      simp only [List.length_singleton]
      omega
    · rw [enc_big (by omega)]
      have := ih (n / 128) (by omega)
      have e : bitsN n = bitsN (n / 128) + 7 := by
        rw [bitsN_pos (by omega), bitsN_pos (by omega), bitsN_pos (by omega), bitsN_pos (by omega), bitsN_pos (by omega), bitsN_pos (by omega), bitsN_pos (by omega)]
        simp only [Nat.div_div_eq_div_mul]
      simp only [List.length_cons, this, e]
      have : 0 < bitsN (n / 128) := by rw [bitsN_pos (by omega)]; omega
      omega

/-- The number whose bits count, of an integer. -/
def mag (k : Int) : Nat := if k < 0 then (-(k + 1)).toNat else k.toNat
theorem mag_lt {k : Int} (hk : -9223372036854775808 ≤ k ∧ k < 9223372036854775808) : mag k < 9223372036854775808 := by unfold mag; split <;> omega
theorem enc_zig_bits (k : Int) : (enc (zig k)).length = (bitsN (mag k) + 1 + 6) / 7 := by
  rw [enc_bits]
  have key : bitsN (zig k) = bitsN (mag k) + 1 ∨ (zig k = 0 ∧ mag k = 0) := by
    by_cases h0 : zig k = 0
    · refine .inr ⟨h0, ?_⟩
      unfold zig at h0
      unfold mag
      split at h0 <;> split <;> omega
    · left
      rw [bitsN_pos (by omega)]
      congr 2
      unfold zig mag
      split <;> split <;> omega
  rcases key with h | ⟨h1, h2⟩
  · rw [h]; omega
  · rw [h1, h2, bitsN_zero]; omega

set_option maxHeartbeats 4000000 in
set_option maxRecDepth 100000 in
theorem length_ok (n : Nat) (k : Int) (hn : n < 18446744073709551616) (hk : -9223372036854775808 ≤ k ∧ k < 9223372036854775808) : VN P G 7 [.int .u64 n, .int .i64 k] (.bool true) := by
  refine VC.ofs (fun | 99999999 => [(0, [0, 1, 4, 5, 6, 7, 8, 18])] | _ => []) [4] mixed Try.func7 rfl rfl rfl rfl (by decide +kernel) (by simp) ?_
  simp only [go_sem, reduceIte, Nat.reduceEqDiff, Nat.reduceAdd, Nat.reduceSub, Nat.reduceMul, Nat.reduceLT, Nat.reduceLeDiff, Nat.reducePow, Int.reduceToNat, Int.reduceLT, Int.reduceLE, Int.reduceEq, Int.reduceNe, Int.reduceAdd, Int.reduceSub, Int.reduceMul, Int.reduceNeg]
  refine cK_vn sanity_ok ?_
  simp only [go_sem, reduceIte, Nat.reduceEqDiff, Nat.reduceAdd, Nat.reduceSub, Nat.reduceMul, Nat.reduceLT, Nat.reduceLeDiff, Nat.reducePow, Int.reduceToNat, Int.reduceLT, Int.reduceLE, Int.reduceEq, Int.reduceNe, Int.reduceAdd, Int.reduceSub, Int.reduceMul, Int.reduceNeg]
  refine cK_vn (bits_ok n hn) ?_
  simp only [go_sem, reduceIte, Nat.reduceEqDiff, Nat.reduceAdd, Nat.reduceSub, Nat.reduceMul, Nat.reduceLT, Nat.reduceLeDiff, Nat.reducePow, Int.reduceToNat, Int.reduceLT, Int.reduceLE, Int.reduceEq, Int.reduceNe, Int.reduceAdd, Int.reduceSub, Int.reduceMul, Int.reduceNeg]
  have hm := mag_lt hk
  have e1 : (enc n).length = max 1 ((bitsN n + 6) / 7) := enc_bits n
  have e2 := enc_zig_bits k
  have b1 := bitsN_le 64 n (by simpa using hn)
  have b2 := bitsN_le 63 (mag k) (by simpa using hm)
  have w1 : IntKind.i64.wrap ((bitsN n : Int) + 6) = ((bitsN n + 6 : Nat) : Int) := by rw [wrap_i64 (by omega) (by omega)]; omega
  have w2 : IntKind.i64.wrap (((bitsN n + 6 : Nat) : Int).tdiv 7) = (((bitsN n + 6) / 7 : Nat) : Int) := by
    rw [Int.tdiv_eq_ediv_of_nonneg (by omega), wrap_i64 (by omega) (by omega)]; omega
  have g1 : (((enc n).length : Int) = if 1 < (((bitsN n + 6) / 7 : Nat) : Int) then (((bitsN n + 6) / 7 : Nat) : Int) else 1) = True := by
    simp only [eq_iff_iff, iff_true]
    split <;> omega
  have w3 : IntKind.i64.wrap ((IntKind.i64.wrap (IntKind.i64.wrap ((bitsN (mag k) : Int) + 1) + 6)).tdiv 7) = (((bitsN (mag k) + 1 + 6) / 7 : Nat) : Int) := by
    rw [wrap_i64 (x := (bitsN (mag k) : Int) + 1) (by omega) (by omega), wrap_i64 (x := (bitsN (mag k) : Int) + 1 + 6) (by omega) (by omega), Int.tdiv_eq_ediv_of_nonneg (by omega), wrap_i64 (by omega) (by omega)]
    omega
  have g2 : (((enc (zig k)).length : Int) = (((bitsN (mag k) + 1 + 6) / 7 : Nat) : Int)) = True := by
    simp only [eq_iff_iff, iff_true]
    omega
  refine cd_dec (fun h => ?_) (fun h => ?_)
  · simp only [go_sem, reduceIte, Nat.reduceEqDiff, Nat.reduceAdd, Nat.reduceSub, Nat.reduceMul, Nat.reduceLT, Nat.reduceLeDiff, Nat.reducePow, Int.reduceToNat, Int.reduceLT, Int.reduceLE, Int.reduceEq, Int.reduceNe, Int.reduceAdd, Int.reduceSub, Int.reduceMul, Int.reduceNeg]
    have e3 : IntKind.i64.wrap (0 - IntKind.i64.wrap (k + 1)) % 18446744073709551616 = ((mag k : Nat) : Int) := by
      unfold mag
      rw [wrap_i64 (x := k + 1) (by omega) (by omega), wrap_i64 (by omega) (by omega), if_pos h]
      omega
    rw [e3]
    refine cK_vn (bits_ok (mag k) (by omega)) ?_
    simp only [go_sem, reduceIte, Nat.reduceEqDiff, Nat.reduceAdd, Nat.reduceSub, Nat.reduceMul, Nat.reduceLT, Nat.reduceLeDiff, Nat.reducePow, Int.reduceToNat, Int.reduceLT, Int.reduceLE, Int.reduceEq, Int.reduceNe, Int.reduceAdd, Int.reduceSub, Int.reduceMul, Int.reduceNeg]
    refine cK_vn (wU_vn _ [] n (by simp) hn) ?_
    simp only [go_sem, reduceIte, Nat.reduceEqDiff, Nat.reduceAdd, Nat.reduceSub, Nat.reduceMul, Nat.reduceLT, Nat.reduceLeDiff, Nat.reducePow, Int.reduceToNat, Int.reduceLT, Int.reduceLE, Int.reduceEq, Int.reduceNe, Int.reduceAdd, Int.reduceSub, Int.reduceMul, Int.reduceNeg, w1, w2, w3, g1, g2]
    refine cK_vn (wS_vn _ [] k hk (by simp)) ?_
    simp only [go_sem, reduceIte, Nat.reduceEqDiff, Nat.reduceAdd, Nat.reduceSub, Nat.reduceMul, Nat.reduceLT, Nat.reduceLeDiff, Nat.reducePow, Int.reduceToNat, Int.reduceLT, Int.reduceLE, Int.reduceEq, Int.reduceNe, Int.reduceAdd, Int.reduceSub, Int.reduceMul, Int.reduceNeg, w1, w2, w3, g1, g2]
    exact finK_drop ⟨rfl, rfl, rfl⟩
  · simp only [go_sem, reduceIte, Nat.reduceEqDiff, Nat.reduceAdd, Nat.reduceSub, Nat.reduceMul, Nat.reduceLT, Nat.reduceLeDiff, Nat.reducePow, Int.reduceToNat, Int.reduceLT, Int.reduceLE, Int.reduceEq, Int.reduceNe, Int.reduceAdd, Int.reduceSub, Int.reduceMul, Int.reduceNeg]
    have e3 : k % 18446744073709551616 = ((mag k : Nat) : Int) := by
      unfold mag
      rw [if_neg h]
      omega
    rw [e3]
    refine cK_vn (bits_ok (mag k) (by omega)) ?_
    simp only [go_sem, reduceIte, Nat.reduceEqDiff, Nat.reduceAdd, Nat.reduceSub, Nat.reduceMul, Nat.reduceLT, Nat.reduceLeDiff, Nat.reducePow, Int.reduceToNat, Int.reduceLT, Int.reduceLE, Int.reduceEq, Int.reduceNe, Int.reduceAdd, Int.reduceSub, Int.reduceMul, Int.reduceNeg]
    refine cK_vn (wU_vn _ [] n (by simp) hn) ?_
    simp only [go_sem, reduceIte, Nat.reduceEqDiff, Nat.reduceAdd, Nat.reduceSub, Nat.reduceMul, Nat.reduceLT, Nat.reduceLeDiff, Nat.reducePow, Int.reduceToNat, Int.reduceLT, Int.reduceLE, Int.reduceEq, Int.reduceNe, Int.reduceAdd, Int.reduceSub, Int.reduceMul, Int.reduceNeg, w1, w2, w3, g1, g2]
    refine cK_vn (wS_vn _ [] k hk (by simp)) ?_
    simp only [go_sem, reduceIte, Nat.reduceEqDiff, Nat.reduceAdd, Nat.reduceSub, Nat.reduceMul, Nat.reduceLT, Nat.reduceLeDiff, Nat.reducePow, Int.reduceToNat, Int.reduceLT, Int.reduceLE, Int.reduceEq, Int.reduceNe, Int.reduceAdd, Int.reduceSub, Int.reduceMul, Int.reduceNeg, w1, w2, w3, g1, g2]
    exact finK_drop ⟨rfl, rfl, rfl⟩
end Go.Proofs.YtdemkhcloholiaaS
