import Derived.Test.YtdemkhcloholiaaA4
set_option linter.unusedVariables false
set_option linter.unusedSimpArgs false
namespace Go.Proofs.YtdemkhcloholiaaS
open Go Go.Proofs.YtdemkhcloholiaaV

variable {G : Heap}

theorem enc_pos (n : Nat) : 0 < (enc n).length := by unfold enc; split <;> simp

theorem refU_ok (tk : Tk) (b : List Nat) (n : Nat) (hn : n < 18446744073709551616) (hlen : b.length + (enc n).length ≤ 2^45) : VT0 P G 14 [.sl tk (bs b), .int .u64 n] (fun t' => .sl (.live t' 1) (bs (b ++ enc n))) := by
  refine VC.ofs (fun | 99999999 => [(0, [0, 1, 4, 5, 10])] | _ => []) [4] mixed Try.func14 rfl rfl rfl rfl (by decide +kernel) (by simp) ?_
  simp only [go_sem, reduceIte, Nat.reduceEqDiff, Nat.reduceAdd, Nat.reduceSub, Nat.reduceMul, Nat.reduceLT, Nat.reduceLeDiff, Nat.reducePow, Int.reduceToNat, Int.reduceLT, Int.reduceLE, Int.reduceEq, Int.reduceNe, Int.reduceAdd, Int.reduceSub, Int.reduceMul, Int.reduceNeg]
  refine ⟨by omega, fun t1 => ?_⟩
  refine vwq_loop (fun s => ∃ (t' : Nat) (out' : List Nat) (n' : Nat), s.σ 5 = .sl (.live t' 1) (bs out') ∧ s.σ 1 = .int .u64 n' ∧ s.β = Heap.nil ∧ s.ω = [t'] ∧ out' ++ enc n' = b ++ enc n ∧ n' < 18446744073709551616) (fun s => (ival (s.σ 1)).toNat) ?_ ?_
  · exact ⟨t1, b, n, rfl, rfl, rfl, rfl, rfl, hn⟩
  · rintro σ β ω ⟨t', out', n', h0, h1, rfl, rfl, h2, hn'⟩
    dsimp only at h0 h1
    simp only [go_sem, reduceIte, Nat.reduceEqDiff, Nat.reduceAdd, Nat.reduceSub, Nat.reduceMul, Nat.reduceLT, Nat.reduceLeDiff, Nat.reducePow, Int.reduceToNat, Int.reduceLT, Int.reduceLE, Int.reduceEq, Int.reduceNe, Int.reduceAdd, Int.reduceSub, Int.reduceMul, Int.reduceNeg, h0, h1, ival_int]
    have h3 : out'.length + (enc n').length = b.length + (enc n).length := by
      have := congrArg List.length h2
      simpa using this
    refine cd_dec (fun hn => ?_) (fun hn => ?_)
    · simp only [go_sem, reduceIte, Nat.reduceEqDiff, Nat.reduceAdd, Nat.reduceSub, Nat.reduceMul, Nat.reduceLT, Nat.reduceLeDiff, Nat.reducePow, Int.reduceToNat, Int.reduceLT, Int.reduceLE, Int.reduceEq, Int.reduceNe, Int.reduceAdd, Int.reduceSub, Int.reduceMul, Int.reduceNeg, h0, h1, ival_int]
      have hb := enc_big (n := n') (by omega)
      have h4 := enc_pos (n' / 128)
      rw [hb] at h3
      simp only [List.length_cons] at h3
      have e : (n' : Int).tdiv 128 % 18446744073709551616 = ((n' / 128 : Nat) : Int) := by
        rw [Int.tdiv_eq_ediv_of_nonneg (by omega)]; omega
      have e2 : (128 + (n' : Int).tmod 128) % 18446744073709551616 % 256 = ((n' % 128 + 128 : Nat) : Int) := by
        rw [Int.tmod_eq_emod_of_nonneg (by omega)]; omega
      rw [e, e2, bs_snoc]
      refine ⟨by omega, fun t2 _ => ⟨⟨t2, out' ++ [n' % 128 + 128], n' / 128, rfl, rfl, rfl, ?_, by omega⟩, by omega⟩⟩
      rw [← h2, hb]; simp
    · simp only [go_sem, reduceIte, Nat.reduceEqDiff, Nat.reduceAdd, Nat.reduceSub, Nat.reduceMul, Nat.reduceLT, Nat.reduceLeDiff, Nat.reducePow, Int.reduceToNat, Int.reduceLT, Int.reduceLE, Int.reduceEq, Int.reduceNe, Int.reduceAdd, Int.reduceSub, Int.reduceMul, Int.reduceNeg, h0, h1, ival_int]
      have hs := enc_small (n := n') (by omega)
      rw [hs] at h3
      simp only [List.length_cons, List.length_nil] at h3
      have e : (n' : Int) % 256 = (n' : Int) := by omega
      refine ⟨by omega, fun t2 _ => finK_exact ⟨t2, ?_, rfl, rfl⟩⟩
      rw [e, bs_snoc, ← h2, hs]

theorem refS_ok (tk : Tk) (b : List Nat) (k : Int) (hk : -9223372036854775808 ≤ k ∧ k < 9223372036854775808) (hlen : b.length + (enc (zig k)).length ≤ 2^45) : VT0 P G 16 [.sl tk (bs b), .int .i64 k] (fun t' => .sl (.live t' 1) (bs (b ++ enc (zig k)))) := by
  refine VC.ofs (fun | 99999999 => [(0, [0, 1, 4, 6])] | _ => []) [4] mixed Try.func16 rfl rfl rfl rfl (by decide +kernel) (by simp) ?_
  simp only [go_sem, reduceIte, Nat.reduceEqDiff, Nat.reduceAdd, Nat.reduceSub, Nat.reduceMul, Nat.reduceLT, Nat.reduceLeDiff, Nat.reducePow, Int.reduceToNat, Int.reduceLT, Int.reduceLE, Int.reduceEq, Int.reduceNe, Int.reduceAdd, Int.reduceSub, Int.reduceMul, Int.reduceNeg]
  have hz : zig k < 18446744073709551616 := by unfold zig; split <;> omega
  refine cd_dec (fun h => ?_) (fun h => ?_)
  · simp only [go_sem, reduceIte, Nat.reduceEqDiff, Nat.reduceAdd, Nat.reduceSub, Nat.reduceMul, Nat.reduceLT, Nat.reduceLeDiff, Nat.reducePow, Int.reduceToNat, Int.reduceLT, Int.reduceLE, Int.reduceEq, Int.reduceNe, Int.reduceAdd, Int.reduceSub, Int.reduceMul, Int.reduceNeg]
    have e : 2 * (k % 18446744073709551616) % 18446744073709551616 = (zig k : Int) := by
      unfold zig; rw [if_pos h]; omega
    rw [e]
    refine cK_t0 (refU_ok tk b (zig k) hz hlen) fun t _ => ?_
    simp only [go_sem, reduceIte, Nat.reduceEqDiff, Nat.reduceAdd, Nat.reduceSub, Nat.reduceMul, Nat.reduceLT, Nat.reduceLeDiff, Nat.reducePow, Int.reduceToNat, Int.reduceLT, Int.reduceLE, Int.reduceEq, Int.reduceNe, Int.reduceAdd, Int.reduceSub, Int.reduceMul, Int.reduceNeg]
    exact finK_exact ⟨t, rfl, rfl, rfl⟩
  · simp only [go_sem, reduceIte, Nat.reduceEqDiff, Nat.reduceAdd, Nat.reduceSub, Nat.reduceMul, Nat.reduceLT, Nat.reduceLeDiff, Nat.reducePow, Int.reduceToNat, Int.reduceLT, Int.reduceLE, Int.reduceEq, Int.reduceNe, Int.reduceAdd, Int.reduceSub, Int.reduceMul, Int.reduceNeg]
    rw [wrap_i64 (x := k + 1) (by omega) (by omega), wrap_i64 (x := 0 - (k + 1)) (by omega) (by omega)]
    have e : (2 * ((0 - (k + 1)) % 18446744073709551616) % 18446744073709551616 + 1) % 18446744073709551616 = (zig k : Int) := by
      unfold zig; rw [if_neg h]; omega
    rw [e]
    refine cK_t0 (refU_ok tk b (zig k) hz hlen) fun t _ => ?_
    simp only [go_sem, reduceIte, Nat.reduceEqDiff, Nat.reduceAdd, Nat.reduceSub, Nat.reduceMul, Nat.reduceLT, Nat.reduceLeDiff, Nat.reducePow, Int.reduceToNat, Int.reduceLT, Int.reduceLE, Int.reduceEq, Int.reduceNe, Int.reduceAdd, Int.reduceSub, Int.reduceMul, Int.reduceNeg]
    exact finK_exact ⟨t, rfl, rfl, rfl⟩

theorem refText_ok (tk : Tk) (b : List Nat) (s : ByteArray) (hn : s.size < 2^62) (hlen : b.length + (enc s.size).length + s.size ≤ 2^45) : VT0 P G 18 [.sl tk (bs b), .str s] (fun t' => .sl (.live t' 1) (bs (b ++ enc s.size ++ sb s))) := by
  refine VC.ofs (fun | 99999999 => [(0, [0, 1, 4, 5])] | _ => []) [4] mixed Try.func18 rfl rfl rfl rfl (by decide +kernel) (by simp) ?_
  simp only [go_sem, reduceIte, Nat.reduceEqDiff, Nat.reduceAdd, Nat.reduceSub, Nat.reduceMul, Nat.reduceLT, Nat.reduceLeDiff, Nat.reducePow, Int.reduceToNat, Int.reduceLT, Int.reduceLE, Int.reduceEq, Int.reduceNe, Int.reduceAdd, Int.reduceSub, Int.reduceMul, Int.reduceNeg]
  have e : ((s.size : Int) % 18446744073709551616) = (s.size : Int) := by omega
  rw [e]
  refine cK_t0 (refU_ok tk b s.size (by omega) (by omega)) fun t _ => ?_
  simp only [go_sem, reduceIte, Nat.reduceEqDiff, Nat.reduceAdd, Nat.reduceSub, Nat.reduceMul, Nat.reduceLT, Nat.reduceLeDiff, Nat.reducePow, Int.reduceToNat, Int.reduceLT, Int.reduceLE, Int.reduceEq, Int.reduceNe, Int.reduceAdd, Int.reduceSub, Int.reduceMul, Int.reduceNeg, bs_str, bs_append, sb_length, List.length_append]
  exact ⟨by omega, fun t2 _ => finK_exact ⟨t2, rfl, rfl, rfl⟩⟩

theorem refBytes_ok (tk tk2 : Tk) (b p : List Nat) (hn : p.length < 2^62) (hlen : b.length + (enc p.length).length + p.length ≤ 2^45) : VT0 P G 20 [.sl tk (bs b), .sl tk2 (bs p)] (fun t' => .sl (.live t' 1) (bs (b ++ enc p.length ++ p))) := by
  refine VC.ofs (fun | 99999999 => [(0, [0, 1, 4, 5])] | _ => []) [4] mixed Try.func20 rfl rfl rfl rfl (by decide +kernel) (by simp) ?_
  simp only [go_sem, reduceIte, Nat.reduceEqDiff, Nat.reduceAdd, Nat.reduceSub, Nat.reduceMul, Nat.reduceLT, Nat.reduceLeDiff, Nat.reducePow, Int.reduceToNat, Int.reduceLT, Int.reduceLE, Int.reduceEq, Int.reduceNe, Int.reduceAdd, Int.reduceSub, Int.reduceMul, Int.reduceNeg]
  have e : ((p.length : Int) % 18446744073709551616) = (p.length : Int) := by omega
  rw [e]
  refine cK_t0 (refU_ok tk b p.length (by omega) (by omega)) fun t _ => ?_
  simp only [go_sem, reduceIte, Nat.reduceEqDiff, Nat.reduceAdd, Nat.reduceSub, Nat.reduceMul, Nat.reduceLT, Nat.reduceLeDiff, Nat.reducePow, Int.reduceToNat, Int.reduceLT, Int.reduceLE, Int.reduceEq, Int.reduceNe, Int.reduceAdd, Int.reduceSub, Int.reduceMul, Int.reduceNeg, bs_append, List.length_append]
  exact ⟨by omega, fun t2 _ => finK_exact ⟨t2, rfl, rfl, rfl⟩⟩

def bitsN (n : Nat) : Nat := if n = 0 then 0 else bitsN (n / 2) + 1
decreasing_by omega

theorem bitsN_zero : bitsN 0 = 0 := by rw [bitsN]; rfl
theorem bitsN_pos {n : Nat} (h : 0 < n) : bitsN n = bitsN (n / 2) + 1 := by rw [bitsN, if_neg (by omega)]
theorem bitsN_le : ∀ (k n : Nat), n < 2 ^ k → bitsN n ≤ k
  | 0, n, h => by
    have : n = 0 := by omega
    rw [this, bitsN_zero]; omega
  | k + 1, n, h => by
    rcases Nat.eq_zero_or_pos n with rfl | hp
    · rw [bitsN_zero]; omega
    · rw [bitsN_pos hp]
      have := bitsN_le k (n / 2) (by rw [Nat.pow_succ] at h; omega)
      omega

theorem bits_ok (n : Nat) (hn : n < 18446744073709551616) : VN P G 30 [.int .u64 n] (.int .i64 (bitsN n : Nat)) := by
  refine VC.ofs (fun | 99999999 => [(0, [0, 2, 3, 5])] | _ => []) [2] mixed Try.func30 rfl rfl rfl rfl (by decide +kernel) (by simp) ?_
  simp only [go_sem, reduceIte, Nat.reduceEqDiff, Nat.reduceAdd, Nat.reduceSub, Nat.reduceMul, Nat.reduceLT, Nat.reduceLeDiff, Nat.reducePow, Int.reduceToNat, Int.reduceLT, Int.reduceLE, Int.reduceEq, Int.reduceNe, Int.reduceAdd, Int.reduceSub, Int.reduceMul, Int.reduceNeg]
  refine vwq_loop (fun s => ∃ (c n' : Nat), s.σ 3 = .int .i64 c ∧ s.σ 0 = .int .u64 n' ∧ s.β = Heap.nil ∧ s.ω = [] ∧ c + bitsN n' = bitsN n ∧ n' < 18446744073709551616 ∧ c + bitsN n' ≤ 64) (fun s => (ival (s.σ 0)).toNat) ?_ ?_
  · exact ⟨0, n, rfl, rfl, rfl, rfl, by omega, hn, by have := bitsN_le 64 n (by omega); omega⟩
  · rintro σ β ω ⟨c, n', h3, h0, rfl, rfl, h4, h5, h6⟩
    dsimp only at h0 h3
    simp only [go_sem, reduceIte, Nat.reduceEqDiff, Nat.reduceAdd, Nat.reduceSub, Nat.reduceMul, Nat.reduceLT, Nat.reduceLeDiff, Nat.reducePow, Int.reduceToNat, Int.reduceLT, Int.reduceLE, Int.reduceEq, Int.reduceNe, Int.reduceAdd, Int.reduceSub, Int.reduceMul, Int.reduceNeg, h0, h3, ival_int]
    refine cd_dec (fun hn => ?_) (fun hn => ?_)
    · simp only [go_sem, reduceIte, Nat.reduceEqDiff, Nat.reduceAdd, Nat.reduceSub, Nat.reduceMul, Nat.reduceLT, Nat.reduceLeDiff, Nat.reducePow, Int.reduceToNat, Int.reduceLT, Int.reduceLE, Int.reduceEq, Int.reduceNe, Int.reduceAdd, Int.reduceSub, Int.reduceMul, Int.reduceNeg, h0, h3, ival_int]
      have e : (n' : Int).tdiv 2 = ((n' / 2 : Nat) : Int) := by
        rw [Int.tdiv_eq_ediv_of_nonneg (by omega)]; omega
      have hb : bitsN n' = bitsN (n' / 2) + 1 := bitsN_pos (by omega)
      have e2 : (n' : Int).tdiv 2 % 18446744073709551616 = ((n' / 2 : Nat) : Int) := by rw [e]; omega
      rw [e2, wrap_i64 (by omega) (by omega)]
      exact ⟨⟨c + 1, n' / 2, rfl, rfl, by omega, by omega, by omega⟩, by omega⟩
    · simp only [go_sem, reduceIte, Nat.reduceEqDiff, Nat.reduceAdd, Nat.reduceSub, Nat.reduceMul, Nat.reduceLT, Nat.reduceLeDiff, Nat.reducePow, Int.reduceToNat, Int.reduceLT, Int.reduceLE, Int.reduceEq, Int.reduceNe, Int.reduceAdd, Int.reduceSub, Int.reduceMul, Int.reduceNeg, h0, h3, ival_int]
      have hz : n' = 0 := by omega
      rw [hz, bitsN_zero] at h4
      exact finK_exact ⟨by rw [← h4]; rfl, rfl, rfl⟩
end Go.Proofs.YtdemkhcloholiaaS
