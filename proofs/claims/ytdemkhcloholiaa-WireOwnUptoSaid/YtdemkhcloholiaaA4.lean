import Derived.Test.YtdemkhcloholiaaA3
set_option linter.unusedVariables false
set_option linter.unusedSimpArgs false
namespace Go.Proofs.YtdemkhcloholiaaS
open Go Go.Proofs.YtdemkhcloholiaaV

variable {G : Heap}

def zig (k : Int) : Nat := if 0 ≤ k then (2 * k).toNat else (-2 * k - 1).toNat

theorem bop_xor_zero (x : Int) (h0 : 0 ≤ x) (h1 : x < 18446744073709551616) : bop .xor .u64 x 0 = x := by
  have h : (BitVec.ofInt 64 x ^^^ BitVec.ofInt 64 0).toNat = x.toNat := by
    have : BitVec.ofInt 64 0 = 0#64 := rfl
    rw [this, BitVec.xor_zero, BitVec.toNat_ofInt]
    omega
  show IntKind.u64.wrap ((BitVec.ofInt 64 x ^^^ BitVec.ofInt 64 0).toNat : Int) = x
  rw [h, wrap_u64]
  omega

theorem bop_xor_ones (x : Int) (h0 : 0 ≤ x) (h1 : x < 18446744073709551616) : bop .xor .u64 x 18446744073709551615 = 18446744073709551615 - x := by
  have h : (BitVec.ofInt 64 x ^^^ BitVec.ofInt 64 18446744073709551615).toNat = 18446744073709551615 - x.toNat := by
    have : BitVec.ofInt 64 18446744073709551615 = BitVec.allOnes 64 := by decide
    rw [this, BitVec.xor_allOnes, BitVec.toNat_not, BitVec.toNat_ofInt]
    omega
  show IntKind.u64.wrap ((BitVec.ofInt 64 x ^^^ BitVec.ofInt 64 18446744073709551615).toNat : Int) = _
  rw [h, wrap_u64]
  omega

theorem xor_zig (k : Int) (hk : -9223372036854775808 ≤ k ∧ k < 9223372036854775808) :
    bop .xor .u64 (k % 18446744073709551616 * 2 ^ shb .u64 1 % 18446744073709551616) (k / 2 ^ shb .i64 63 % 18446744073709551616) = (zig k : Int) := by
  have e1 : shb .u64 1 = 1 := rfl
  have e2 : shb .i64 63 = 63 := rfl
  rw [e1, e2]
  unfold zig
  by_cases h : 0 ≤ k
  · have e3 : k / 2 ^ 63 % 18446744073709551616 = 0 := by omega
    rw [e3, bop_xor_zero _ (by omega) (by omega), if_pos h]
    omega
  · have e3 : k / 2 ^ 63 % 18446744073709551616 = 18446744073709551615 := by omega
    rw [e3, bop_xor_ones _ (by omega) (by omega), if_neg h]
    omega

theorem S_ok (tk : Tk) (b : List Nat) (k : Int) (hk : -9223372036854775808 ≤ k ∧ k < 9223372036854775808) (hb : b.length ≤ 2^45) (he : (enc (zig k)).length ≤ 2^45) : VT0 P G 15 [.sl tk (bs b), .int .i64 k] (fun t' => .sl (.live t' 1) (bs (b ++ enc (zig k)))) := by
  refine VC.ofs (fun | 99999999 => [(0, [0, 1, 4])] | _ => []) [4] mixed Try.func15 rfl rfl rfl rfl (by decide +kernel) (by simp) ?_
  simp only [go_sem, reduceIte, Nat.reduceEqDiff, Nat.reduceAdd, Nat.reduceSub, Nat.reduceMul, Nat.reduceLT, Nat.reduceLeDiff, Nat.reducePow, Int.reduceToNat, Int.reduceLT, Int.reduceLE, Int.reduceEq, Int.reduceNe, Int.reduceAdd, Int.reduceSub, Int.reduceMul, Int.reduceNeg, xor_zig k hk]
  refine cK_t0 (U_ok tk b (zig k) hb he) fun t _ => ?_
  simp only [go_sem, reduceIte, Nat.reduceEqDiff, Nat.reduceAdd, Nat.reduceSub, Nat.reduceMul, Nat.reduceLT, Nat.reduceLeDiff, Nat.reducePow, Int.reduceToNat, Int.reduceLT, Int.reduceLE, Int.reduceEq, Int.reduceNe, Int.reduceAdd, Int.reduceSub, Int.reduceMul, Int.reduceNeg]
  exact finK_exact ⟨t, rfl, rfl, rfl⟩

/-- A string's bytes. -/
def sb (s : ByteArray) : List Nat := s.data.toList.map (·.toNat)
theorem sb_length (s : ByteArray) : (sb s).length = s.size := by
  unfold sb
  rw [List.length_map, Array.length_toList]
  rfl
theorem bs_str (s : ByteArray) : (s.data.toList.map fun b => D.int .u8 (b.toNat : Int)) = bs (sb s) := by
  unfold bs sb
  rw [List.map_map]
  rfl

theorem sized33_ok (tk : Tk) (b : List Nat) (s : ByteArray) (hb : b.length + s.size ≤ 2^45) (he : (enc s.size).length ≤ 2^44) : VT0 P G 33 [.sl tk (bs b), .str s] (fun t' => .sl (.live t' 1) (bs (b ++ enc s.size ++ sb s))) := by
  refine VC.ofs (fun | 99999999 => [(0, [0, 1, 4, 5])] | _ => []) [4] mixed Try.func33 rfl rfl rfl rfl (by decide +kernel) (by simp) ?_
  simp only [go_sem, reduceIte, Nat.reduceEqDiff, Nat.reduceAdd, Nat.reduceSub, Nat.reduceMul, Nat.reduceLT, Nat.reduceLeDiff, Nat.reducePow, Int.reduceToNat, Int.reduceLT, Int.reduceLE, Int.reduceEq, Int.reduceNe, Int.reduceAdd, Int.reduceSub, Int.reduceMul, Int.reduceNeg]
  rw [wrap_i64 (by omega) (by omega)]
  have e : (10 + (s.size : Int)) = ((10 + s.size : Nat) : Int) := by omega
  rw [e]
  refine cK_t0 (room_ok tk b (10 + s.size) (by omega)) fun t _ => ?_
  simp only [go_sem, reduceIte, Nat.reduceEqDiff, Nat.reduceAdd, Nat.reduceSub, Nat.reduceMul, Nat.reduceLT, Nat.reduceLeDiff, Nat.reducePow, Int.reduceToNat, Int.reduceLT, Int.reduceLE, Int.reduceEq, Int.reduceNe, Int.reduceAdd, Int.reduceSub, Int.reduceMul, Int.reduceNeg]
  have e : ((s.size : Int) % 18446744073709551616) = (s.size : Int) := by omega
  rw [e]
  refine cK_t1 (number_t1 t b s.size (by omega)) (by simp) fun t' => ?_
  simp only [go_sem, reduceIte, Nat.reduceEqDiff, Nat.reduceAdd, Nat.reduceSub, Nat.reduceMul, Nat.reduceLT, Nat.reduceLeDiff, Nat.reducePow, Int.reduceToNat, Int.reduceLT, Int.reduceLE, Int.reduceEq, Int.reduceNe, Int.reduceAdd, Int.reduceSub, Int.reduceMul, Int.reduceNeg, joinT_one, bs_str, bs_append, sb_length, List.length_append]
  exact ⟨by omega, fun t2 _ => finK_exact ⟨t2, rfl, rfl, rfl⟩⟩

theorem sized34_ok (tk tk2 : Tk) (b p : List Nat) (hb : b.length + p.length ≤ 2^45) (he : (enc p.length).length ≤ 2^44) : VT0 P G 34 [.sl tk (bs b), .sl tk2 (bs p)] (fun t' => .sl (.live t' 1) (bs (b ++ enc p.length ++ p))) := by
  refine VC.ofs (fun | 99999999 => [(0, [0, 1, 4, 5])] | _ => []) [4] mixed Try.func34 rfl rfl rfl rfl (by decide +kernel) (by simp) ?_
  simp only [go_sem, reduceIte, Nat.reduceEqDiff, Nat.reduceAdd, Nat.reduceSub, Nat.reduceMul, Nat.reduceLT, Nat.reduceLeDiff, Nat.reducePow, Int.reduceToNat, Int.reduceLT, Int.reduceLE, Int.reduceEq, Int.reduceNe, Int.reduceAdd, Int.reduceSub, Int.reduceMul, Int.reduceNeg]
  rw [wrap_i64 (by omega) (by omega)]
  have e : (10 + (p.length : Int)) = ((10 + p.length : Nat) : Int) := by omega
  rw [e]
  refine cK_t0 (room_ok tk b (10 + p.length) (by omega)) fun t _ => ?_
  simp only [go_sem, reduceIte, Nat.reduceEqDiff, Nat.reduceAdd, Nat.reduceSub, Nat.reduceMul, Nat.reduceLT, Nat.reduceLeDiff, Nat.reducePow, Int.reduceToNat, Int.reduceLT, Int.reduceLE, Int.reduceEq, Int.reduceNe, Int.reduceAdd, Int.reduceSub, Int.reduceMul, Int.reduceNeg]
  have e : ((p.length : Int) % 18446744073709551616) = (p.length : Int) := by omega
  rw [e]
  refine cK_t1 (number_t1 t b p.length (by omega)) (by simp) fun t' => ?_
  simp only [go_sem, reduceIte, Nat.reduceEqDiff, Nat.reduceAdd, Nat.reduceSub, Nat.reduceMul, Nat.reduceLT, Nat.reduceLeDiff, Nat.reducePow, Int.reduceToNat, Int.reduceLT, Int.reduceLE, Int.reduceEq, Int.reduceNe, Int.reduceAdd, Int.reduceSub, Int.reduceMul, Int.reduceNeg, joinT_one, bs_append, List.length_append]
  exact ⟨by omega, fun t2 _ => finK_exact ⟨t2, rfl, rfl, rfl⟩⟩

theorem Text_ok (tk : Tk) (b : List Nat) (s : ByteArray) (hb : b.length + s.size ≤ 2^45) (he : (enc s.size).length ≤ 2^44) : VT0 P G 17 [.sl tk (bs b), .str s] (fun t' => .sl (.live t' 1) (bs (b ++ enc s.size ++ sb s))) := by
  refine VC.ofs (fun | 99999999 => [(0, [0, 1, 4])] | _ => []) [4] mixed Try.func17 rfl rfl rfl rfl (by decide +kernel) (by simp) ?_
  simp only [go_sem, reduceIte, Nat.reduceEqDiff, Nat.reduceAdd, Nat.reduceSub, Nat.reduceMul, Nat.reduceLT, Nat.reduceLeDiff, Nat.reducePow, Int.reduceToNat, Int.reduceLT, Int.reduceLE, Int.reduceEq, Int.reduceNe, Int.reduceAdd, Int.reduceSub, Int.reduceMul, Int.reduceNeg]
  refine cK_t0 (sized33_ok tk b s hb he) fun t _ => ?_
  simp only [go_sem, reduceIte, Nat.reduceEqDiff, Nat.reduceAdd, Nat.reduceSub, Nat.reduceMul, Nat.reduceLT, Nat.reduceLeDiff, Nat.reducePow, Int.reduceToNat, Int.reduceLT, Int.reduceLE, Int.reduceEq, Int.reduceNe, Int.reduceAdd, Int.reduceSub, Int.reduceMul, Int.reduceNeg]
  exact finK_exact ⟨t, rfl, rfl, rfl⟩

theorem Bytes_ok (tk tk2 : Tk) (b p : List Nat) (hb : b.length + p.length ≤ 2^45) (he : (enc p.length).length ≤ 2^44) : VT0 P G 19 [.sl tk (bs b), .sl tk2 (bs p)] (fun t' => .sl (.live t' 1) (bs (b ++ enc p.length ++ p))) := by
  refine VC.ofs (fun | 99999999 => [(0, [0, 1, 4])] | _ => []) [4] mixed Try.func19 rfl rfl rfl rfl (by decide +kernel) (by simp) ?_
  simp only [go_sem, reduceIte, Nat.reduceEqDiff, Nat.reduceAdd, Nat.reduceSub, Nat.reduceMul, Nat.reduceLT, Nat.reduceLeDiff, Nat.reducePow, Int.reduceToNat, Int.reduceLT, Int.reduceLE, Int.reduceEq, Int.reduceNe, Int.reduceAdd, Int.reduceSub, Int.reduceMul, Int.reduceNeg]
  refine cK_t0 (sized34_ok tk tk2 b p hb he) fun t _ => ?_
  simp only [go_sem, reduceIte, Nat.reduceEqDiff, Nat.reduceAdd, Nat.reduceSub, Nat.reduceMul, Nat.reduceLT, Nat.reduceLeDiff, Nat.reducePow, Int.reduceToNat, Int.reduceLT, Int.reduceLE, Int.reduceEq, Int.reduceNe, Int.reduceAdd, Int.reduceSub, Int.reduceMul, Int.reduceNeg]
  exact finK_exact ⟨t, rfl, rfl, rfl⟩

theorem join_ok (tk tk2 : Tk) (b p : List Nat) (h : b.length + p.length ≤ 2^45) : VT0 P G 29 [.sl tk (bs b), .sl tk2 (bs p)] (fun t' => .sl (.live t' 1) (bs (b ++ p))) := by
  refine VC.ofs (fun | 99999999 => [(0, [0, 1, 4, 5])] | _ => []) [4] mixed Try.func29 rfl rfl rfl rfl (by decide +kernel) (by simp) ?_
  simp only [go_sem, reduceIte, Nat.reduceEqDiff, Nat.reduceAdd, Nat.reduceSub, Nat.reduceMul, Nat.reduceLT, Nat.reduceLeDiff, Nat.reducePow, Int.reduceToNat, Int.reduceLT, Int.reduceLE, Int.reduceEq, Int.reduceNe, Int.reduceAdd, Int.reduceSub, Int.reduceMul, Int.reduceNeg]
  refine ⟨by omega, fun t1 => ⟨by omega, fun t2 _ => finK_exact ⟨t2, ?_, rfl, rfl⟩⟩⟩
  rw [bs_append]
end Go.Proofs.YtdemkhcloholiaaS
