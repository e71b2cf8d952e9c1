import Derived.Test.YtdemkhcloholiaaA10
set_option linter.unusedVariables false
set_option linter.unusedSimpArgs false
namespace Go.Proofs.YtdemkhcloholiaaS
open Go Go.Proofs.YtdemkhcloholiaaV

variable {G : Heap}

/-- What a value (a number, an integer, a text, a byte string) is made of, and its bounds. -/
structure Val where
  n : Nat
  k : Int
  s : ByteArray
  p : List Nat
def Val.cells (v : Val) : List D := [.int .u64 v.n, .int .i64 v.k, .str v.s, .sl .none (bs v.p)]
structure Val.ok (v : Val) : Prop where
  n : v.n < 18446744073709551616
  k : -9223372036854775808 ≤ v.k ∧ v.k < 9223372036854775808
  s : v.s.size ≤ 1048576
  p : v.p.length ≤ 1048576
  b : Byt v.p
theorem zig_lt {k : Int} (h : -9223372036854775808 ≤ k ∧ k < 9223372036854775808) : zig k < 18446744073709551616 := by unfold zig; split <;> omega

theorem rU_vn (tk : Tk) (b : List Nat) (n : Nat) (hb : b.length ≤ 2^44) (hn : n < 18446744073709551616) : VN P G 14 [.sl tk (bs b), .int .u64 n] (.sl .none (bs (b ++ enc n))) := (refU_ok tk b n hn (by have := enc_len hn; omega)).vn fun t => rfl
theorem rS_vn (tk : Tk) (b : List Nat) (k : Int) (hk : -9223372036854775808 ≤ k ∧ k < 9223372036854775808) (hb : b.length ≤ 2^44) : VN P G 16 [.sl tk (bs b), .int .i64 k] (.sl .none (bs (b ++ enc (zig k)))) := (refS_ok tk b k hk (by have := enc_len (zig_lt hk); omega)).vn fun t => rfl
theorem rText_vn (tk : Tk) (b : List Nat) (s : ByteArray) (hb : b.length + s.size ≤ 2^44) : VN P G 18 [.sl tk (bs b), .str s] (.sl .none (bs (b ++ enc s.size ++ sb s))) := (refText_ok tk b s (by omega) (by have := enc_len (n := s.size) (by omega); omega)).vn fun t => rfl
theorem rBytes_vn (tk tk2 : Tk) (b p : List Nat) (hb : b.length + p.length ≤ 2^44) : VN P G 20 [.sl tk (bs b), .sl tk2 (bs p)] (.sl .none (bs (b ++ enc p.length ++ p))) := (refBytes_ok tk tk2 b p (by omega) (by have := enc_len (n := p.length) (by omega); omega)).vn fun t => rfl
theorem wU_vn (tk : Tk) (b : List Nat) (n : Nat) (hb : b.length ≤ 2^44) (hn : n < 18446744073709551616) : VN P G 13 [.sl tk (bs b), .int .u64 n] (.sl .none (bs (b ++ enc n))) := U_vn' tk b n _ (by omega) hn rfl
theorem wS_vn (tk : Tk) (b : List Nat) (k : Int) (hk : -9223372036854775808 ≤ k ∧ k < 9223372036854775808) (hb : b.length ≤ 2^44) : VN P G 15 [.sl tk (bs b), .int .i64 k] (.sl .none (bs (b ++ enc (zig k)))) := S_vn' tk b k _ hk (by omega) rfl
theorem wText_vn (tk : Tk) (b : List Nat) (s : ByteArray) (hb : b.length + s.size ≤ 2^44) : VN P G 17 [.sl tk (bs b), .str s] (.sl .none (bs (b ++ enc s.size ++ sb s))) := Text_vn' tk b s _ (by omega) rfl
theorem wBytes_vn (tk tk2 : Tk) (b p : List Nat) (hb : b.length + p.length ≤ 2^44) : VN P G 19 [.sl tk (bs b), .sl tk2 (bs p)] (.sl .none (bs (b ++ enc p.length ++ p))) := Bytes_vn' tk tk2 b p _ (by omega) rfl
theorem SMr (t1 t2 : Tk) (x : List Nat) : VN P G 12 [.sl t1 (bs x), .sl t2 (bs x)] (.bool true) := SM t1 t2 x x rfl

set_option maxHeartbeats 4000000 in
set_option maxRecDepth 100000 in
theorem writes_ok (b : List Nat) (v : Val) (hb : b.length ≤ 1048576) (hv : v.ok) : VN P G 3 [.sl .none (bs b), .agg v.cells] (.bool true) := by
  obtain ⟨n, k, s, p⟩ := v
  obtain ⟨h1, h2, h3, h4, h5⟩ := hv
  simp only [Val.cells] at h1 h2 h3 h4 h5 ⊢
  refine VC.ofs (fun | 2 => [(0, []), (1, []), (2, []), (4, []), (5, []), (6, [3]), (3, []), (7, []), (8, []), (9, []), (10, []), (11, []), (12, []), (14, []), (15, []), (16, [13]), (13, []), (17, []), (18, []), (19, []), (20, []), (21, []), (22, []), (23, []), (25, []), (26, []), (27, [24]), (24, []), (28, []), (29, []), (30, []), (31, []), (32, []), (33, []), (34, []), (36, []), (37, []), (38, [35]), (35, []), (39, []), (40, []), (41, []), (42, []), (43, []), (44, []), (45, [])] | 99999999 => [(0, [0, 1, 3, 4, 5])] | _ => []) [4] mixed Try.func3 rfl rfl rfl rfl (by decide +kernel) (by simp) ?_
  simp only [go_sem, reduceIte, Nat.reduceEqDiff, Nat.reduceAdd, Nat.reduceSub, Nat.reduceMul, Nat.reduceLT, Nat.reduceLeDiff, Nat.reducePow, Int.reduceToNat, Int.reduceLT, Int.reduceLE, Int.reduceEq, Int.reduceNe, Int.reduceAdd, Int.reduceSub, Int.reduceMul, Int.reduceNeg]
  intro b0
  refine cK_vn sanity_ok ?_
  simp only [go_sem, reduceIte, Nat.reduceEqDiff, Nat.reduceAdd, Nat.reduceSub, Nat.reduceMul, Nat.reduceLT, Nat.reduceLeDiff, Nat.reducePow, Int.reduceToNat, Int.reduceLT, Int.reduceLE, Int.reduceEq, Int.reduceNe, Int.reduceAdd, Int.reduceSub, Int.reduceMul, Int.reduceNeg]
  refine cE_vn (wU_vn _ b n (by omega) h1) ?_
  simp only [go_sem, reduceIte, Nat.reduceEqDiff, Nat.reduceAdd, Nat.reduceSub, Nat.reduceMul, Nat.reduceLT, Nat.reduceLeDiff, Nat.reducePow, Int.reduceToNat, Int.reduceLT, Int.reduceLE, Int.reduceEq, Int.reduceNe, Int.reduceAdd, Int.reduceSub, Int.reduceMul, Int.reduceNeg]
  refine cE_vn (rU_vn _ b n (by omega) h1) ?_
  simp only [go_sem, reduceIte, Nat.reduceEqDiff, Nat.reduceAdd, Nat.reduceSub, Nat.reduceMul, Nat.reduceLT, Nat.reduceLeDiff, Nat.reducePow, Int.reduceToNat, Int.reduceLT, Int.reduceLE, Int.reduceEq, Int.reduceNe, Int.reduceAdd, Int.reduceSub, Int.reduceMul, Int.reduceNeg]
  refine cE_vn (SMr _ _ (b ++ enc n)) ?_
  simp only [go_sem, reduceIte, Nat.reduceEqDiff, Nat.reduceAdd, Nat.reduceSub, Nat.reduceMul, Nat.reduceLT, Nat.reduceLeDiff, Nat.reducePow, Int.reduceToNat, Int.reduceLT, Int.reduceLE, Int.reduceEq, Int.reduceNe, Int.reduceAdd, Int.reduceSub, Int.reduceMul, Int.reduceNeg]
  refine cE_vn (wS_vn _ b k h2 (by omega)) ?_
  simp only [go_sem, reduceIte, Nat.reduceEqDiff, Nat.reduceAdd, Nat.reduceSub, Nat.reduceMul, Nat.reduceLT, Nat.reduceLeDiff, Nat.reducePow, Int.reduceToNat, Int.reduceLT, Int.reduceLE, Int.reduceEq, Int.reduceNe, Int.reduceAdd, Int.reduceSub, Int.reduceMul, Int.reduceNeg]
  refine cE_vn (rS_vn _ b k h2 (by omega)) ?_
  simp only [go_sem, reduceIte, Nat.reduceEqDiff, Nat.reduceAdd, Nat.reduceSub, Nat.reduceMul, Nat.reduceLT, Nat.reduceLeDiff, Nat.reducePow, Int.reduceToNat, Int.reduceLT, Int.reduceLE, Int.reduceEq, Int.reduceNe, Int.reduceAdd, Int.reduceSub, Int.reduceMul, Int.reduceNeg]
  refine cE_vn (SMr _ _ (b ++ enc (zig k))) ?_
  simp only [go_sem, reduceIte, Nat.reduceEqDiff, Nat.reduceAdd, Nat.reduceSub, Nat.reduceMul, Nat.reduceLT, Nat.reduceLeDiff, Nat.reducePow, Int.reduceToNat, Int.reduceLT, Int.reduceLE, Int.reduceEq, Int.reduceNe, Int.reduceAdd, Int.reduceSub, Int.reduceMul, Int.reduceNeg]
  refine cE_vn (wText_vn _ b s (by omega)) ?_
  simp only [go_sem, reduceIte, Nat.reduceEqDiff, Nat.reduceAdd, Nat.reduceSub, Nat.reduceMul, Nat.reduceLT, Nat.reduceLeDiff, Nat.reducePow, Int.reduceToNat, Int.reduceLT, Int.reduceLE, Int.reduceEq, Int.reduceNe, Int.reduceAdd, Int.reduceSub, Int.reduceMul, Int.reduceNeg]
  refine cE_vn (rText_vn _ b s (by omega)) ?_
  simp only [go_sem, reduceIte, Nat.reduceEqDiff, Nat.reduceAdd, Nat.reduceSub, Nat.reduceMul, Nat.reduceLT, Nat.reduceLeDiff, Nat.reducePow, Int.reduceToNat, Int.reduceLT, Int.reduceLE, Int.reduceEq, Int.reduceNe, Int.reduceAdd, Int.reduceSub, Int.reduceMul, Int.reduceNeg]
  refine cE_vn (SMr _ _ _) ?_
  simp only [go_sem, reduceIte, Nat.reduceEqDiff, Nat.reduceAdd, Nat.reduceSub, Nat.reduceMul, Nat.reduceLT, Nat.reduceLeDiff, Nat.reducePow, Int.reduceToNat, Int.reduceLT, Int.reduceLE, Int.reduceEq, Int.reduceNe, Int.reduceAdd, Int.reduceSub, Int.reduceMul, Int.reduceNeg]
  refine cE_vn (wBytes_vn _ _ b p (by omega)) ?_
  simp only [go_sem, reduceIte, Nat.reduceEqDiff, Nat.reduceAdd, Nat.reduceSub, Nat.reduceMul, Nat.reduceLT, Nat.reduceLeDiff, Nat.reducePow, Int.reduceToNat, Int.reduceLT, Int.reduceLE, Int.reduceEq, Int.reduceNe, Int.reduceAdd, Int.reduceSub, Int.reduceMul, Int.reduceNeg]
  refine cE_vn (rBytes_vn _ _ b p (by omega)) ?_
  simp only [go_sem, reduceIte, Nat.reduceEqDiff, Nat.reduceAdd, Nat.reduceSub, Nat.reduceMul, Nat.reduceLT, Nat.reduceLeDiff, Nat.reducePow, Int.reduceToNat, Int.reduceLT, Int.reduceLE, Int.reduceEq, Int.reduceNe, Int.reduceAdd, Int.reduceSub, Int.reduceMul, Int.reduceNeg]
  refine cE_vn (SMr _ _ _) ?_
  simp only [go_sem, reduceIte, Nat.reduceEqDiff, Nat.reduceAdd, Nat.reduceSub, Nat.reduceMul, Nat.reduceLT, Nat.reduceLeDiff, Nat.reducePow, Int.reduceToNat, Int.reduceLT, Int.reduceLE, Int.reduceEq, Int.reduceNe, Int.reduceAdd, Int.reduceSub, Int.reduceMul, Int.reduceNeg]
  exact finK_drop ⟨rfl, rfl, rfl⟩
end Go.Proofs.YtdemkhcloholiaaS
