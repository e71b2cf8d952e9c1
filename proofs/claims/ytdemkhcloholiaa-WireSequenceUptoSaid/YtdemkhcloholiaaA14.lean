import Derived.Test.YtdemkhcloholiaaA12
import Derived.Test.YtdemkhcloholiaaA13
set_option linter.unusedVariables false
set_option linter.unusedSimpArgs false
namespace Go.Proofs.YtdemkhcloholiaaS
open Go Go.Proofs.YtdemkhcloholiaaV

variable {G : Heap}
theorem Join_vn (tk tk2 : Tk) (b p : List Nat) (h : b.length + p.length ≤ 2^45) : VN P G 29 [.sl tk (bs b), .sl tk2 (bs p)] (.sl .none (bs (b ++ p))) := (join_ok tk tk2 b p h).vn fun t => rfl

/-- Reading back what was written. -/
theorem RUe (before after : List Nat) (n : Nat) (hn : n < 18446744073709551616) (h1 : Byt before) (h2 : Byt after) : VN P G 21 [.sl .none (bs (before ++ enc n ++ after)), .int .i64 (before.length : Nat)] (.tup [.int .u64 n, .int .i64 ((before ++ enc n).length : Nat), .int .i64 0]) := by
  have := ReadU_ok (G := G) .none (before ++ enc n ++ after) before.length ((h1.append (byt_enc n)).append h2)
  rw [readU_enc before after n hn] at this
  rw [List.length_append]
  exact this
theorem RSe (before after : List Nat) (k : Int) (hk : -9223372036854775808 ≤ k ∧ k < 9223372036854775808) (h1 : Byt before) (h2 : Byt after) : VN P G 23 [.sl .none (bs (before ++ enc (zig k) ++ after)), .int .i64 (before.length : Nat)] (.tup [.int .i64 k, .int .i64 ((before ++ enc (zig k)).length : Nat), .int .i64 0]) := by
  have := ReadS_ok (G := G) .none (before ++ enc (zig k) ++ after) before.length ((h1.append (byt_enc _)).append h2)
  rw [readU_enc before after _ (zig_lt hk)] at this
  simp only [triS, unzig_zig] at this
  rw [List.length_append]
  exact this
theorem RTe (before after : List Nat) (s : ByteArray) (hs : s.size ≤ 1048576) (h1 : Byt before) (h2 : Byt after) : VN P G 25 [.sl .none (bs (before ++ enc s.size ++ sb s ++ after)), .int .i64 (before.length : Nat)] (.tup [.str s, .int .i64 ((before ++ enc s.size ++ sb s).length : Nat), .int .i64 0]) := by
  have := ReadText_ok (G := G) .none (before ++ enc s.size ++ sb s ++ after) before.length (((h1.append (byt_enc _)).append (byt_sb s)).append h2)
  have h3 := spanF_enc before (sb s) after (by rw [sb_length]; exact hs)
  have h4 := cut_enc before (sb s) after s.size
  rw [sb_length] at h3 h4
  rw [h3] at this
  simp only [triT, h4, strN_sb] at this
  rw [List.length_append, List.length_append, sb_length]
  exact this
theorem RBe (before p after : List Nat) (hp : p.length ≤ 1048576) (h1 : Byt before) (hb : Byt p) (h2 : Byt after) (hl : (before ++ enc p.length ++ p ++ after).length ≤ 2^45) : VN P G 27 [.sl .none (bs (before ++ enc p.length ++ p ++ after)), .int .i64 (before.length : Nat)] (.tup [.sl .none (bs p), .int .i64 ((before ++ enc p.length ++ p).length : Nat), .int .i64 0]) := by
  have := ReadBytes_vn (G := G) .none (before ++ enc p.length ++ p ++ after) before.length (((h1.append (byt_enc _)).append hb).append h2) hl
  rw [spanF_enc before p after hp] at this
  simp only [triB0, cut_enc before p after p.length] at this
  rw [List.length_append, List.length_append]
  exact this

set_option maxHeartbeats 4000000 in
set_option maxRecDepth 100000 in
theorem round_ok (v : Val) (b c : List Nat) (hb : b.length ≤ 1048576) (hc : c.length ≤ 1048576) (hv : v.ok) (hB : Byt b) (hC : Byt c) : VN P G 5 [.agg v.cells, .sl .none (bs b), .sl .none (bs c)] (.bool true) := by
  obtain ⟨n, k, s, p⟩ := v
  obtain ⟨h1, h2, h3, h4, h5⟩ := hv
  simp only [Val.cells] at h1 h2 h3 h4 h5 ⊢
  have l1 := enc_len h1
  have l2 := enc_len (zig_lt h2)
  have l3 := enc_len (n := s.size) (by omega)
  have l4 := enc_len (n := p.length) (by omega)
  have l5 := sb_length s
  refine VC.ofs (fun | 99999999 => [(0, [0, 1, 2, 3, 6, 7, 8, 9, 10, 11, 12, 13, 14, 15, 16, 17, 18, 19, 20, 21, 22, 23, 24, 83, 100, 130])] | _ => []) [6] mixed Try.func5 rfl rfl rfl rfl (by decide +kernel) (by simp) ?_
  simp only [go_sem, reduceIte, Nat.reduceEqDiff, Nat.reduceAdd, Nat.reduceSub, Nat.reduceMul, Nat.reduceLT, Nat.reduceLeDiff, Nat.reducePow, Int.reduceToNat, Int.reduceLT, Int.reduceLE, Int.reduceEq, Int.reduceNe, Int.reduceAdd, Int.reduceSub, Int.reduceMul, Int.reduceNeg]
  intro b0
  refine cK_vn sanity_ok ?_
  simp only [go_sem, reduceIte, Nat.reduceEqDiff, Nat.reduceAdd, Nat.reduceSub, Nat.reduceMul, Nat.reduceLT, Nat.reduceLeDiff, Nat.reducePow, Int.reduceToNat, Int.reduceLT, Int.reduceLE, Int.reduceEq, Int.reduceNe, Int.reduceAdd, Int.reduceSub, Int.reduceMul, Int.reduceNeg]
  refine cK_vn (wU_vn _ b n (by omega) h1) ?_
  simp only [go_sem, reduceIte, Nat.reduceEqDiff, Nat.reduceAdd, Nat.reduceSub, Nat.reduceMul, Nat.reduceLT, Nat.reduceLeDiff, Nat.reducePow, Int.reduceToNat, Int.reduceLT, Int.reduceLE, Int.reduceEq, Int.reduceNe, Int.reduceAdd, Int.reduceSub, Int.reduceMul, Int.reduceNeg]
  refine cK_vn (Join_vn _ _ (b ++ enc n) c (by simp; omega)) ?_
  simp only [go_sem, reduceIte, Nat.reduceEqDiff, Nat.reduceAdd, Nat.reduceSub, Nat.reduceMul, Nat.reduceLT, Nat.reduceLeDiff, Nat.reducePow, Int.reduceToNat, Int.reduceLT, Int.reduceLE, Int.reduceEq, Int.reduceNe, Int.reduceAdd, Int.reduceSub, Int.reduceMul, Int.reduceNeg]
  refine cK_vn (RUe b c n h1 hB hC) ?_
  simp only [go_sem, reduceIte, Nat.reduceEqDiff, Nat.reduceAdd, Nat.reduceSub, Nat.reduceMul, Nat.reduceLT, Nat.reduceLeDiff, Nat.reducePow, Int.reduceToNat, Int.reduceLT, Int.reduceLE, Int.reduceEq, Int.reduceNe, Int.reduceAdd, Int.reduceSub, Int.reduceMul, Int.reduceNeg]
  refine cK_vn (wS_vn _ b k h2 (by omega)) ?_
  simp only [go_sem, reduceIte, Nat.reduceEqDiff, Nat.reduceAdd, Nat.reduceSub, Nat.reduceMul, Nat.reduceLT, Nat.reduceLeDiff, Nat.reducePow, Int.reduceToNat, Int.reduceLT, Int.reduceLE, Int.reduceEq, Int.reduceNe, Int.reduceAdd, Int.reduceSub, Int.reduceMul, Int.reduceNeg]
  refine cK_vn (Join_vn _ _ (b ++ enc (zig k)) c (by simp; omega)) ?_
  simp only [go_sem, reduceIte, Nat.reduceEqDiff, Nat.reduceAdd, Nat.reduceSub, Nat.reduceMul, Nat.reduceLT, Nat.reduceLeDiff, Nat.reducePow, Int.reduceToNat, Int.reduceLT, Int.reduceLE, Int.reduceEq, Int.reduceNe, Int.reduceAdd, Int.reduceSub, Int.reduceMul, Int.reduceNeg]
  refine cK_vn (RSe b c k h2 hB hC) ?_
  simp only [go_sem, reduceIte, Nat.reduceEqDiff, Nat.reduceAdd, Nat.reduceSub, Nat.reduceMul, Nat.reduceLT, Nat.reduceLeDiff, Nat.reducePow, Int.reduceToNat, Int.reduceLT, Int.reduceLE, Int.reduceEq, Int.reduceNe, Int.reduceAdd, Int.reduceSub, Int.reduceMul, Int.reduceNeg]
  refine cd_dec (fun h => absurd h (by simp)) (fun _ => ?_)
  simp only [go_sem, reduceIte, Nat.reduceEqDiff, Nat.reduceAdd, Nat.reduceSub, Nat.reduceMul, Nat.reduceLT, Nat.reduceLeDiff, Nat.reducePow, Int.reduceToNat, Int.reduceLT, Int.reduceLE, Int.reduceEq, Int.reduceNe, Int.reduceAdd, Int.reduceSub, Int.reduceMul, Int.reduceNeg]
  refine cK_vn (wText_vn _ b s (by omega)) ?_
  simp only [go_sem, reduceIte, Nat.reduceEqDiff, Nat.reduceAdd, Nat.reduceSub, Nat.reduceMul, Nat.reduceLT, Nat.reduceLeDiff, Nat.reducePow, Int.reduceToNat, Int.reduceLT, Int.reduceLE, Int.reduceEq, Int.reduceNe, Int.reduceAdd, Int.reduceSub, Int.reduceMul, Int.reduceNeg]
  refine cK_vn (Join_vn _ _ (b ++ enc s.size ++ sb s) c (by simp; omega)) ?_
  simp only [go_sem, reduceIte, Nat.reduceEqDiff, Nat.reduceAdd, Nat.reduceSub, Nat.reduceMul, Nat.reduceLT, Nat.reduceLeDiff, Nat.reducePow, Int.reduceToNat, Int.reduceLT, Int.reduceLE, Int.reduceEq, Int.reduceNe, Int.reduceAdd, Int.reduceSub, Int.reduceMul, Int.reduceNeg]
  refine cK_vn (RTe b c s h3 hB hC) ?_
  simp only [go_sem, reduceIte, Nat.reduceEqDiff, Nat.reduceAdd, Nat.reduceSub, Nat.reduceMul, Nat.reduceLT, Nat.reduceLeDiff, Nat.reducePow, Int.reduceToNat, Int.reduceLT, Int.reduceLE, Int.reduceEq, Int.reduceNe, Int.reduceAdd, Int.reduceSub, Int.reduceMul, Int.reduceNeg]
  refine cd_dec (fun h => absurd h (by omega)) (fun _ => ?_)
  simp only [go_sem, reduceIte, Nat.reduceEqDiff, Nat.reduceAdd, Nat.reduceSub, Nat.reduceMul, Nat.reduceLT, Nat.reduceLeDiff, Nat.reducePow, Int.reduceToNat, Int.reduceLT, Int.reduceLE, Int.reduceEq, Int.reduceNe, Int.reduceAdd, Int.reduceSub, Int.reduceMul, Int.reduceNeg]
  refine cK_vn (wBytes_vn _ _ b p (by omega)) ?_
  simp only [go_sem, reduceIte, Nat.reduceEqDiff, Nat.reduceAdd, Nat.reduceSub, Nat.reduceMul, Nat.reduceLT, Nat.reduceLeDiff, Nat.reducePow, Int.reduceToNat, Int.reduceLT, Int.reduceLE, Int.reduceEq, Int.reduceNe, Int.reduceAdd, Int.reduceSub, Int.reduceMul, Int.reduceNeg]
  refine cK_vn (Join_vn _ _ (b ++ enc p.length ++ p) c (by simp; omega)) ?_
  simp only [go_sem, reduceIte, Nat.reduceEqDiff, Nat.reduceAdd, Nat.reduceSub, Nat.reduceMul, Nat.reduceLT, Nat.reduceLeDiff, Nat.reducePow, Int.reduceToNat, Int.reduceLT, Int.reduceLE, Int.reduceEq, Int.reduceNe, Int.reduceAdd, Int.reduceSub, Int.reduceMul, Int.reduceNeg]
  refine cK_vn (RBe b p c h4 hB h5 hC (by simp; omega)) ?_
  simp only [go_sem, reduceIte, Nat.reduceEqDiff, Nat.reduceAdd, Nat.reduceSub, Nat.reduceMul, Nat.reduceLT, Nat.reduceLeDiff, Nat.reducePow, Int.reduceToNat, Int.reduceLT, Int.reduceLE, Int.reduceEq, Int.reduceNe, Int.reduceAdd, Int.reduceSub, Int.reduceMul, Int.reduceNeg]
  refine cd_dec (fun h => absurd h (by omega)) (fun _ => ?_)
  simp only [go_sem, reduceIte, Nat.reduceEqDiff, Nat.reduceAdd, Nat.reduceSub, Nat.reduceMul, Nat.reduceLT, Nat.reduceLeDiff, Nat.reducePow, Int.reduceToNat, Int.reduceLT, Int.reduceLE, Int.reduceEq, Int.reduceNe, Int.reduceAdd, Int.reduceSub, Int.reduceMul, Int.reduceNeg]
  refine cK_vn (SMr _ _ _) ?_
  simp only [go_sem, reduceIte, Nat.reduceEqDiff, Nat.reduceAdd, Nat.reduceSub, Nat.reduceMul, Nat.reduceLT, Nat.reduceLeDiff, Nat.reducePow, Int.reduceToNat, Int.reduceLT, Int.reduceLE, Int.reduceEq, Int.reduceNe, Int.reduceAdd, Int.reduceSub, Int.reduceMul, Int.reduceNeg]
  exact finK_drop ⟨rfl, rfl, rfl⟩
end Go.Proofs.YtdemkhcloholiaaS
