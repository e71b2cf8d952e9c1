import Derived.Test.YtdemkhcloholiaaA9
set_option linter.unusedVariables false
set_option linter.unusedSimpArgs false
namespace Go.Proofs.YtdemkhcloholiaaS
open Go Go.Proofs.YtdemkhcloholiaaV

variable {G : Heap}

theorem byt_all {l : List Nat} (h : l.all (· < 256) = true) : Byt l := fun c hc => of_decide_eq_true (List.all_eq_true.1 h c hc)
theorem RU (tk : Tk) (l : List Nat) (a v n e : Int) (h : readU l a = (v.toNat, n.toNat, e.toNat)) (hp : 0 ≤ v ∧ 0 ≤ n ∧ 0 ≤ e) (hb : l.all (· < 256) = true) : VN P G 21 [.sl tk (bs l), .int .i64 a] (.tup [.int .u64 v, .int .i64 n, .int .i64 e]) := by
  have := ReadU_ok (G := G) tk l a (byt_all hb)
  rw [h] at this
  simp only [tri, Int.toNat_of_nonneg hp.1, Int.toNat_of_nonneg hp.2.1, Int.toNat_of_nonneg hp.2.2] at this
  exact this
theorem RS (tk : Tk) (l : List Nat) (a v n e k : Int) (h : readU l a = (v.toNat, n.toNat, e.toNat)) (hk : unzig v.toNat = k) (hp : 0 ≤ n ∧ 0 ≤ e) (hb : l.all (· < 256) = true) : VN P G 23 [.sl tk (bs l), .int .i64 a] (.tup [.int .i64 k, .int .i64 n, .int .i64 e]) := by
  have := ReadS_ok (G := G) tk l a (byt_all hb)
  rw [h] at this
  simp only [triS, hk, Int.toNat_of_nonneg hp.1, Int.toNat_of_nonneg hp.2] at this
  exact this
theorem RT (tk : Tk) (l : List Nat) (a f n e : Int) (s : ByteArray) (h : spanF l a = (f.toNat, n.toNat, e.toNat)) (hs : strN ((l.drop f.toNat).take (n.toNat - f.toNat)) = s) (hp : 0 ≤ n ∧ 0 ≤ e) (hb : l.all (· < 256) = true) : VN P G 25 [.sl tk (bs l), .int .i64 a] (.tup [.str s, .int .i64 n, .int .i64 e]) := by
  have := ReadText_ok (G := G) tk l a (byt_all hb)
  rw [h] at this
  simp only [triT, hs, Int.toNat_of_nonneg hp.1, Int.toNat_of_nonneg hp.2] at this
  exact this
theorem RB (tk : Tk) (l : List Nat) (a f n e : Int) (m : List Nat) (h : spanF l a = (f.toNat, n.toNat, e.toNat)) (hs : ((l.drop f.toNat).take (n.toNat - f.toNat)) = m) (hp : 0 ≤ n ∧ 0 ≤ e) (hb : l.all (· < 256) = true) (hl : l.length ≤ 2^45) : VN P G 27 [.sl tk (bs l), .int .i64 a] (.tup [.sl .none (bs m), .int .i64 n, .int .i64 e]) := by
  have := ReadBytes_vn (G := G) tk l a (byt_all hb) hl
  rw [h] at this
  simp only [triB0, hs, Int.toNat_of_nonneg hp.1, Int.toNat_of_nonneg hp.2] at this
  exact this

theorem SM (t1 t2 : Tk) (x y : List Nat) (h : x = y) : VN P G 12 [.sl t1 (bs x), .sl t2 (bs y)] (.bool true) := by
  have := same_ok (G := G) t1 t2 x y
  rw [decide_eq_true h] at this
  exact this
theorem U_vn (tk : Tk) (b : List Nat) (n : Nat) (hb : b.length ≤ 2^45) (he : (enc n).length ≤ 2^45) : VN P G 13 [.sl tk (bs b), .int .u64 n] (.sl .none (bs (b ++ enc n))) := (U_ok tk b n hb he).vn fun t => rfl
theorem S_vn (tk : Tk) (b : List Nat) (k : Int) (hk : -9223372036854775808 ≤ k ∧ k < 9223372036854775808) (hb : b.length ≤ 2^45) (he : (enc (zig k)).length ≤ 2^45) : VN P G 15 [.sl tk (bs b), .int .i64 k] (.sl .none (bs (b ++ enc (zig k)))) := (S_ok tk b k hk hb he).vn fun t => rfl
theorem Text_vn (tk : Tk) (b : List Nat) (s : ByteArray) (hb : b.length + s.size ≤ 2^45) (he : (enc s.size).length ≤ 2^44) : VN P G 17 [.sl tk (bs b), .str s] (.sl .none (bs (b ++ enc s.size ++ sb s))) := (Text_ok tk b s hb he).vn fun t => rfl
theorem Bytes_vn (tk tk2 : Tk) (b p : List Nat) (hb : b.length + p.length ≤ 2^45) (he : (enc p.length).length ≤ 2^44) : VN P G 19 [.sl tk (bs b), .sl tk2 (bs p)] (.sl .none (bs (b ++ enc p.length ++ p))) := (Bytes_ok tk tk2 b p hb he).vn fun t => rfl

theorem enc_len_pow : ∀ (k n : Nat), n < 128 ^ (k + 1) → (enc n).length ≤ k + 1
  | 0, n, h => by rw [enc_small (by simpa using h)]; simp
  | k + 1, n, h => by
    by_cases hn : n < 128
    · rw [enc_small hn]; simp
    · rw [enc_big (by omega)]
      have := enc_len_pow k (n / 128) (by rw [Nat.pow_succ] at h; omega)
      simp only [List.length_cons]
      omega
theorem enc_len {n : Nat} (h : n < 18446744073709551616) : (enc n).length ≤ 10 := enc_len_pow 9 n (by omega)
theorem U_vn' (tk : Tk) (b : List Nat) (n : Nat) (r : List Nat) (hb : b.length ≤ 2^45) (hn : n < 18446744073709551616) (he : b ++ enc n = r) : VN P G 13 [.sl tk (bs b), .int .u64 n] (.sl .none (bs r)) := by
  have := U_vn (G := G) tk b n hb (by have := enc_len hn; omega)
  rw [he] at this
  exact this
theorem S_vn' (tk : Tk) (b : List Nat) (k : Int) (r : List Nat) (hk : -9223372036854775808 ≤ k ∧ k < 9223372036854775808) (hb : b.length ≤ 2^45) (he : b ++ enc (zig k) = r) : VN P G 15 [.sl tk (bs b), .int .i64 k] (.sl .none (bs r)) := by
  have hz : zig k < 18446744073709551616 := by unfold zig; split <;> omega
  have := S_vn (G := G) tk b k hk hb (by have := enc_len hz; omega)
  rw [he] at this
  exact this
theorem Text_vn' (tk : Tk) (b : List Nat) (s : ByteArray) (r : List Nat) (hb : b.length + s.size ≤ 2^45) (he : b ++ enc s.size ++ sb s = r) : VN P G 17 [.sl tk (bs b), .str s] (.sl .none (bs r)) := by
  have := Text_vn (G := G) tk b s hb (by have := enc_len (n := s.size) (by omega); omega)
  rw [he] at this
  exact this
theorem Bytes_vn' (tk tk2 : Tk) (b p r : List Nat) (hb : b.length + p.length ≤ 2^45) (he : b ++ enc p.length ++ p = r) : VN P G 19 [.sl tk (bs b), .sl tk2 (bs p)] (.sl .none (bs r)) := by
  have := Bytes_vn (G := G) tk tk2 b p hb (by have := enc_len (n := p.length) (by omega); omega)
  rw [he] at this
  exact this
theorem enc_2 {n : Nat} (h : 128 ≤ n) (h' : n / 128 < 128) : enc n = [n % 128 + 128, n / 128] := by rw [enc_big h, enc_small h']

set_option maxHeartbeats 4000000 in
set_option maxRecDepth 100000 in
theorem sanity_ok : VN P G 11 [] (.bool true) := by
  refine VC.ofs (fun | 99999999 => [(0, [0, 1, 2, 3, 4, 5, 6, 9, 12, 15, 16, 17, 18, 21, 22, 23, 24, 27, 28, 30])] | _ => []) [0] mixed Try.func11 rfl rfl rfl rfl (by decide +kernel) (by simp) ?_
  simp only [go_sem, reduceIte, Nat.reduceEqDiff, Nat.reduceAdd, Nat.reduceSub, Nat.reduceMul, Nat.reduceLT, Nat.reduceLeDiff, Nat.reducePow, Int.reduceToNat, Int.reduceLT, Int.reduceLE, Int.reduceEq, Int.reduceNe, Int.reduceAdd, Int.reduceSub, Int.reduceMul, Int.reduceNeg]
  refine cK_vn (RU .full [7, 172, 2, 9] 1 300 3 0 (by decide) (by decide) (by decide)) ?_
  simp only [go_sem, reduceIte, Nat.reduceEqDiff, Nat.reduceAdd, Nat.reduceSub, Nat.reduceMul, Nat.reduceLT, Nat.reduceLeDiff, Nat.reducePow, Int.reduceToNat, Int.reduceLT, Int.reduceLE, Int.reduceEq, Int.reduceNe, Int.reduceAdd, Int.reduceSub, Int.reduceMul, Int.reduceNeg]
  refine cK_vn (RU .full [128, 0] 0 0 0 5 (by decide) (by decide) (by decide)) ?_
  simp only [go_sem, reduceIte, Nat.reduceEqDiff, Nat.reduceAdd, Nat.reduceSub, Nat.reduceMul, Nat.reduceLT, Nat.reduceLeDiff, Nat.reducePow, Int.reduceToNat, Int.reduceLT, Int.reduceLE, Int.reduceEq, Int.reduceNe, Int.reduceAdd, Int.reduceSub, Int.reduceMul, Int.reduceNeg]
  refine cK_vn (RU .full [128] 0 0 0 6 (by decide) (by decide) (by decide)) ?_
  simp only [go_sem, reduceIte, Nat.reduceEqDiff, Nat.reduceAdd, Nat.reduceSub, Nat.reduceMul, Nat.reduceLT, Nat.reduceLeDiff, Nat.reducePow, Int.reduceToNat, Int.reduceLT, Int.reduceLE, Int.reduceEq, Int.reduceNe, Int.reduceAdd, Int.reduceSub, Int.reduceMul, Int.reduceNeg]
  refine cK_vn (RU .full [1] 2 0 0 1 (by decide) (by decide) (by decide)) ?_
  simp only [go_sem, reduceIte, Nat.reduceEqDiff, Nat.reduceAdd, Nat.reduceSub, Nat.reduceMul, Nat.reduceLT, Nat.reduceLeDiff, Nat.reducePow, Int.reduceToNat, Int.reduceLT, Int.reduceLE, Int.reduceEq, Int.reduceNe, Int.reduceAdd, Int.reduceSub, Int.reduceMul, Int.reduceNeg]
  refine cK_vn (RB .full [129, 128, 64] 0 0 0 2 [] (by decide) (by decide) (by decide) (by decide) (by decide)) ?_
  simp only [go_sem, reduceIte, Nat.reduceEqDiff, Nat.reduceAdd, Nat.reduceSub, Nat.reduceMul, Nat.reduceLT, Nat.reduceLeDiff, Nat.reducePow, Int.reduceToNat, Int.reduceLT, Int.reduceLE, Int.reduceEq, Int.reduceNe, Int.reduceAdd, Int.reduceSub, Int.reduceMul, Int.reduceNeg]
  refine cK_vn (RT .full [2, 97, 98] 0 1 3 0 ⟨#[97, 98]⟩ (by decide) (by decide +kernel) (by decide) (by decide)) ?_
  simp only [go_sem, reduceIte, Nat.reduceEqDiff, Nat.reduceAdd, Nat.reduceSub, Nat.reduceMul, Nat.reduceLT, Nat.reduceLeDiff, Nat.reducePow, Int.reduceToNat, Int.reduceLT, Int.reduceLE, Int.reduceEq, Int.reduceNe, Int.reduceAdd, Int.reduceSub, Int.reduceMul, Int.reduceNeg]
  refine cK_vn (RT .full [2, 97] 0 0 0 6 ⟨#[]⟩ (by decide) (by decide +kernel) (by decide) (by decide)) ?_
  simp only [go_sem, reduceIte, Nat.reduceEqDiff, Nat.reduceAdd, Nat.reduceSub, Nat.reduceMul, Nat.reduceLT, Nat.reduceLeDiff, Nat.reducePow, Int.reduceToNat, Int.reduceLT, Int.reduceLE, Int.reduceEq, Int.reduceNe, Int.reduceAdd, Int.reduceSub, Int.reduceMul, Int.reduceNeg]
  refine cK_vn (RU .full [255, 255, 255, 255, 255, 255, 255, 255, 255, 1] 0 18446744073709551615 10 0 (by decide) (by decide) (by decide)) ?_
  simp only [go_sem, reduceIte, Nat.reduceEqDiff, Nat.reduceAdd, Nat.reduceSub, Nat.reduceMul, Nat.reduceLT, Nat.reduceLeDiff, Nat.reducePow, Int.reduceToNat, Int.reduceLT, Int.reduceLE, Int.reduceEq, Int.reduceNe, Int.reduceAdd, Int.reduceSub, Int.reduceMul, Int.reduceNeg]
  refine cK_vn (RU .full [255, 255, 255, 255, 255, 255, 255, 255, 255, 2] 0 0 0 5 (by decide) (by decide) (by decide)) ?_
  simp only [go_sem, reduceIte, Nat.reduceEqDiff, Nat.reduceAdd, Nat.reduceSub, Nat.reduceMul, Nat.reduceLT, Nat.reduceLeDiff, Nat.reducePow, Int.reduceToNat, Int.reduceLT, Int.reduceLE, Int.reduceEq, Int.reduceNe, Int.reduceAdd, Int.reduceSub, Int.reduceMul, Int.reduceNeg]
  refine cK_vn (RS .full [255, 255, 255, 255, 255, 255, 255, 255, 255, 1] 0 18446744073709551615 10 0 (-9223372036854775808) (by decide) (by decide) (by decide) (by decide)) ?_
  simp only [go_sem, reduceIte, Nat.reduceEqDiff, Nat.reduceAdd, Nat.reduceSub, Nat.reduceMul, Nat.reduceLT, Nat.reduceLeDiff, Nat.reducePow, Int.reduceToNat, Int.reduceLT, Int.reduceLE, Int.reduceEq, Int.reduceNe, Int.reduceAdd, Int.reduceSub, Int.reduceMul, Int.reduceNeg]
  refine cK_vn (U_vn' .full [] 300 [172, 2] (by decide) (by decide) (enc_2 (by decide) (by decide))) ?_
  simp only [go_sem, reduceIte, Nat.reduceEqDiff, Nat.reduceAdd, Nat.reduceSub, Nat.reduceMul, Nat.reduceLT, Nat.reduceLeDiff, Nat.reducePow, Int.reduceToNat, Int.reduceLT, Int.reduceLE, Int.reduceEq, Int.reduceNe, Int.reduceAdd, Int.reduceSub, Int.reduceMul, Int.reduceNeg]
  refine cK_vn (SM _ _ [172, 2] [172, 2] rfl) ?_
  simp only [go_sem, reduceIte, Nat.reduceEqDiff, Nat.reduceAdd, Nat.reduceSub, Nat.reduceMul, Nat.reduceLT, Nat.reduceLeDiff, Nat.reducePow, Int.reduceToNat, Int.reduceLT, Int.reduceLE, Int.reduceEq, Int.reduceNe, Int.reduceAdd, Int.reduceSub, Int.reduceMul, Int.reduceNeg]
  refine cK_vn (S_vn' .full [] (-1) [1] (by decide) (by decide) (enc_small (by decide))) ?_
  simp only [go_sem, reduceIte, Nat.reduceEqDiff, Nat.reduceAdd, Nat.reduceSub, Nat.reduceMul, Nat.reduceLT, Nat.reduceLeDiff, Nat.reducePow, Int.reduceToNat, Int.reduceLT, Int.reduceLE, Int.reduceEq, Int.reduceNe, Int.reduceAdd, Int.reduceSub, Int.reduceMul, Int.reduceNeg]
  refine cK_vn (SM _ _ [1] [1] rfl) ?_
  simp only [go_sem, reduceIte, Nat.reduceEqDiff, Nat.reduceAdd, Nat.reduceSub, Nat.reduceMul, Nat.reduceLT, Nat.reduceLeDiff, Nat.reducePow, Int.reduceToNat, Int.reduceLT, Int.reduceLE, Int.reduceEq, Int.reduceNe, Int.reduceAdd, Int.reduceSub, Int.reduceMul, Int.reduceNeg]
  refine cK_vn (S_vn' .full [] 64 [128, 1] (by decide) (by decide) (enc_2 (by decide) (by decide))) ?_
  simp only [go_sem, reduceIte, Nat.reduceEqDiff, Nat.reduceAdd, Nat.reduceSub, Nat.reduceMul, Nat.reduceLT, Nat.reduceLeDiff, Nat.reducePow, Int.reduceToNat, Int.reduceLT, Int.reduceLE, Int.reduceEq, Int.reduceNe, Int.reduceAdd, Int.reduceSub, Int.reduceMul, Int.reduceNeg]
  refine cK_vn (SM _ _ [128, 1] [128, 1] rfl) ?_
  simp only [go_sem, reduceIte, Nat.reduceEqDiff, Nat.reduceAdd, Nat.reduceSub, Nat.reduceMul, Nat.reduceLT, Nat.reduceLeDiff, Nat.reducePow, Int.reduceToNat, Int.reduceLT, Int.reduceLE, Int.reduceEq, Int.reduceNe, Int.reduceAdd, Int.reduceSub, Int.reduceMul, Int.reduceNeg]
  refine cK_vn (Text_vn' .full [] ⟨#[97, 98]⟩ [2, 97, 98] (by decide) (by rw [enc_small (by decide)]; decide)) ?_
  simp only [go_sem, reduceIte, Nat.reduceEqDiff, Nat.reduceAdd, Nat.reduceSub, Nat.reduceMul, Nat.reduceLT, Nat.reduceLeDiff, Nat.reducePow, Int.reduceToNat, Int.reduceLT, Int.reduceLE, Int.reduceEq, Int.reduceNe, Int.reduceAdd, Int.reduceSub, Int.reduceMul, Int.reduceNeg]
  refine cK_vn (SM _ _ [2, 97, 98] [2, 97, 98] rfl) ?_
  simp only [go_sem, reduceIte, Nat.reduceEqDiff, Nat.reduceAdd, Nat.reduceSub, Nat.reduceMul, Nat.reduceLT, Nat.reduceLeDiff, Nat.reducePow, Int.reduceToNat, Int.reduceLT, Int.reduceLE, Int.reduceEq, Int.reduceNe, Int.reduceAdd, Int.reduceSub, Int.reduceMul, Int.reduceNeg]
  refine cK_vn (Bytes_vn' .full .full [5] [] [5, 0] (by decide) (by rw [enc_small (by decide)]; decide)) ?_
  simp only [go_sem, reduceIte, Nat.reduceEqDiff, Nat.reduceAdd, Nat.reduceSub, Nat.reduceMul, Nat.reduceLT, Nat.reduceLeDiff, Nat.reducePow, Int.reduceToNat, Int.reduceLT, Int.reduceLE, Int.reduceEq, Int.reduceNe, Int.reduceAdd, Int.reduceSub, Int.reduceMul, Int.reduceNeg]
  refine cK_vn (SM _ _ [5, 0] [5, 0] rfl) ?_
  simp only [go_sem, reduceIte, Nat.reduceEqDiff, Nat.reduceAdd, Nat.reduceSub, Nat.reduceMul, Nat.reduceLT, Nat.reduceLeDiff, Nat.reducePow, Int.reduceToNat, Int.reduceLT, Int.reduceLE, Int.reduceEq, Int.reduceNe, Int.reduceAdd, Int.reduceSub, Int.reduceMul, Int.reduceNeg]
  exact finK_exact ⟨rfl, rfl, rfl⟩
end Go.Proofs.YtdemkhcloholiaaS
