import Derived.Test.YtdemkhcloholiaaA14
set_option linter.unusedVariables false
set_option linter.unusedSimpArgs false
namespace Go.Proofs.YtdemkhcloholiaaS
open Go Go.Proofs.YtdemkhcloholiaaV

variable {G : Heap}

theorem rd_short (k : Nat) : ∀ (m i acc j : Nat), j < (enc m).length → i + j ≤ 9 → rd k ((enc m).take j) i acc = (0, 0, 6) := fun m => by
  induction m using Nat.strongRecOn with
  | _ m ih =>
    intro i acc j hj hi
    cases j with
    | zero => simp [rd]
    | succ j =>
      by_cases h : m < 128
      · rw [enc_small h] at hj; simp at hj
      · rw [enc_big (by omega)] at hj ⊢
        simp only [List.length_cons] at hj
        have h1 : 128 ≤ m % 128 + 128 ∧ i ≠ 9 := by omega
        simp only [List.take_succ_cons, rd, if_pos h1]
        exact ih (m / 128) (by omega) (i + 1) _ j (by omega) (by omega)

theorem readU_short {n j : Nat} (hn : n < 18446744073709551616) (hj : j < (enc n).length) : readU ((enc n).take j) 0 = (0, 0, 6) := by
  unfold readU
  rw [if_neg (by omega)]
  have := enc_len hn
  exact rd_short _ n 0 0 j hj (by omega)

theorem spanF_short {p : List Nat} {j : Nat} (hp : p.length ≤ 1048576) (hj : j < (enc p.length ++ p).length) : spanF ((enc p.length ++ p).take j) 0 = (0, 0, 6) := by
  simp only [List.length_append] at hj
  unfold spanF
  by_cases h : j < (enc p.length).length
  · rw [List.take_append_of_le_length (by omega), readU_short (by omega) h]
    rfl
  · have e : (enc p.length ++ p).take j = [] ++ enc p.length ++ p.take (j - (enc p.length).length) := by
      rw [List.take_append, List.take_of_length_le (by omega)]
      rfl
    have := readU_enc [] (p.take (j - (enc p.length).length)) p.length (by omega)
    rw [e]
    have e0 : (([] : List Nat).length : Int) = 0 := rfl
    rw [e0] at this
    simp only [this]
    rw [if_neg (by simp), if_neg (by omega), if_pos (by simp; omega)]

/-- A proper beginning is too short. -/
theorem pU (n j : Nat) (tk : Tk) (hn : n < 18446744073709551616) (hj : j < (enc n).length) : VN P G 21 [.sl tk (bs ((enc n).take j)), .int .i64 0] (.tup [.int .u64 0, .int .i64 0, .int .i64 6]) := by
  have := ReadU_ok (G := G) tk ((enc n).take j) 0 ((byt_enc n).take j)
  rw [readU_short hn hj] at this
  exact this
theorem pS (n j : Nat) (tk : Tk) (hn : n < 18446744073709551616) (hj : j < (enc n).length) : VN P G 23 [.sl tk (bs ((enc n).take j)), .int .i64 0] (.tup [.int .i64 0, .int .i64 0, .int .i64 6]) := by
  have := ReadS_ok (G := G) tk ((enc n).take j) 0 ((byt_enc n).take j)
  rw [readU_short hn hj] at this
  exact this
theorem pT (s : ByteArray) (j : Nat) (tk : Tk) (hs : s.size ≤ 1048576) (hj : j < (enc s.size ++ sb s).length) : VN P G 25 [.sl tk (bs ((enc s.size ++ sb s).take j)), .int .i64 0] (.tup [.str ⟨#[]⟩, .int .i64 0, .int .i64 6]) := by
  have := ReadText_ok (G := G) tk ((enc s.size ++ sb s).take j) 0 (((byt_enc _).append (byt_sb s)).take j)
  have h := spanF_short (p := sb s) (j := j) (by rw [sb_length]; exact hs) (by rw [sb_length]; exact hj)
  rw [sb_length] at h
  rw [h] at this
  exact this
theorem pB (p : List Nat) (j : Nat) (tk : Tk) (hp : p.length ≤ 1048576) (hb : Byt p) (hj : j < (enc p.length ++ p).length) : VN P G 27 [.sl tk (bs ((enc p.length ++ p).take j)), .int .i64 0] (.tup [.sl .none (bs []), .int .i64 0, .int .i64 6]) := by
  have := ReadBytes_vn (G := G) tk ((enc p.length ++ p).take j) 0 (((byt_enc _).append hb).take j) (by have := enc_len (n := p.length) (by omega); simp; omega)
  rw [spanF_short hp hj] at this
  exact this

theorem cut_facts (a : Int) (L : Nat) (h0 : 0 < L) (h1 : L < 2^62) : ((L : Int) % 18446744073709551616 ≠ 0) ∧ (0 ≤ (a % 18446744073709551616).tmod ((L : Int) % 18446744073709551616) ∧ (a % 18446744073709551616).tmod ((L : Int) % 18446744073709551616) ≤ L) ∧ ((a % 18446744073709551616).tmod ((L : Int) % 18446744073709551616)).toNat < L := by
  have e : (L : Int) % 18446744073709551616 = L := by omega
  rw [e, Int.tmod_eq_emod_of_nonneg (by omega)]
  have h2 := Int.emod_nonneg (a % 18446744073709551616) (b := (L : Int)) (by omega)
  have h3 := Int.emod_lt_of_pos (a % 18446744073709551616) (b := (L : Int)) (by omega)
  omega

set_option maxHeartbeats 4000000 in
set_option maxRecDepth 100000 in
theorem prefix_ok (v : Val) (a : Int) (hv : v.ok) (ha : -9223372036854775808 ≤ a ∧ a < 9223372036854775808) : VN P G 8 [.agg v.cells, .int .i64 a] (.bool true) := by
  obtain ⟨n, k, s, p⟩ := v
  obtain ⟨h1, h2, h3, h4, h5⟩ := hv
  simp only [Val.cells] at h1 h2 h3 h4 h5 ⊢
  have l1 := enc_len h1
  have l2 := enc_len (zig_lt h2)
  have l3 := enc_len (n := s.size) (by omega)
  have l4 := enc_len (n := p.length) (by omega)
  have l5 := sb_length s
  refine VC.ofs (fun | 2 => [(0, []), (1, []), (3, []), (4, [2]), (6, []), (7, [2, 5]), (9, []), (10, [2, 5, 8]), (2, []), (5, []), (8, []), (11, []), (12, []), (13, [])] | 8 => [(0, []), (1, []), (2, []), (3, []), (4, []), (5, []), (6, []), (7, []), (8, []), (9, []), (10, []), (11, []), (12, []), (13, []), (14, [])] | 99999999 => [(0, [0, 1, 2, 4, 5, 6, 7, 8, 9, 10, 26, 34, 49, 56, 64, 72, 107])] | _ => []) [4] mixed Try.func8 rfl rfl rfl rfl (by decide +kernel) (by simp) ?_
  simp only [go_sem, reduceIte, Nat.reduceEqDiff, Nat.reduceAdd, Nat.reduceSub, Nat.reduceMul, Nat.reduceLT, Nat.reduceLeDiff, Nat.reducePow, Int.reduceToNat, Int.reduceLT, Int.reduceLE, Int.reduceEq, Int.reduceNe, Int.reduceAdd, Int.reduceSub, Int.reduceMul, Int.reduceNeg]
  intro b0
  refine cK_vn sanity_ok ?_
  simp only [go_sem, reduceIte, Nat.reduceEqDiff, Nat.reduceAdd, Nat.reduceSub, Nat.reduceMul, Nat.reduceLT, Nat.reduceLeDiff, Nat.reducePow, Int.reduceToNat, Int.reduceLT, Int.reduceLE, Int.reduceEq, Int.reduceNe, Int.reduceAdd, Int.reduceSub, Int.reduceMul, Int.reduceNeg]
  refine cE_vn (wU_vn _ [] n (by simp) h1) ?_
  simp only [go_sem, reduceIte, Nat.reduceEqDiff, Nat.reduceAdd, Nat.reduceSub, Nat.reduceMul, Nat.reduceLT, Nat.reduceLeDiff, Nat.reducePow, Int.reduceToNat, Int.reduceLT, Int.reduceLE, Int.reduceEq, Int.reduceNe, Int.reduceAdd, Int.reduceSub, Int.reduceMul, Int.reduceNeg]
  refine cE_vn (wS_vn _ [] k h2 (by simp)) ?_
  simp only [go_sem, reduceIte, Nat.reduceEqDiff, Nat.reduceAdd, Nat.reduceSub, Nat.reduceMul, Nat.reduceLT, Nat.reduceLeDiff, Nat.reducePow, Int.reduceToNat, Int.reduceLT, Int.reduceLE, Int.reduceEq, Int.reduceNe, Int.reduceAdd, Int.reduceSub, Int.reduceMul, Int.reduceNeg]
  refine cE_vn (wText_vn _ [] s (by simp; omega)) ?_
  simp only [go_sem, reduceIte, Nat.reduceEqDiff, Nat.reduceAdd, Nat.reduceSub, Nat.reduceMul, Nat.reduceLT, Nat.reduceLeDiff, Nat.reducePow, Int.reduceToNat, Int.reduceLT, Int.reduceLE, Int.reduceEq, Int.reduceNe, Int.reduceAdd, Int.reduceSub, Int.reduceMul, Int.reduceNeg]
  refine cE_vn (wBytes_vn _ _ [] p (by simp; omega)) ?_
  simp only [go_sem, reduceIte, Nat.reduceEqDiff, Nat.reduceAdd, Nat.reduceSub, Nat.reduceMul, Nat.reduceLT, Nat.reduceLeDiff, Nat.reducePow, Int.reduceToNat, Int.reduceLT, Int.reduceLE, Int.reduceEq, Int.reduceNe, Int.reduceAdd, Int.reduceSub, Int.reduceMul, Int.reduceNeg]
  refine vwq_loop (fun u => ∃ j : Nat, j ≤ 4 ∧ u.σ 1 = .int .i64 a ∧ u.σ 2 = .pb b0 0 ∧ u.σ 5 = .bool true ∧ u.σ 6 = .sl .full [.sl .none (bs (enc n)), .sl .none (bs (enc (zig k))), .sl .none (bs (enc s.size ++ sb s)), .sl .none (bs (enc p.length ++ p))] ∧ u.σ 7 = .int .i64 j ∧ u.β = Heap.nil.set b0 [.int .u64 n, .int .i64 k, .str s, .sl .none (bs p)] ∧ u.ω = []) (fun u => 4 - (ival (u.σ 7)).toNat) ⟨0, by omega, rfl, rfl, rfl, rfl, rfl, rfl, rfl⟩ ?_
  rintro σ β ω ⟨j, hj, q1, q2, q5, q6, q7, rfl, rfl⟩
  dsimp only at q1 q2 q5 q6 q7
  obtain rfl | rfl | rfl | rfl | rfl : j = 0 ∨ j = 1 ∨ j = 2 ∨ j = 3 ∨ j = 4 := by omega
  all_goals
    have g3 : ((1048576 : Int) < s.size) = False := by simp only [eq_iff_iff, iff_false]; omega
    have g4 : ((1048576 : Int) < p.length) = False := by simp only [eq_iff_iff, iff_false]; omega
  · have hp : 0 < (enc n).length := by exact enc_pos n
    have g1 : ((((enc n).length : Nat) : Int) = 0) = False := by simp only [eq_iff_iff, iff_false]; omega
    obtain ⟨c1, c2, c3⟩ := cut_facts a (enc n).length hp (by simp; omega)
    simp only [go_sem, reduceIte, Nat.reduceEqDiff, Nat.reduceAdd, Nat.reduceSub, Nat.reduceMul, Nat.reduceLT, Nat.reduceLeDiff, Nat.reducePow, Int.reduceToNat, Int.reduceLT, Int.reduceLE, Int.reduceEq, Int.reduceNe, Int.reduceAdd, Int.reduceSub, Int.reduceMul, Int.reduceNeg, q1, q2, q5, q6, q7, g1]
    refine ⟨c1, c2, cK_vn (pU n _ _ h1 c3) ?_⟩
    simp only [go_sem, reduceIte, Nat.reduceEqDiff, Nat.reduceAdd, Nat.reduceSub, Nat.reduceMul, Nat.reduceLT, Nat.reduceLeDiff, Nat.reducePow, Int.reduceToNat, Int.reduceLT, Int.reduceLE, Int.reduceEq, Int.reduceNe, Int.reduceAdd, Int.reduceSub, Int.reduceMul, Int.reduceNeg, q1, q2, q5, q6, q7, g1, g3, g4]
    exact ⟨1, by omega, rfl⟩
  · have hp : 0 < (enc (zig k)).length := by exact enc_pos _
    have g1 : ((((enc (zig k)).length : Nat) : Int) = 0) = False := by simp only [eq_iff_iff, iff_false]; omega
    obtain ⟨c1, c2, c3⟩ := cut_facts a (enc (zig k)).length hp (by simp; omega)
    simp only [go_sem, reduceIte, Nat.reduceEqDiff, Nat.reduceAdd, Nat.reduceSub, Nat.reduceMul, Nat.reduceLT, Nat.reduceLeDiff, Nat.reducePow, Int.reduceToNat, Int.reduceLT, Int.reduceLE, Int.reduceEq, Int.reduceNe, Int.reduceAdd, Int.reduceSub, Int.reduceMul, Int.reduceNeg, q1, q2, q5, q6, q7, g1]
    refine ⟨c1, c2, cK_vn (pS (zig k) _ _ (zig_lt h2) c3) ?_⟩
    simp only [go_sem, reduceIte, Nat.reduceEqDiff, Nat.reduceAdd, Nat.reduceSub, Nat.reduceMul, Nat.reduceLT, Nat.reduceLeDiff, Nat.reducePow, Int.reduceToNat, Int.reduceLT, Int.reduceLE, Int.reduceEq, Int.reduceNe, Int.reduceAdd, Int.reduceSub, Int.reduceMul, Int.reduceNeg, q1, q2, q5, q6, q7, g1, g3, g4]
    exact ⟨2, by omega, rfl⟩
  · have hp : 0 < (enc s.size ++ sb s).length := by have := enc_pos s.size; simp only [List.length_append]; omega
    have g1 : ((((enc s.size ++ sb s).length : Nat) : Int) = 0) = False := by simp only [eq_iff_iff, iff_false]; omega
    obtain ⟨c1, c2, c3⟩ := cut_facts a (enc s.size ++ sb s).length hp (by simp; omega)
    simp only [go_sem, reduceIte, Nat.reduceEqDiff, Nat.reduceAdd, Nat.reduceSub, Nat.reduceMul, Nat.reduceLT, Nat.reduceLeDiff, Nat.reducePow, Int.reduceToNat, Int.reduceLT, Int.reduceLE, Int.reduceEq, Int.reduceNe, Int.reduceAdd, Int.reduceSub, Int.reduceMul, Int.reduceNeg, q1, q2, q5, q6, q7, g1]
    refine ⟨c1, c2, cK_vn (pT s _ _ h3 c3) ?_⟩
    simp only [go_sem, reduceIte, Nat.reduceEqDiff, Nat.reduceAdd, Nat.reduceSub, Nat.reduceMul, Nat.reduceLT, Nat.reduceLeDiff, Nat.reducePow, Int.reduceToNat, Int.reduceLT, Int.reduceLE, Int.reduceEq, Int.reduceNe, Int.reduceAdd, Int.reduceSub, Int.reduceMul, Int.reduceNeg, q1, q2, q5, q6, q7, g1, g3, g4]
    exact ⟨3, by omega, rfl⟩
  · have hp : 0 < (enc p.length ++ p).length := by have := enc_pos p.length; simp only [List.length_append]; omega
    have g1 : ((((enc p.length ++ p).length : Nat) : Int) = 0) = False := by simp only [eq_iff_iff, iff_false]; omega
    obtain ⟨c1, c2, c3⟩ := cut_facts a (enc p.length ++ p).length hp (by simp; omega)
    simp only [go_sem, reduceIte, Nat.reduceEqDiff, Nat.reduceAdd, Nat.reduceSub, Nat.reduceMul, Nat.reduceLT, Nat.reduceLeDiff, Nat.reducePow, Int.reduceToNat, Int.reduceLT, Int.reduceLE, Int.reduceEq, Int.reduceNe, Int.reduceAdd, Int.reduceSub, Int.reduceMul, Int.reduceNeg, q1, q2, q5, q6, q7, g1]
    refine ⟨c1, c2, cK_vn (pB p _ _ h4 h5 c3) ?_⟩
    simp only [go_sem, reduceIte, Nat.reduceEqDiff, Nat.reduceAdd, Nat.reduceSub, Nat.reduceMul, Nat.reduceLT, Nat.reduceLeDiff, Nat.reducePow, Int.reduceToNat, Int.reduceLT, Int.reduceLE, Int.reduceEq, Int.reduceNe, Int.reduceAdd, Int.reduceSub, Int.reduceMul, Int.reduceNeg, q1, q2, q5, q6, q7, g1, g3, g4]
    exact ⟨4, by omega, rfl⟩
  · simp only [go_sem, reduceIte, Nat.reduceEqDiff, Nat.reduceAdd, Nat.reduceSub, Nat.reduceMul, Nat.reduceLT, Nat.reduceLeDiff, Nat.reducePow, Int.reduceToNat, Int.reduceLT, Int.reduceLE, Int.reduceEq, Int.reduceNe, Int.reduceAdd, Int.reduceSub, Int.reduceMul, Int.reduceNeg, q1, q2, q5, q6, q7]
    exact finK_drop ⟨rfl, rfl, rfl⟩
end Go.Proofs.YtdemkhcloholiaaS
