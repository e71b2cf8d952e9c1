import Derived.Test.YtdemkhcloholiaaA8
set_option linter.unusedVariables false
set_option linter.unusedSimpArgs false
namespace Go.Proofs.YtdemkhcloholiaaS
open Go Go.Proofs.YtdemkhcloholiaaV

variable {G : Heap}

theorem refReadS_ok (tk : Tk) (b : List Nat) (at_ : Int) (hb : Byt b) : VN P G 24 [.sl tk (bs b), .int .i64 at_] (triS (readU b at_)) := by
  have hU := refReadU_ok (G := G) tk b at_ hb
  have hv := (readU_spec b at_ hb).val
  generalize readU b at_ = r at hU hv ⊢
  obtain ⟨v, nx, er⟩ := r
  simp only [tri, triS] at hU hv ⊢
  refine VC.ofs (fun | 99999999 => [(0, [0, 1, 4, 5, 6, 7, 8, 9, 19])] | _ => []) [4, 5, 6] mixed Try.func24 rfl rfl rfl rfl (by decide +kernel) (by simp) ?_
  simp only [go_sem, reduceIte, Nat.reduceEqDiff, Nat.reduceAdd, Nat.reduceSub, Nat.reduceMul, Nat.reduceLT, Nat.reduceLeDiff, Nat.reducePow, Int.reduceToNat, Int.reduceLT, Int.reduceLE, Int.reduceEq, Int.reduceNe, Int.reduceAdd, Int.reduceSub, Int.reduceMul, Int.reduceNeg]
  refine cK_vn hU ?_
  simp only [go_sem, reduceIte, Nat.reduceEqDiff, Nat.reduceAdd, Nat.reduceSub, Nat.reduceMul, Nat.reduceLT, Nat.reduceLeDiff, Nat.reducePow, Int.reduceToNat, Int.reduceLT, Int.reduceLE, Int.reduceEq, Int.reduceNe, Int.reduceAdd, Int.reduceSub, Int.reduceMul, Int.reduceNeg]
  have e1 : (v : Int).tmod 2 = ((v % 2 : Nat) : Int) := by rw [Int.tmod_eq_emod_of_nonneg (by omega)]; omega
  have e2 : (v : Int).tdiv 2 = ((v / 2 : Nat) : Int) := by rw [Int.tdiv_eq_ediv_of_nonneg (by omega)]; omega
  have e3 : IntKind.i64.wrap ((v : Int).tdiv 2 % 18446744073709551616) = ((v / 2 : Nat) : Int) := by rw [e2, wrap_i64 (by omega) (by omega)]; omega
  refine cd_dec (fun h => ?_) (fun h => ?_)
  · simp only [go_sem, reduceIte, Nat.reduceEqDiff, Nat.reduceAdd, Nat.reduceSub, Nat.reduceMul, Nat.reduceLT, Nat.reduceLeDiff, Nat.reducePow, Int.reduceToNat, Int.reduceLT, Int.reduceLE, Int.reduceEq, Int.reduceNe, Int.reduceAdd, Int.reduceSub, Int.reduceMul, Int.reduceNeg]
    refine finK_exact ⟨?_, rfl, rfl⟩
    have e4 : IntKind.i64.wrap (IntKind.i64.wrap (0 - IntKind.i64.wrap ((v : Int).tdiv 2 % 18446744073709551616)) - 1) = unzig v := by
      rw [e3, wrap_i64 (x := 0 - ((v / 2 : Nat) : Int)) (by omega) (by omega), wrap_i64 (by omega) (by omega)]
      unfold unzig
      rw [if_neg (by omega)]
      omega
    rw [e4]
  · simp only [go_sem, reduceIte, Nat.reduceEqDiff, Nat.reduceAdd, Nat.reduceSub, Nat.reduceMul, Nat.reduceLT, Nat.reduceLeDiff, Nat.reducePow, Int.reduceToNat, Int.reduceLT, Int.reduceLE, Int.reduceEq, Int.reduceNe, Int.reduceAdd, Int.reduceSub, Int.reduceMul, Int.reduceNeg]
    refine finK_exact ⟨?_, rfl, rfl⟩
    rw [e3]
    have e4 : unzig v = ((v / 2 : Nat) : Int) := by
      unfold unzig
      rw [if_pos (by omega)]
    rw [e4]

def triB0 (b : List Nat) (x : Nat × Nat × Nat) : D := .tup [.sl .none (bs ((b.drop x.1).take (x.2.1 - x.1))), .int .i64 x.2.1, .int .i64 x.2.2]

theorem refReadBytes_ok (tk : Tk) (b : List Nat) (at_ : Int) (hb : Byt b) (hlen : b.length ≤ 2^45) : VN P G 28 [.sl tk (bs b), .int .i64 at_] (triB0 b (spanF b at_)) := by
  have hU := refReadU_ok (G := G) tk b at_ hb
  have hs := readU_spec b at_ hb
  have hin := readU_in (b := b) (at_ := at_)
  unfold spanF
  generalize readU b at_ = r at hU hs hin ⊢
  obtain ⟨v, nx, er⟩ := r
  obtain ⟨h1, h2, h3, h4⟩ := hs
  simp only [tri] at hU h1 h2 h3 h4 hin ⊢
  refine VC.ofs (fun | 99999999 => [(0, [0, 1, 4, 5, 6, 7, 8, 9, 18, 21, 28])] | _ => []) [4, 5, 6] mixed Try.func28 rfl rfl rfl rfl (by decide +kernel) (by simp) ?_
  simp only [go_sem, reduceIte, Nat.reduceEqDiff, Nat.reduceAdd, Nat.reduceSub, Nat.reduceMul, Nat.reduceLT, Nat.reduceLeDiff, Nat.reducePow, Int.reduceToNat, Int.reduceLT, Int.reduceLE, Int.reduceEq, Int.reduceNe, Int.reduceAdd, Int.reduceSub, Int.reduceMul, Int.reduceNeg]
  refine cK_vn hU ?_
  simp only [go_sem, reduceIte, Nat.reduceEqDiff, Nat.reduceAdd, Nat.reduceSub, Nat.reduceMul, Nat.reduceLT, Nat.reduceLeDiff, Nat.reducePow, Int.reduceToNat, Int.reduceLT, Int.reduceLE, Int.reduceEq, Int.reduceNe, Int.reduceAdd, Int.reduceSub, Int.reduceMul, Int.reduceNeg]
  refine cd_dec (fun h => ?_) (fun h => ?_)
  · simp only [go_sem, reduceIte, Nat.reduceEqDiff, Nat.reduceAdd, Nat.reduceSub, Nat.reduceMul, Nat.reduceLT, Nat.reduceLeDiff, Nat.reducePow, Int.reduceToNat, Int.reduceLT, Int.reduceLE, Int.reduceEq, Int.reduceNe, Int.reduceAdd, Int.reduceSub, Int.reduceMul, Int.reduceNeg]
    rw [if_pos (by omega)]
    exact finK_drop ⟨rfl, rfl, rfl⟩
  · simp only [go_sem, reduceIte, Nat.reduceEqDiff, Nat.reduceAdd, Nat.reduceSub, Nat.reduceMul, Nat.reduceLT, Nat.reduceLeDiff, Nat.reducePow, Int.reduceToNat, Int.reduceLT, Int.reduceLE, Int.reduceEq, Int.reduceNe, Int.reduceAdd, Int.reduceSub, Int.reduceMul, Int.reduceNeg]
    have he : ¬ er ≠ 0 := by omega
    have he0 : er = 0 := by omega
    rw [if_neg he]
    refine cd_dec (fun h5 => ?_) (fun h5 => ?_)
    · simp only [go_sem, reduceIte, Nat.reduceEqDiff, Nat.reduceAdd, Nat.reduceSub, Nat.reduceMul, Nat.reduceLT, Nat.reduceLeDiff, Nat.reducePow, Int.reduceToNat, Int.reduceLT, Int.reduceLE, Int.reduceEq, Int.reduceNe, Int.reduceAdd, Int.reduceSub, Int.reduceMul, Int.reduceNeg]
      rw [if_pos (by omega)]
      exact finK_drop ⟨rfl, rfl, rfl⟩
    · simp only [go_sem, reduceIte, Nat.reduceEqDiff, Nat.reduceAdd, Nat.reduceSub, Nat.reduceMul, Nat.reduceLT, Nat.reduceLeDiff, Nat.reducePow, Int.reduceToNat, Int.reduceLT, Int.reduceLE, Int.reduceEq, Int.reduceNe, Int.reduceAdd, Int.reduceSub, Int.reduceMul, Int.reduceNeg]
      rw [if_neg (by omega)]
      have := h2 he0
      have := hin he0
      rw [wrap_i64 (x := (v : Int)) (by omega) (by omega), wrap_i64 (x := (b.length : Int) - nx) (by omega) (by omega)]
      refine cd_dec (fun h6 => ?_) (fun h6 => ?_)
      · simp only [go_sem, reduceIte, Nat.reduceEqDiff, Nat.reduceAdd, Nat.reduceSub, Nat.reduceMul, Nat.reduceLT, Nat.reduceLeDiff, Nat.reducePow, Int.reduceToNat, Int.reduceLT, Int.reduceLE, Int.reduceEq, Int.reduceNe, Int.reduceAdd, Int.reduceSub, Int.reduceMul, Int.reduceNeg]
        rw [if_pos (by omega)]
        exact finK_drop ⟨rfl, rfl, rfl⟩
      · have hw : IntKind.i64.wrap ((nx : Int) + IntKind.i64.wrap (v : Int)) = ((nx + v : Nat) : Int) := by rw [wrap_i64 (x := (v : Int)) (by omega) (by omega), wrap_i64 (by omega) (by omega)]; omega
        simp only [go_sem, reduceIte, Nat.reduceEqDiff, Nat.reduceAdd, Nat.reduceSub, Nat.reduceMul, Nat.reduceLT, Nat.reduceLeDiff, Nat.reducePow, Int.reduceToNat, Int.reduceLT, Int.reduceLE, Int.reduceEq, Int.reduceNe, Int.reduceAdd, Int.reduceSub, Int.reduceMul, Int.reduceNeg, hw]
        rw [if_neg (by omega)]
        refine ⟨by omega, by simp; omega, fun t1 => finK_drop ⟨?_, rfl, rfl⟩⟩
        rfl

theorem ReadBytes_vn (tk : Tk) (b : List Nat) (at_ : Int) (hb : Byt b) (hlen : b.length ≤ 2^45) : VN P G 27 [.sl tk (bs b), .int .i64 at_] (triB0 b (spanF b at_)) :=
  (ReadBytes_ok tk b at_ hb hlen).vn fun t => rfl

theorem refReadText_ok (tk : Tk) (b : List Nat) (at_ : Int) (hb : Byt b) (hlen : b.length ≤ 2^45) : VN P G 26 [.sl tk (bs b), .int .i64 at_] (triT b (spanF b at_)) := by
  have hU := refReadBytes_ok (G := G) tk b at_ hb hlen
  have hs := spanF_spec b at_ hb
  generalize spanF b at_ = r at hU hs ⊢
  obtain ⟨f, t, er⟩ := r
  obtain ⟨h1, h2⟩ := hs
  simp only [triB0, triT] at hU h1 h2 ⊢
  refine VC.ofs (fun | 99999999 => [(0, [0, 1, 4, 5, 6, 7, 8, 9])] | _ => []) [4, 5, 6] mixed Try.func26 rfl rfl rfl rfl (by decide +kernel) (by simp) ?_
  simp only [go_sem, reduceIte, Nat.reduceEqDiff, Nat.reduceAdd, Nat.reduceSub, Nat.reduceMul, Nat.reduceLT, Nat.reduceLeDiff, Nat.reducePow, Int.reduceToNat, Int.reduceLT, Int.reduceLE, Int.reduceEq, Int.reduceNe, Int.reduceAdd, Int.reduceSub, Int.reduceMul, Int.reduceNeg]
  refine cK_vn hU ?_
  simp only [go_sem, reduceIte, Nat.reduceEqDiff, Nat.reduceAdd, Nat.reduceSub, Nat.reduceMul, Nat.reduceLT, Nat.reduceLeDiff, Nat.reducePow, Int.reduceToNat, Int.reduceLT, Int.reduceLE, Int.reduceEq, Int.reduceNe, Int.reduceAdd, Int.reduceSub, Int.reduceMul, Int.reduceNeg]
  exact ⟨bs_isByte _ fun c hc => hb c (List.mem_of_mem_drop (List.mem_of_mem_take hc)), finK_exact ⟨rfl, rfl, rfl⟩⟩
end Go.Proofs.YtdemkhcloholiaaS
