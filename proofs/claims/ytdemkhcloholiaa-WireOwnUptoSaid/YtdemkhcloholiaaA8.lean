import Derived.Test.YtdemkhcloholiaaA7
set_option linter.unusedVariables false
set_option linter.unusedSimpArgs false
namespace Go.Proofs.YtdemkhcloholiaaS
open Go Go.Proofs.YtdemkhcloholiaaV

variable {G : Heap}

/-- The bounds of a byte string: from, to, error. -/
def spanF (b : List Nat) (at_ : Int) : Nat × Nat × Nat :=
  let r := readU b at_
  if r.2.2 ≠ 0 then (0, 0, r.2.2) else if 1048576 < r.1 then (0, 0, 2) else if b.length < r.2.1 + r.1 then (0, 0, 6) else (r.2.1, r.2.1 + r.1, 0)

def triI (x : Nat × Nat × Nat) : D := .tup [.int .i64 x.1, .int .i64 x.2.1, .int .i64 x.2.2]

theorem span_ok (tk : Tk) (b : List Nat) (at_ : Int) (hb : Byt b) : VN P G 35 [.sl tk (bs b), .int .i64 at_] (triI (spanF b at_)) := by
  refine VC.small fun hsm => ?_
  have hx : b.length ≤ 281474976710656 := by have := hsm (.sl tk (bs b)) (by simp); simpa [Small, bs_length, mostLen] using this
  have hU := ReadU_ok (G := G) tk b at_ hb
  have hs := readU_spec b at_ hb
  have hin := readU_in (b := b) (at_ := at_)
  unfold spanF
  generalize readU b at_ = r at hU hs hin ⊢
  obtain ⟨v, nx, er⟩ := r
  obtain ⟨h1, h2, h3, h4⟩ := hs
  simp only [tri] at hU h1 h2 h3 h4 hin ⊢
  refine VC.ofs (fun | 99999999 => [(0, [0, 1, 4, 5, 6, 7, 8, 9, 17, 21, 24])] | _ => []) [4, 5, 6] mixed Try.func35 rfl rfl rfl rfl (by decide +kernel) (by simp) ?_
  simp only [go_sem, reduceIte, Nat.reduceEqDiff, Nat.reduceAdd, Nat.reduceSub, Nat.reduceMul, Nat.reduceLT, Nat.reduceLeDiff, Nat.reducePow, Int.reduceToNat, Int.reduceLT, Int.reduceLE, Int.reduceEq, Int.reduceNe, Int.reduceAdd, Int.reduceSub, Int.reduceMul, Int.reduceNeg]
  refine cK_vn hU ?_
  simp only [go_sem, reduceIte, Nat.reduceEqDiff, Nat.reduceAdd, Nat.reduceSub, Nat.reduceMul, Nat.reduceLT, Nat.reduceLeDiff, Nat.reducePow, Int.reduceToNat, Int.reduceLT, Int.reduceLE, Int.reduceEq, Int.reduceNe, Int.reduceAdd, Int.reduceSub, Int.reduceMul, Int.reduceNeg]
  refine cd_dec (fun h => ?_) (fun h => ?_)
  · simp only [go_sem, reduceIte, Nat.reduceEqDiff, Nat.reduceAdd, Nat.reduceSub, Nat.reduceMul, Nat.reduceLT, Nat.reduceLeDiff, Nat.reducePow, Int.reduceToNat, Int.reduceLT, Int.reduceLE, Int.reduceEq, Int.reduceNe, Int.reduceAdd, Int.reduceSub, Int.reduceMul, Int.reduceNeg]
    have : er ≠ 0 := by omega
    rw [if_pos this]
    exact finK_exact ⟨rfl, rfl, rfl⟩
  · simp only [go_sem, reduceIte, Nat.reduceEqDiff, Nat.reduceAdd, Nat.reduceSub, Nat.reduceMul, Nat.reduceLT, Nat.reduceLeDiff, Nat.reducePow, Int.reduceToNat, Int.reduceLT, Int.reduceLE, Int.reduceEq, Int.reduceNe, Int.reduceAdd, Int.reduceSub, Int.reduceMul, Int.reduceNeg]
    have he : ¬ er ≠ 0 := by omega
    have he0 : er = 0 := by omega
    rw [if_neg he]
    refine cd_dec (fun h5 => ?_) (fun h5 => ?_)
    · simp only [go_sem, reduceIte, Nat.reduceEqDiff, Nat.reduceAdd, Nat.reduceSub, Nat.reduceMul, Nat.reduceLT, Nat.reduceLeDiff, Nat.reducePow, Int.reduceToNat, Int.reduceLT, Int.reduceLE, Int.reduceEq, Int.reduceNe, Int.reduceAdd, Int.reduceSub, Int.reduceMul, Int.reduceNeg]
      rw [if_pos (by omega)]
      exact finK_exact ⟨rfl, rfl, rfl⟩
    · simp only [go_sem, reduceIte, Nat.reduceEqDiff, Nat.reduceAdd, Nat.reduceSub, Nat.reduceMul, Nat.reduceLT, Nat.reduceLeDiff, Nat.reducePow, Int.reduceToNat, Int.reduceLT, Int.reduceLE, Int.reduceEq, Int.reduceNe, Int.reduceAdd, Int.reduceSub, Int.reduceMul, Int.reduceNeg]
      rw [if_neg (by omega)]
      have := h2 he0
      have := hin he0
      rw [wrap_i64 (x := (v : Int)) (by omega) (by omega), wrap_i64 (x := (b.length : Int) - nx) (by omega) (by omega)]
      refine cd_dec (fun h6 => ?_) (fun h6 => ?_)
      · simp only [go_sem, reduceIte, Nat.reduceEqDiff, Nat.reduceAdd, Nat.reduceSub, Nat.reduceMul, Nat.reduceLT, Nat.reduceLeDiff, Nat.reducePow, Int.reduceToNat, Int.reduceLT, Int.reduceLE, Int.reduceEq, Int.reduceNe, Int.reduceAdd, Int.reduceSub, Int.reduceMul, Int.reduceNeg]
        rw [if_pos (by omega)]
        exact finK_exact ⟨rfl, rfl, rfl⟩
      · simp only [go_sem, reduceIte, Nat.reduceEqDiff, Nat.reduceAdd, Nat.reduceSub, Nat.reduceMul, Nat.reduceLT, Nat.reduceLeDiff, Nat.reducePow, Int.reduceToNat, Int.reduceLT, Int.reduceLE, Int.reduceEq, Int.reduceNe, Int.reduceAdd, Int.reduceSub, Int.reduceMul, Int.reduceNeg]
        rw [if_neg (by omega)]
        rw [wrap_i64 (x := (v : Int)) (by omega) (by omega), wrap_i64 (x := (nx : Int) + v) (by omega) (by omega)]
        exact finK_exact ⟨rfl, rfl, rfl⟩

theorem spanF_spec (b : List Nat) (at_ : Int) (hb : Byt b) : (spanF b at_).1 ≤ (spanF b at_).2.1 ∧ (spanF b at_).2.1 ≤ b.length := by
  have hs := readU_spec b at_ hb
  have hin := readU_in (b := b) (at_ := at_)
  unfold spanF
  generalize readU b at_ = r at hs hin ⊢
  obtain ⟨v, nx, er⟩ := r
  obtain ⟨h1, h2, h3, h4⟩ := hs
  simp only at h1 h2 h3 h4 hin ⊢
  split
  · simp
  · split
    · simp
    · split
      · simp
      · simp only; omega

/-- A row of bytes as a string. -/
def strN (l : List Nat) : ByteArray := strOfI ((bs l).map byteOfD)

def triT (b : List Nat) (x : Nat × Nat × Nat) : D := .tup [.str (strN ((b.drop x.1).take (x.2.1 - x.1))), .int .i64 x.2.1, .int .i64 x.2.2]

theorem bs_isByte (l : List Nat) (h : ∀ c ∈ l, c < 256) : (bs l).all isByte = true := by
  rw [List.all_eq_true]
  intro d hd
  simp only [bs, List.mem_map] at hd
  obtain ⟨c, hc, rfl⟩ := hd
  rfl

theorem ReadText_ok (tk : Tk) (b : List Nat) (at_ : Int) (hb : Byt b) : VN P G 25 [.sl tk (bs b), .int .i64 at_] (triT b (spanF b at_)) := by
  have hU := span_ok (G := G) tk b at_ hb
  have hs := spanF_spec b at_ hb
  generalize spanF b at_ = r at hU hs ⊢
  obtain ⟨f, t, er⟩ := r
  obtain ⟨h1, h2⟩ := hs
  simp only [triI, triT] at hU h1 h2 ⊢
  refine VC.ofs (fun | 99999999 => [(0, [0, 1, 4, 5, 6, 7, 8, 9])] | _ => []) [4, 5, 6] mixed Try.func25 rfl rfl rfl rfl (by decide +kernel) (by simp) ?_
  simp only [go_sem, reduceIte, Nat.reduceEqDiff, Nat.reduceAdd, Nat.reduceSub, Nat.reduceMul, Nat.reduceLT, Nat.reduceLeDiff, Nat.reducePow, Int.reduceToNat, Int.reduceLT, Int.reduceLE, Int.reduceEq, Int.reduceNe, Int.reduceAdd, Int.reduceSub, Int.reduceMul, Int.reduceNeg]
  refine cK_vn hU ?_
  simp only [go_sem, reduceIte, Nat.reduceEqDiff, Nat.reduceAdd, Nat.reduceSub, Nat.reduceMul, Nat.reduceLT, Nat.reduceLeDiff, Nat.reducePow, Int.reduceToNat, Int.reduceLT, Int.reduceLE, Int.reduceEq, Int.reduceNe, Int.reduceAdd, Int.reduceSub, Int.reduceMul, Int.reduceNeg]
  exact ⟨by omega, bs_isByte _ fun c hc => hb c (List.mem_of_mem_drop (List.mem_of_mem_take hc)), finK_exact ⟨rfl, rfl, rfl⟩⟩

def triB (b : List Nat) (x : Nat × Nat × Nat) (t : Nat) : D := .tup [.sl (.live t 1) (bs ((b.drop x.1).take (x.2.1 - x.1))), .int .i64 x.2.1, .int .i64 x.2.2]

theorem ReadBytes_ok (tk : Tk) (b : List Nat) (at_ : Int) (hb : Byt b) (hlen : b.length ≤ 2^45) : VT0 P G 27 [.sl tk (bs b), .int .i64 at_] (triB b (spanF b at_)) := by
  have hU := span_ok (G := G) tk b at_ hb
  have hs := spanF_spec b at_ hb
  generalize spanF b at_ = r at hU hs ⊢
  obtain ⟨f, t, er⟩ := r
  obtain ⟨h1, h2⟩ := hs
  simp only [triI] at hU h1 h2 ⊢
  refine VC.ofs (fun | 99999999 => [(0, [0, 1, 4, 5, 6, 7, 8, 9])] | _ => []) [4, 5, 6] mixed Try.func27 rfl rfl rfl rfl (by decide +kernel) (by simp) ?_
  simp only [go_sem, reduceIte, Nat.reduceEqDiff, Nat.reduceAdd, Nat.reduceSub, Nat.reduceMul, Nat.reduceLT, Nat.reduceLeDiff, Nat.reducePow, Int.reduceToNat, Int.reduceLT, Int.reduceLE, Int.reduceEq, Int.reduceNe, Int.reduceAdd, Int.reduceSub, Int.reduceMul, Int.reduceNeg]
  refine cK_vn hU ?_
  simp only [go_sem, reduceIte, Nat.reduceEqDiff, Nat.reduceAdd, Nat.reduceSub, Nat.reduceMul, Nat.reduceLT, Nat.reduceLeDiff, Nat.reducePow, Int.reduceToNat, Int.reduceLT, Int.reduceLE, Int.reduceEq, Int.reduceNe, Int.reduceAdd, Int.reduceSub, Int.reduceMul, Int.reduceNeg]
  refine ⟨by omega, cK_t0 (room_ok .none (List.take (t - f) (List.drop f b)) 0 (by simp; omega)) fun t1 _ => ?_⟩
  simp only [go_sem, reduceIte, Nat.reduceEqDiff, Nat.reduceAdd, Nat.reduceSub, Nat.reduceMul, Nat.reduceLT, Nat.reduceLeDiff, Nat.reducePow, Int.reduceToNat, Int.reduceLT, Int.reduceLE, Int.reduceEq, Int.reduceNe, Int.reduceAdd, Int.reduceSub, Int.reduceMul, Int.reduceNeg]
  exact finK_exact ⟨t1, rfl, rfl, rfl⟩
end Go.Proofs.YtdemkhcloholiaaS
