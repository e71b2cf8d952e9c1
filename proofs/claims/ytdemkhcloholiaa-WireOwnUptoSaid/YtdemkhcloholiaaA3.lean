import Derived.Test.YtdemkhcloholiaaA2
set_option linter.unusedVariables false
set_option linter.unusedSimpArgs false
namespace Go.Proofs.YtdemkhcloholiaaS
open Go Go.Proofs.YtdemkhcloholiaaV

variable {G : Heap}

theorem number_t1 (t : Nat) (out : List Nat) (n : Nat) (hlen : out.length + (enc n).length ≤ 2^46) : VT1 P G 31 [.sl (.live t 1) (bs out), .int .u64 n] t (fun t' => .sl (.live t' 1) (bs (out ++ enc n))) := number_ok t out n hlen

theorem zeros_bs (n : Nat) : zeros [.int .u8 0] n = bs (List.replicate n 0) := by
  induction n with
  | zero => rfl
  | succ n ih =>
    have : zeros [.int .u8 0] (n + 1) = .int .u8 0 :: zeros [.int .u8 0] n := by simp [zeros, List.replicate_succ]
    rw [this, ih, List.replicate_succ]
    simp [bs]

theorem room_ok (tk : Tk) (b : List Nat) (n : Nat) (hlen : b.length + n ≤ 2^46) : VT0 P G 32 [.sl tk (bs b), .int .i64 n] (fun t' => .sl (.live t' 1) (bs b)) := by
  refine VC.turn (Φ1 := fun o β ω => ∃ bx cs, o = .ret (.so bx 0 b.length (b.length + n)) ∧ β bx = some cs ∧ ω = [] ∧ isObj cs = false ∧ cs.length = b.length + n ∧ cs.take b.length = bs b) ?_ ?_ ?_
  · refine VC.ofs (fun _ => []) [4] mixed Try.func32 rfl rfl rfl rfl rfl (by simp) ?_
    simp only [go_sem, reduceIte, Nat.reduceEqDiff, Nat.reduceAdd, Nat.reduceSub, Nat.reduceMul, Nat.reduceLT, Nat.reduceLeDiff, Nat.reducePow, Int.reduceToNat, Int.reduceLT, Int.reduceLE, Int.reduceEq, Int.reduceNe, Int.reduceAdd, Int.reduceSub, Int.reduceMul, Int.reduceNeg]
    rw [wrap_i64 (by omega) (by omega)]
    have e : (((b.length : Int) + (n : Int))).toNat = b.length + n := by omega
    simp only [e, zeros_bs, bs_length, List.length_replicate, bs_drop, bs_append, Nat.min_self, List.take_length]
    refine ⟨by omega, by omega, by omega, by omega, fun bx => ⟨isObj_of (bs_one _), by omega, finK_exact ⟨bx, bs (b ++ List.drop (0 + b.length) (List.replicate (b.length + n) 0)), rfl, by simp only [set_at, if_true], rfl, isObj_of (bs_one _), ?_, ?_⟩⟩⟩
    · rw [bs_length]; simp
    · rw [bs_take]; simp
  · rintro d β' ω' ⟨bx, cs, h1, h2, h6, h3, h4, h5⟩
    cases h1
    refine Turn.bind (Turn.freeze (m := 1) (xs := bs b) h2 h3 (by omega) (by omega) ?_ ?_ (bs_length b) (by simp [mostLen]; omega)) ?_
    · rw [bs_flat, Nat.mul_one, h5]
    · have := bs_cells b
      simpa using this
    · rintro d β ω ⟨t, ht, rfl, rfl, rfl⟩
      refine Turn.weak ⟨_, Heap.nil, [t], Wk.refl _, fun _ _ h => (nomatch h : False).elim, fun u hu => ?_, t, rfl, rfl, rfl⟩
      simp at hu
      simp [hu]
  · rintro d β' ω' ⟨bx, cs, h1, _⟩
    cases h1

theorem U_ok (tk : Tk) (b : List Nat) (n : Nat) (hb : b.length ≤ 2^45) (he : (enc n).length ≤ 2^45) : VT0 P G 13 [.sl tk (bs b), .int .u64 n] (fun t' => .sl (.live t' 1) (bs (b ++ enc n))) := by
  refine VC.ofs (fun | 99999999 => [(0, [0, 1, 4])] | _ => []) [4] mixed Try.func13 rfl rfl rfl rfl (by decide +kernel) (by simp) ?_
  simp only [go_sem, reduceIte, Nat.reduceEqDiff, Nat.reduceAdd, Nat.reduceSub, Nat.reduceMul, Nat.reduceLT, Nat.reduceLeDiff, Nat.reducePow, Int.reduceToNat, Int.reduceLT, Int.reduceLE, Int.reduceEq, Int.reduceNe, Int.reduceAdd, Int.reduceSub, Int.reduceMul, Int.reduceNeg]
  refine cK_t0 (room_ok tk b 10 (by omega)) fun t _ => ?_
  simp only [go_sem, reduceIte, Nat.reduceEqDiff, Nat.reduceAdd, Nat.reduceSub, Nat.reduceMul, Nat.reduceLT, Nat.reduceLeDiff, Nat.reducePow, Int.reduceToNat, Int.reduceLT, Int.reduceLE, Int.reduceEq, Int.reduceNe, Int.reduceAdd, Int.reduceSub, Int.reduceMul, Int.reduceNeg]
  refine cK_t1 (number_t1 t b n (by omega)) (by simp) fun t' => ?_
  simp only [go_sem, reduceIte, Nat.reduceEqDiff, Nat.reduceAdd, Nat.reduceSub, Nat.reduceMul, Nat.reduceLT, Nat.reduceLeDiff, Nat.reducePow, Int.reduceToNat, Int.reduceLT, Int.reduceLE, Int.reduceEq, Int.reduceNe, Int.reduceAdd, Int.reduceSub, Int.reduceMul, Int.reduceNeg, joinT_one]
  exact finK_exact ⟨t', rfl, rfl, rfl⟩

end Go.Proofs.YtdemkhcloholiaaS
