import Derived.Test.YtdemkhcloholiaaA6
set_option linter.unusedVariables false
set_option linter.unusedSimpArgs false
namespace Go.Proofs.YtdemkhcloholiaaS
open Go Go.Proofs.YtdemkhcloholiaaV

variable {G : Heap}

/-- What a reading of a number may come to. -/
structure RdOk (k : Nat) (len : Nat) (r : Nat × Nat × Nat) : Prop where
  val : r.1 < 18446744073709551616
  ok : r.2.2 = 0 → k < r.2.1 ∧ r.2.1 ≤ k + len
  bad : r.2.2 ≠ 0 → r.1 = 0 ∧ r.2.1 = 0
  err : r.2.2 ≤ 6

theorem rd_spec (k : Nat) : ∀ (l : List Nat) (i n : Nat), i ≤ 9 → n < 2 ^ (7 * i) → (∀ c ∈ l, c < 256) → RdOk (k + i) l.length (rd k l i n)
  | [], i, n, _, _, _ => ⟨by simp [rd], fun h => by simp [rd] at h, fun _ => by simp [rd], by simp [rd]⟩
  | c :: r, i, n, hi, hn, hb => by
    have hc := hb c (by simp)
    have e : 2 ^ (7 * (i + 1)) = 2 ^ (7 * i) * 128 := by rw [Nat.mul_add, Nat.pow_add]
    simp only [rd]
    split
    · rename_i h
      have h4 : 2 ^ (7 * i) * (c % 128) ≤ 2 ^ (7 * i) * 127 := Nat.mul_le_mul_left _ (by omega)
      have ih := rd_spec k r (i + 1) (n + 2 ^ (7 * i) * (c % 128)) (by omega) (by omega) (fun c hc => hb c (by simp [hc]))
      exact ⟨ih.val, fun h0 => by have := ih.ok h0; simp only [List.length_cons]; omega, ih.bad, ih.err⟩
    · split
      · exact ⟨by simp, fun h => by simp at h, fun _ => by simp, by simp⟩
      · rename_i h1 h2
        refine ⟨?_, fun _ => by simp only [List.length_cons]; omega, fun h => absurd rfl h, by simp⟩
        show n + 2 ^ (7 * i) * (c % 128) < 18446744073709551616
        by_cases h9 : i = 9
        · subst h9
          have h4 : 2 ^ (7 * 9) * (c % 128) ≤ 2 ^ (7 * 9) * 1 := Nat.mul_le_mul_left _ (by omega)
          omega
        · have h4 : 2 ^ (7 * i) * (c % 128) ≤ 2 ^ (7 * i) * 127 := Nat.mul_le_mul_left _ (by omega)
          have h5 : 2 ^ (7 * i) ≤ 2 ^ 56 := Nat.pow_le_pow_right (by omega) (by omega)
          omega

theorem readU_spec (b : List Nat) (at_ : Int) (hb : Byt b) : RdOk at_.toNat (b.length - at_.toNat) (readU b at_) := by
  unfold readU
  split
  · exact ⟨by simp, fun h => by simp at h, fun _ => by simp, by simp⟩
  · have := rd_spec at_.toNat (b.drop at_.toNat) 0 0 (by omega) (by simp) (fun c hc => hb c (List.mem_of_mem_drop hc))
    simpa using this

theorem readU_in {b : List Nat} {at_ : Int} (h : (readU b at_).2.2 = 0) : 0 ≤ at_ ∧ at_ ≤ b.length := by
  unfold readU at h
  split at h
  · simp at h
  · omega

/-- The integer behind a number. -/
def unzig (n : Nat) : Int := if n % 2 = 0 then (n / 2 : Nat) else -((n / 2 : Nat) : Int) - 1

theorem bop_and_one (n : Nat) (hn : n < 18446744073709551616) : bop .and .u64 n 1 = ((n % 2 : Nat) : Int) := by
  have h1 : (BitVec.ofInt 64 (n : Int) &&& BitVec.ofInt 64 1).toNat = n % 2 := by
    have h2 : (BitVec.ofInt 64 (1 : Int)).toNat = 2 ^ 1 - 1 := by decide
    rw [BitVec.toNat_and, h2, Nat.and_two_pow_sub_one_eq_mod, BitVec.toNat_ofInt]
    omega
  show IntKind.u64.wrap ((BitVec.ofInt 64 (n : Int) &&& BitVec.ofInt 64 1).toNat : Int) = _
  rw [h1, wrap_u64]
  omega

theorem wrap_i64_big {x : Int} (h1 : 9223372036854775808 ≤ x) (h2 : x < 18446744073709551616) : IntKind.i64.wrap x = x - 18446744073709551616 := by
  have h : IntKind.i64.signed = true := rfl
  have e0 : IntKind.i64.bits = 64 := rfl
  have e1 : (2 ^ 64 : Int) = 18446744073709551616 := rfl
  have e2 : (2 ^ (64 - 1) : Int) = 9223372036854775808 := rfl
  simp only [IntKind.wrap, h, Bool.true_and, e0, e1, e2, decide_eq_true_eq]
  split <;> omega

theorem xor_unzig (n : Nat) (hn : n < 18446744073709551616) :
    bop .xor .i64 (IntKind.i64.wrap ((n : Int) / 2 ^ shb .u64 1)) (IntKind.i64.wrap (0 - IntKind.i64.wrap (bop .and .u64 n 1))) = unzig n := by
  have e1 : shb .u64 1 = 1 := rfl
  have e2 : (n : Int) / 2 ^ 1 = ((n / 2 : Nat) : Int) := by omega
  rw [e1, e2, bop_and_one n hn, wrap_i64 (x := ((n / 2 : Nat) : Int)) (by omega) (by omega), wrap_i64 (x := ((n % 2 : Nat) : Int)) (by omega) (by omega), wrap_i64 (x := 0 - ((n % 2 : Nat) : Int)) (by omega) (by omega)]
  unfold unzig
  split
  · rename_i h
    have e3 : (0 - ((n % 2 : Nat) : Int)) = 0 := by omega
    rw [e3]
    show IntKind.i64.wrap ((BitVec.ofInt 64 ((n / 2 : Nat) : Int) ^^^ BitVec.ofInt 64 0).toNat : Int) = _
    have h1 : (BitVec.ofInt 64 ((n / 2 : Nat) : Int) ^^^ BitVec.ofInt 64 0).toNat = n / 2 := by
      have : BitVec.ofInt 64 0 = 0#64 := rfl
      rw [this, BitVec.xor_zero, BitVec.toNat_ofInt]
      omega
    rw [h1, wrap_i64 (by omega) (by omega)]
  · rename_i h
    have e3 : (0 - ((n % 2 : Nat) : Int)) = -1 := by omega
    rw [e3]
    show IntKind.i64.wrap ((BitVec.ofInt 64 ((n / 2 : Nat) : Int) ^^^ BitVec.ofInt 64 (-1)).toNat : Int) = _
    have h1 : (BitVec.ofInt 64 ((n / 2 : Nat) : Int) ^^^ BitVec.ofInt 64 (-1)).toNat = 18446744073709551615 - n / 2 := by
      have : BitVec.ofInt 64 (-1) = BitVec.allOnes 64 := by decide
      rw [this, BitVec.xor_allOnes, BitVec.toNat_not, BitVec.toNat_ofInt]
      omega
    rw [h1, wrap_i64_big (by omega) (by omega)]
    omega

def triS (x : Nat × Nat × Nat) : D := .tup [.int .i64 (unzig x.1), .int .i64 x.2.1, .int .i64 x.2.2]

theorem ReadS_ok (tk : Tk) (b : List Nat) (at_ : Int) (hb : Byt b) : VN P G 23 [.sl tk (bs b), .int .i64 at_] (triS (readU b at_)) := by
  have hU := ReadU_ok (G := G) tk b at_ hb
  have hv := (readU_spec b at_ hb).val
  generalize readU b at_ = r at hU hv ⊢
  obtain ⟨v, nx, er⟩ := r
  simp only [tri, triS] at hU hv ⊢
  have hz := xor_unzig v hv
  generalize unzig v = z at hz ⊢
  refine VC.ofs (fun | 99999999 => [(0, [0, 1, 4, 5, 6, 7, 8, 9])] | _ => []) [4, 5, 6] mixed Try.func23 rfl rfl rfl rfl (by decide +kernel) (by simp) ?_
  simp only [go_sem, reduceIte, Nat.reduceEqDiff, Nat.reduceAdd, Nat.reduceSub, Nat.reduceMul, Nat.reduceLT, Nat.reduceLeDiff, Nat.reducePow, Int.reduceToNat, Int.reduceLT, Int.reduceLE, Int.reduceEq, Int.reduceNe, Int.reduceAdd, Int.reduceSub, Int.reduceMul, Int.reduceNeg]
  refine cK_vn hU ?_
  simp only [go_sem, reduceIte, Nat.reduceEqDiff, Nat.reduceAdd, Nat.reduceSub, Nat.reduceMul, Nat.reduceLT, Nat.reduceLeDiff, Nat.reducePow, Int.reduceToNat, Int.reduceLT, Int.reduceLE, Int.reduceEq, Int.reduceNe, Int.reduceAdd, Int.reduceSub, Int.reduceMul, Int.reduceNeg, hz]
  exact finK_exact ⟨rfl, rfl, rfl⟩

theorem refReadU_ok (tk : Tk) (b : List Nat) (at_ : Int) (hb : Byt b) : VN P G 22 [.sl tk (bs b), .int .i64 at_] (tri (readU b at_)) := by
  refine VC.small fun hsm => ?_
  have hx : b.length ≤ 281474976710656 := by have := hsm (.sl tk (bs b)) (by simp); simpa [Small, bs_length, mostLen] using this
  refine VC.ofs (fun | 99999999 => [(0, [0, 1, 4, 5, 6, 7, 8, 9, 10, 18, 20, 28, 41, 51, 57])] | _ => []) [4, 5, 6] mixed Try.func22 rfl rfl rfl rfl (by decide +kernel) (by simp) ?_
  simp only [go_sem, reduceIte, Nat.reduceEqDiff, Nat.reduceAdd, Nat.reduceSub, Nat.reduceMul, Nat.reduceLT, Nat.reduceLeDiff, Nat.reducePow, Int.reduceToNat, Int.reduceLT, Int.reduceLE, Int.reduceEq, Int.reduceNe, Int.reduceAdd, Int.reduceSub, Int.reduceMul, Int.reduceNeg]
  refine cd_dec (fun h => ?_) (fun h => ?_)
  · simp only [go_sem, reduceIte, Nat.reduceEqDiff, Nat.reduceAdd, Nat.reduceSub, Nat.reduceMul, Nat.reduceLT, Nat.reduceLeDiff, Nat.reducePow, Int.reduceToNat, Int.reduceLT, Int.reduceLE, Int.reduceEq, Int.reduceNe, Int.reduceAdd, Int.reduceSub, Int.reduceMul, Int.reduceNeg]
    exact finK_exact ⟨by simp [tri, readU, h], rfl, rfl⟩
  · simp only [go_sem, reduceIte, Nat.reduceEqDiff, Nat.reduceAdd, Nat.reduceSub, Nat.reduceMul, Nat.reduceLT, Nat.reduceLeDiff, Nat.reducePow, Int.reduceToNat, Int.reduceLT, Int.reduceLE, Int.reduceEq, Int.reduceNe, Int.reduceAdd, Int.reduceSub, Int.reduceMul, Int.reduceNeg]
    obtain ⟨k, rfl⟩ : ∃ k : Nat, at_ = k := ⟨at_.toNat, by omega⟩
    have hk : k ≤ b.length := by omega
    have hl : (b.drop k).length = b.length - k := by simp
    have hrk : readU b k = rd k (b.drop k) 0 0 := by
      unfold readU
      rw [if_neg (by omega)]
      rfl
    refine vwq_loop (fun s => ∃ (i n : Nat), s.σ 0 = .sl tk (bs b) ∧ s.σ 1 = .int .i64 k ∧ s.σ 9 = .int .i64 i ∧ s.σ 7 = .int .u64 n ∧ s.σ 8 = .int .u64 ((2 ^ (7 * i) % 18446744073709551616 : Nat) : Int) ∧ s.β = Heap.nil ∧ s.ω = [] ∧ i ≤ (b.drop k).length ∧ i ≤ 9 ∧ n < 2 ^ (7 * i) ∧ rd k ((b.drop k).drop i) i n = rd k (b.drop k) 0 0) (fun s => 9 - (ival (s.σ 9)).toNat) ?_ ?_
    · refine ⟨0, 0, rfl, rfl, rfl, rfl, ?_, rfl, rfl, by omega, by omega, by simp, by simp⟩
      show D.int .u64 1 = D.int .u64 ((2 ^ (7 * 0) % 18446744073709551616 : Nat) : Int)
      congr 1
    rintro σ β ω ⟨i, n, h0, h1, h9, h7, h8, rfl, rfl, hi, hi9, hn, hrd⟩
    dsimp only at h0 h1 h9 h7 h8
    simp only [go_sem, reduceIte, Nat.reduceEqDiff, Nat.reduceAdd, Nat.reduceSub, Nat.reduceMul, Nat.reduceLT, Nat.reduceLeDiff, Nat.reducePow, Int.reduceToNat, Int.reduceLT, Int.reduceLE, Int.reduceEq, Int.reduceNe, Int.reduceAdd, Int.reduceSub, Int.reduceMul, Int.reduceNeg, h0, h1, h9, h7, h8]
    refine cd_dec (fun h => ?_) (fun h => absurd (by omega) h)
    simp only [go_sem, reduceIte, Nat.reduceEqDiff, Nat.reduceAdd, Nat.reduceSub, Nat.reduceMul, Nat.reduceLT, Nat.reduceLeDiff, Nat.reducePow, Int.reduceToNat, Int.reduceLT, Int.reduceLE, Int.reduceEq, Int.reduceNe, Int.reduceAdd, Int.reduceSub, Int.reduceMul, Int.reduceNeg, h0, h1, h9, h7, h8]
    rw [wrap_i64 (x := (b.length : Int) - k) (by omega) (by omega)]
    refine cd_dec (fun h2 => ?_) (fun h2 => ?_)
    · simp only [go_sem, reduceIte, Nat.reduceEqDiff, Nat.reduceAdd, Nat.reduceSub, Nat.reduceMul, Nat.reduceLT, Nat.reduceLeDiff, Nat.reducePow, Int.reduceToNat, Int.reduceLT, Int.reduceLE, Int.reduceEq, Int.reduceNe, Int.reduceAdd, Int.reduceSub, Int.reduceMul, Int.reduceNeg, h0, h1, h9, h7, h8]
      have hr : readU b k = (0, 0, 6) := by
        rw [hrk, ← hrd, List.drop_of_length_le (by omega)]
        rfl
      exact finK_exact ⟨by rw [hr]; rfl, rfl, rfl⟩
    · have hw : IntKind.i64.wrap ((k : Int) + (i : Int)) = ((k + i : Nat) : Int) := by rw [wrap_i64 (by omega) (by omega)]; omega
      have hlt : k + i < b.length := by omega
      simp only [go_sem, reduceIte, Nat.reduceEqDiff, Nat.reduceAdd, Nat.reduceSub, Nat.reduceMul, Nat.reduceLT, Nat.reduceLeDiff, Nat.reducePow, Int.reduceToNat, Int.reduceLT, Int.reduceLE, Int.reduceEq, Int.reduceNe, Int.reduceAdd, Int.reduceSub, Int.reduceMul, Int.reduceNeg, h0, h1, h9, h7, h8, hw, bs_at b hlt]
      have hc : b.getD (k + i) 0 < 256 := by
        simp only [List.getD, List.getElem?_eq_getElem hlt, Option.getD_some]
        exact hb _ (List.getElem_mem hlt)
      have hdr : (b.drop k).drop i = b.getD (k + i) 0 :: (b.drop k).drop (i + 1) := by
        rw [List.drop_drop, List.drop_eq_getElem_cons hlt, List.drop_drop]
        simp [List.getD, List.getElem?_eq_getElem hlt, Nat.add_assoc]
      generalize b.getD (k + i) 0 = c at hc hdr ⊢
      rw [hdr] at hrd
      have hru : readU b k = rd k (c :: (b.drop k).drop (i + 1)) i n := by rw [hrk, hrd]
      have hcm : (c : Int) % 18446744073709551616 = (c : Int) := by omega
      rw [hcm]
      refine ⟨by omega, cd_dec (fun h4 => ?_) (fun h4 => ?_)⟩
      · simp only [go_sem, reduceIte, Nat.reduceEqDiff, Nat.reduceAdd, Nat.reduceSub, Nat.reduceMul, Nat.reduceLT, Nat.reduceLeDiff, Nat.reducePow, Int.reduceToNat, Int.reduceLT, Int.reduceLE, Int.reduceEq, Int.reduceNe, Int.reduceAdd, Int.reduceSub, Int.reduceMul, Int.reduceNeg, h0, h1, h9, h7, h8]
        have hr : readU b k = (0, 0, 5) := by
          rw [hru]
          simp only [rd]
          rw [if_neg (by omega), if_pos (by omega)]
        exact finK_exact ⟨by rw [hr]; rfl, rfl, rfl⟩
      · simp only [go_sem, reduceIte, Nat.reduceEqDiff, Nat.reduceAdd, Nat.reduceSub, Nat.reduceMul, Nat.reduceLT, Nat.reduceLeDiff, Nat.reducePow, Int.reduceToNat, Int.reduceLT, Int.reduceLE, Int.reduceEq, Int.reduceNe, Int.reduceAdd, Int.reduceSub, Int.reduceMul, Int.reduceNeg, h0, h1, h9, h7, h8]
        have hp : 2 ^ (7 * i) < 18446744073709551616 := by
          have h1 : 2 ^ (7 * i) ≤ 2 ^ 63 := Nat.pow_le_pow_right (by omega) (by omega)
          omega
        have hpm : 2 ^ (7 * i) % 18446744073709551616 = 2 ^ (7 * i) := Nat.mod_eq_of_lt hp
        have e3 : (c : Int).tmod 128 = ((c % 128 : Nat) : Int) := by rw [Int.tmod_eq_emod_of_nonneg (by omega)]; omega
        have hs : i ≤ 8 ∨ c ≤ 1 := by omega
        have hpr : 2 ^ (7 * i) * (c % 128) + n < 18446744073709551616 := by
          rcases hs with h | h
          · have h1 : 2 ^ (7 * i) ≤ 2 ^ 56 := Nat.pow_le_pow_right (by omega) (by omega)
            have h2 : 2 ^ (7 * i) * (c % 128) ≤ 2 ^ 56 * 127 := Nat.mul_le_mul h1 (by omega)
            omega
          · have h1 : 2 ^ (7 * i) ≤ 2 ^ 63 := Nat.pow_le_pow_right (by omega) (by omega)
            have h2 : 2 ^ (7 * i) * (c % 128) ≤ 2 ^ 63 * 1 := Nat.mul_le_mul h1 (by omega)
            omega
        have e4 : ((n : Int) + ((2 ^ (7 * i) % 18446744073709551616 : Nat) : Int) * (c : Int).tmod 128 % 18446744073709551616) % 18446744073709551616 = ((n + 2 ^ (7 * i) * (c % 128) : Nat) : Int) := by
          rw [e3, hpm, ← Int.natCast_mul]
          omega
        have e : 2 ^ (7 * (i + 1)) = 2 ^ (7 * i) * 128 := by rw [Nat.mul_add, Nat.pow_add]
        refine cd_dec (fun h5 => ?_) (fun h5 => ?_)
        · simp only [go_sem, reduceIte, Nat.reduceEqDiff, Nat.reduceAdd, Nat.reduceSub, Nat.reduceMul, Nat.reduceLT, Nat.reduceLeDiff, Nat.reducePow, Int.reduceToNat, Int.reduceLT, Int.reduceLE, Int.reduceEq, Int.reduceNe, Int.reduceAdd, Int.reduceSub, Int.reduceMul, Int.reduceNeg, h0, h1, h9, h7, h8]
          have hno : ¬ (128 ≤ c ∧ i ≠ 9) := by omega
          refine cd_dec (fun h6 => ?_) (fun h6 => ?_)
          · simp only [go_sem, reduceIte, Nat.reduceEqDiff, Nat.reduceAdd, Nat.reduceSub, Nat.reduceMul, Nat.reduceLT, Nat.reduceLeDiff, Nat.reducePow, Int.reduceToNat, Int.reduceLT, Int.reduceLE, Int.reduceEq, Int.reduceNe, Int.reduceAdd, Int.reduceSub, Int.reduceMul, Int.reduceNeg, h0, h1, h9, h7, h8]
            have hr : readU b k = (0, 0, 5) := by
              rw [hru]
              simp only [rd]
              rw [if_neg hno, if_pos (by omega)]
            exact finK_exact ⟨by rw [hr]; rfl, rfl, rfl⟩
          · simp only [go_sem, reduceIte, Nat.reduceEqDiff, Nat.reduceAdd, Nat.reduceSub, Nat.reduceMul, Nat.reduceLT, Nat.reduceLeDiff, Nat.reducePow, Int.reduceToNat, Int.reduceLT, Int.reduceLE, Int.reduceEq, Int.reduceNe, Int.reduceAdd, Int.reduceSub, Int.reduceMul, Int.reduceNeg, h0, h1, h9, h7, h8]
            have hr : readU b k = (n + 2 ^ (7 * i) * (c % 128), k + i + 1, 0) := by
              rw [hru]
              simp only [rd]
              rw [if_neg hno, if_neg (by omega)]
            rw [wrap_i64 (x := (k : Int) + i) (by omega) (by omega), wrap_i64 (by omega) (by omega), e4, hr]
            exact finK_exact ⟨rfl, rfl, rfl⟩
        · simp only [go_sem, reduceIte, Nat.reduceEqDiff, Nat.reduceAdd, Nat.reduceSub, Nat.reduceMul, Nat.reduceLT, Nat.reduceLeDiff, Nat.reducePow, Int.reduceToNat, Int.reduceLT, Int.reduceLE, Int.reduceEq, Int.reduceNe, Int.reduceAdd, Int.reduceSub, Int.reduceMul, Int.reduceNeg, h0, h1, h9, h7, h8]
          have hyes : 128 ≤ c ∧ i ≠ 9 := by omega
          have e5 : ((2 ^ (7 * i) % 18446744073709551616 : Nat) : Int) * 128 % 18446744073709551616 = ((2 ^ (7 * (i + 1)) % 18446744073709551616 : Nat) : Int) := by
            rw [e, hpm]; omega
          rw [e4, e5, wrap_i64 (x := (i : Int) + 1) (by omega) (by omega)]
          refine ⟨⟨i + 1, n + 2 ^ (7 * i) * (c % 128), rfl, rfl, rfl, by omega, by omega, ?_, ?_⟩, by omega⟩
          · have h4 : 2 ^ (7 * i) * (c % 128) ≤ 2 ^ (7 * i) * 127 := Nat.mul_le_mul_left _ (by omega)
            omega
          · rw [← hrd]
            simp only [rd, if_pos hyes]
end Go.Proofs.YtdemkhcloholiaaS
