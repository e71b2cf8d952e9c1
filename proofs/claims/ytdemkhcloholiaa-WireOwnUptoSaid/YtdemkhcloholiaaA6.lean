import Derived.Test.YtdemkhcloholiaaA5
set_option linter.unusedVariables false
set_option linter.unusedSimpArgs false
namespace Go.Proofs.YtdemkhcloholiaaS
open Go Go.Proofs.YtdemkhcloholiaaV

variable {G : Heap}

/-- Only bytes. -/
def Byt (l : List Nat) : Prop := ∀ c ∈ l, c < 256

/-- The reading of a number: value, next offset, error. -/
def rd (at_ : Nat) : List Nat → Nat → Nat → Nat × Nat × Nat
  | [], _, _ => (0, 0, 6)
  | c :: r, i, n => if 128 ≤ c ∧ i ≠ 9 then rd at_ r (i + 1) (n + 2 ^ (7 * i) * (c % 128)) else if (i = 9 ∧ 1 < c) ∨ (c = 0 ∧ 0 < i) then (0, 0, 5) else (n + 2 ^ (7 * i) * (c % 128), at_ + i + 1, 0)

def readU (b : List Nat) (at_ : Int) : Nat × Nat × Nat :=
  if at_ < 0 ∨ (b.length : Int) < at_ then (0, 0, 1) else rd at_.toNat (b.drop at_.toNat) 0 0

def tri (x : Nat × Nat × Nat) : D := .tup [.int .u64 x.1, .int .i64 x.2.1, .int .i64 x.2.2]

theorem bop_and_127 (c : Nat) (hc : c < 256) : bop .and .u8 c 127 = ((c % 128 : Nat) : Int) := by
  have h1 : (BitVec.ofInt 8 (c : Int) &&& BitVec.ofInt 8 127).toNat = c % 128 := by
    have h2 : (BitVec.ofInt 8 (127 : Int)).toNat = 2 ^ 7 - 1 := by decide
    rw [BitVec.toNat_and, h2, Nat.and_two_pow_sub_one_eq_mod, BitVec.toNat_ofInt]
    omega
  show IntKind.u8.wrap ((BitVec.ofInt 8 (c : Int) &&& BitVec.ofInt 8 127).toNat : Int) = _
  rw [h1, wrap_u8]
  omega

theorem bop_or_u64 (x y : Nat) (hx : x < 18446744073709551616) (hy : y < 18446744073709551616) : bop .or .u64 x y = ((x ||| y : Nat) : Int) := by
  have h1 : (BitVec.ofInt 64 (x : Int) ||| BitVec.ofInt 64 (y : Int)).toNat = (x ||| y) := by
    simp only [BitVec.toNat_or, BitVec.toNat_ofInt]
    congr 1 <;> omega
  have h2 : x ||| y < 2 ^ 64 := Nat.or_lt_two_pow (by omega) (by omega)
  show IntKind.u64.wrap ((BitVec.ofInt 64 (x : Int) ||| BitVec.ofInt 64 (y : Int)).toNat : Int) = _
  rw [h1, wrap_u64]
  omega

theorem shb_u64 (q : Nat) (h : q ≤ 64) : shb .u64 q = q := by
  show min (q : Int).toNat 64 = q
  omega

theorem acc (n c i : Nat) (hc : c < 256) (hi : i ≤ 9) (hn : n < 2 ^ (7 * i)) (hs : i ≤ 8 ∨ c ≤ 1) :
    bop .or .u64 n (bop .and .u8 c 127 % 18446744073709551616 * 2 ^ shb .u64 (7 * (i : Int)) % 18446744073709551616) = ((n + 2 ^ (7 * i) * (c % 128) : Nat) : Int) := by
  have e1 : (7 * (i : Int)) = ((7 * i : Nat) : Int) := by omega
  rw [bop_and_127 c hc, e1, shb_u64 _ (by omega)]
  have hp : 2 ^ (7 * i) * (c % 128) < 18446744073709551616 := by
    rcases hs with h | h
    · have h1 : 2 ^ (7 * i) ≤ 2 ^ 56 := Nat.pow_le_pow_right (by omega) (by omega)
      have h2 : 2 ^ (7 * i) * (c % 128) ≤ 2 ^ 56 * 127 := Nat.mul_le_mul h1 (by omega)
      omega
    · have h1 : 2 ^ (7 * i) ≤ 2 ^ 63 := Nat.pow_le_pow_right (by omega) (by omega)
      have h2 : 2 ^ (7 * i) * (c % 128) ≤ 2 ^ 63 * 1 := Nat.mul_le_mul h1 (by omega)
      omega
  have hn' : n < 18446744073709551616 := by
    have h1 : 2 ^ (7 * i) ≤ 2 ^ 63 := Nat.pow_le_pow_right (by omega) (by omega)
    omega
  have e2 : (((c % 128 : Nat) : Int) % 18446744073709551616 * 2 ^ (7 * i) % 18446744073709551616) = ((2 ^ (7 * i) * (c % 128) : Nat) : Int) := by
    have e3 : ((c % 128 : Nat) : Int) % 18446744073709551616 = ((c % 128 : Nat) : Int) := by omega
    have e4 : ((c % 128 : Nat) : Int) * 2 ^ (7 * i) = ((2 ^ (7 * i) * (c % 128) : Nat) : Int) := by
      push_cast; rw [Int.mul_comm]
    rw [e3, e4]
    omega
  rw [e2, bop_or_u64 n _ hn' hp, Nat.add_comm, Nat.two_pow_add_eq_or_of_lt hn, Nat.or_comm]

theorem ReadU_ok (tk : Tk) (b : List Nat) (at_ : Int) (hb : Byt b) : VN P G 21 [.sl tk (bs b), .int .i64 at_] (tri (readU b at_)) := by
  refine VC.small fun hsm => ?_
  have hx : b.length ≤ 281474976710656 := by have := hsm (.sl tk (bs b)) (by simp); simpa [Small, bs_length, mostLen] using this
  refine VC.ofs (fun | 99999999 => [(0, [0, 1, 4, 5, 6, 7, 8, 9, 10, 11, 19, 22, 23, 24, 25, 39, 46])] | _ => []) [4, 5, 6] mixed Try.func21 rfl rfl rfl rfl (by decide +kernel) (by simp) ?_
  simp only [go_sem, reduceIte, Nat.reduceEqDiff, Nat.reduceAdd, Nat.reduceSub, Nat.reduceMul, Nat.reduceLT, Nat.reduceLeDiff, Nat.reducePow, Int.reduceToNat, Int.reduceLT, Int.reduceLE, Int.reduceEq, Int.reduceNe, Int.reduceAdd, Int.reduceSub, Int.reduceMul, Int.reduceNeg]
  refine cd_dec (fun h => ?_) (fun h => ?_)
  · simp only [go_sem, reduceIte, Nat.reduceEqDiff, Nat.reduceAdd, Nat.reduceSub, Nat.reduceMul, Nat.reduceLT, Nat.reduceLeDiff, Nat.reducePow, Int.reduceToNat, Int.reduceLT, Int.reduceLE, Int.reduceEq, Int.reduceNe, Int.reduceAdd, Int.reduceSub, Int.reduceMul, Int.reduceNeg]
    exact finK_exact ⟨by simp [tri, readU, h], rfl, rfl⟩
  · simp only [go_sem, reduceIte, Nat.reduceEqDiff, Nat.reduceAdd, Nat.reduceSub, Nat.reduceMul, Nat.reduceLT, Nat.reduceLeDiff, Nat.reducePow, Int.reduceToNat, Int.reduceLT, Int.reduceLE, Int.reduceEq, Int.reduceNe, Int.reduceAdd, Int.reduceSub, Int.reduceMul, Int.reduceNeg]
    obtain ⟨k, rfl⟩ : ∃ k : Nat, at_ = k := ⟨at_.toNat, by omega⟩
    refine ⟨⟨by omega, by omega, by omega⟩, ?_⟩
    have hk : k ≤ b.length := by omega
    have hl : (b.drop k).length = b.length - k := by simp
    refine vwq_loop (fun s => ∃ (tk' : Tk) (i n : Nat), s.σ 1 = .int .i64 k ∧ s.σ 22 = .sl tk' (bs (b.drop k)) ∧ s.σ 23 = .int .i64 (b.drop k).length ∧ s.σ 24 = .int .i64 i ∧ s.σ 7 = .int .u64 n ∧ s.σ 8 = .int .i64 6 ∧ s.β = Heap.nil ∧ s.ω = [] ∧ i ≤ (b.drop k).length ∧ i ≤ 9 ∧ n < 2 ^ (7 * i) ∧ rd k ((b.drop k).drop i) i n = rd k (b.drop k) 0 0) (fun s => 9 - (ival (s.σ 24)).toNat) ?_ ?_
    · have e : List.take (b.length - (k : Int).toNat) (List.drop (k : Int).toNat b) = b.drop k := by
        have : (k : Int).toNat = k := rfl
        rw [this]; exact List.take_of_length_le (by simp)
      refine ⟨.none, 0, 0, rfl, ?_, ?_, rfl, rfl, rfl, rfl, rfl, by omega, by omega, by simp, by simp⟩
      · show D.sl .none (bs (List.take (b.length - (k : Int).toNat) (List.drop (k : Int).toNat b))) = _
        rw [e]
      · show D.int .i64 (List.take (b.length - (k : Int).toNat) (List.drop (k : Int).toNat b)).length = _
        rw [e]
    rintro σ β ω ⟨tk', i, n, h1, h22, h23, h24, h7, h8, rfl, rfl, hi, hi9, hn, hrd⟩
    dsimp only at h1 h22 h23 h24 h7 h8
    simp only [go_sem, reduceIte, Nat.reduceEqDiff, Nat.reduceAdd, Nat.reduceSub, Nat.reduceMul, Nat.reduceLT, Nat.reduceLeDiff, Nat.reducePow, Int.reduceToNat, Int.reduceLT, Int.reduceLE, Int.reduceEq, Int.reduceNe, Int.reduceAdd, Int.reduceSub, Int.reduceMul, Int.reduceNeg, h1, h22, h23, h24, h7, h8]
    refine cd_dec (fun h => ?_) (fun h => ?_)
    · have hi' : i < (b.drop k).length := by omega
      simp only [go_sem, reduceIte, Nat.reduceEqDiff, Nat.reduceAdd, Nat.reduceSub, Nat.reduceMul, Nat.reduceLT, Nat.reduceLeDiff, Nat.reducePow, Int.reduceToNat, Int.reduceLT, Int.reduceLE, Int.reduceEq, Int.reduceNe, Int.reduceAdd, Int.reduceSub, Int.reduceMul, Int.reduceNeg, h1, h22, h23, h24, h7, h8, bs_at _ hi']
      have hc : (b.drop k).getD i 0 < 256 := by
        simp only [List.getD, List.getElem?_eq_getElem hi', Option.getD_some]
        exact hb _ (List.mem_of_mem_drop (List.getElem_mem hi'))
      have hdr : (b.drop k).drop i = (b.drop k).getD i 0 :: (b.drop k).drop (i + 1) := by
        rw [List.drop_eq_getElem_cons hi']
        simp [List.getD, List.getElem?_eq_getElem hi']
      generalize (b.drop k).getD i 0 = c at hc hdr ⊢
      rw [hdr] at hrd
      rw [wrap_i64 (x := 7 * (i : Int)) (by omega) (by omega)]
      have hru : readU b k = rd k (c :: (b.drop k).drop (i + 1)) i n := by
        unfold readU
        rw [if_neg (by omega)]
        exact hrd.symm
      refine ⟨⟨by omega, by omega⟩, by omega, cd_dec (fun h2 => ?_) (fun h2 => ?_)⟩
      · simp only [go_sem, reduceIte, Nat.reduceEqDiff, Nat.reduceAdd, Nat.reduceSub, Nat.reduceMul, Nat.reduceLT, Nat.reduceLeDiff, Nat.reducePow, Int.reduceToNat, Int.reduceLT, Int.reduceLE, Int.reduceEq, Int.reduceNe, Int.reduceAdd, Int.reduceSub, Int.reduceMul, Int.reduceNeg, h1, h22, h23, h24, h7, h8]
        have h3 : 128 ≤ c ∧ i ≠ 9 := by omega
        rw [wrap_i64 (x := (i : Int) + 1) (by omega) (by omega), acc n c i hc hi9 hn (by omega)]
        refine ⟨⟨tk', i + 1, n + 2 ^ (7 * i) * (c % 128), rfl, rfl, rfl, by omega, by omega, ?_, ?_⟩, by omega⟩
        · have e : 2 ^ (7 * (i + 1)) = 2 ^ (7 * i) * 128 := by rw [Nat.mul_add, Nat.pow_add]
          have h4 : 2 ^ (7 * i) * (c % 128) ≤ 2 ^ (7 * i) * 127 := Nat.mul_le_mul_left _ (by omega)
          omega
        · rw [← hrd]
          simp only [rd, if_pos h3]
      · simp only [go_sem, reduceIte, Nat.reduceEqDiff, Nat.reduceAdd, Nat.reduceSub, Nat.reduceMul, Nat.reduceLT, Nat.reduceLeDiff, Nat.reducePow, Int.reduceToNat, Int.reduceLT, Int.reduceLE, Int.reduceEq, Int.reduceNe, Int.reduceAdd, Int.reduceSub, Int.reduceMul, Int.reduceNeg, h1, h22, h23, h24, h7, h8]
        have h3 : ¬ (128 ≤ c ∧ i ≠ 9) := by omega
        simp only [rd, if_neg h3] at hru
        have bad : (i = 9 ∧ 1 < c) ∨ (c = 0 ∧ 0 < i) → readU b k = (0, 0, 5) := fun h => by rw [hru, if_pos h]
        refine cd_dec (fun h4 => ?_) (fun h4 => ?_)
        · simp only [go_sem, reduceIte, Nat.reduceEqDiff, Nat.reduceAdd, Nat.reduceSub, Nat.reduceMul, Nat.reduceLT, Nat.reduceLeDiff, Nat.reducePow, Int.reduceToNat, Int.reduceLT, Int.reduceLE, Int.reduceEq, Int.reduceNe, Int.reduceAdd, Int.reduceSub, Int.reduceMul, Int.reduceNeg, h1, h22, h23, h24, h7, h8]
          refine cd_dec (fun h5 => ?_) (fun h5 => absurd h4 h5)
          simp only [go_sem, reduceIte, Nat.reduceEqDiff, Nat.reduceAdd, Nat.reduceSub, Nat.reduceMul, Nat.reduceLT, Nat.reduceLeDiff, Nat.reducePow, Int.reduceToNat, Int.reduceLT, Int.reduceLE, Int.reduceEq, Int.reduceNe, Int.reduceAdd, Int.reduceSub, Int.reduceMul, Int.reduceNeg, h1, h22, h23, h24, h7, h8]
          exact finK_exact ⟨by rw [bad (by omega)]; rfl, rfl, rfl⟩
        · simp only [go_sem, reduceIte, Nat.reduceEqDiff, Nat.reduceAdd, Nat.reduceSub, Nat.reduceMul, Nat.reduceLT, Nat.reduceLeDiff, Nat.reducePow, Int.reduceToNat, Int.reduceLT, Int.reduceLE, Int.reduceEq, Int.reduceNe, Int.reduceAdd, Int.reduceSub, Int.reduceMul, Int.reduceNeg, h1, h22, h23, h24, h7, h8]
          refine cd_dec (fun h5 => ?_) (fun h5 => ?_)
          · simp only [go_sem, reduceIte, Nat.reduceEqDiff, Nat.reduceAdd, Nat.reduceSub, Nat.reduceMul, Nat.reduceLT, Nat.reduceLeDiff, Nat.reducePow, Int.reduceToNat, Int.reduceLT, Int.reduceLE, Int.reduceEq, Int.reduceNe, Int.reduceAdd, Int.reduceSub, Int.reduceMul, Int.reduceNeg, h1, h22, h23, h24, h7, h8]
            exact finK_exact ⟨by rw [bad (by omega)]; rfl, rfl, rfl⟩
          · simp only [go_sem, reduceIte, Nat.reduceEqDiff, Nat.reduceAdd, Nat.reduceSub, Nat.reduceMul, Nat.reduceLT, Nat.reduceLeDiff, Nat.reducePow, Int.reduceToNat, Int.reduceLT, Int.reduceLE, Int.reduceEq, Int.reduceNe, Int.reduceAdd, Int.reduceSub, Int.reduceMul, Int.reduceNeg, h1, h22, h23, h24, h7, h8]
            have h6 : ¬ ((i = 9 ∧ 1 < c) ∨ (c = 0 ∧ 0 < i)) := by omega
            rw [if_neg h6] at hru
            rw [wrap_i64 (x := (k : Int) + i) (by omega) (by omega), wrap_i64 (by omega) (by omega), acc n c i hc hi9 hn (by omega), hru]
            exact finK_exact ⟨rfl, rfl, rfl⟩
    · simp only [go_sem, reduceIte, Nat.reduceEqDiff, Nat.reduceAdd, Nat.reduceSub, Nat.reduceMul, Nat.reduceLT, Nat.reduceLeDiff, Nat.reducePow, Int.reduceToNat, Int.reduceLT, Int.reduceLE, Int.reduceEq, Int.reduceNe, Int.reduceAdd, Int.reduceSub, Int.reduceMul, Int.reduceNeg, h1, h22, h23, h24, h7, h8]
      have hr : readU b k = (0, 0, 6) := by
        unfold readU
        rw [if_neg (by omega)]
        have : (k : Int).toNat = k := rfl
        rw [this, ← hrd, List.drop_of_length_le (by omega)]
        rfl
      exact finK_exact ⟨by rw [hr]; rfl, rfl, rfl⟩
end Go.Proofs.YtdemkhcloholiaaS
