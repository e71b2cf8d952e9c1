
import Derived.Test.YtgkfcgfobckaaaaS1
set_option linter.unusedVariables false
set_option linter.unusedSimpArgs false
namespace Go.Proofs.YtgkfcgfobckaaaaS
open Go Go.Proofs.YtgkfcgfobckaaaaV

variable {G : Heap}

def bs (l : List Nat) : List D := l.map fun (b : Nat) => .int .u8 b

theorem bs_length (l : List Nat) : (bs l).length = l.length := by simp [bs]
theorem bs_cells (l : List Nat) : (∀ x, x ∈ bs l → x.cells.length = 1) = True := by simp [bs, cells_int]
theorem bs_snoc (l : List Nat) (b : Nat) : bs l ++ [.int .u8 (b : Int)] = bs (l ++ [b]) := by simp [bs]

theorem bs_er (l : List Nat) : (bs l).map D.er = bs l := by simp [bs, er_int]
theorem bs_flat (l : List Nat) : flat (bs l) = bs l := by
  induction l with
  | nil => rfl
  | cons a l ih => simp only [bs, flat, List.map_cons, List.flatMap_cons, cells_int] at ih ⊢; rw [ih]; rfl
theorem bs_take (l : List Nat) (n : Nat) : (bs l).take n = bs (l.take n) := by simp [bs, List.map_take]
theorem bs_drop (l : List Nat) (n : Nat) : (bs l).drop n = bs (l.drop n) := by simp [bs, List.map_drop]
theorem bs_append (l m : List Nat) : bs l ++ bs m = bs (l ++ m) := by simp [bs]
theorem bs_solid (l : List Nat) : (∀ d, d ∈ bs l → d.cells.length = 1 ∧ d.solid = true) = True := by simp [bs, cells_int, solid_int]
theorem bs_one (l : List Nat) : ∀ d ∈ bs l, d.one = true := by simp [bs, one_int]
theorem bs_at (l : List Nat) {i : Nat} (h : i < l.length) : (bs l).getD i .any = .int .u8 ((l.getD i 0 : Nat) : Int) := by
  simp [bs, List.getD, List.getElem?_map, h]

def enc (n : Nat) : List Nat := if n < 128 then [n] else (n % 128 + 128) :: enc (n / 128)
decreasing_by omega

theorem enc_small {n : Nat} (h : n < 128) : enc n = [n] := by rw [enc, if_pos h]
theorem enc_big {n : Nat} (h : 128 ≤ n) : enc n = (n % 128 + 128) :: enc (n / 128) := by rw [enc, if_neg (by omega)]

theorem bop_or_u8 (a b : Nat) (ha : a < 256) (hb : b < 256) : bop .or .u8 a b = ((a ||| b : Nat) : Int) := by
  have h1 : (BitVec.ofInt IntKind.u8.bits (a : Int) ||| BitVec.ofInt IntKind.u8.bits (b : Int)).toNat = (a ||| b) := by
    simp only [BitVec.toNat_or, BitVec.toNat_ofInt]
    have e : IntKind.u8.bits = 8 := rfl
    rw [e]
    congr 1 <;> omega
  have h2 : a ||| b < 2 ^ 8 := Nat.or_lt_two_pow (by omega) (by omega)
  simp only [bop, wrap_u8, h1]
  omega

theorem or128 (n : Nat) : bop .or .u8 ((n : Int) % 256) 128 = ((n % 128 + 128 : Nat) : Int) := by
  have h := bop_or_u8 (n % 256) 128 (by omega) (by omega)
  have e : ((n % 256 : Nat) : Int) = (n : Int) % 256 := by omega
  rw [e] at h
  refine h.trans ?_
  congr 1
  have h3 : n % 256 = n / 128 % 2 * 128 + n % 128 := by omega
  have key : ∀ m : Fin 256, (m.val ||| 128) = m.val % 128 + 128 := by decide +kernel
  have := key ⟨n % 256, by omega⟩
  simp only at this
  rw [this]
  omega

attribute [go_sem] bs_length bs_cells bs_er bs_flat bs_take bs_drop bs_solid

theorem zeros_bs (n : Nat) : zeros [.int .u8 0] n = bs (List.replicate n 0) := by
  induction n with
  | zero => rfl
  | succ n ih =>
    have : zeros [.int .u8 0] (n + 1) = .int .u8 0 :: zeros [.int .u8 0] n := by simp [zeros, List.replicate_succ]
    rw [this, ih, List.replicate_succ]
    simp [bs]

def zig (k : Int) : Nat := if 0 ≤ k then (2 * k).toNat else (-2 * k - 1).toNat

theorem bop_xor_zero (x : Int) (h0 : 0 ≤ x) (h1 : x < 18446744073709551616) : bop .xor .u64 x 0 = x := by
  have h : (BitVec.ofInt 64 x ^^^ BitVec.ofInt 64 0).toNat = x.toNat := by
    have : BitVec.ofInt 64 0 = 0#64 := rfl
    rw [this, BitVec.xor_zero, BitVec.toNat_ofInt]
    omega
  show IntKind.u64.wrap ((BitVec.ofInt 64 x ^^^ BitVec.ofInt 64 0).toNat : Int) = x
  rw [h, wrap_u64]
  omega

theorem bop_xor_ones (x : Int) (h0 : 0 ≤ x) (h1 : x < 18446744073709551616) : bop .xor .u64 x 18446744073709551615 = 18446744073709551615 - x := by
  have h : (BitVec.ofInt 64 x ^^^ BitVec.ofInt 64 18446744073709551615).toNat = 18446744073709551615 - x.toNat := by
    have : BitVec.ofInt 64 18446744073709551615 = BitVec.allOnes 64 := by decide
    rw [this, BitVec.xor_allOnes, BitVec.toNat_not, BitVec.toNat_ofInt]
    omega
  show IntKind.u64.wrap ((BitVec.ofInt 64 x ^^^ BitVec.ofInt 64 18446744073709551615).toNat : Int) = _
  rw [h, wrap_u64]
  omega

theorem xor_zig (k : Int) (hk : -9223372036854775808 ≤ k ∧ k < 9223372036854775808) :
    bop .xor .u64 (k % 18446744073709551616 * 2 ^ shb .u64 1 % 18446744073709551616) (k / 2 ^ shb .i64 63 % 18446744073709551616) = (zig k : Int) := by
  have e1 : shb .u64 1 = 1 := rfl
  have e2 : shb .i64 63 = 63 := rfl
  rw [e1, e2]
  unfold zig
  by_cases h : 0 ≤ k
  · have e3 : k / 2 ^ 63 % 18446744073709551616 = 0 := by omega
    rw [e3, bop_xor_zero _ (by omega) (by omega), if_pos h]
    omega
  · have e3 : k / 2 ^ 63 % 18446744073709551616 = 18446744073709551615 := by omega
    rw [e3, bop_xor_ones _ (by omega) (by omega), if_neg h]
    omega

/-- A string's bytes. -/
def sb (s : ByteArray) : List Nat := s.data.toList.map (·.toNat)
theorem sb_length (s : ByteArray) : (sb s).length = s.size := by
  unfold sb
  rw [List.length_map, Array.length_toList]
  rfl
theorem bs_str (s : ByteArray) : (s.data.toList.map fun b => D.int .u8 (b.toNat : Int)) = bs (sb s) := by
  unfold bs sb
  rw [List.map_map]
  rfl

theorem enc_pos (n : Nat) : 0 < (enc n).length := by unfold enc; split <;> simp

def bitsN (n : Nat) : Nat := if n = 0 then 0 else bitsN (n / 2) + 1
decreasing_by omega

theorem bitsN_zero : bitsN 0 = 0 := by rw [bitsN]; rfl
theorem bitsN_pos {n : Nat} (h : 0 < n) : bitsN n = bitsN (n / 2) + 1 := by rw [bitsN, if_neg (by omega)]
theorem bitsN_le : ∀ (k n : Nat), n < 2 ^ k → bitsN n ≤ k
  | 0, n, h => by
    have : n = 0 := by omega
    rw [this, bitsN_zero]; omega
  | k + 1, n, h => by
    rcases Nat.eq_zero_or_pos n with rfl | hp
    · rw [bitsN_zero]; omega
    · rw [bitsN_pos hp]
      have := bitsN_le k (n / 2) (by rw [Nat.pow_succ] at h; omega)
      omega

/-- Only bytes. -/
def Byt (l : List Nat) : Prop := ∀ c ∈ l, c < 256

/-- The reading of a number: value, next offset, error. -/
def rd (at_ : Nat) : List Nat → Nat → Nat → Nat × Nat × Nat
  | [], _, _ => (0, 0, 6)
  | c :: r, i, n => if 128 ≤ c ∧ i ≠ 9 then rd at_ r (i + 1) (n + 2 ^ (7 * i) * (c % 128)) else if (i = 9 ∧ 1 < c) ∨ (c = 0 ∧ 0 < i) then (0, 0, 5) else (n + 2 ^ (7 * i) * (c % 128), at_ + i + 1, 0)

def readU (b : List Nat) (at_ : Int) : Nat × Nat × Nat :=
  if at_ < 0 ∨ (b.length : Int) < at_ then (0, 0, 1) else rd at_.toNat (b.drop at_.toNat) 0 0

def tri (x : Nat × Nat × Nat) : D := .tup [.int .u64 x.1, .int .i64 x.2.1, .int .i64 x.2.2]

theorem bop_and_127 (c : Nat) (hc : c < 256) : bop .and .u8 c 127 = ((c % 128 : Nat) : Int) := by
  have h1 : (BitVec.ofInt 8 (c : Int) &&& BitVec.ofInt 8 127).toNat = c % 128 := by
    have h2 : (BitVec.ofInt 8 (127 : Int)).toNat = 2 ^ 7 - 1 := by decide
    rw [BitVec.toNat_and, h2, Nat.and_two_pow_sub_one_eq_mod, BitVec.toNat_ofInt]
    omega
  show IntKind.u8.wrap ((BitVec.ofInt 8 (c : Int) &&& BitVec.ofInt 8 127).toNat : Int) = _
  rw [h1, wrap_u8]
  omega

theorem bop_or_u64 (x y : Nat) (hx : x < 18446744073709551616) (hy : y < 18446744073709551616) : bop .or .u64 x y = ((x ||| y : Nat) : Int) := by
  have h1 : (BitVec.ofInt 64 (x : Int) ||| BitVec.ofInt 64 (y : Int)).toNat = (x ||| y) := by
    simp only [BitVec.toNat_or, BitVec.toNat_ofInt]
    congr 1 <;> omega
  have h2 : x ||| y < 2 ^ 64 := Nat.or_lt_two_pow (by omega) (by omega)
  show IntKind.u64.wrap ((BitVec.ofInt 64 (x : Int) ||| BitVec.ofInt 64 (y : Int)).toNat : Int) = _
  rw [h1, wrap_u64]
  omega

theorem shb_u64 (q : Nat) (h : q ≤ 64) : shb .u64 q = q := by
  show min (q : Int).toNat 64 = q
  omega

theorem acc (n c i : Nat) (hc : c < 256) (hi : i ≤ 9) (hn : n < 2 ^ (7 * i)) (hs : i ≤ 8 ∨ c ≤ 1) :
    bop .or .u64 n (bop .and .u8 c 127 % 18446744073709551616 * 2 ^ shb .u64 (7 * (i : Int)) % 18446744073709551616) = ((n + 2 ^ (7 * i) * (c % 128) : Nat) : Int) := by
  have e1 : (7 * (i : Int)) = ((7 * i : Nat) : Int) := by omega
  rw [bop_and_127 c hc, e1, shb_u64 _ (by omega)]
  have hp : 2 ^ (7 * i) * (c % 128) < 18446744073709551616 := by
    rcases hs with h | h
    · have h1 : 2 ^ (7 * i) ≤ 2 ^ 56 := Nat.pow_le_pow_right (by omega) (by omega)
      have h2 : 2 ^ (7 * i) * (c % 128) ≤ 2 ^ 56 * 127 := Nat.mul_le_mul h1 (by omega)
      omega
    · have h1 : 2 ^ (7 * i) ≤ 2 ^ 63 := Nat.pow_le_pow_right (by omega) (by omega)
      have h2 : 2 ^ (7 * i) * (c % 128) ≤ 2 ^ 63 * 1 := Nat.mul_le_mul h1 (by omega)
      omega
  have hn' : n < 18446744073709551616 := by
    have h1 : 2 ^ (7 * i) ≤ 2 ^ 63 := Nat.pow_le_pow_right (by omega) (by omega)
    omega
  have e2 : (((c % 128 : Nat) : Int) % 18446744073709551616 * 2 ^ (7 * i) % 18446744073709551616) = ((2 ^ (7 * i) * (c % 128) : Nat) : Int) := by
    have e3 : ((c % 128 : Nat) : Int) % 18446744073709551616 = ((c % 128 : Nat) : Int) := by omega
    have e4 : ((c % 128 : Nat) : Int) * 2 ^ (7 * i) = ((2 ^ (7 * i) * (c % 128) : Nat) : Int) := by
      push_cast; rw [Int.mul_comm]
    rw [e3, e4]
    omega
  rw [e2, bop_or_u64 n _ hn' hp, Nat.add_comm, Nat.two_pow_add_eq_or_of_lt hn, Nat.or_comm]

/-- What a reading of a number may come to. -/
structure RdOk (k : Nat) (len : Nat) (r : Nat × Nat × Nat) : Prop where
  val : r.1 < 18446744073709551616
  ok : r.2.2 = 0 → k < r.2.1 ∧ r.2.1 ≤ k + len
  bad : r.2.2 ≠ 0 → r.1 = 0 ∧ r.2.1 = 0
  err : r.2.2 ≤ 6

theorem rd_spec (k : Nat) : ∀ (l : List Nat) (i n : Nat), i ≤ 9 → n < 2 ^ (7 * i) → (∀ c ∈ l, c < 256) → RdOk (k + i) l.length (rd k l i n)
  | [], i, n, _, _, _ => ⟨by simp [rd], fun h => by simp [rd] at h, fun _ => by simp [rd], by simp [rd]⟩
  | c :: r, i, n, hi, hn, hb => by
    have hc := hb c (by simp)
    have e : 2 ^ (7 * (i + 1)) = 2 ^ (7 * i) * 128 := by rw [Nat.mul_add, Nat.pow_add]
    simp only [rd]
    split
    · rename_i h
      have h4 : 2 ^ (7 * i) * (c % 128) ≤ 2 ^ (7 * i) * 127 := Nat.mul_le_mul_left _ (by omega)
      have ih := rd_spec k r (i + 1) (n + 2 ^ (7 * i) * (c % 128)) (by omega) (by omega) (fun c hc => hb c (by simp [hc]))
      exact ⟨ih.val, fun h0 => by have := ih.ok h0; simp only [List.length_cons]; omega, ih.bad, ih.err⟩
    · split
      · exact ⟨by simp, fun h => by simp at h, fun _ => by simp, by simp⟩
      · rename_i h1 h2
        refine ⟨?_, fun _ => by simp only [List.length_cons]; omega, fun h => absurd rfl h, by simp⟩
        show n + 2 ^ (7 * i) * (c % 128) < 18446744073709551616
        by_cases h9 : i = 9
        · subst h9
          have h4 : 2 ^ (7 * 9) * (c % 128) ≤ 2 ^ (7 * 9) * 1 := Nat.mul_le_mul_left _ (by omega)
          omega
        · have h4 : 2 ^ (7 * i) * (c % 128) ≤ 2 ^ (7 * i) * 127 := Nat.mul_le_mul_left _ (by omega)
          have h5 : 2 ^ (7 * i) ≤ 2 ^ 56 := Nat.pow_le_pow_right (by omega) (by omega)
          omega

theorem readU_spec (b : List Nat) (at_ : Int) (hb : Byt b) : RdOk at_.toNat (b.length - at_.toNat) (readU b at_) := by
  unfold readU
  split
  · exact ⟨by simp, fun h => by simp at h, fun _ => by simp, by simp⟩
  · have := rd_spec at_.toNat (b.drop at_.toNat) 0 0 (by omega) (by simp) (fun c hc => hb c (List.mem_of_mem_drop hc))
    simpa using this

theorem readU_in {b : List Nat} {at_ : Int} (h : (readU b at_).2.2 = 0) : 0 ≤ at_ ∧ at_ ≤ b.length := by
  unfold readU at h
  split at h
  · simp at h
  · omega

/-- The integer behind a number. -/
def unzig (n : Nat) : Int := if n % 2 = 0 then (n / 2 : Nat) else -((n / 2 : Nat) : Int) - 1

theorem bop_and_one (n : Nat) (hn : n < 18446744073709551616) : bop .and .u64 n 1 = ((n % 2 : Nat) : Int) := by
  have h1 : (BitVec.ofInt 64 (n : Int) &&& BitVec.ofInt 64 1).toNat = n % 2 := by
    have h2 : (BitVec.ofInt 64 (1 : Int)).toNat = 2 ^ 1 - 1 := by decide
    rw [BitVec.toNat_and, h2, Nat.and_two_pow_sub_one_eq_mod, BitVec.toNat_ofInt]
    omega
  show IntKind.u64.wrap ((BitVec.ofInt 64 (n : Int) &&& BitVec.ofInt 64 1).toNat : Int) = _
  rw [h1, wrap_u64]
  omega

theorem wrap_i64_big {x : Int} (h1 : 9223372036854775808 ≤ x) (h2 : x < 18446744073709551616) : IntKind.i64.wrap x = x - 18446744073709551616 := by
  have h : IntKind.i64.signed = true := rfl
  have e0 : IntKind.i64.bits = 64 := rfl
  have e1 : (2 ^ 64 : Int) = 18446744073709551616 := rfl
  have e2 : (2 ^ (64 - 1) : Int) = 9223372036854775808 := rfl
  simp only [IntKind.wrap, h, Bool.true_and, e0, e1, e2, decide_eq_true_eq]
  split <;> omega

theorem xor_unzig (n : Nat) (hn : n < 18446744073709551616) :
    bop .xor .i64 (IntKind.i64.wrap ((n : Int) / 2 ^ shb .u64 1)) (IntKind.i64.wrap (0 - IntKind.i64.wrap (bop .and .u64 n 1))) = unzig n := by
  have e1 : shb .u64 1 = 1 := rfl
  have e2 : (n : Int) / 2 ^ 1 = ((n / 2 : Nat) : Int) := by omega
  rw [e1, e2, bop_and_one n hn, wrap_i64 (x := ((n / 2 : Nat) : Int)) (by omega) (by omega), wrap_i64 (x := ((n % 2 : Nat) : Int)) (by omega) (by omega), wrap_i64 (x := 0 - ((n % 2 : Nat) : Int)) (by omega) (by omega)]
  unfold unzig
  split
  · rename_i h
    have e3 : (0 - ((n % 2 : Nat) : Int)) = 0 := by omega
    rw [e3]
    show IntKind.i64.wrap ((BitVec.ofInt 64 ((n / 2 : Nat) : Int) ^^^ BitVec.ofInt 64 0).toNat : Int) = _
    have h1 : (BitVec.ofInt 64 ((n / 2 : Nat) : Int) ^^^ BitVec.ofInt 64 0).toNat = n / 2 := by
      have : BitVec.ofInt 64 0 = 0#64 := rfl
      rw [this, BitVec.xor_zero, BitVec.toNat_ofInt]
      omega
    rw [h1, wrap_i64 (by omega) (by omega)]
  · rename_i h
    have e3 : (0 - ((n % 2 : Nat) : Int)) = -1 := by omega
    rw [e3]
    show IntKind.i64.wrap ((BitVec.ofInt 64 ((n / 2 : Nat) : Int) ^^^ BitVec.ofInt 64 (-1)).toNat : Int) = _
    have h1 : (BitVec.ofInt 64 ((n / 2 : Nat) : Int) ^^^ BitVec.ofInt 64 (-1)).toNat = 18446744073709551615 - n / 2 := by
      have : BitVec.ofInt 64 (-1) = BitVec.allOnes 64 := by decide
      rw [this, BitVec.xor_allOnes, BitVec.toNat_not, BitVec.toNat_ofInt]
      omega
    rw [h1, wrap_i64_big (by omega) (by omega)]
    omega

def triS (x : Nat × Nat × Nat) : D := .tup [.int .i64 (unzig x.1), .int .i64 x.2.1, .int .i64 x.2.2]

/-- The bounds of a byte string: from, to, error. -/
def spanF (b : List Nat) (at_ : Int) : Nat × Nat × Nat :=
  let r := readU b at_
  if r.2.2 ≠ 0 then (0, 0, r.2.2) else if 1048576 < r.1 then (0, 0, 2) else if b.length < r.2.1 + r.1 then (0, 0, 6) else (r.2.1, r.2.1 + r.1, 0)

def triI (x : Nat × Nat × Nat) : D := .tup [.int .i64 x.1, .int .i64 x.2.1, .int .i64 x.2.2]

theorem spanF_spec (b : List Nat) (at_ : Int) (hb : Byt b) : (spanF b at_).1 ≤ (spanF b at_).2.1 ∧ (spanF b at_).2.1 ≤ b.length := by
  have hs := readU_spec b at_ hb
  have hin := readU_in (b := b) (at_ := at_)
  unfold spanF
  generalize readU b at_ = r at hs hin ⊢
  obtain ⟨v, nx, er⟩ := r
  obtain ⟨h1, h2, h3, h4⟩ := hs
  simp only at h1 h2 h3 h4 hin ⊢
  split
  · simp
  · split
    · simp
    · split
      · simp
      · simp only; omega

/-- A row of bytes as a string. -/
def strN (l : List Nat) : ByteArray := strOfI ((bs l).map byteOfD)

def triT (b : List Nat) (x : Nat × Nat × Nat) : D := .tup [.str (strN ((b.drop x.1).take (x.2.1 - x.1))), .int .i64 x.2.1, .int .i64 x.2.2]

theorem bs_isByte (l : List Nat) (h : ∀ c ∈ l, c < 256) : (bs l).all isByte = true := by
  rw [List.all_eq_true]
  intro d hd
  simp only [bs, List.mem_map] at hd
  obtain ⟨c, hc, rfl⟩ := hd
  rfl

def triB (b : List Nat) (x : Nat × Nat × Nat) (t : Nat) : D := .tup [.sl (.live t 1) (bs ((b.drop x.1).take (x.2.1 - x.1))), .int .i64 x.2.1, .int .i64 x.2.2]

def triB0 (b : List Nat) (x : Nat × Nat × Nat) : D := .tup [.sl .none (bs ((b.drop x.1).take (x.2.1 - x.1))), .int .i64 x.2.1, .int .i64 x.2.2]

theorem byt_all {l : List Nat} (h : l.all (· < 256) = true) : Byt l := fun c hc => of_decide_eq_true (List.all_eq_true.1 h c hc)
theorem enc_len_pow : ∀ (k n : Nat), n < 128 ^ (k + 1) → (enc n).length ≤ k + 1
  | 0, n, h => by rw [enc_small (by simpa using h)]; simp
  | k + 1, n, h => by
    by_cases hn : n < 128
    · rw [enc_small hn]; simp
    · rw [enc_big (by omega)]
      have := enc_len_pow k (n / 128) (by rw [Nat.pow_succ] at h; omega)
      simp only [List.length_cons]
      omega
theorem enc_len {n : Nat} (h : n < 18446744073709551616) : (enc n).length ≤ 10 := enc_len_pow 9 n (by omega)
theorem enc_2 {n : Nat} (h : 128 ≤ n) (h' : n / 128 < 128) : enc n = [n % 128 + 128, n / 128] := by rw [enc_big h, enc_small h']

/-- What a value (a number, an integer, a text, a byte string) is made of, and its bounds. -/
structure Val where
  n : Nat
  k : Int
  s : ByteArray
  p : List Nat
def Val.cells (v : Val) : List D := [.int .u64 v.n, .int .i64 v.k, .str v.s, .sl .none (bs v.p)]
structure Val.ok (v : Val) : Prop where
  n : v.n < 18446744073709551616
  k : -9223372036854775808 ≤ v.k ∧ v.k < 9223372036854775808
  s : v.s.size ≤ 1048576
  p : v.p.length ≤ 1048576
  b : Byt v.p
theorem zig_lt {k : Int} (h : -9223372036854775808 ≤ k ∧ k < 9223372036854775808) : zig k < 18446744073709551616 := by unfold zig; split <;> omega

/-! What is written is read back: plain facts. -/
theorem enc_ne (n : Nat) : enc n ≠ [] := by unfold enc; split <;> simp
theorem byt_enc : ∀ n, Byt (enc n) := fun n => by
  induction n using Nat.strongRecOn with
  | _ n ih =>
    by_cases h : n < 128
    · rw [enc_small h]; intro c hc; simp at hc; omega
    · rw [enc_big (by omega)]
      intro c hc
      rcases List.mem_cons.1 hc with rfl | hc
      · omega
      · exact ih (n / 128) (by omega) c hc
theorem Byt.append {a b : List Nat} (h : Byt a) (h' : Byt b) : Byt (a ++ b) := fun c hc => by
  rcases List.mem_append.1 hc with hc | hc
  · exact h c hc
  · exact h' c hc
theorem Byt.take {a : List Nat} (h : Byt a) (n : Nat) : Byt (a.take n) := fun c hc => h c (List.mem_of_mem_take hc)
theorem Byt.drop {a : List Nat} (h : Byt a) (n : Nat) : Byt (a.drop n) := fun c hc => h c (List.mem_of_mem_drop hc)
theorem Byt.nil : Byt [] := fun c hc => by simp at hc

theorem rd_enc (k : Nat) (after : List Nat) : ∀ (m i acc : Nat), i ≤ 9 → m < 2 ^ (64 - 7 * i) → (0 < i → 0 < m) → rd k (enc m ++ after) i acc = (acc + 2 ^ (7 * i) * m, k + i + (enc m).length, 0) := fun m => by
  induction m using Nat.strongRecOn with
  | _ m ih =>
    intro i acc hi hm h0
    by_cases h : m < 128
    · rw [enc_small h]
      have h1 : ¬ (128 ≤ m ∧ i ≠ 9) := by omega
      have h2 : ¬ ((i = 9 ∧ 1 < m) ∨ (m = 0 ∧ 0 < i)) := by
        rintro (⟨rfl, h3⟩ | ⟨rfl, h3⟩)
        · have : m < 2 := by simpa using hm
          omega
        · have := h0 h3; omega
      simp only [List.singleton_append, rd, if_neg h1, if_neg h2, List.length_singleton, Nat.mod_eq_of_lt h]
    · have h9 : i ≠ 9 := by
        rintro rfl
        have : m < 2 := by simpa using hm
        omega
      have hm' : m / 128 < 2 ^ (64 - 7 * (i + 1)) := by
        have e : 64 - 7 * i = (64 - 7 * (i + 1)) + 7 := by omega
        rw [e, Nat.pow_add] at hm
        exact Nat.div_lt_of_lt_mul (by rw [Nat.mul_comm]; exact hm)
      have := ih (m / 128) (by omega) (i + 1) (acc + 2 ^ (7 * i) * (m % 128)) (by omega) hm' (by omega)
      rw [enc_big (by omega)]
      have h1 : 128 ≤ m % 128 + 128 ∧ i ≠ 9 := ⟨by omega, h9⟩
      have h2 : (m % 128 + 128) % 128 = m % 128 := by omega
      simp only [List.cons_append, rd, if_pos h1, h2, this, List.length_cons]
      have e : 2 ^ (7 * (i + 1)) = 2 ^ (7 * i) * 128 := by rw [Nat.mul_add, Nat.pow_add]
      have e2 : 2 ^ (7 * i) * m = 2 ^ (7 * i) * (m % 128) + 2 ^ (7 * i) * 128 * (m / 128) := by
        rw [Nat.mul_assoc, ← Nat.mul_add]; congr 1; omega
      rw [e, e2]
      simp only [Prod.mk.injEq, and_true]
      omega

theorem readU_enc (before after : List Nat) (n : Nat) (hn : n < 18446744073709551616) : readU (before ++ enc n ++ after) before.length = (n, before.length + (enc n).length, 0) := by
  unfold readU
  rw [if_neg (by simp; omega)]
  have e : ((before.length : Nat) : Int).toNat = before.length := rfl
  rw [e, List.append_assoc, List.drop_left, rd_enc _ _ n 0 0 (by omega) (by simpa using hn) (by omega)]
  simp

theorem unzig_zig (k : Int) : unzig (zig k) = k := by
  unfold unzig zig
  split <;> split <;> omega

theorem spanF_enc (before p after : List Nat) (hp : p.length ≤ 1048576) : spanF (before ++ enc p.length ++ p ++ after) before.length = (before.length + (enc p.length).length, before.length + (enc p.length).length + p.length, 0) := by
  unfold spanF
  have h := readU_enc before (p ++ after) p.length (by omega)
  rw [← List.append_assoc] at h
  simp only [h]
  rw [if_neg (by simp), if_neg (by omega), if_neg (by simp; omega)]

theorem cut_enc (before p after : List Nat) (n : Nat) : ((before ++ enc n ++ p ++ after).drop (before.length + (enc n).length)).take (before.length + (enc n).length + p.length - (before.length + (enc n).length)) = p := by
  have e : before.length + (enc n).length = (before ++ enc n).length := by simp
  rw [e, List.append_assoc, List.drop_left]
  simp

theorem strN_sb (s : ByteArray) : strN (sb s) = s := by
  have h1 : ∀ (l : List UInt8) (r : ByteArray), ((l.map fun c => (c.toNat : Int)).foldl (fun r n => r.push (UInt8.ofNat n.toNat)) r).data.toList = r.data.toList ++ l := by
    intro l
    induction l with
    | nil => intro r; simp
    | cons c l ih =>
      intro r
      rw [List.map_cons, List.foldl_cons, ih]
      have : UInt8.ofNat ((c.toNat : Int)).toNat = c := by simp
      rw [this]
      simp [ByteArray.push]
  refine WideShapes.bytes_inj ?_
  have e : (bs (sb s)).map byteOfD = s.data.toList.map fun c => (c.toNat : Int) := by
    simp [bs, sb, byteOfD, Function.comp_def]
  unfold strN strOfI
  rw [e, h1]
  rfl

theorem byt_sb (s : ByteArray) : Byt (sb s) := fun c hc => by
  simp only [sb, List.mem_map] at hc
  obtain ⟨x, _, rfl⟩ := hc
  exact x.toNat_lt

/-! What is accepted is what would be written: plain facts. -/
theorem rd_uniq (k : Nat) : ∀ (l : List Nat) (i acc v nx : Nat), (∀ c ∈ l, c < 256) → i ≤ 9 → rd k l i acc = (v, nx, 0) → ∃ m, v = acc + 2 ^ (7 * i) * m ∧ (0 < i → 0 < m) ∧ k + i < nx ∧ nx ≤ k + i + l.length ∧ enc m = l.take (nx - (k + i))
  | [], i, acc, v, nx, _, _, h => by simp [rd] at h
  | c :: r, i, acc, v, nx, hb, hi, h => by
    have hc := hb c (by simp)
    simp only [rd] at h
    split at h
    · rename_i h1
      obtain ⟨m, e1, e2, e3, e4, e5⟩ := rd_uniq k r (i + 1) _ v nx (fun c hc => hb c (by simp [hc])) (by omega) h
      have hm := e2 (by omega)
      refine ⟨m * 128 + c % 128, ?_, fun _ => by omega, by omega, by simp only [List.length_cons]; omega, ?_⟩
      · rw [e1]
        have e : 2 ^ (7 * (i + 1)) = 2 ^ (7 * i) * 128 := by rw [Nat.mul_add, Nat.pow_add]
        rw [e, Nat.mul_add, ← Nat.mul_assoc, Nat.mul_assoc, Nat.mul_comm 128 m, ← Nat.mul_assoc]
        omega
      · rw [enc_big (by omega)]
        have d1 : (m * 128 + c % 128) % 128 + 128 = c := by omega
        have d2 : (m * 128 + c % 128) / 128 = m := by omega
        have d3 : nx - (k + i) = (nx - (k + (i + 1))) + 1 := by omega
        rw [d1, d2, d3, List.take_succ_cons, e5]
    · split at h
      · simp at h
      · rename_i h1 h2
        simp only [Prod.mk.injEq, and_true] at h
        obtain ⟨rfl, rfl⟩ := h
        have hc2 : c < 128 := by omega
        refine ⟨c, by rw [Nat.mod_eq_of_lt hc2], fun _ => by omega, by omega, by simp only [List.length_cons]; omega, ?_⟩
        have d3 : k + i + 1 - (k + i) = 0 + 1 := by omega
        rw [enc_small hc2, d3, List.take_succ_cons, List.take_zero]

theorem readU_uniq {b : List Nat} {k : Nat} {v nx : Nat} (hb : Byt b) (hk : k ≤ b.length) (h : readU b k = (v, nx, 0)) : k < nx ∧ nx ≤ b.length ∧ b.take k ++ enc v = b.take nx := by
  unfold readU at h
  rw [if_neg (by omega)] at h
  have e : ((k : Nat) : Int).toNat = k := rfl
  rw [e] at h
  obtain ⟨m, e1, e2, e3, e4, e5⟩ := rd_uniq k (b.drop k) 0 0 v nx (fun c hc => hb c (List.mem_of_mem_drop hc)) (by omega) h
  simp only [Nat.mul_zero, Nat.pow_zero, Nat.one_mul, Nat.zero_add, Nat.add_zero, List.length_drop] at e1 e3 e4 e5
  subst e1
  refine ⟨e3, by omega, ?_⟩
  rw [e5, ← List.drop_take, ]
  have : b.take k = (b.take nx).take k := by rw [List.take_take, Nat.min_eq_left (by omega)]
  rw [this, List.take_append_drop]

theorem zig_unzig {n : Nat} : zig (unzig n) = n := by
  unfold unzig zig
  split <;> split <;> omega

theorem unzig_range {n : Nat} (h : n < 18446744073709551616) : -9223372036854775808 ≤ unzig n ∧ unzig n < 9223372036854775808 := by
  unfold unzig
  split <;> omega

/-- Reading back what was written. -/
theorem rd_short (k : Nat) : ∀ (m i acc j : Nat), j < (enc m).length → i + j ≤ 9 → rd k ((enc m).take j) i acc = (0, 0, 6) := fun m => by
  induction m using Nat.strongRecOn with
  | _ m ih =>
    intro i acc j hj hi
    cases j with
    | zero => simp [rd]
    | succ j =>
      by_cases h : m < 128
      · rw [enc_small h] at hj; simp at hj
      · rw [enc_big (by omega)] at hj ⊢
        simp only [List.length_cons] at hj
        have h1 : 128 ≤ m % 128 + 128 ∧ i ≠ 9 := by omega
        simp only [List.take_succ_cons, rd, if_pos h1]
        exact ih (m / 128) (by omega) (i + 1) _ j (by omega) (by omega)

theorem readU_short {n j : Nat} (hn : n < 18446744073709551616) (hj : j < (enc n).length) : readU ((enc n).take j) 0 = (0, 0, 6) := by
  unfold readU
  rw [if_neg (by omega)]
  have := enc_len hn
  exact rd_short _ n 0 0 j hj (by omega)

theorem spanF_short {p : List Nat} {j : Nat} (hp : p.length ≤ 1048576) (hj : j < (enc p.length ++ p).length) : spanF ((enc p.length ++ p).take j) 0 = (0, 0, 6) := by
  simp only [List.length_append] at hj
  unfold spanF
  by_cases h : j < (enc p.length).length
  · rw [List.take_append_of_le_length (by omega), readU_short (by omega) h]
    rfl
  · have e : (enc p.length ++ p).take j = [] ++ enc p.length ++ p.take (j - (enc p.length).length) := by
      rw [List.take_append, List.take_of_length_le (by omega)]
      rfl
    have := readU_enc [] (p.take (j - (enc p.length).length)) p.length (by omega)
    rw [e]
    have e0 : (([] : List Nat).length : Int) = 0 := rfl
    rw [e0] at this
    simp only [this]
    rw [if_neg (by simp), if_neg (by omega), if_pos (by simp; omega)]

/-- A proper beginning is too short. -/
def encV (b : List Nat) (v : Val) : List Nat := b ++ enc v.n ++ enc (zig v.k) ++ enc v.s.size ++ sb v.s ++ enc v.p.length ++ v.p
def encL (vs : List Val) : List Nat := vs.foldl encV []
def vls (vs : List Val) : List D := vs.map fun v => .agg v.cells

theorem byt_encV {b : List Nat} {v : Val} (hb : Byt b) (hp : Byt v.p) : Byt (encV b v) := (((((hb.append (byt_enc _)).append (byt_enc _)).append (byt_enc _)).append (byt_sb _)).append (byt_enc _)).append hp
theorem byt_encL : ∀ (vs : List Val), (∀ v ∈ vs, Byt v.p) → Byt (encL vs) := fun vs => by
  have key : ∀ (vs : List Val) (b : List Nat), Byt b → (∀ v ∈ vs, Byt v.p) → Byt (vs.foldl encV b) := fun vs => by
    induction vs with
    | nil => intro b hb _; exact hb
    | cons v vs ih => intro b hb h; exact ih _ (byt_encV hb (h v (by simp))) fun u hu => h u (by simp [hu])
  exact key vs [] Byt.nil
theorem ne_self {α : Type} (a : α) : (a ≠ a) = False := by simp
theorem VN.tk {f : FuncId} {xs : List D} {rest : List D} {d : D} {tk : Tk} (h : VN P G f (.sl .none xs :: rest) d) : VN P G f (.sl tk xs :: rest) d := fun K w vargs hr ha => h K w vargs hr (by
  cases ha with
  | cons h1 h2 => exact .cons h1.er1 h2)

end Go.Proofs.YtgkfcgfobckaaaaS
