import Derived.Test.YtpblgfgcoamgmaaS1
set_option linter.unusedVariables false
set_option linter.unusedSimpArgs false
namespace Go.Proofs.YtpblgfgcoamgmaaS
open Go Go.Proofs.YtpblgfgcoamgmaaV

variable {G : Heap}

def bs (l : List Nat) : List D := l.map fun (b : Nat) => .int .u8 b

theorem bs_length (l : List Nat) : (bs l).length = l.length := by simp [bs]
theorem bs_cells (l : List Nat) : (∀ x, x ∈ bs l → x.cells.length = 1) = True := by simp [bs, cells_int]
theorem bs_snoc (l : List Nat) (b : Nat) : bs l ++ [.int .u8 (b : Int)] = bs (l ++ [b]) := by simp [bs]

theorem bs_er (l : List Nat) : (bs l).map D.er = bs l := by simp [bs, er_int]
theorem bs_flat (l : List Nat) : flat (bs l) = bs l := by
  induction l with
  | nil => rfl
  | cons a l ih => simp only [bs, flat, List.map_cons, List.flatMap_cons, cells_int] at ih ⊢; rw [ih]; rfl
theorem bs_take (l : List Nat) (n : Nat) : (bs l).take n = bs (l.take n) := by simp [bs, List.map_take]
theorem bs_drop (l : List Nat) (n : Nat) : (bs l).drop n = bs (l.drop n) := by simp [bs, List.map_drop]
theorem bs_append (l m : List Nat) : bs l ++ bs m = bs (l ++ m) := by simp [bs]
theorem bs_solid (l : List Nat) : (∀ d, d ∈ bs l → d.cells.length = 1 ∧ d.solid = true) = True := by simp [bs, cells_int, solid_int]
theorem bs_one (l : List Nat) : ∀ d ∈ bs l, d.one = true := by simp [bs, one_int]
theorem bs_at (l : List Nat) {i : Nat} (h : i < l.length) : (bs l).getD i .any = .int .u8 ((l.getD i 0 : Nat) : Int) := by
  simp [bs, List.getD, List.getElem?_map, h]

def enc (n : Nat) : List Nat := if n < 128 then [n] else (n % 128 + 128) :: enc (n / 128)
decreasing_by omega

theorem enc_small {n : Nat} (h : n < 128) : enc n = [n] := by rw [enc, if_pos h]
theorem enc_big {n : Nat} (h : 128 ≤ n) : enc n = (n % 128 + 128) :: enc (n / 128) := by rw [enc, if_neg (by omega)]

theorem bop_or_u8 (a b : Nat) (ha : a < 256) (hb : b < 256) : bop .or .u8 a b = ((a ||| b : Nat) : Int) := by
  have h1 : (BitVec.ofInt IntKind.u8.bits (a : Int) ||| BitVec.ofInt IntKind.u8.bits (b : Int)).toNat = (a ||| b) := by
    simp only [BitVec.toNat_or, BitVec.toNat_ofInt]
    have e : IntKind.u8.bits = 8 := rfl
    rw [e]
    congr 1 <;> omega
  have h2 : a ||| b < 2 ^ 8 := Nat.or_lt_two_pow (by omega) (by omega)
  simp only [bop, wrap_u8, h1]
  omega

theorem or128 (n : Nat) : bop .or .u8 ((n : Int) % 256) 128 = ((n % 128 + 128 : Nat) : Int) := by
  have h := bop_or_u8 (n % 256) 128 (by omega) (by omega)
  have e : ((n % 256 : Nat) : Int) = (n : Int) % 256 := by omega
  rw [e] at h
  refine h.trans ?_
  congr 1
  have h3 : n % 256 = n / 128 % 2 * 128 + n % 128 := by omega
  have key : ∀ m : Fin 256, (m.val ||| 128) = m.val % 128 + 128 := by decide +kernel
  have := key ⟨n % 256, by omega⟩
  simp only at this
  rw [this]
  omega

theorem number_ok (t : Nat) (out : List Nat) (n : Nat) (hlen : out.length + (enc n).length ≤ 2^46) :
    VC P G 50 [.sl (.live t 1) (bs out), .int .u64 n] Heap.nil [t] fun o β ω => ∃ t', o = .ret (.sl (.live t' 1) (bs (out ++ enc n))) ∧ β = Heap.nil ∧ ω = [t'] := by
  refine VC.ofs (fun _ => []) [4] mixed Try.func50 rfl rfl rfl rfl rfl (by simp) ?_
  simp only [go_sem, reduceIte, Nat.reduceEqDiff, Nat.reduceAdd, Nat.reduceSub, Nat.reduceMul, Nat.reduceLT, Nat.reduceLeDiff, Nat.reducePow, Int.reduceToNat, Int.reduceLT, Int.reduceLE, Int.reduceEq, Int.reduceNe, Int.reduceAdd, Int.reduceSub, Int.reduceMul, Int.reduceNeg]
  refine vwq_loop (fun s => ∃ (t' : Nat) (out' : List Nat) (n' : Nat), s.σ 0 = .sl (.live t' 1) (bs out') ∧ s.σ 1 = .int .u64 n' ∧ s.β = Heap.nil ∧ s.ω = [t'] ∧ out' ++ enc n' = out ++ enc n) (fun s => (ival (s.σ 1)).toNat) ?_ ?_
  · exact ⟨t, out, n, rfl, rfl, rfl, rfl, rfl⟩
  · rintro σ β ω ⟨t', out', n', h0, h1, rfl, rfl, h2⟩
    dsimp only at h0 h1
    simp only [go_sem, reduceIte, Nat.reduceEqDiff, Nat.reduceAdd, Nat.reduceSub, Nat.reduceMul, Nat.reduceLT, Nat.reduceLeDiff, Nat.reducePow, Int.reduceToNat, Int.reduceLT, Int.reduceLE, Int.reduceEq, Int.reduceNe, Int.reduceAdd, Int.reduceSub, Int.reduceMul, Int.reduceNeg, h0, h1, ival_int, bs_length, bs_cells]
    have h3 : out'.length + (enc n').length = out.length + (enc n).length := by
      have := congrArg List.length h2
      simpa using this
    refine cd_dec (fun hn => ?_) (fun hn => ?_) <;> simp only [go_sem, reduceIte, Nat.reduceEqDiff, Nat.reduceAdd, Nat.reduceSub, Nat.reduceMul, Nat.reduceLT, Nat.reduceLeDiff, Nat.reducePow, Int.reduceToNat, Int.reduceLT, Int.reduceLE, Int.reduceEq, Int.reduceNe, Int.reduceAdd, Int.reduceSub, Int.reduceMul, Int.reduceNeg, h0, h1, ival_int, bs_length, bs_cells]
    · have hb := enc_big (n := n') (by omega)
      have h4 : 0 < (enc (n' / 128)).length := by
        unfold enc; split <;> simp
      rw [hb] at h3
      simp only [List.length_cons] at h3
      have e : (n' : Int) / 2 ^ shb .u64 7 = ((n' / 128 : Nat) : Int) := by
        have : shb .u64 7 = 7 := rfl
        rw [this]; omega
      refine ⟨by omega, fun t1 _ => ⟨⟨t1, out' ++ [n' % 128 + 128], n' / 128, ?_, ?_, rfl, ?_⟩, ?_⟩⟩
      · rw [or128, bs_snoc]
      · rw [e]
      · rw [← h2, hb]; simp
      · rw [e]; omega
    · have hs := enc_small (n := n') (by omega)
      rw [hs] at h3
      simp only [List.length_cons, List.length_nil] at h3
      refine ⟨by omega, fun t1 _ => finK_exact ⟨t1, ?_, rfl, rfl⟩⟩
      have e : (n' : Int) % 256 = (n' : Int) := by omega
      rw [e, bs_snoc, ← h2, hs]
attribute [go_sem] bs_length bs_cells bs_er bs_flat bs_take bs_drop bs_solid

theorem number_t1 (t : Nat) (out : List Nat) (n : Nat) (hlen : out.length + (enc n).length ≤ 2^46) : VT1 P G 50 [.sl (.live t 1) (bs out), .int .u64 n] t (fun t' => .sl (.live t' 1) (bs (out ++ enc n))) := number_ok t out n hlen

theorem zeros_bs (n : Nat) : zeros [.int .u8 0] n = bs (List.replicate n 0) := by
  induction n with
  | zero => rfl
  | succ n ih =>
    have : zeros [.int .u8 0] (n + 1) = .int .u8 0 :: zeros [.int .u8 0] n := by simp [zeros, List.replicate_succ]
    rw [this, ih, List.replicate_succ]
    simp [bs]

theorem room_ok (tk : Tk) (b : List Nat) (n : Nat) (hlen : b.length + n ≤ 2^46) : VT0 P G 51 [.sl tk (bs b), .int .i64 n] (fun t' => .sl (.live t' 1) (bs b)) := by
  refine VC.turn (Φ1 := fun o β ω => ∃ bx cs, o = .ret (.so bx 0 b.length (b.length + n)) ∧ β bx = some cs ∧ ω = [] ∧ isObj cs = false ∧ cs.length = b.length + n ∧ cs.take b.length = bs b) ?_ ?_ ?_
  · refine VC.ofs (fun _ => []) [4] mixed Try.func51 rfl rfl rfl rfl rfl (by simp) ?_
    simp only [go_sem, reduceIte, Nat.reduceEqDiff, Nat.reduceAdd, Nat.reduceSub, Nat.reduceMul, Nat.reduceLT, Nat.reduceLeDiff, Nat.reducePow, Int.reduceToNat, Int.reduceLT, Int.reduceLE, Int.reduceEq, Int.reduceNe, Int.reduceAdd, Int.reduceSub, Int.reduceMul, Int.reduceNeg]
    rw [wrap_i64 (by omega) (by omega)]
    have e : (((b.length : Int) + (n : Int))).toNat = b.length + n := by omega
    simp only [e, zeros_bs, bs_length, List.length_replicate, bs_drop, bs_append, Nat.min_self, List.take_length]
    refine ⟨by omega, by omega, by omega, by omega, fun bx => ⟨isObj_of (bs_one _), by omega, finK_exact ⟨bx, bs (b ++ List.drop (0 + b.length) (List.replicate (b.length + n) 0)), rfl, by simp only [set_at, if_true], rfl, isObj_of (bs_one _), ?_, ?_⟩⟩⟩
    · rw [bs_length]; simp
    · rw [bs_take]; simp
  · rintro d β' ω' ⟨bx, cs, h1, h2, h6, h3, h4, h5⟩
    cases h1
    refine Turn.bind (Turn.freeze (m := 1) (xs := bs b) h2 h3 (by omega) (by omega) ?_ ?_ (bs_length b) (by simp [mostLen]; omega)) ?_
    · rw [bs_flat, Nat.mul_one, h5]
    · have := bs_cells b
      simpa using this
    · rintro d β ω ⟨t, ht, rfl, rfl, rfl⟩
      refine Turn.weak ⟨_, Heap.nil, [t], Wk.refl _, fun _ _ h => (nomatch h : False).elim, fun u hu => ?_, t, rfl, rfl, rfl⟩
      simp at hu
      simp [hu]
  · rintro d β' ω' ⟨bx, cs, h1, _⟩
    cases h1

theorem U_ok (tk : Tk) (b : List Nat) (n : Nat) (hb : b.length ≤ 2^45) (he : (enc n).length ≤ 2^45) : VT0 P G 29 [.sl tk (bs b), .int .u64 n] (fun t' => .sl (.live t' 1) (bs (b ++ enc n))) := by
  refine VC.ofs (fun | 99999999 => [(0, [0, 1, 4])] | _ => []) [4] mixed Try.func29 rfl rfl rfl rfl (by decide +kernel) (by simp) ?_
  simp only [go_sem, reduceIte, Nat.reduceEqDiff, Nat.reduceAdd, Nat.reduceSub, Nat.reduceMul, Nat.reduceLT, Nat.reduceLeDiff, Nat.reducePow, Int.reduceToNat, Int.reduceLT, Int.reduceLE, Int.reduceEq, Int.reduceNe, Int.reduceAdd, Int.reduceSub, Int.reduceMul, Int.reduceNeg]
  refine cK_t0 (room_ok tk b 10 (by omega)) fun t _ => ?_
  simp only [go_sem, reduceIte, Nat.reduceEqDiff, Nat.reduceAdd, Nat.reduceSub, Nat.reduceMul, Nat.reduceLT, Nat.reduceLeDiff, Nat.reducePow, Int.reduceToNat, Int.reduceLT, Int.reduceLE, Int.reduceEq, Int.reduceNe, Int.reduceAdd, Int.reduceSub, Int.reduceMul, Int.reduceNeg]
  refine cK_t1 (number_t1 t b n (by omega)) (by simp) fun t' => ?_
  simp only [go_sem, reduceIte, Nat.reduceEqDiff, Nat.reduceAdd, Nat.reduceSub, Nat.reduceMul, Nat.reduceLT, Nat.reduceLeDiff, Nat.reducePow, Int.reduceToNat, Int.reduceLT, Int.reduceLE, Int.reduceEq, Int.reduceNe, Int.reduceAdd, Int.reduceSub, Int.reduceMul, Int.reduceNeg, joinT_one]
  exact finK_exact ⟨t', rfl, rfl, rfl⟩

def zig (k : Int) : Nat := if 0 ≤ k then (2 * k).toNat else (-2 * k - 1).toNat

theorem bop_xor_zero (x : Int) (h0 : 0 ≤ x) (h1 : x < 18446744073709551616) : bop .xor .u64 x 0 = x := by
  have h : (BitVec.ofInt 64 x ^^^ BitVec.ofInt 64 0).toNat = x.toNat := by
    have : BitVec.ofInt 64 0 = 0#64 := rfl
    rw [this, BitVec.xor_zero, BitVec.toNat_ofInt]
    omega
  show IntKind.u64.wrap ((BitVec.ofInt 64 x ^^^ BitVec.ofInt 64 0).toNat : Int) = x
  rw [h, wrap_u64]
  omega

theorem bop_xor_ones (x : Int) (h0 : 0 ≤ x) (h1 : x < 18446744073709551616) : bop .xor .u64 x 18446744073709551615 = 18446744073709551615 - x := by
  have h : (BitVec.ofInt 64 x ^^^ BitVec.ofInt 64 18446744073709551615).toNat = 18446744073709551615 - x.toNat := by
    have : BitVec.ofInt 64 18446744073709551615 = BitVec.allOnes 64 := by decide
    rw [this, BitVec.xor_allOnes, BitVec.toNat_not, BitVec.toNat_ofInt]
    omega
  show IntKind.u64.wrap ((BitVec.ofInt 64 x ^^^ BitVec.ofInt 64 18446744073709551615).toNat : Int) = _
  rw [h, wrap_u64]
  omega

theorem xor_zig (k : Int) (hk : -9223372036854775808 ≤ k ∧ k < 9223372036854775808) :
    bop .xor .u64 (k % 18446744073709551616 * 2 ^ shb .u64 1 % 18446744073709551616) (k / 2 ^ shb .i64 63 % 18446744073709551616) = (zig k : Int) := by
  have e1 : shb .u64 1 = 1 := rfl
  have e2 : shb .i64 63 = 63 := rfl
  rw [e1, e2]
  unfold zig
  by_cases h : 0 ≤ k
  · have e3 : k / 2 ^ 63 % 18446744073709551616 = 0 := by omega
    rw [e3, bop_xor_zero _ (by omega) (by omega), if_pos h]
    omega
  · have e3 : k / 2 ^ 63 % 18446744073709551616 = 18446744073709551615 := by omega
    rw [e3, bop_xor_ones _ (by omega) (by omega), if_neg h]
    omega

theorem S_ok (tk : Tk) (b : List Nat) (k : Int) (hk : -9223372036854775808 ≤ k ∧ k < 9223372036854775808) (hb : b.length ≤ 2^45) (he : (enc (zig k)).length ≤ 2^45) : VT0 P G 32 [.sl tk (bs b), .int .i64 k] (fun t' => .sl (.live t' 1) (bs (b ++ enc (zig k)))) := by
  refine VC.ofs (fun | 99999999 => [(0, [0, 1, 4])] | _ => []) [4] mixed Try.func32 rfl rfl rfl rfl (by decide +kernel) (by simp) ?_
  simp only [go_sem, reduceIte, Nat.reduceEqDiff, Nat.reduceAdd, Nat.reduceSub, Nat.reduceMul, Nat.reduceLT, Nat.reduceLeDiff, Nat.reducePow, Int.reduceToNat, Int.reduceLT, Int.reduceLE, Int.reduceEq, Int.reduceNe, Int.reduceAdd, Int.reduceSub, Int.reduceMul, Int.reduceNeg, xor_zig k hk]
  refine cK_t0 (U_ok tk b (zig k) hb he) fun t _ => ?_
  simp only [go_sem, reduceIte, Nat.reduceEqDiff, Nat.reduceAdd, Nat.reduceSub, Nat.reduceMul, Nat.reduceLT, Nat.reduceLeDiff, Nat.reducePow, Int.reduceToNat, Int.reduceLT, Int.reduceLE, Int.reduceEq, Int.reduceNe, Int.reduceAdd, Int.reduceSub, Int.reduceMul, Int.reduceNeg]
  exact finK_exact ⟨t, rfl, rfl, rfl⟩

/-- A string's bytes. -/
def sb (s : ByteArray) : List Nat := s.data.toList.map (·.toNat)
theorem sb_length (s : ByteArray) : (sb s).length = s.size := by
  unfold sb
  rw [List.length_map, Array.length_toList]
  rfl
theorem bs_str (s : ByteArray) : (s.data.toList.map fun b => D.int .u8 (b.toNat : Int)) = bs (sb s) := by
  unfold bs sb
  rw [List.map_map]
  rfl

theorem sized33_ok (tk : Tk) (b : List Nat) (s : ByteArray) (hb : b.length + s.size ≤ 2^45) (he : (enc s.size).length ≤ 2^44) : VT0 P G 57 [.sl tk (bs b), .str s] (fun t' => .sl (.live t' 1) (bs (b ++ enc s.size ++ sb s))) := by
  refine VC.ofs (fun | 99999999 => [(0, [0, 1, 4, 5])] | _ => []) [4] mixed Try.func57 rfl rfl rfl rfl (by decide +kernel) (by simp) ?_
  simp only [go_sem, reduceIte, Nat.reduceEqDiff, Nat.reduceAdd, Nat.reduceSub, Nat.reduceMul, Nat.reduceLT, Nat.reduceLeDiff, Nat.reducePow, Int.reduceToNat, Int.reduceLT, Int.reduceLE, Int.reduceEq, Int.reduceNe, Int.reduceAdd, Int.reduceSub, Int.reduceMul, Int.reduceNeg]
  rw [wrap_i64 (by omega) (by omega)]
  have e : (10 + (s.size : Int)) = ((10 + s.size : Nat) : Int) := by omega
  rw [e]
  refine cK_t0 (room_ok tk b (10 + s.size) (by omega)) fun t _ => ?_
  simp only [go_sem, reduceIte, Nat.reduceEqDiff, Nat.reduceAdd, Nat.reduceSub, Nat.reduceMul, Nat.reduceLT, Nat.reduceLeDiff, Nat.reducePow, Int.reduceToNat, Int.reduceLT, Int.reduceLE, Int.reduceEq, Int.reduceNe, Int.reduceAdd, Int.reduceSub, Int.reduceMul, Int.reduceNeg]
  have e : ((s.size : Int) % 18446744073709551616) = (s.size : Int) := by omega
  rw [e]
  refine cK_t1 (number_t1 t b s.size (by omega)) (by simp) fun t' => ?_
  simp only [go_sem, reduceIte, Nat.reduceEqDiff, Nat.reduceAdd, Nat.reduceSub, Nat.reduceMul, Nat.reduceLT, Nat.reduceLeDiff, Nat.reducePow, Int.reduceToNat, Int.reduceLT, Int.reduceLE, Int.reduceEq, Int.reduceNe, Int.reduceAdd, Int.reduceSub, Int.reduceMul, Int.reduceNeg, joinT_one, bs_str, bs_append, sb_length, List.length_append]
  exact ⟨by omega, fun t2 _ => finK_exact ⟨t2, rfl, rfl, rfl⟩⟩

theorem Text_ok (tk : Tk) (b : List Nat) (s : ByteArray) (hb : b.length + s.size ≤ 2^45) (he : (enc s.size).length ≤ 2^44) : VT0 P G 31 [.sl tk (bs b), .str s] (fun t' => .sl (.live t' 1) (bs (b ++ enc s.size ++ sb s))) := by
  refine VC.ofs (fun | 99999999 => [(0, [0, 1, 4])] | _ => []) [4] mixed Try.func31 rfl rfl rfl rfl (by decide +kernel) (by simp) ?_
  simp only [go_sem, reduceIte, Nat.reduceEqDiff, Nat.reduceAdd, Nat.reduceSub, Nat.reduceMul, Nat.reduceLT, Nat.reduceLeDiff, Nat.reducePow, Int.reduceToNat, Int.reduceLT, Int.reduceLE, Int.reduceEq, Int.reduceNe, Int.reduceAdd, Int.reduceSub, Int.reduceMul, Int.reduceNeg]
  refine cK_t0 (sized33_ok tk b s hb he) fun t _ => ?_
  simp only [go_sem, reduceIte, Nat.reduceEqDiff, Nat.reduceAdd, Nat.reduceSub, Nat.reduceMul, Nat.reduceLT, Nat.reduceLeDiff, Nat.reducePow, Int.reduceToNat, Int.reduceLT, Int.reduceLE, Int.reduceEq, Int.reduceNe, Int.reduceAdd, Int.reduceSub, Int.reduceMul, Int.reduceNeg]
  exact finK_exact ⟨t, rfl, rfl, rfl⟩

theorem enc_pos (n : Nat) : 0 < (enc n).length := by unfold enc; split <;> simp

def bitsN (n : Nat) : Nat := if n = 0 then 0 else bitsN (n / 2) + 1
decreasing_by omega

theorem bitsN_zero : bitsN 0 = 0 := by rw [bitsN]; rfl
theorem bitsN_pos {n : Nat} (h : 0 < n) : bitsN n = bitsN (n / 2) + 1 := by rw [bitsN, if_neg (by omega)]
theorem bitsN_le : ∀ (k n : Nat), n < 2 ^ k → bitsN n ≤ k
  | 0, n, h => by
    have : n = 0 := by omega
    rw [this, bitsN_zero]; omega
  | k + 1, n, h => by
    rcases Nat.eq_zero_or_pos n with rfl | hp
    · rw [bitsN_zero]; omega
    · rw [bitsN_pos hp]
      have := bitsN_le k (n / 2) (by rw [Nat.pow_succ] at h; omega)
      omega

/-- Only bytes. -/
def Byt (l : List Nat) : Prop := ∀ c ∈ l, c < 256

/-- The reading of a number: value, next offset, error. -/
def rd (at_ : Nat) : List Nat → Nat → Nat → Nat × Nat × Nat
  | [], _, _ => (0, 0, 6)
  | c :: r, i, n => if 128 ≤ c ∧ i ≠ 9 then rd at_ r (i + 1) (n + 2 ^ (7 * i) * (c % 128)) else if (i = 9 ∧ 1 < c) ∨ (c = 0 ∧ 0 < i) then (0, 0, 5) else (n + 2 ^ (7 * i) * (c % 128), at_ + i + 1, 0)

def readU (b : List Nat) (at_ : Int) : Nat × Nat × Nat :=
  if at_ < 0 ∨ (b.length : Int) < at_ then (0, 0, 1) else rd at_.toNat (b.drop at_.toNat) 0 0

def tri (x : Nat × Nat × Nat) : D := .tup [.int .u64 x.1, .int .i64 x.2.1, .int .i64 x.2.2]

theorem bop_and_127 (c : Nat) (hc : c < 256) : bop .and .u8 c 127 = ((c % 128 : Nat) : Int) := by
  have h1 : (BitVec.ofInt 8 (c : Int) &&& BitVec.ofInt 8 127).toNat = c % 128 := by
    have h2 : (BitVec.ofInt 8 (127 : Int)).toNat = 2 ^ 7 - 1 := by decide
    rw [BitVec.toNat_and, h2, Nat.and_two_pow_sub_one_eq_mod, BitVec.toNat_ofInt]
    omega
  show IntKind.u8.wrap ((BitVec.ofInt 8 (c : Int) &&& BitVec.ofInt 8 127).toNat : Int) = _
  rw [h1, wrap_u8]
  omega

theorem bop_or_u64 (x y : Nat) (hx : x < 18446744073709551616) (hy : y < 18446744073709551616) : bop .or .u64 x y = ((x ||| y : Nat) : Int) := by
  have h1 : (BitVec.ofInt 64 (x : Int) ||| BitVec.ofInt 64 (y : Int)).toNat = (x ||| y) := by
    simp only [BitVec.toNat_or, BitVec.toNat_ofInt]
    congr 1 <;> omega
  have h2 : x ||| y < 2 ^ 64 := Nat.or_lt_two_pow (by omega) (by omega)
  show IntKind.u64.wrap ((BitVec.ofInt 64 (x : Int) ||| BitVec.ofInt 64 (y : Int)).toNat : Int) = _
  rw [h1, wrap_u64]
  omega

theorem shb_u64 (q : Nat) (h : q ≤ 64) : shb .u64 q = q := by
  show min (q : Int).toNat 64 = q
  omega

theorem acc (n c i : Nat) (hc : c < 256) (hi : i ≤ 9) (hn : n < 2 ^ (7 * i)) (hs : i ≤ 8 ∨ c ≤ 1) :
    bop .or .u64 n (bop .and .u8 c 127 % 18446744073709551616 * 2 ^ shb .u64 (7 * (i : Int)) % 18446744073709551616) = ((n + 2 ^ (7 * i) * (c % 128) : Nat) : Int) := by
  have e1 : (7 * (i : Int)) = ((7 * i : Nat) : Int) := by omega
  rw [bop_and_127 c hc, e1, shb_u64 _ (by omega)]
  have hp : 2 ^ (7 * i) * (c % 128) < 18446744073709551616 := by
    rcases hs with h | h
    · have h1 : 2 ^ (7 * i) ≤ 2 ^ 56 := Nat.pow_le_pow_right (by omega) (by omega)
      have h2 : 2 ^ (7 * i) * (c % 128) ≤ 2 ^ 56 * 127 := Nat.mul_le_mul h1 (by omega)
      omega
    · have h1 : 2 ^ (7 * i) ≤ 2 ^ 63 := Nat.pow_le_pow_right (by omega) (by omega)
      have h2 : 2 ^ (7 * i) * (c % 128) ≤ 2 ^ 63 * 1 := Nat.mul_le_mul h1 (by omega)
      omega
  have hn' : n < 18446744073709551616 := by
    have h1 : 2 ^ (7 * i) ≤ 2 ^ 63 := Nat.pow_le_pow_right (by omega) (by omega)
    omega
  have e2 : (((c % 128 : Nat) : Int) % 18446744073709551616 * 2 ^ (7 * i) % 18446744073709551616) = ((2 ^ (7 * i) * (c % 128) : Nat) : Int) := by
    have e3 : ((c % 128 : Nat) : Int) % 18446744073709551616 = ((c % 128 : Nat) : Int) := by omega
    have e4 : ((c % 128 : Nat) : Int) * 2 ^ (7 * i) = ((2 ^ (7 * i) * (c % 128) : Nat) : Int) := by
      push_cast; rw [Int.mul_comm]
    rw [e3, e4]
    omega
  rw [e2, bop_or_u64 n _ hn' hp, Nat.add_comm, Nat.two_pow_add_eq_or_of_lt hn, Nat.or_comm]

theorem ReadU_ok (tk : Tk) (b : List Nat) (at_ : Int) (hb : Byt b) : VN P G 64 [.sl tk (bs b), .int .i64 at_] (tri (readU b at_)) := by
  refine VC.small fun hsm => ?_
  have hx : b.length ≤ 281474976710656 := by have := hsm (.sl tk (bs b)) (by simp); simpa [Small, bs_length, mostLen] using this
  refine VC.ofs (fun | 99999999 => [(0, [0, 1, 4, 5, 6, 7, 8, 9, 10, 11, 19, 22, 23, 24, 25, 39, 46])] | _ => []) [4, 5, 6] mixed Try.func64 rfl rfl rfl rfl (by decide +kernel) (by simp) ?_
  simp only [go_sem, reduceIte, Nat.reduceEqDiff, Nat.reduceAdd, Nat.reduceSub, Nat.reduceMul, Nat.reduceLT, Nat.reduceLeDiff, Nat.reducePow, Int.reduceToNat, Int.reduceLT, Int.reduceLE, Int.reduceEq, Int.reduceNe, Int.reduceAdd, Int.reduceSub, Int.reduceMul, Int.reduceNeg]
  refine cd_dec (fun h => ?_) (fun h => ?_)
  · simp only [go_sem, reduceIte, Nat.reduceEqDiff, Nat.reduceAdd, Nat.reduceSub, Nat.reduceMul, Nat.reduceLT, Nat.reduceLeDiff, Nat.reducePow, Int.reduceToNat, Int.reduceLT, Int.reduceLE, Int.reduceEq, Int.reduceNe, Int.reduceAdd, Int.reduceSub, Int.reduceMul, Int.reduceNeg]
    exact finK_exact ⟨by simp [tri, readU, h], rfl, rfl⟩
  · simp only [go_sem, reduceIte, Nat.reduceEqDiff, Nat.reduceAdd, Nat.reduceSub, Nat.reduceMul, Nat.reduceLT, Nat.reduceLeDiff, Nat.reducePow, Int.reduceToNat, Int.reduceLT, Int.reduceLE, Int.reduceEq, Int.reduceNe, Int.reduceAdd, Int.reduceSub, Int.reduceMul, Int.reduceNeg]
    obtain ⟨k, rfl⟩ : ∃ k : Nat, at_ = k := ⟨at_.toNat, by omega⟩
    refine ⟨⟨by omega, by omega, by omega⟩, ?_⟩
    have hk : k ≤ b.length := by omega
    have hl : (b.drop k).length = b.length - k := by simp
    refine vwq_loop (fun s => ∃ (tk' : Tk) (i n : Nat), s.σ 1 = .int .i64 k ∧ s.σ 22 = .sl tk' (bs (b.drop k)) ∧ s.σ 23 = .int .i64 (b.drop k).length ∧ s.σ 24 = .int .i64 i ∧ s.σ 7 = .int .u64 n ∧ s.σ 8 = .int .i64 6 ∧ s.β = Heap.nil ∧ s.ω = [] ∧ i ≤ (b.drop k).length ∧ i ≤ 9 ∧ n < 2 ^ (7 * i) ∧ rd k ((b.drop k).drop i) i n = rd k (b.drop k) 0 0) (fun s => 9 - (ival (s.σ 24)).toNat) ?_ ?_
    · have e : List.take (b.length - (k : Int).toNat) (List.drop (k : Int).toNat b) = b.drop k := by
        have : (k : Int).toNat = k := rfl
        rw [this]; exact List.take_of_length_le (by simp)
      refine ⟨.none, 0, 0, rfl, ?_, ?_, rfl, rfl, rfl, rfl, rfl, by omega, by omega, by simp, by simp⟩
      · show D.sl .none (bs (List.take (b.length - (k : Int).toNat) (List.drop (k : Int).toNat b))) = _
        rw [e]
      · show D.int .i64 (List.take (b.length - (k : Int).toNat) (List.drop (k : Int).toNat b)).length = _
        rw [e]
    rintro σ β ω ⟨tk', i, n, h1, h22, h23, h24, h7, h8, rfl, rfl, hi, hi9, hn, hrd⟩
    dsimp only at h1 h22 h23 h24 h7 h8
    simp only [go_sem, reduceIte, Nat.reduceEqDiff, Nat.reduceAdd, Nat.reduceSub, Nat.reduceMul, Nat.reduceLT, Nat.reduceLeDiff, Nat.reducePow, Int.reduceToNat, Int.reduceLT, Int.reduceLE, Int.reduceEq, Int.reduceNe, Int.reduceAdd, Int.reduceSub, Int.reduceMul, Int.reduceNeg, h1, h22, h23, h24, h7, h8]
    refine cd_dec (fun h => ?_) (fun h => ?_)
    · have hi' : i < (b.drop k).length := by omega
      simp only [go_sem, reduceIte, Nat.reduceEqDiff, Nat.reduceAdd, Nat.reduceSub, Nat.reduceMul, Nat.reduceLT, Nat.reduceLeDiff, Nat.reducePow, Int.reduceToNat, Int.reduceLT, Int.reduceLE, Int.reduceEq, Int.reduceNe, Int.reduceAdd, Int.reduceSub, Int.reduceMul, Int.reduceNeg, h1, h22, h23, h24, h7, h8, bs_at _ hi']
      have hc : (b.drop k).getD i 0 < 256 := by
        simp only [List.getD, List.getElem?_eq_getElem hi', Option.getD_some]
        exact hb _ (List.mem_of_mem_drop (List.getElem_mem hi'))
      have hdr : (b.drop k).drop i = (b.drop k).getD i 0 :: (b.drop k).drop (i + 1) := by
        rw [List.drop_eq_getElem_cons hi']
        simp [List.getD, List.getElem?_eq_getElem hi']
      generalize (b.drop k).getD i 0 = c at hc hdr ⊢
      rw [hdr] at hrd
      rw [wrap_i64 (x := 7 * (i : Int)) (by omega) (by omega)]
      have hru : readU b k = rd k (c :: (b.drop k).drop (i + 1)) i n := by
        unfold readU
        rw [if_neg (by omega)]
        exact hrd.symm
      refine ⟨⟨by omega, by omega⟩, by omega, cd_dec (fun h2 => ?_) (fun h2 => ?_)⟩
      · simp only [go_sem, reduceIte, Nat.reduceEqDiff, Nat.reduceAdd, Nat.reduceSub, Nat.reduceMul, Nat.reduceLT, Nat.reduceLeDiff, Nat.reducePow, Int.reduceToNat, Int.reduceLT, Int.reduceLE, Int.reduceEq, Int.reduceNe, Int.reduceAdd, Int.reduceSub, Int.reduceMul, Int.reduceNeg, h1, h22, h23, h24, h7, h8]
        have h3 : 128 ≤ c ∧ i ≠ 9 := by omega
        rw [wrap_i64 (x := (i : Int) + 1) (by omega) (by omega), acc n c i hc hi9 hn (by omega)]
        refine ⟨⟨tk', i + 1, n + 2 ^ (7 * i) * (c % 128), rfl, rfl, rfl, by omega, by omega, ?_, ?_⟩, by omega⟩
        · have e : 2 ^ (7 * (i + 1)) = 2 ^ (7 * i) * 128 := by rw [Nat.mul_add, Nat.pow_add]
          have h4 : 2 ^ (7 * i) * (c % 128) ≤ 2 ^ (7 * i) * 127 := Nat.mul_le_mul_left _ (by omega)
          omega
        · rw [← hrd]
          simp only [rd, if_pos h3]
      · simp only [go_sem, reduceIte, Nat.reduceEqDiff, Nat.reduceAdd, Nat.reduceSub, Nat.reduceMul, Nat.reduceLT, Nat.reduceLeDiff, Nat.reducePow, Int.reduceToNat, Int.reduceLT, Int.reduceLE, Int.reduceEq, Int.reduceNe, Int.reduceAdd, Int.reduceSub, Int.reduceMul, Int.reduceNeg, h1, h22, h23, h24, h7, h8]
        have h3 : ¬ (128 ≤ c ∧ i ≠ 9) := by omega
        simp only [rd, if_neg h3] at hru
        have bad : (i = 9 ∧ 1 < c) ∨ (c = 0 ∧ 0 < i) → readU b k = (0, 0, 5) := fun h => by rw [hru, if_pos h]
        refine cd_dec (fun h4 => ?_) (fun h4 => ?_)
        · simp only [go_sem, reduceIte, Nat.reduceEqDiff, Nat.reduceAdd, Nat.reduceSub, Nat.reduceMul, Nat.reduceLT, Nat.reduceLeDiff, Nat.reducePow, Int.reduceToNat, Int.reduceLT, Int.reduceLE, Int.reduceEq, Int.reduceNe, Int.reduceAdd, Int.reduceSub, Int.reduceMul, Int.reduceNeg, h1, h22, h23, h24, h7, h8]
          refine cd_dec (fun h5 => ?_) (fun h5 => absurd h4 h5)
          simp only [go_sem, reduceIte, Nat.reduceEqDiff, Nat.reduceAdd, Nat.reduceSub, Nat.reduceMul, Nat.reduceLT, Nat.reduceLeDiff, Nat.reducePow, Int.reduceToNat, Int.reduceLT, Int.reduceLE, Int.reduceEq, Int.reduceNe, Int.reduceAdd, Int.reduceSub, Int.reduceMul, Int.reduceNeg, h1, h22, h23, h24, h7, h8]
          exact finK_exact ⟨by rw [bad (by omega)]; rfl, rfl, rfl⟩
        · simp only [go_sem, reduceIte, Nat.reduceEqDiff, Nat.reduceAdd, Nat.reduceSub, Nat.reduceMul, Nat.reduceLT, Nat.reduceLeDiff, Nat.reducePow, Int.reduceToNat, Int.reduceLT, Int.reduceLE, Int.reduceEq, Int.reduceNe, Int.reduceAdd, Int.reduceSub, Int.reduceMul, Int.reduceNeg, h1, h22, h23, h24, h7, h8]
          refine cd_dec (fun h5 => ?_) (fun h5 => ?_)
          · simp only [go_sem, reduceIte, Nat.reduceEqDiff, Nat.reduceAdd, Nat.reduceSub, Nat.reduceMul, Nat.reduceLT, Nat.reduceLeDiff, Nat.reducePow, Int.reduceToNat, Int.reduceLT, Int.reduceLE, Int.reduceEq, Int.reduceNe, Int.reduceAdd, Int.reduceSub, Int.reduceMul, Int.reduceNeg, h1, h22, h23, h24, h7, h8]
            exact finK_exact ⟨by rw [bad (by omega)]; rfl, rfl, rfl⟩
          · simp only [go_sem, reduceIte, Nat.reduceEqDiff, Nat.reduceAdd, Nat.reduceSub, Nat.reduceMul, Nat.reduceLT, Nat.reduceLeDiff, Nat.reducePow, Int.reduceToNat, Int.reduceLT, Int.reduceLE, Int.reduceEq, Int.reduceNe, Int.reduceAdd, Int.reduceSub, Int.reduceMul, Int.reduceNeg, h1, h22, h23, h24, h7, h8]
            have h6 : ¬ ((i = 9 ∧ 1 < c) ∨ (c = 0 ∧ 0 < i)) := by omega
            rw [if_neg h6] at hru
            rw [wrap_i64 (x := (k : Int) + i) (by omega) (by omega), wrap_i64 (by omega) (by omega), acc n c i hc hi9 hn (by omega), hru]
            exact finK_exact ⟨rfl, rfl, rfl⟩
    · simp only [go_sem, reduceIte, Nat.reduceEqDiff, Nat.reduceAdd, Nat.reduceSub, Nat.reduceMul, Nat.reduceLT, Nat.reduceLeDiff, Nat.reducePow, Int.reduceToNat, Int.reduceLT, Int.reduceLE, Int.reduceEq, Int.reduceNe, Int.reduceAdd, Int.reduceSub, Int.reduceMul, Int.reduceNeg, h1, h22, h23, h24, h7, h8]
      have hr : readU b k = (0, 0, 6) := by
        unfold readU
        rw [if_neg (by omega)]
        have : (k : Int).toNat = k := rfl
        rw [this, ← hrd, List.drop_of_length_le (by omega)]
        rfl
      exact finK_exact ⟨by rw [hr]; rfl, rfl, rfl⟩

/-- What a reading of a number may come to. -/
structure RdOk (k : Nat) (len : Nat) (r : Nat × Nat × Nat) : Prop where
  val : r.1 < 18446744073709551616
  ok : r.2.2 = 0 → k < r.2.1 ∧ r.2.1 ≤ k + len
  bad : r.2.2 ≠ 0 → r.1 = 0 ∧ r.2.1 = 0
  err : r.2.2 ≤ 6

theorem rd_spec (k : Nat) : ∀ (l : List Nat) (i n : Nat), i ≤ 9 → n < 2 ^ (7 * i) → (∀ c ∈ l, c < 256) → RdOk (k + i) l.length (rd k l i n)
  | [], i, n, _, _, _ => ⟨by simp [rd], fun h => by simp [rd] at h, fun _ => by simp [rd], by simp [rd]⟩
  | c :: r, i, n, hi, hn, hb => by
    have hc := hb c (by simp)
    have e : 2 ^ (7 * (i + 1)) = 2 ^ (7 * i) * 128 := by rw [Nat.mul_add, Nat.pow_add]
    simp only [rd]
    split
    · rename_i h
      have h4 : 2 ^ (7 * i) * (c % 128) ≤ 2 ^ (7 * i) * 127 := Nat.mul_le_mul_left _ (by omega)
      have ih := rd_spec k r (i + 1) (n + 2 ^ (7 * i) * (c % 128)) (by omega) (by omega) (fun c hc => hb c (by simp [hc]))
      exact ⟨ih.val, fun h0 => by have := ih.ok h0; simp only [List.length_cons]; omega, ih.bad, ih.err⟩
    · split
      · exact ⟨by simp, fun h => by simp at h, fun _ => by simp, by simp⟩
      · rename_i h1 h2
        refine ⟨?_, fun _ => by simp only [List.length_cons]; omega, fun h => absurd rfl h, by simp⟩
        show n + 2 ^ (7 * i) * (c % 128) < 18446744073709551616
        by_cases h9 : i = 9
        · subst h9
          have h4 : 2 ^ (7 * 9) * (c % 128) ≤ 2 ^ (7 * 9) * 1 := Nat.mul_le_mul_left _ (by omega)
          omega
        · have h4 : 2 ^ (7 * i) * (c % 128) ≤ 2 ^ (7 * i) * 127 := Nat.mul_le_mul_left _ (by omega)
          have h5 : 2 ^ (7 * i) ≤ 2 ^ 56 := Nat.pow_le_pow_right (by omega) (by omega)
          omega

theorem readU_spec (b : List Nat) (at_ : Int) (hb : Byt b) : RdOk at_.toNat (b.length - at_.toNat) (readU b at_) := by
  unfold readU
  split
  · exact ⟨by simp, fun h => by simp at h, fun _ => by simp, by simp⟩
  · have := rd_spec at_.toNat (b.drop at_.toNat) 0 0 (by omega) (by simp) (fun c hc => hb c (List.mem_of_mem_drop hc))
    simpa using this

theorem readU_in {b : List Nat} {at_ : Int} (h : (readU b at_).2.2 = 0) : 0 ≤ at_ ∧ at_ ≤ b.length := by
  unfold readU at h
  split at h
  · simp at h
  · omega

/-- The integer behind a number. -/
def unzig (n : Nat) : Int := if n % 2 = 0 then (n / 2 : Nat) else -((n / 2 : Nat) : Int) - 1

theorem bop_and_one (n : Nat) (hn : n < 18446744073709551616) : bop .and .u64 n 1 = ((n % 2 : Nat) : Int) := by
  have h1 : (BitVec.ofInt 64 (n : Int) &&& BitVec.ofInt 64 1).toNat = n % 2 := by
    have h2 : (BitVec.ofInt 64 (1 : Int)).toNat = 2 ^ 1 - 1 := by decide
    rw [BitVec.toNat_and, h2, Nat.and_two_pow_sub_one_eq_mod, BitVec.toNat_ofInt]
    omega
  show IntKind.u64.wrap ((BitVec.ofInt 64 (n : Int) &&& BitVec.ofInt 64 1).toNat : Int) = _
  rw [h1, wrap_u64]
  omega

theorem wrap_i64_big {x : Int} (h1 : 9223372036854775808 ≤ x) (h2 : x < 18446744073709551616) : IntKind.i64.wrap x = x - 18446744073709551616 := by
  have h : IntKind.i64.signed = true := rfl
  have e0 : IntKind.i64.bits = 64 := rfl
  have e1 : (2 ^ 64 : Int) = 18446744073709551616 := rfl
  have e2 : (2 ^ (64 - 1) : Int) = 9223372036854775808 := rfl
  simp only [IntKind.wrap, h, Bool.true_and, e0, e1, e2, decide_eq_true_eq]
  split <;> omega

theorem xor_unzig (n : Nat) (hn : n < 18446744073709551616) :
    bop .xor .i64 (IntKind.i64.wrap ((n : Int) / 2 ^ shb .u64 1)) (IntKind.i64.wrap (0 - IntKind.i64.wrap (bop .and .u64 n 1))) = unzig n := by
  have e1 : shb .u64 1 = 1 := rfl
  have e2 : (n : Int) / 2 ^ 1 = ((n / 2 : Nat) : Int) := by omega
  rw [e1, e2, bop_and_one n hn, wrap_i64 (x := ((n / 2 : Nat) : Int)) (by omega) (by omega), wrap_i64 (x := ((n % 2 : Nat) : Int)) (by omega) (by omega), wrap_i64 (x := 0 - ((n % 2 : Nat) : Int)) (by omega) (by omega)]
  unfold unzig
  split
  · rename_i h
    have e3 : (0 - ((n % 2 : Nat) : Int)) = 0 := by omega
    rw [e3]
    show IntKind.i64.wrap ((BitVec.ofInt 64 ((n / 2 : Nat) : Int) ^^^ BitVec.ofInt 64 0).toNat : Int) = _
    have h1 : (BitVec.ofInt 64 ((n / 2 : Nat) : Int) ^^^ BitVec.ofInt 64 0).toNat = n / 2 := by
      have : BitVec.ofInt 64 0 = 0#64 := rfl
      rw [this, BitVec.xor_zero, BitVec.toNat_ofInt]
      omega
    rw [h1, wrap_i64 (by omega) (by omega)]
  · rename_i h
    have e3 : (0 - ((n % 2 : Nat) : Int)) = -1 := by omega
    rw [e3]
    show IntKind.i64.wrap ((BitVec.ofInt 64 ((n / 2 : Nat) : Int) ^^^ BitVec.ofInt 64 (-1)).toNat : Int) = _
    have h1 : (BitVec.ofInt 64 ((n / 2 : Nat) : Int) ^^^ BitVec.ofInt 64 (-1)).toNat = 18446744073709551615 - n / 2 := by
      have : BitVec.ofInt 64 (-1) = BitVec.allOnes 64 := by decide
      rw [this, BitVec.xor_allOnes, BitVec.toNat_not, BitVec.toNat_ofInt]
      omega
    rw [h1, wrap_i64_big (by omega) (by omega)]
    omega

def triS (x : Nat × Nat × Nat) : D := .tup [.int .i64 (unzig x.1), .int .i64 x.2.1, .int .i64 x.2.2]

theorem ReadS_ok (tk : Tk) (b : List Nat) (at_ : Int) (hb : Byt b) : VN P G 40 [.sl tk (bs b), .int .i64 at_] (triS (readU b at_)) := by
  have hU := ReadU_ok (G := G) tk b at_ hb
  have hv := (readU_spec b at_ hb).val
  generalize readU b at_ = r at hU hv ⊢
  obtain ⟨v, nx, er⟩ := r
  simp only [tri, triS] at hU hv ⊢
  have hz := xor_unzig v hv
  generalize unzig v = z at hz ⊢
  refine VC.ofs (fun | 99999999 => [(0, [0, 1, 4, 5, 6, 7, 8, 9])] | _ => []) [4, 5, 6] mixed Try.func40 rfl rfl rfl rfl (by decide +kernel) (by simp) ?_
  simp only [go_sem, reduceIte, Nat.reduceEqDiff, Nat.reduceAdd, Nat.reduceSub, Nat.reduceMul, Nat.reduceLT, Nat.reduceLeDiff, Nat.reducePow, Int.reduceToNat, Int.reduceLT, Int.reduceLE, Int.reduceEq, Int.reduceNe, Int.reduceAdd, Int.reduceSub, Int.reduceMul, Int.reduceNeg]
  refine cK_vn hU ?_
  simp only [go_sem, reduceIte, Nat.reduceEqDiff, Nat.reduceAdd, Nat.reduceSub, Nat.reduceMul, Nat.reduceLT, Nat.reduceLeDiff, Nat.reducePow, Int.reduceToNat, Int.reduceLT, Int.reduceLE, Int.reduceEq, Int.reduceNe, Int.reduceAdd, Int.reduceSub, Int.reduceMul, Int.reduceNeg, hz]
  exact finK_exact ⟨rfl, rfl, rfl⟩

theorem refReadU_ok (tk : Tk) (b : List Nat) (at_ : Int) (hb : Byt b) : VN P G 44 [.sl tk (bs b), .int .i64 at_] (tri (readU b at_)) := by
  refine VC.small fun hsm => ?_
  have hx : b.length ≤ 281474976710656 := by have := hsm (.sl tk (bs b)) (by simp); simpa [Small, bs_length, mostLen] using this
  refine VC.ofs (fun | 99999999 => [(0, [0, 1, 4, 5, 6, 7, 8, 9, 10, 18, 20, 28, 41, 51, 57])] | _ => []) [4, 5, 6] mixed Try.func44 rfl rfl rfl rfl (by decide +kernel) (by simp) ?_
  simp only [go_sem, reduceIte, Nat.reduceEqDiff, Nat.reduceAdd, Nat.reduceSub, Nat.reduceMul, Nat.reduceLT, Nat.reduceLeDiff, Nat.reducePow, Int.reduceToNat, Int.reduceLT, Int.reduceLE, Int.reduceEq, Int.reduceNe, Int.reduceAdd, Int.reduceSub, Int.reduceMul, Int.reduceNeg]
  refine cd_dec (fun h => ?_) (fun h => ?_)
  · simp only [go_sem, reduceIte, Nat.reduceEqDiff, Nat.reduceAdd, Nat.reduceSub, Nat.reduceMul, Nat.reduceLT, Nat.reduceLeDiff, Nat.reducePow, Int.reduceToNat, Int.reduceLT, Int.reduceLE, Int.reduceEq, Int.reduceNe, Int.reduceAdd, Int.reduceSub, Int.reduceMul, Int.reduceNeg]
    exact finK_exact ⟨by simp [tri, readU, h], rfl, rfl⟩
  · simp only [go_sem, reduceIte, Nat.reduceEqDiff, Nat.reduceAdd, Nat.reduceSub, Nat.reduceMul, Nat.reduceLT, Nat.reduceLeDiff, Nat.reducePow, Int.reduceToNat, Int.reduceLT, Int.reduceLE, Int.reduceEq, Int.reduceNe, Int.reduceAdd, Int.reduceSub, Int.reduceMul, Int.reduceNeg]
    obtain ⟨k, rfl⟩ : ∃ k : Nat, at_ = k := ⟨at_.toNat, by omega⟩
    have hk : k ≤ b.length := by omega
    have hl : (b.drop k).length = b.length - k := by simp
    have hrk : readU b k = rd k (b.drop k) 0 0 := by
      unfold readU
      rw [if_neg (by omega)]
      rfl
    refine vwq_loop (fun s => ∃ (i n : Nat), s.σ 0 = .sl tk (bs b) ∧ s.σ 1 = .int .i64 k ∧ s.σ 9 = .int .i64 i ∧ s.σ 7 = .int .u64 n ∧ s.σ 8 = .int .u64 ((2 ^ (7 * i) % 18446744073709551616 : Nat) : Int) ∧ s.β = Heap.nil ∧ s.ω = [] ∧ i ≤ (b.drop k).length ∧ i ≤ 9 ∧ n < 2 ^ (7 * i) ∧ rd k ((b.drop k).drop i) i n = rd k (b.drop k) 0 0) (fun s => 9 - (ival (s.σ 9)).toNat) ?_ ?_
    · refine ⟨0, 0, rfl, rfl, rfl, rfl, ?_, rfl, rfl, by omega, by omega, by simp, by simp⟩
      show D.int .u64 1 = D.int .u64 ((2 ^ (7 * 0) % 18446744073709551616 : Nat) : Int)
      congr 1
    rintro σ β ω ⟨i, n, h0, h1, h9, h7, h8, rfl, rfl, hi, hi9, hn, hrd⟩
    dsimp only at h0 h1 h9 h7 h8
    simp only [go_sem, reduceIte, Nat.reduceEqDiff, Nat.reduceAdd, Nat.reduceSub, Nat.reduceMul, Nat.reduceLT, Nat.reduceLeDiff, Nat.reducePow, Int.reduceToNat, Int.reduceLT, Int.reduceLE, Int.reduceEq, Int.reduceNe, Int.reduceAdd, Int.reduceSub, Int.reduceMul, Int.reduceNeg, h0, h1, h9, h7, h8]
    refine cd_dec (fun h => ?_) (fun h => absurd (by omega) h)
    simp only [go_sem, reduceIte, Nat.reduceEqDiff, Nat.reduceAdd, Nat.reduceSub, Nat.reduceMul, Nat.reduceLT, Nat.reduceLeDiff, Nat.reducePow, Int.reduceToNat, Int.reduceLT, Int.reduceLE, Int.reduceEq, Int.reduceNe, Int.reduceAdd, Int.reduceSub, Int.reduceMul, Int.reduceNeg, h0, h1, h9, h7, h8]
    rw [wrap_i64 (x := (b.length : Int) - k) (by omega) (by omega)]
    refine cd_dec (fun h2 => ?_) (fun h2 => ?_)
    · simp only [go_sem, reduceIte, Nat.reduceEqDiff, Nat.reduceAdd, Nat.reduceSub, Nat.reduceMul, Nat.reduceLT, Nat.reduceLeDiff, Nat.reducePow, Int.reduceToNat, Int.reduceLT, Int.reduceLE, Int.reduceEq, Int.reduceNe, Int.reduceAdd, Int.reduceSub, Int.reduceMul, Int.reduceNeg, h0, h1, h9, h7, h8]
      have hr : readU b k = (0, 0, 6) := by
        rw [hrk, ← hrd, List.drop_of_length_le (by omega)]
        rfl
      exact finK_exact ⟨by rw [hr]; rfl, rfl, rfl⟩
    · have hw : IntKind.i64.wrap ((k : Int) + (i : Int)) = ((k + i : Nat) : Int) := by rw [wrap_i64 (by omega) (by omega)]; omega
      have hlt : k + i < b.length := by omega
      simp only [go_sem, reduceIte, Nat.reduceEqDiff, Nat.reduceAdd, Nat.reduceSub, Nat.reduceMul, Nat.reduceLT, Nat.reduceLeDiff, Nat.reducePow, Int.reduceToNat, Int.reduceLT, Int.reduceLE, Int.reduceEq, Int.reduceNe, Int.reduceAdd, Int.reduceSub, Int.reduceMul, Int.reduceNeg, h0, h1, h9, h7, h8, hw, bs_at b hlt]
      have hc : b.getD (k + i) 0 < 256 := by
        simp only [List.getD, List.getElem?_eq_getElem hlt, Option.getD_some]
        exact hb _ (List.getElem_mem hlt)
      have hdr : (b.drop k).drop i = b.getD (k + i) 0 :: (b.drop k).drop (i + 1) := by
        rw [List.drop_drop, List.drop_eq_getElem_cons hlt, List.drop_drop]
        simp [List.getD, List.getElem?_eq_getElem hlt, Nat.add_assoc]
      generalize b.getD (k + i) 0 = c at hc hdr ⊢
      rw [hdr] at hrd
      have hru : readU b k = rd k (c :: (b.drop k).drop (i + 1)) i n := by rw [hrk, hrd]
      have hcm : (c : Int) % 18446744073709551616 = (c : Int) := by omega
      rw [hcm]
      refine ⟨by omega, cd_dec (fun h4 => ?_) (fun h4 => ?_)⟩
      · simp only [go_sem, reduceIte, Nat.reduceEqDiff, Nat.reduceAdd, Nat.reduceSub, Nat.reduceMul, Nat.reduceLT, Nat.reduceLeDiff, Nat.reducePow, Int.reduceToNat, Int.reduceLT, Int.reduceLE, Int.reduceEq, Int.reduceNe, Int.reduceAdd, Int.reduceSub, Int.reduceMul, Int.reduceNeg, h0, h1, h9, h7, h8]
        have hr : readU b k = (0, 0, 5) := by
          rw [hru]
          simp only [rd]
          rw [if_neg (by omega), if_pos (by omega)]
        exact finK_exact ⟨by rw [hr]; rfl, rfl, rfl⟩
      · simp only [go_sem, reduceIte, Nat.reduceEqDiff, Nat.reduceAdd, Nat.reduceSub, Nat.reduceMul, Nat.reduceLT, Nat.reduceLeDiff, Nat.reducePow, Int.reduceToNat, Int.reduceLT, Int.reduceLE, Int.reduceEq, Int.reduceNe, Int.reduceAdd, Int.reduceSub, Int.reduceMul, Int.reduceNeg, h0, h1, h9, h7, h8]
        have hp : 2 ^ (7 * i) < 18446744073709551616 := by
          have h1 : 2 ^ (7 * i) ≤ 2 ^ 63 := Nat.pow_le_pow_right (by omega) (by omega)
          omega
        have hpm : 2 ^ (7 * i) % 18446744073709551616 = 2 ^ (7 * i) := Nat.mod_eq_of_lt hp
        have e3 : (c : Int).tmod 128 = ((c % 128 : Nat) : Int) := by rw [Int.tmod_eq_emod_of_nonneg (by omega)]; omega
        have hs : i ≤ 8 ∨ c ≤ 1 := by omega
        have hpr : 2 ^ (7 * i) * (c % 128) + n < 18446744073709551616 := by
          rcases hs with h | h
          · have h1 : 2 ^ (7 * i) ≤ 2 ^ 56 := Nat.pow_le_pow_right (by omega) (by omega)
            have h2 : 2 ^ (7 * i) * (c % 128) ≤ 2 ^ 56 * 127 := Nat.mul_le_mul h1 (by omega)
            omega
          · have h1 : 2 ^ (7 * i) ≤ 2 ^ 63 := Nat.pow_le_pow_right (by omega) (by omega)
            have h2 : 2 ^ (7 * i) * (c % 128) ≤ 2 ^ 63 * 1 := Nat.mul_le_mul h1 (by omega)
            omega
        have e4 : ((n : Int) + ((2 ^ (7 * i) % 18446744073709551616 : Nat) : Int) * (c : Int).tmod 128 % 18446744073709551616) % 18446744073709551616 = ((n + 2 ^ (7 * i) * (c % 128) : Nat) : Int) := by
          rw [e3, hpm, ← Int.natCast_mul]
          omega
        have e : 2 ^ (7 * (i + 1)) = 2 ^ (7 * i) * 128 := by rw [Nat.mul_add, Nat.pow_add]
        refine cd_dec (fun h5 => ?_) (fun h5 => ?_)
        · simp only [go_sem, reduceIte, Nat.reduceEqDiff, Nat.reduceAdd, Nat.reduceSub, Nat.reduceMul, Nat.reduceLT, Nat.reduceLeDiff, Nat.reducePow, Int.reduceToNat, Int.reduceLT, Int.reduceLE, Int.reduceEq, Int.reduceNe, Int.reduceAdd, Int.reduceSub, Int.reduceMul, Int.reduceNeg, h0, h1, h9, h7, h8]
          have hno : ¬ (128 ≤ c ∧ i ≠ 9) := by omega
          refine cd_dec (fun h6 => ?_) (fun h6 => ?_)
          · simp only [go_sem, reduceIte, Nat.reduceEqDiff, Nat.reduceAdd, Nat.reduceSub, Nat.reduceMul, Nat.reduceLT, Nat.reduceLeDiff, Nat.reducePow, Int.reduceToNat, Int.reduceLT, Int.reduceLE, Int.reduceEq, Int.reduceNe, Int.reduceAdd, Int.reduceSub, Int.reduceMul, Int.reduceNeg, h0, h1, h9, h7, h8]
            have hr : readU b k = (0, 0, 5) := by
              rw [hru]
              simp only [rd]
              rw [if_neg hno, if_pos (by omega)]
            exact finK_exact ⟨by rw [hr]; rfl, rfl, rfl⟩
          · simp only [go_sem, reduceIte, Nat.reduceEqDiff, Nat.reduceAdd, Nat.reduceSub, Nat.reduceMul, Nat.reduceLT, Nat.reduceLeDiff, Nat.reducePow, Int.reduceToNat, Int.reduceLT, Int.reduceLE, Int.reduceEq, Int.reduceNe, Int.reduceAdd, Int.reduceSub, Int.reduceMul, Int.reduceNeg, h0, h1, h9, h7, h8]
            have hr : readU b k = (n + 2 ^ (7 * i) * (c % 128), k + i + 1, 0) := by
              rw [hru]
              simp only [rd]
              rw [if_neg hno, if_neg (by omega)]
            rw [wrap_i64 (x := (k : Int) + i) (by omega) (by omega), wrap_i64 (by omega) (by omega), e4, hr]
            exact finK_exact ⟨rfl, rfl, rfl⟩
        · simp only [go_sem, reduceIte, Nat.reduceEqDiff, Nat.reduceAdd, Nat.reduceSub, Nat.reduceMul, Nat.reduceLT, Nat.reduceLeDiff, Nat.reducePow, Int.reduceToNat, Int.reduceLT, Int.reduceLE, Int.reduceEq, Int.reduceNe, Int.reduceAdd, Int.reduceSub, Int.reduceMul, Int.reduceNeg, h0, h1, h9, h7, h8]
          have hyes : 128 ≤ c ∧ i ≠ 9 := by omega
          have e5 : ((2 ^ (7 * i) % 18446744073709551616 : Nat) : Int) * 128 % 18446744073709551616 = ((2 ^ (7 * (i + 1)) % 18446744073709551616 : Nat) : Int) := by
            rw [e, hpm]; omega
          rw [e4, e5, wrap_i64 (x := (i : Int) + 1) (by omega) (by omega)]
          refine ⟨⟨i + 1, n + 2 ^ (7 * i) * (c % 128), rfl, rfl, rfl, by omega, by omega, ?_, ?_⟩, by omega⟩
          · have h4 : 2 ^ (7 * i) * (c % 128) ≤ 2 ^ (7 * i) * 127 := Nat.mul_le_mul_left _ (by omega)
            omega
          · rw [← hrd]
            simp only [rd, if_pos hyes]

/-- The bounds of a byte string: from, to, error. -/
def spanF (b : List Nat) (at_ : Int) : Nat × Nat × Nat :=
  let r := readU b at_
  if r.2.2 ≠ 0 then (0, 0, r.2.2) else if 1048576 < r.1 then (0, 0, 2) else if b.length < r.2.1 + r.1 then (0, 0, 6) else (r.2.1, r.2.1 + r.1, 0)

def triI (x : Nat × Nat × Nat) : D := .tup [.int .i64 x.1, .int .i64 x.2.1, .int .i64 x.2.2]

theorem span_ok (tk : Tk) (b : List Nat) (at_ : Int) (hb : Byt b) : VN P G 65 [.sl tk (bs b), .int .i64 at_] (triI (spanF b at_)) := by
  refine VC.small fun hsm => ?_
  have hx : b.length ≤ 281474976710656 := by have := hsm (.sl tk (bs b)) (by simp); simpa [Small, bs_length, mostLen] using this
  have hU := ReadU_ok (G := G) tk b at_ hb
  have hs := readU_spec b at_ hb
  have hin := readU_in (b := b) (at_ := at_)
  unfold spanF
  generalize readU b at_ = r at hU hs hin ⊢
  obtain ⟨v, nx, er⟩ := r
  obtain ⟨h1, h2, h3, h4⟩ := hs
  simp only [tri] at hU h1 h2 h3 h4 hin ⊢
  refine VC.ofs (fun | 99999999 => [(0, [0, 1, 4, 5, 6, 7, 8, 9, 17, 21, 24])] | _ => []) [4, 5, 6] mixed Try.func65 rfl rfl rfl rfl (by decide +kernel) (by simp) ?_
  simp only [go_sem, reduceIte, Nat.reduceEqDiff, Nat.reduceAdd, Nat.reduceSub, Nat.reduceMul, Nat.reduceLT, Nat.reduceLeDiff, Nat.reducePow, Int.reduceToNat, Int.reduceLT, Int.reduceLE, Int.reduceEq, Int.reduceNe, Int.reduceAdd, Int.reduceSub, Int.reduceMul, Int.reduceNeg]
  refine cK_vn hU ?_
  simp only [go_sem, reduceIte, Nat.reduceEqDiff, Nat.reduceAdd, Nat.reduceSub, Nat.reduceMul, Nat.reduceLT, Nat.reduceLeDiff, Nat.reducePow, Int.reduceToNat, Int.reduceLT, Int.reduceLE, Int.reduceEq, Int.reduceNe, Int.reduceAdd, Int.reduceSub, Int.reduceMul, Int.reduceNeg]
  refine cd_dec (fun h => ?_) (fun h => ?_)
  · simp only [go_sem, reduceIte, Nat.reduceEqDiff, Nat.reduceAdd, Nat.reduceSub, Nat.reduceMul, Nat.reduceLT, Nat.reduceLeDiff, Nat.reducePow, Int.reduceToNat, Int.reduceLT, Int.reduceLE, Int.reduceEq, Int.reduceNe, Int.reduceAdd, Int.reduceSub, Int.reduceMul, Int.reduceNeg]
    have : er ≠ 0 := by omega
    rw [if_pos this]
    exact finK_exact ⟨rfl, rfl, rfl⟩
  · simp only [go_sem, reduceIte, Nat.reduceEqDiff, Nat.reduceAdd, Nat.reduceSub, Nat.reduceMul, Nat.reduceLT, Nat.reduceLeDiff, Nat.reducePow, Int.reduceToNat, Int.reduceLT, Int.reduceLE, Int.reduceEq, Int.reduceNe, Int.reduceAdd, Int.reduceSub, Int.reduceMul, Int.reduceNeg]
    have he : ¬ er ≠ 0 := by omega
    have he0 : er = 0 := by omega
    rw [if_neg he]
    refine cd_dec (fun h5 => ?_) (fun h5 => ?_)
    · simp only [go_sem, reduceIte, Nat.reduceEqDiff, Nat.reduceAdd, Nat.reduceSub, Nat.reduceMul, Nat.reduceLT, Nat.reduceLeDiff, Nat.reducePow, Int.reduceToNat, Int.reduceLT, Int.reduceLE, Int.reduceEq, Int.reduceNe, Int.reduceAdd, Int.reduceSub, Int.reduceMul, Int.reduceNeg]
      rw [if_pos (by omega)]
      exact finK_exact ⟨rfl, rfl, rfl⟩
    · simp only [go_sem, reduceIte, Nat.reduceEqDiff, Nat.reduceAdd, Nat.reduceSub, Nat.reduceMul, Nat.reduceLT, Nat.reduceLeDiff, Nat.reducePow, Int.reduceToNat, Int.reduceLT, Int.reduceLE, Int.reduceEq, Int.reduceNe, Int.reduceAdd, Int.reduceSub, Int.reduceMul, Int.reduceNeg]
      rw [if_neg (by omega)]
      have := h2 he0
      have := hin he0
      rw [wrap_i64 (x := (v : Int)) (by omega) (by omega), wrap_i64 (x := (b.length : Int) - nx) (by omega) (by omega)]
      refine cd_dec (fun h6 => ?_) (fun h6 => ?_)
      · simp only [go_sem, reduceIte, Nat.reduceEqDiff, Nat.reduceAdd, Nat.reduceSub, Nat.reduceMul, Nat.reduceLT, Nat.reduceLeDiff, Nat.reducePow, Int.reduceToNat, Int.reduceLT, Int.reduceLE, Int.reduceEq, Int.reduceNe, Int.reduceAdd, Int.reduceSub, Int.reduceMul, Int.reduceNeg]
        rw [if_pos (by omega)]
        exact finK_exact ⟨rfl, rfl, rfl⟩
      · simp only [go_sem, reduceIte, Nat.reduceEqDiff, Nat.reduceAdd, Nat.reduceSub, Nat.reduceMul, Nat.reduceLT, Nat.reduceLeDiff, Nat.reducePow, Int.reduceToNat, Int.reduceLT, Int.reduceLE, Int.reduceEq, Int.reduceNe, Int.reduceAdd, Int.reduceSub, Int.reduceMul, Int.reduceNeg]
        rw [if_neg (by omega)]
        rw [wrap_i64 (x := (v : Int)) (by omega) (by omega), wrap_i64 (x := (nx : Int) + v) (by omega) (by omega)]
        exact finK_exact ⟨rfl, rfl, rfl⟩

theorem spanF_spec (b : List Nat) (at_ : Int) (hb : Byt b) : (spanF b at_).1 ≤ (spanF b at_).2.1 ∧ (spanF b at_).2.1 ≤ b.length := by
  have hs := readU_spec b at_ hb
  have hin := readU_in (b := b) (at_ := at_)
  unfold spanF
  generalize readU b at_ = r at hs hin ⊢
  obtain ⟨v, nx, er⟩ := r
  obtain ⟨h1, h2, h3, h4⟩ := hs
  simp only at h1 h2 h3 h4 hin ⊢
  split
  · simp
  · split
    · simp
    · split
      · simp
      · simp only; omega

/-- A row of bytes as a string. -/
def strN (l : List Nat) : ByteArray := strOfI ((bs l).map byteOfD)

def triT (b : List Nat) (x : Nat × Nat × Nat) : D := .tup [.str (strN ((b.drop x.1).take (x.2.1 - x.1))), .int .i64 x.2.1, .int .i64 x.2.2]

theorem bs_isByte (l : List Nat) (h : ∀ c ∈ l, c < 256) : (bs l).all isByte = true := by
  rw [List.all_eq_true]
  intro d hd
  simp only [bs, List.mem_map] at hd
  obtain ⟨c, hc, rfl⟩ := hd
  rfl

theorem ReadText_ok (tk : Tk) (b : List Nat) (at_ : Int) (hb : Byt b) : VN P G 42 [.sl tk (bs b), .int .i64 at_] (triT b (spanF b at_)) := by
  have hU := span_ok (G := G) tk b at_ hb
  have hs := spanF_spec b at_ hb
  generalize spanF b at_ = r at hU hs ⊢
  obtain ⟨f, t, er⟩ := r
  obtain ⟨h1, h2⟩ := hs
  simp only [triI, triT] at hU h1 h2 ⊢
  refine VC.ofs (fun | 99999999 => [(0, [0, 1, 4, 5, 6, 7, 8, 9])] | _ => []) [4, 5, 6] mixed Try.func42 rfl rfl rfl rfl (by decide +kernel) (by simp) ?_
  simp only [go_sem, reduceIte, Nat.reduceEqDiff, Nat.reduceAdd, Nat.reduceSub, Nat.reduceMul, Nat.reduceLT, Nat.reduceLeDiff, Nat.reducePow, Int.reduceToNat, Int.reduceLT, Int.reduceLE, Int.reduceEq, Int.reduceNe, Int.reduceAdd, Int.reduceSub, Int.reduceMul, Int.reduceNeg]
  refine cK_vn hU ?_
  simp only [go_sem, reduceIte, Nat.reduceEqDiff, Nat.reduceAdd, Nat.reduceSub, Nat.reduceMul, Nat.reduceLT, Nat.reduceLeDiff, Nat.reducePow, Int.reduceToNat, Int.reduceLT, Int.reduceLE, Int.reduceEq, Int.reduceNe, Int.reduceAdd, Int.reduceSub, Int.reduceMul, Int.reduceNeg]
  exact ⟨by omega, bs_isByte _ fun c hc => hb c (List.mem_of_mem_drop (List.mem_of_mem_take hc)), finK_exact ⟨rfl, rfl, rfl⟩⟩

def triB (b : List Nat) (x : Nat × Nat × Nat) (t : Nat) : D := .tup [.sl (.live t 1) (bs ((b.drop x.1).take (x.2.1 - x.1))), .int .i64 x.2.1, .int .i64 x.2.2]

theorem refReadS_ok (tk : Tk) (b : List Nat) (at_ : Int) (hb : Byt b) : VN P G 46 [.sl tk (bs b), .int .i64 at_] (triS (readU b at_)) := by
  have hU := refReadU_ok (G := G) tk b at_ hb
  have hv := (readU_spec b at_ hb).val
  generalize readU b at_ = r at hU hv ⊢
  obtain ⟨v, nx, er⟩ := r
  simp only [tri, triS] at hU hv ⊢
  refine VC.ofs (fun | 99999999 => [(0, [0, 1, 4, 5, 6, 7, 8, 9, 19])] | _ => []) [4, 5, 6] mixed Try.func46 rfl rfl rfl rfl (by decide +kernel) (by simp) ?_
  simp only [go_sem, reduceIte, Nat.reduceEqDiff, Nat.reduceAdd, Nat.reduceSub, Nat.reduceMul, Nat.reduceLT, Nat.reduceLeDiff, Nat.reducePow, Int.reduceToNat, Int.reduceLT, Int.reduceLE, Int.reduceEq, Int.reduceNe, Int.reduceAdd, Int.reduceSub, Int.reduceMul, Int.reduceNeg]
  refine cK_vn hU ?_
  simp only [go_sem, reduceIte, Nat.reduceEqDiff, Nat.reduceAdd, Nat.reduceSub, Nat.reduceMul, Nat.reduceLT, Nat.reduceLeDiff, Nat.reducePow, Int.reduceToNat, Int.reduceLT, Int.reduceLE, Int.reduceEq, Int.reduceNe, Int.reduceAdd, Int.reduceSub, Int.reduceMul, Int.reduceNeg]
  have e1 : (v : Int).tmod 2 = ((v % 2 : Nat) : Int) := by rw [Int.tmod_eq_emod_of_nonneg (by omega)]; omega
  have e2 : (v : Int).tdiv 2 = ((v / 2 : Nat) : Int) := by rw [Int.tdiv_eq_ediv_of_nonneg (by omega)]; omega
  have e3 : IntKind.i64.wrap ((v : Int).tdiv 2 % 18446744073709551616) = ((v / 2 : Nat) : Int) := by rw [e2, wrap_i64 (by omega) (by omega)]; omega
  refine cd_dec (fun h => ?_) (fun h => ?_)
  · simp only [go_sem, reduceIte, Nat.reduceEqDiff, Nat.reduceAdd, Nat.reduceSub, Nat.reduceMul, Nat.reduceLT, Nat.reduceLeDiff, Nat.reducePow, Int.reduceToNat, Int.reduceLT, Int.reduceLE, Int.reduceEq, Int.reduceNe, Int.reduceAdd, Int.reduceSub, Int.reduceMul, Int.reduceNeg]
    refine finK_exact ⟨?_, rfl, rfl⟩
    have e4 : IntKind.i64.wrap (IntKind.i64.wrap (0 - IntKind.i64.wrap ((v : Int).tdiv 2 % 18446744073709551616)) - 1) = unzig v := by
      rw [e3, wrap_i64 (x := 0 - ((v / 2 : Nat) : Int)) (by omega) (by omega), wrap_i64 (by omega) (by omega)]
      unfold unzig
      rw [if_neg (by omega)]
      omega
    rw [e4]
  · simp only [go_sem, reduceIte, Nat.reduceEqDiff, Nat.reduceAdd, Nat.reduceSub, Nat.reduceMul, Nat.reduceLT, Nat.reduceLeDiff, Nat.reducePow, Int.reduceToNat, Int.reduceLT, Int.reduceLE, Int.reduceEq, Int.reduceNe, Int.reduceAdd, Int.reduceSub, Int.reduceMul, Int.reduceNeg]
    refine finK_exact ⟨?_, rfl, rfl⟩
    rw [e3]
    have e4 : unzig v = ((v / 2 : Nat) : Int) := by
      unfold unzig
      rw [if_pos (by omega)]
    rw [e4]

def triB0 (b : List Nat) (x : Nat × Nat × Nat) : D := .tup [.sl .none (bs ((b.drop x.1).take (x.2.1 - x.1))), .int .i64 x.2.1, .int .i64 x.2.2]

theorem refReadBytes_ok (tk : Tk) (b : List Nat) (at_ : Int) (hb : Byt b) (hlen : b.length ≤ 2^45) : VN P G 85 [.sl tk (bs b), .int .i64 at_] (triB0 b (spanF b at_)) := by
  have hU := refReadU_ok (G := G) tk b at_ hb
  have hs := readU_spec b at_ hb
  have hin := readU_in (b := b) (at_ := at_)
  unfold spanF
  generalize readU b at_ = r at hU hs hin ⊢
  obtain ⟨v, nx, er⟩ := r
  obtain ⟨h1, h2, h3, h4⟩ := hs
  simp only [tri] at hU h1 h2 h3 h4 hin ⊢
  refine VC.ofs (fun | 99999999 => [(0, [0, 1, 4, 5, 6, 7, 8, 9, 18, 21, 28])] | _ => []) [4, 5, 6] mixed Try.func85 rfl rfl rfl rfl (by decide +kernel) (by simp) ?_
  simp only [go_sem, reduceIte, Nat.reduceEqDiff, Nat.reduceAdd, Nat.reduceSub, Nat.reduceMul, Nat.reduceLT, Nat.reduceLeDiff, Nat.reducePow, Int.reduceToNat, Int.reduceLT, Int.reduceLE, Int.reduceEq, Int.reduceNe, Int.reduceAdd, Int.reduceSub, Int.reduceMul, Int.reduceNeg]
  refine cK_vn hU ?_
  simp only [go_sem, reduceIte, Nat.reduceEqDiff, Nat.reduceAdd, Nat.reduceSub, Nat.reduceMul, Nat.reduceLT, Nat.reduceLeDiff, Nat.reducePow, Int.reduceToNat, Int.reduceLT, Int.reduceLE, Int.reduceEq, Int.reduceNe, Int.reduceAdd, Int.reduceSub, Int.reduceMul, Int.reduceNeg]
  refine cd_dec (fun h => ?_) (fun h => ?_)
  · simp only [go_sem, reduceIte, Nat.reduceEqDiff, Nat.reduceAdd, Nat.reduceSub, Nat.reduceMul, Nat.reduceLT, Nat.reduceLeDiff, Nat.reducePow, Int.reduceToNat, Int.reduceLT, Int.reduceLE, Int.reduceEq, Int.reduceNe, Int.reduceAdd, Int.reduceSub, Int.reduceMul, Int.reduceNeg]
    rw [if_pos (by omega)]
    exact finK_drop ⟨rfl, rfl, rfl⟩
  · simp only [go_sem, reduceIte, Nat.reduceEqDiff, Nat.reduceAdd, Nat.reduceSub, Nat.reduceMul, Nat.reduceLT, Nat.reduceLeDiff, Nat.reducePow, Int.reduceToNat, Int.reduceLT, Int.reduceLE, Int.reduceEq, Int.reduceNe, Int.reduceAdd, Int.reduceSub, Int.reduceMul, Int.reduceNeg]
    have he : ¬ er ≠ 0 := by omega
    have he0 : er = 0 := by omega
    rw [if_neg he]
    refine cd_dec (fun h5 => ?_) (fun h5 => ?_)
    · simp only [go_sem, reduceIte, Nat.reduceEqDiff, Nat.reduceAdd, Nat.reduceSub, Nat.reduceMul, Nat.reduceLT, Nat.reduceLeDiff, Nat.reducePow, Int.reduceToNat, Int.reduceLT, Int.reduceLE, Int.reduceEq, Int.reduceNe, Int.reduceAdd, Int.reduceSub, Int.reduceMul, Int.reduceNeg]
      rw [if_pos (by omega)]
      exact finK_drop ⟨rfl, rfl, rfl⟩
    · simp only [go_sem, reduceIte, Nat.reduceEqDiff, Nat.reduceAdd, Nat.reduceSub, Nat.reduceMul, Nat.reduceLT, Nat.reduceLeDiff, Nat.reducePow, Int.reduceToNat, Int.reduceLT, Int.reduceLE, Int.reduceEq, Int.reduceNe, Int.reduceAdd, Int.reduceSub, Int.reduceMul, Int.reduceNeg]
      rw [if_neg (by omega)]
      have := h2 he0
      have := hin he0
      rw [wrap_i64 (x := (v : Int)) (by omega) (by omega), wrap_i64 (x := (b.length : Int) - nx) (by omega) (by omega)]
      refine cd_dec (fun h6 => ?_) (fun h6 => ?_)
      · simp only [go_sem, reduceIte, Nat.reduceEqDiff, Nat.reduceAdd, Nat.reduceSub, Nat.reduceMul, Nat.reduceLT, Nat.reduceLeDiff, Nat.reducePow, Int.reduceToNat, Int.reduceLT, Int.reduceLE, Int.reduceEq, Int.reduceNe, Int.reduceAdd, Int.reduceSub, Int.reduceMul, Int.reduceNeg]
        rw [if_pos (by omega)]
        exact finK_drop ⟨rfl, rfl, rfl⟩
      · have hw : IntKind.i64.wrap ((nx : Int) + IntKind.i64.wrap (v : Int)) = ((nx + v : Nat) : Int) := by rw [wrap_i64 (x := (v : Int)) (by omega) (by omega), wrap_i64 (by omega) (by omega)]; omega
        simp only [go_sem, reduceIte, Nat.reduceEqDiff, Nat.reduceAdd, Nat.reduceSub, Nat.reduceMul, Nat.reduceLT, Nat.reduceLeDiff, Nat.reducePow, Int.reduceToNat, Int.reduceLT, Int.reduceLE, Int.reduceEq, Int.reduceNe, Int.reduceAdd, Int.reduceSub, Int.reduceMul, Int.reduceNeg, hw]
        rw [if_neg (by omega)]
        refine ⟨by omega, by simp; omega, fun t1 => finK_drop ⟨?_, rfl, rfl⟩⟩
        rfl

theorem refReadText_ok (tk : Tk) (b : List Nat) (at_ : Int) (hb : Byt b) (hlen : b.length ≤ 2^45) : VN P G 67 [.sl tk (bs b), .int .i64 at_] (triT b (spanF b at_)) := by
  have hU := refReadBytes_ok (G := G) tk b at_ hb hlen
  have hs := spanF_spec b at_ hb
  generalize spanF b at_ = r at hU hs ⊢
  obtain ⟨f, t, er⟩ := r
  obtain ⟨h1, h2⟩ := hs
  simp only [triB0, triT] at hU h1 h2 ⊢
  refine VC.ofs (fun | 99999999 => [(0, [0, 1, 4, 5, 6, 7, 8, 9])] | _ => []) [4, 5, 6] mixed Try.func67 rfl rfl rfl rfl (by decide +kernel) (by simp) ?_
  simp only [go_sem, reduceIte, Nat.reduceEqDiff, Nat.reduceAdd, Nat.reduceSub, Nat.reduceMul, Nat.reduceLT, Nat.reduceLeDiff, Nat.reducePow, Int.reduceToNat, Int.reduceLT, Int.reduceLE, Int.reduceEq, Int.reduceNe, Int.reduceAdd, Int.reduceSub, Int.reduceMul, Int.reduceNeg]
  refine cK_vn hU ?_
  simp only [go_sem, reduceIte, Nat.reduceEqDiff, Nat.reduceAdd, Nat.reduceSub, Nat.reduceMul, Nat.reduceLT, Nat.reduceLeDiff, Nat.reducePow, Int.reduceToNat, Int.reduceLT, Int.reduceLE, Int.reduceEq, Int.reduceNe, Int.reduceAdd, Int.reduceSub, Int.reduceMul, Int.reduceNeg]
  exact ⟨bs_isByte _ fun c hc => hb c (List.mem_of_mem_drop (List.mem_of_mem_take hc)), finK_exact ⟨rfl, rfl, rfl⟩⟩

theorem byt_all {l : List Nat} (h : l.all (· < 256) = true) : Byt l := fun c hc => of_decide_eq_true (List.all_eq_true.1 h c hc)
theorem RU (tk : Tk) (l : List Nat) (a v n e : Int) (h : readU l a = (v.toNat, n.toNat, e.toNat)) (hp : 0 ≤ v ∧ 0 ≤ n ∧ 0 ≤ e) (hb : l.all (· < 256) = true) : VN P G 64 [.sl tk (bs l), .int .i64 a] (.tup [.int .u64 v, .int .i64 n, .int .i64 e]) := by
  have := ReadU_ok (G := G) tk l a (byt_all hb)
  rw [h] at this
  simp only [tri, Int.toNat_of_nonneg hp.1, Int.toNat_of_nonneg hp.2.1, Int.toNat_of_nonneg hp.2.2] at this
  exact this
theorem RS (tk : Tk) (l : List Nat) (a v n e k : Int) (h : readU l a = (v.toNat, n.toNat, e.toNat)) (hk : unzig v.toNat = k) (hp : 0 ≤ n ∧ 0 ≤ e) (hb : l.all (· < 256) = true) : VN P G 40 [.sl tk (bs l), .int .i64 a] (.tup [.int .i64 k, .int .i64 n, .int .i64 e]) := by
  have := ReadS_ok (G := G) tk l a (byt_all hb)
  rw [h] at this
  simp only [triS, hk, Int.toNat_of_nonneg hp.1, Int.toNat_of_nonneg hp.2] at this
  exact this
theorem RT (tk : Tk) (l : List Nat) (a f n e : Int) (s : ByteArray) (h : spanF l a = (f.toNat, n.toNat, e.toNat)) (hs : strN ((l.drop f.toNat).take (n.toNat - f.toNat)) = s) (hp : 0 ≤ n ∧ 0 ≤ e) (hb : l.all (· < 256) = true) : VN P G 42 [.sl tk (bs l), .int .i64 a] (.tup [.str s, .int .i64 n, .int .i64 e]) := by
  have := ReadText_ok (G := G) tk l a (byt_all hb)
  rw [h] at this
  simp only [triT, hs, Int.toNat_of_nonneg hp.1, Int.toNat_of_nonneg hp.2] at this
  exact this
theorem U_vn (tk : Tk) (b : List Nat) (n : Nat) (hb : b.length ≤ 2^45) (he : (enc n).length ≤ 2^45) : VN P G 29 [.sl tk (bs b), .int .u64 n] (.sl .none (bs (b ++ enc n))) := (U_ok tk b n hb he).vn fun t => rfl
theorem S_vn (tk : Tk) (b : List Nat) (k : Int) (hk : -9223372036854775808 ≤ k ∧ k < 9223372036854775808) (hb : b.length ≤ 2^45) (he : (enc (zig k)).length ≤ 2^45) : VN P G 32 [.sl tk (bs b), .int .i64 k] (.sl .none (bs (b ++ enc (zig k)))) := (S_ok tk b k hk hb he).vn fun t => rfl
theorem Text_vn (tk : Tk) (b : List Nat) (s : ByteArray) (hb : b.length + s.size ≤ 2^45) (he : (enc s.size).length ≤ 2^44) : VN P G 31 [.sl tk (bs b), .str s] (.sl .none (bs (b ++ enc s.size ++ sb s))) := (Text_ok tk b s hb he).vn fun t => rfl
theorem enc_len_pow : ∀ (k n : Nat), n < 128 ^ (k + 1) → (enc n).length ≤ k + 1
  | 0, n, h => by rw [enc_small (by simpa using h)]; simp
  | k + 1, n, h => by
    by_cases hn : n < 128
    · rw [enc_small hn]; simp
    · rw [enc_big (by omega)]
      have := enc_len_pow k (n / 128) (by rw [Nat.pow_succ] at h; omega)
      simp only [List.length_cons]
      omega
theorem enc_len {n : Nat} (h : n < 18446744073709551616) : (enc n).length ≤ 10 := enc_len_pow 9 n (by omega)
theorem U_vn' (tk : Tk) (b : List Nat) (n : Nat) (r : List Nat) (hb : b.length ≤ 2^45) (hn : n < 18446744073709551616) (he : b ++ enc n = r) : VN P G 29 [.sl tk (bs b), .int .u64 n] (.sl .none (bs r)) := by
  have := U_vn (G := G) tk b n hb (by have := enc_len hn; omega)
  rw [he] at this
  exact this
theorem S_vn' (tk : Tk) (b : List Nat) (k : Int) (r : List Nat) (hk : -9223372036854775808 ≤ k ∧ k < 9223372036854775808) (hb : b.length ≤ 2^45) (he : b ++ enc (zig k) = r) : VN P G 32 [.sl tk (bs b), .int .i64 k] (.sl .none (bs r)) := by
  have hz : zig k < 18446744073709551616 := by unfold zig; split <;> omega
  have := S_vn (G := G) tk b k hk hb (by have := enc_len hz; omega)
  rw [he] at this
  exact this
theorem Text_vn' (tk : Tk) (b : List Nat) (s : ByteArray) (r : List Nat) (hb : b.length + s.size ≤ 2^45) (he : b ++ enc s.size ++ sb s = r) : VN P G 31 [.sl tk (bs b), .str s] (.sl .none (bs r)) := by
  have := Text_vn (G := G) tk b s hb (by have := enc_len (n := s.size) (by omega); omega)
  rw [he] at this
  exact this
theorem enc_2 {n : Nat} (h : 128 ≤ n) (h' : n / 128 < 128) : enc n = [n % 128 + 128, n / 128] := by rw [enc_big h, enc_small h']

/-- What a value (a number, an integer, a text, a byte string) is made of, and its bounds. -/
structure Val where
  n : Nat
  k : Int
  s : ByteArray
  p : List Nat
def Val.cells (v : Val) : List D := [.int .u64 v.n, .int .i64 v.k, .str v.s, .sl .none (bs v.p)]
structure Val.ok (v : Val) : Prop where
  n : v.n < 18446744073709551616
  k : -9223372036854775808 ≤ v.k ∧ v.k < 9223372036854775808
  s : v.s.size ≤ 1048576
  p : v.p.length ≤ 1048576
  b : Byt v.p
theorem zig_lt {k : Int} (h : -9223372036854775808 ≤ k ∧ k < 9223372036854775808) : zig k < 18446744073709551616 := by unfold zig; split <;> omega

theorem wU_vn (tk : Tk) (b : List Nat) (n : Nat) (hb : b.length ≤ 2^44) (hn : n < 18446744073709551616) : VN P G 29 [.sl tk (bs b), .int .u64 n] (.sl .none (bs (b ++ enc n))) := U_vn' tk b n _ (by omega) hn rfl
theorem wS_vn (tk : Tk) (b : List Nat) (k : Int) (hk : -9223372036854775808 ≤ k ∧ k < 9223372036854775808) (hb : b.length ≤ 2^44) : VN P G 32 [.sl tk (bs b), .int .i64 k] (.sl .none (bs (b ++ enc (zig k)))) := S_vn' tk b k _ hk (by omega) rfl
theorem wText_vn (tk : Tk) (b : List Nat) (s : ByteArray) (hb : b.length + s.size ≤ 2^44) : VN P G 31 [.sl tk (bs b), .str s] (.sl .none (bs (b ++ enc s.size ++ sb s))) := Text_vn' tk b s _ (by omega) rfl
/-! What is written is read back: plain facts. -/
theorem enc_ne (n : Nat) : enc n ≠ [] := by unfold enc; split <;> simp
theorem byt_enc : ∀ n, Byt (enc n) := fun n => by
  induction n using Nat.strongRecOn with
  | _ n ih =>
    by_cases h : n < 128
    · rw [enc_small h]; intro c hc; simp at hc; omega
    · rw [enc_big (by omega)]
      intro c hc
      rcases List.mem_cons.1 hc with rfl | hc
      · omega
      · exact ih (n / 128) (by omega) c hc
theorem Byt.append {a b : List Nat} (h : Byt a) (h' : Byt b) : Byt (a ++ b) := fun c hc => by
  rcases List.mem_append.1 hc with hc | hc
  · exact h c hc
  · exact h' c hc
theorem Byt.take {a : List Nat} (h : Byt a) (n : Nat) : Byt (a.take n) := fun c hc => h c (List.mem_of_mem_take hc)
theorem Byt.drop {a : List Nat} (h : Byt a) (n : Nat) : Byt (a.drop n) := fun c hc => h c (List.mem_of_mem_drop hc)
theorem Byt.nil : Byt [] := fun c hc => by simp at hc

theorem rd_enc (k : Nat) (after : List Nat) : ∀ (m i acc : Nat), i ≤ 9 → m < 2 ^ (64 - 7 * i) → (0 < i → 0 < m) → rd k (enc m ++ after) i acc = (acc + 2 ^ (7 * i) * m, k + i + (enc m).length, 0) := fun m => by
  induction m using Nat.strongRecOn with
  | _ m ih =>
    intro i acc hi hm h0
    by_cases h : m < 128
    · rw [enc_small h]
      have h1 : ¬ (128 ≤ m ∧ i ≠ 9) := by omega
      have h2 : ¬ ((i = 9 ∧ 1 < m) ∨ (m = 0 ∧ 0 < i)) := by
        rintro (⟨rfl, h3⟩ | ⟨rfl, h3⟩)
        · have : m < 2 := by simpa using hm
          omega
        · have := h0 h3; omega
      simp only [List.singleton_append, rd, if_neg h1, if_neg h2, List.length_singleton, Nat.mod_eq_of_lt h]
    · have h9 : i ≠ 9 := by
        rintro rfl
        have : m < 2 := by simpa using hm
        omega
      have hm' : m / 128 < 2 ^ (64 - 7 * (i + 1)) := by
        have e : 64 - 7 * i = (64 - 7 * (i + 1)) + 7 := by omega
        rw [e, Nat.pow_add] at hm
        exact Nat.div_lt_of_lt_mul (by rw [Nat.mul_comm]; exact hm)
      have := ih (m / 128) (by omega) (i + 1) (acc + 2 ^ (7 * i) * (m % 128)) (by omega) hm' (by omega)
      rw [enc_big (by omega)]
      have h1 : 128 ≤ m % 128 + 128 ∧ i ≠ 9 := ⟨by omega, h9⟩
      have h2 : (m % 128 + 128) % 128 = m % 128 := by omega
      simp only [List.cons_append, rd, if_pos h1, h2, this, List.length_cons]
      have e : 2 ^ (7 * (i + 1)) = 2 ^ (7 * i) * 128 := by rw [Nat.mul_add, Nat.pow_add]
      have e2 : 2 ^ (7 * i) * m = 2 ^ (7 * i) * (m % 128) + 2 ^ (7 * i) * 128 * (m / 128) := by
        rw [Nat.mul_assoc, ← Nat.mul_add]; congr 1; omega
      rw [e, e2]
      simp only [Prod.mk.injEq, and_true]
      omega

theorem readU_enc (before after : List Nat) (n : Nat) (hn : n < 18446744073709551616) : readU (before ++ enc n ++ after) before.length = (n, before.length + (enc n).length, 0) := by
  unfold readU
  rw [if_neg (by simp; omega)]
  have e : ((before.length : Nat) : Int).toNat = before.length := rfl
  rw [e, List.append_assoc, List.drop_left, rd_enc _ _ n 0 0 (by omega) (by simpa using hn) (by omega)]
  simp

theorem unzig_zig (k : Int) : unzig (zig k) = k := by
  unfold unzig zig
  split <;> split <;> omega

theorem spanF_enc (before p after : List Nat) (hp : p.length ≤ 1048576) : spanF (before ++ enc p.length ++ p ++ after) before.length = (before.length + (enc p.length).length, before.length + (enc p.length).length + p.length, 0) := by
  unfold spanF
  have h := readU_enc before (p ++ after) p.length (by omega)
  rw [← List.append_assoc] at h
  simp only [h]
  rw [if_neg (by simp), if_neg (by omega), if_neg (by simp; omega)]

theorem cut_enc (before p after : List Nat) (n : Nat) : ((before ++ enc n ++ p ++ after).drop (before.length + (enc n).length)).take (before.length + (enc n).length + p.length - (before.length + (enc n).length)) = p := by
  have e : before.length + (enc n).length = (before ++ enc n).length := by simp
  rw [e, List.append_assoc, List.drop_left]
  simp

theorem strN_sb (s : ByteArray) : strN (sb s) = s := by
  have h1 : ∀ (l : List UInt8) (r : ByteArray), ((l.map fun c => (c.toNat : Int)).foldl (fun r n => r.push (UInt8.ofNat n.toNat)) r).data.toList = r.data.toList ++ l := by
    intro l
    induction l with
    | nil => intro r; simp
    | cons c l ih =>
      intro r
      rw [List.map_cons, List.foldl_cons, ih]
      have : UInt8.ofNat ((c.toNat : Int)).toNat = c := by simp
      rw [this]
      simp [ByteArray.push]
  refine WideShapes.bytes_inj ?_
  have e : (bs (sb s)).map byteOfD = s.data.toList.map fun c => (c.toNat : Int) := by
    simp [bs, sb, byteOfD, Function.comp_def]
  unfold strN strOfI
  rw [e, h1]
  rfl

theorem byt_sb (s : ByteArray) : Byt (sb s) := fun c hc => by
  simp only [sb, List.mem_map] at hc
  obtain ⟨x, _, rfl⟩ := hc
  exact x.toNat_lt

/-! What is accepted is what would be written: plain facts. -/
theorem rd_uniq (k : Nat) : ∀ (l : List Nat) (i acc v nx : Nat), (∀ c ∈ l, c < 256) → i ≤ 9 → rd k l i acc = (v, nx, 0) → ∃ m, v = acc + 2 ^ (7 * i) * m ∧ (0 < i → 0 < m) ∧ k + i < nx ∧ nx ≤ k + i + l.length ∧ enc m = l.take (nx - (k + i))
  | [], i, acc, v, nx, _, _, h => by simp [rd] at h
  | c :: r, i, acc, v, nx, hb, hi, h => by
    have hc := hb c (by simp)
    simp only [rd] at h
    split at h
    · rename_i h1
      obtain ⟨m, e1, e2, e3, e4, e5⟩ := rd_uniq k r (i + 1) _ v nx (fun c hc => hb c (by simp [hc])) (by omega) h
      have hm := e2 (by omega)
      refine ⟨m * 128 + c % 128, ?_, fun _ => by omega, by omega, by simp only [List.length_cons]; omega, ?_⟩
      · rw [e1]
        have e : 2 ^ (7 * (i + 1)) = 2 ^ (7 * i) * 128 := by rw [Nat.mul_add, Nat.pow_add]
        rw [e, Nat.mul_add, ← Nat.mul_assoc, Nat.mul_assoc, Nat.mul_comm 128 m, ← Nat.mul_assoc]
        omega
      · rw [enc_big (by omega)]
        have d1 : (m * 128 + c % 128) % 128 + 128 = c := by omega
        have d2 : (m * 128 + c % 128) / 128 = m := by omega
        have d3 : nx - (k + i) = (nx - (k + (i + 1))) + 1 := by omega
        rw [d1, d2, d3, List.take_succ_cons, e5]
    · split at h
      · simp at h
      · rename_i h1 h2
        simp only [Prod.mk.injEq, and_true] at h
        obtain ⟨rfl, rfl⟩ := h
        have hc2 : c < 128 := by omega
        refine ⟨c, by rw [Nat.mod_eq_of_lt hc2], fun _ => by omega, by omega, by simp only [List.length_cons]; omega, ?_⟩
        have d3 : k + i + 1 - (k + i) = 0 + 1 := by omega
        rw [enc_small hc2, d3, List.take_succ_cons, List.take_zero]

theorem readU_uniq {b : List Nat} {k : Nat} {v nx : Nat} (hb : Byt b) (hk : k ≤ b.length) (h : readU b k = (v, nx, 0)) : k < nx ∧ nx ≤ b.length ∧ b.take k ++ enc v = b.take nx := by
  unfold readU at h
  rw [if_neg (by omega)] at h
  have e : ((k : Nat) : Int).toNat = k := rfl
  rw [e] at h
  obtain ⟨m, e1, e2, e3, e4, e5⟩ := rd_uniq k (b.drop k) 0 0 v nx (fun c hc => hb c (List.mem_of_mem_drop hc)) (by omega) h
  simp only [Nat.mul_zero, Nat.pow_zero, Nat.one_mul, Nat.zero_add, Nat.add_zero, List.length_drop] at e1 e3 e4 e5
  subst e1
  refine ⟨e3, by omega, ?_⟩
  rw [e5, ← List.drop_take, ]
  have : b.take k = (b.take nx).take k := by rw [List.take_take, Nat.min_eq_left (by omega)]
  rw [this, List.take_append_drop]

theorem zig_unzig {n : Nat} : zig (unzig n) = n := by
  unfold unzig zig
  split <;> split <;> omega

theorem unzig_range {n : Nat} (h : n < 18446744073709551616) : -9223372036854775808 ≤ unzig n ∧ unzig n < 9223372036854775808 := by
  unfold unzig
  split <;> omega

/-- Reading back what was written. -/
theorem RUe (before after : List Nat) (n : Nat) (hn : n < 18446744073709551616) (h1 : Byt before) (h2 : Byt after) : VN P G 64 [.sl .none (bs (before ++ enc n ++ after)), .int .i64 (before.length : Nat)] (.tup [.int .u64 n, .int .i64 ((before ++ enc n).length : Nat), .int .i64 0]) := by
  have := ReadU_ok (G := G) .none (before ++ enc n ++ after) before.length ((h1.append (byt_enc n)).append h2)
  rw [readU_enc before after n hn] at this
  rw [List.length_append]
  exact this
theorem RSe (before after : List Nat) (k : Int) (hk : -9223372036854775808 ≤ k ∧ k < 9223372036854775808) (h1 : Byt before) (h2 : Byt after) : VN P G 40 [.sl .none (bs (before ++ enc (zig k) ++ after)), .int .i64 (before.length : Nat)] (.tup [.int .i64 k, .int .i64 ((before ++ enc (zig k)).length : Nat), .int .i64 0]) := by
  have := ReadS_ok (G := G) .none (before ++ enc (zig k) ++ after) before.length ((h1.append (byt_enc _)).append h2)
  rw [readU_enc before after _ (zig_lt hk)] at this
  simp only [triS, unzig_zig] at this
  rw [List.length_append]
  exact this
theorem RTe (before after : List Nat) (s : ByteArray) (hs : s.size ≤ 1048576) (h1 : Byt before) (h2 : Byt after) : VN P G 42 [.sl .none (bs (before ++ enc s.size ++ sb s ++ after)), .int .i64 (before.length : Nat)] (.tup [.str s, .int .i64 ((before ++ enc s.size ++ sb s).length : Nat), .int .i64 0]) := by
  have := ReadText_ok (G := G) .none (before ++ enc s.size ++ sb s ++ after) before.length (((h1.append (byt_enc _)).append (byt_sb s)).append h2)
  have h3 := spanF_enc before (sb s) after (by rw [sb_length]; exact hs)
  have h4 := cut_enc before (sb s) after s.size
  rw [sb_length] at h3 h4
  rw [h3] at this
  simp only [triT, h4, strN_sb] at this
  rw [List.length_append, List.length_append, sb_length]
  exact this
theorem rd_short (k : Nat) : ∀ (m i acc j : Nat), j < (enc m).length → i + j ≤ 9 → rd k ((enc m).take j) i acc = (0, 0, 6) := fun m => by
  induction m using Nat.strongRecOn with
  | _ m ih =>
    intro i acc j hj hi
    cases j with
    | zero => simp [rd]
    | succ j =>
      by_cases h : m < 128
      · rw [enc_small h] at hj; simp at hj
      · rw [enc_big (by omega)] at hj ⊢
        simp only [List.length_cons] at hj
        have h1 : 128 ≤ m % 128 + 128 ∧ i ≠ 9 := by omega
        simp only [List.take_succ_cons, rd, if_pos h1]
        exact ih (m / 128) (by omega) (i + 1) _ j (by omega) (by omega)

theorem readU_short {n j : Nat} (hn : n < 18446744073709551616) (hj : j < (enc n).length) : readU ((enc n).take j) 0 = (0, 0, 6) := by
  unfold readU
  rw [if_neg (by omega)]
  have := enc_len hn
  exact rd_short _ n 0 0 j hj (by omega)

theorem spanF_short {p : List Nat} {j : Nat} (hp : p.length ≤ 1048576) (hj : j < (enc p.length ++ p).length) : spanF ((enc p.length ++ p).take j) 0 = (0, 0, 6) := by
  simp only [List.length_append] at hj
  unfold spanF
  by_cases h : j < (enc p.length).length
  · rw [List.take_append_of_le_length (by omega), readU_short (by omega) h]
    rfl
  · have e : (enc p.length ++ p).take j = [] ++ enc p.length ++ p.take (j - (enc p.length).length) := by
      rw [List.take_append, List.take_of_length_le (by omega)]
      rfl
    have := readU_enc [] (p.take (j - (enc p.length).length)) p.length (by omega)
    rw [e]
    have e0 : (([] : List Nat).length : Int) = 0 := rfl
    rw [e0] at this
    simp only [this]
    rw [if_neg (by simp), if_neg (by omega), if_pos (by simp; omega)]

/-- A proper beginning is too short. -/
theorem pU (n j : Nat) (tk : Tk) (hn : n < 18446744073709551616) (hj : j < (enc n).length) : VN P G 64 [.sl tk (bs ((enc n).take j)), .int .i64 0] (.tup [.int .u64 0, .int .i64 0, .int .i64 6]) := by
  have := ReadU_ok (G := G) tk ((enc n).take j) 0 ((byt_enc n).take j)
  rw [readU_short hn hj] at this
  exact this
theorem pS (n j : Nat) (tk : Tk) (hn : n < 18446744073709551616) (hj : j < (enc n).length) : VN P G 40 [.sl tk (bs ((enc n).take j)), .int .i64 0] (.tup [.int .i64 0, .int .i64 0, .int .i64 6]) := by
  have := ReadS_ok (G := G) tk ((enc n).take j) 0 ((byt_enc n).take j)
  rw [readU_short hn hj] at this
  exact this
theorem pT (s : ByteArray) (j : Nat) (tk : Tk) (hs : s.size ≤ 1048576) (hj : j < (enc s.size ++ sb s).length) : VN P G 42 [.sl tk (bs ((enc s.size ++ sb s).take j)), .int .i64 0] (.tup [.str ⟨#[]⟩, .int .i64 0, .int .i64 6]) := by
  have := ReadText_ok (G := G) tk ((enc s.size ++ sb s).take j) 0 (((byt_enc _).append (byt_sb s)).take j)
  have h := spanF_short (p := sb s) (j := j) (by rw [sb_length]; exact hs) (by rw [sb_length]; exact hj)
  rw [sb_length] at h
  rw [h] at this
  exact this
def encV (b : List Nat) (v : Val) : List Nat := b ++ enc v.n ++ enc (zig v.k) ++ enc v.s.size ++ sb v.s ++ enc v.p.length ++ v.p
def encL (vs : List Val) : List Nat := vs.foldl encV []
def vls (vs : List Val) : List D := vs.map fun v => .agg v.cells

theorem byt_encV {b : List Nat} {v : Val} (hb : Byt b) (hp : Byt v.p) : Byt (encV b v) := (((((hb.append (byt_enc _)).append (byt_enc _)).append (byt_enc _)).append (byt_sb _)).append (byt_enc _)).append hp
theorem byt_encL : ∀ (vs : List Val), (∀ v ∈ vs, Byt v.p) → Byt (encL vs) := fun vs => by
  have key : ∀ (vs : List Val) (b : List Nat), Byt b → (∀ v ∈ vs, Byt v.p) → Byt (vs.foldl encV b) := fun vs => by
    induction vs with
    | nil => intro b hb _; exact hb
    | cons v vs ih => intro b hb h; exact ih _ (byt_encV hb (h v (by simp))) fun u hu => h u (by simp [hu])
  exact key vs [] Byt.nil
theorem ne_self {α : Type} (a : α) : (a ≠ a) = False := by simp
theorem VN.tk {f : FuncId} {xs : List D} {rest : List D} {d : D} {tk : Tk} (h : VN P G f (.sl .none xs :: rest) d) : VN P G f (.sl tk xs :: rest) d := fun K w vargs hr ha => h K w vargs hr (by
  cases ha with
  | cons h1 h2 => exact .cons h1.er1 h2)

end Go.Proofs.YtpblgfgcoamgmaaS
