import Derived.Test.YtdemkhcloholiaaS1
set_option linter.unusedVariables false
set_option linter.unusedSimpArgs false
namespace Go.Proofs.YtdemkhcloholiaaS
open Go Go.Proofs.YtdemkhcloholiaaV

def bs (l : List Nat) : List D := l.map fun (b : Nat) => .int .u8 b

theorem bs_length (l : List Nat) : (bs l).length = l.length := by simp [bs]
theorem bs_cells (l : List Nat) : (∀ x, x ∈ bs l → x.cells.length = 1) = True := by simp [bs, cells_int]
theorem bs_snoc (l : List Nat) (b : Nat) : bs l ++ [.int .u8 (b : Int)] = bs (l ++ [b]) := by simp [bs]

theorem bs_er (l : List Nat) : (bs l).map D.er = bs l := by simp [bs, er_int]
theorem bs_flat (l : List Nat) : flat (bs l) = bs l := by
  induction l with
  | nil => rfl
  | cons a l ih => simp only [bs, flat, List.map_cons, List.flatMap_cons, cells_int] at ih ⊢; rw [ih]; rfl
theorem bs_take (l : List Nat) (n : Nat) : (bs l).take n = bs (l.take n) := by simp [bs, List.map_take]
theorem bs_drop (l : List Nat) (n : Nat) : (bs l).drop n = bs (l.drop n) := by simp [bs, List.map_drop]
theorem bs_append (l m : List Nat) : bs l ++ bs m = bs (l ++ m) := by simp [bs]
theorem bs_solid (l : List Nat) : (∀ d, d ∈ bs l → d.cells.length = 1 ∧ d.solid = true) = True := by simp [bs, cells_int, solid_int]
theorem bs_one (l : List Nat) : ∀ d ∈ bs l, d.one = true := by simp [bs, one_int]
theorem bs_at (l : List Nat) {i : Nat} (h : i < l.length) : (bs l).getD i .any = .int .u8 ((l.getD i 0 : Nat) : Int) := by
  simp [bs, List.getD, List.getElem?_map, h]

def enc (n : Nat) : List Nat := if n < 128 then [n] else (n % 128 + 128) :: enc (n / 128)
decreasing_by omega

theorem enc_small {n : Nat} (h : n < 128) : enc n = [n] := by rw [enc, if_pos h]
theorem enc_big {n : Nat} (h : 128 ≤ n) : enc n = (n % 128 + 128) :: enc (n / 128) := by rw [enc, if_neg (by omega)]

theorem bop_or_u8 (a b : Nat) (ha : a < 256) (hb : b < 256) : bop .or .u8 a b = ((a ||| b : Nat) : Int) := by
  have h1 : (BitVec.ofInt IntKind.u8.bits (a : Int) ||| BitVec.ofInt IntKind.u8.bits (b : Int)).toNat = (a ||| b) := by
    simp only [BitVec.toNat_or, BitVec.toNat_ofInt]
    have e : IntKind.u8.bits = 8 := rfl
    rw [e]
    congr 1 <;> omega
  have h2 : a ||| b < 2 ^ 8 := Nat.or_lt_two_pow (by omega) (by omega)
  simp only [bop, wrap_u8, h1]
  omega

theorem or128 (n : Nat) : bop .or .u8 ((n : Int) % 256) 128 = ((n % 128 + 128 : Nat) : Int) := by
  have h := bop_or_u8 (n % 256) 128 (by omega) (by omega)
  have e : ((n % 256 : Nat) : Int) = (n : Int) % 256 := by omega
  rw [e] at h
  refine h.trans ?_
  congr 1
  have h3 : n % 256 = n / 128 % 2 * 128 + n % 128 := by omega
  have key : ∀ m : Fin 256, (m.val ||| 128) = m.val % 128 + 128 := by decide +kernel
  have := key ⟨n % 256, by omega⟩
  simp only at this
  rw [this]
  omega

variable {G : Heap}
theorem number_ok (t : Nat) (out : List Nat) (n : Nat) (hlen : out.length + (enc n).length ≤ 2^46) :
    VC P G 31 [.sl (.live t 1) (bs out), .int .u64 n] Heap.nil [t] fun o β ω => ∃ t', o = .ret (.sl (.live t' 1) (bs (out ++ enc n))) ∧ β = Heap.nil ∧ ω = [t'] := by
  refine VC.ofs (fun _ => []) [4] mixed Try.func31 rfl rfl rfl rfl rfl (by simp) ?_
  simp only [go_sem, reduceIte, Nat.reduceEqDiff, Nat.reduceAdd, Nat.reduceSub, Nat.reduceMul, Nat.reduceLT, Nat.reduceLeDiff, Nat.reducePow, Int.reduceToNat, Int.reduceLT, Int.reduceLE, Int.reduceEq, Int.reduceNe, Int.reduceAdd, Int.reduceSub, Int.reduceMul, Int.reduceNeg]
  refine vwq_loop (fun s => ∃ (t' : Nat) (out' : List Nat) (n' : Nat), s.σ 0 = .sl (.live t' 1) (bs out') ∧ s.σ 1 = .int .u64 n' ∧ s.β = Heap.nil ∧ s.ω = [t'] ∧ out' ++ enc n' = out ++ enc n) (fun s => (ival (s.σ 1)).toNat) ?_ ?_
  · exact ⟨t, out, n, rfl, rfl, rfl, rfl, rfl⟩
  · rintro σ β ω ⟨t', out', n', h0, h1, rfl, rfl, h2⟩
    dsimp only at h0 h1
    simp only [go_sem, reduceIte, Nat.reduceEqDiff, Nat.reduceAdd, Nat.reduceSub, Nat.reduceMul, Nat.reduceLT, Nat.reduceLeDiff, Nat.reducePow, Int.reduceToNat, Int.reduceLT, Int.reduceLE, Int.reduceEq, Int.reduceNe, Int.reduceAdd, Int.reduceSub, Int.reduceMul, Int.reduceNeg, h0, h1, ival_int, bs_length, bs_cells]
    have h3 : out'.length + (enc n').length = out.length + (enc n).length := by
      have := congrArg List.length h2
      simpa using this
    refine cd_dec (fun hn => ?_) (fun hn => ?_) <;> simp only [go_sem, reduceIte, Nat.reduceEqDiff, Nat.reduceAdd, Nat.reduceSub, Nat.reduceMul, Nat.reduceLT, Nat.reduceLeDiff, Nat.reducePow, Int.reduceToNat, Int.reduceLT, Int.reduceLE, Int.reduceEq, Int.reduceNe, Int.reduceAdd, Int.reduceSub, Int.reduceMul, Int.reduceNeg, h0, h1, ival_int, bs_length, bs_cells]
    · have hb := enc_big (n := n') (by omega)
      have h4 : 0 < (enc (n' / 128)).length := by
        unfold enc; split <;> simp
      rw [hb] at h3
      simp only [List.length_cons] at h3
      have e : (n' : Int) / 2 ^ shb .u64 7 = ((n' / 128 : Nat) : Int) := by
        have : shb .u64 7 = 7 := rfl
        rw [this]; omega
      refine ⟨by omega, fun t1 _ => ⟨⟨t1, out' ++ [n' % 128 + 128], n' / 128, ?_, ?_, rfl, ?_⟩, ?_⟩⟩
      · rw [or128, bs_snoc]
      · rw [e]
      · rw [← h2, hb]; simp
      · rw [e]; omega
    · have hs := enc_small (n := n') (by omega)
      rw [hs] at h3
      simp only [List.length_cons, List.length_nil] at h3
      refine ⟨by omega, fun t1 _ => finK_exact ⟨t1, ?_, rfl, rfl⟩⟩
      have e : (n' : Int) % 256 = (n' : Int) := by omega
      rw [e, bs_snoc, ← h2, hs]
attribute [go_sem] bs_length bs_cells bs_er bs_flat bs_take bs_drop bs_solid
end Go.Proofs.YtdemkhcloholiaaS
