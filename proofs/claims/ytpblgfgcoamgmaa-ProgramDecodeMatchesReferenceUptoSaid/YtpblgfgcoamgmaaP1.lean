import Derived.Test.YtpblgfgcoamgmaaCA
set_option linter.unusedVariables false
set_option linter.unusedSimpArgs false
namespace Go.Proofs.YtpblgfgcoamgmaaS
open Go Go.Proofs.YtpblgfgcoamgmaaV

variable {G : Heap}
attribute [local irreducible] VN VC VX VQ

def iD (k : Int) : D := .int .i64 k
def boD (b : Bool) : D := .bool b

theorem iD_at {l : List Int} {j : Nat} (h : j < l.length) : (l.map iD).getD j .any = .int .i64 (l.getD j 0) := by
  simp [List.getD, h, iD]
theorem boD_at {l : List Bool} {j : Nat} (h : j < l.length) : (l.map boD).getD j .any = .bool (l.getD j false) := by
  simp [List.getD, h, boD]
theorem take_succ_eq {α : Type} {z : α} {a b : List α} {j : Nat} (h1 : j < a.length) (h2 : j < b.length) (h : a.take j = b.take j) (he : a.getD j z = b.getD j z) : a.take (j + 1) = b.take (j + 1) := by
  rw [List.take_succ_eq_append_getElem h1, List.take_succ_eq_append_getElem h2, h]
  simp [List.getD, h1, h2] at he
  rw [he]

/-- An entry. -/
structure En where
  pre : List D
  rows : Int
  mid : List D
  su : Sm
  del : D
  hpre : pre.length = 33
  hmid : mid.length = 3
  hone : pre.all D.one = true ∧ mid.all D.one = true ∧ del.one = true
def En.cells (e : En) : List D := e.pre ++ .int .i64 e.rows :: (e.mid ++ [.int .i64 e.su.rows, .sl .none (e.su.l.map Bd.d), e.del])
def En.d (e : En) : D := .agg e.cells
theorem En.length (e : En) : e.cells.length = 40 := by simp [En.cells, e.hpre, e.hmid]
theorem En.at33 (e : En) : e.cells.getD 33 .any = .int .i64 e.rows := by simp [En.cells, List.getD, e.hpre]
theorem En.at38 (e : En) : e.cells.getD 38 .any = .sl .none (e.su.l.map Bd.d) := by simp [En.cells, List.getD, List.getElem?_append, e.hpre, e.hmid, List.getElem?_cons]
theorem En.at37 (e : En) : e.cells.getD 37 .any = .int .i64 e.su.rows := by simp [En.cells, List.getD, List.getElem?_append, e.hpre, e.hmid, List.getElem?_cons]
theorem isObj_len {cs : List D} (h : cs.length ≠ 1) : isObj cs = false := by
  unfold isObj
  split
  · simp at h
  · rfl
theorem En.obj (e : En) : isObj e.cells = false := isObj_len (by rw [e.length]; decide)
theorem En.one (e : En) : e.cells.all D.one = true := by
  obtain ⟨h1, h2, h3⟩ := e.hone
  simp only [En.cells, List.all_append, List.all_cons, List.all_nil, h1, h2, h3]
  rfl
theorem En.take (e : En) : e.cells.take 40 = e.cells := List.take_of_length_le (by rw [e.length]; omega)
theorem En.sum (e : En) : (e.cells.drop 37).take 2 = e.su.cells := by
  have h : e.cells = (e.pre ++ .int .i64 e.rows :: e.mid) ++ (e.su.cells ++ [e.del]) := by simp [En.cells, Sm.cells]
  have l : (e.pre ++ D.int .i64 e.rows :: e.mid).length = 37 := by simp [e.hpre, e.hmid]
  rw [h, ← l, List.drop_left]
  rfl
theorem Pr.take7 (p : Pr) : p.cells.take 7 = p.cells := rfl
theorem Pr.obj (p : Pr) : isObj p.cells = false := rfl
theorem Pr.len7 (p : Pr) : p.cells.length = 7 := rfl
def clampF (k : Int) : Int := if k < 0 then 0 else if 2147483647 < k then 2147483647 else k
def costF (e : En) : Int := 64 + clampF e.rows * (8 * (1 + e.su.l.length))
theorem clampF_le (k : Int) : 0 ≤ clampF k ∧ clampF k ≤ 2147483647 := by unfold clampF; split <;> (try split) <;> omega
theorem cost_bd {e : En} (h : e.su.l.length ≤ 100) : 64 ≤ costF e ∧ costF e ≤ 2000000000000 := by
  obtain ⟨h1, h2⟩ := clampF_le e.rows
  have h3 : clampF e.rows * (8 * (1 + e.su.l.length)) ≤ 2147483647 * 808 := Int.mul_le_mul h2 (by omega) (by omega) (by omega)
  have h4 : 0 ≤ clampF e.rows * (8 * (1 + (e.su.l.length : Int))) := Int.mul_nonneg h1 (by omega)
  unfold costF
  omega
theorem cost_wrap {c n : Int} (h1 : 0 ≤ c) (h2 : c ≤ 2147483647) (h3 : 0 ≤ n) (h4 : n ≤ 100) : 0 ≤ c * (8 * (1 + n)) ∧ c * (8 * (1 + n)) ≤ 2000000000000 := by
  have h5 : c * (8 * (1 + n)) ≤ 2147483647 * 808 := Int.mul_le_mul h2 (by omega) (by omega) (by omega)
  have h6 : 0 ≤ c * (8 * (1 + n)) := Int.mul_nonneg h1 (by omega)
  omega
/-- A plan. -/
structure Pl where
  read : List Int
  skip : List Int
  req : Int
  bytes : Int
deriving DecidableEq
def Pl.cells (p : Pl) : List D := [.sl .none (p.read.map iD), .sl .none (p.skip.map iD), .int .i64 p.req, .int .i64 p.bytes]
def zerosN : Nat → List D
  | 0 => []
  | n + 1 => .int .u8 0 :: zerosN n
def litE (lo hi : Int) : En := ⟨zerosN 32 ++ [.int .i64 0], hi - lo + 1, [.int .i64 0, .int .i64 0, .sl .none []], ⟨hi - lo + 1, [⟨1, 0, ⟨false, lo, ByteArray.empty⟩, ⟨false, hi, ByteArray.empty⟩⟩]⟩, .sl .none [], rfl, rfl, rfl, rfl, rfl⟩
end Go.Proofs.YtpblgfgcoamgmaaS
