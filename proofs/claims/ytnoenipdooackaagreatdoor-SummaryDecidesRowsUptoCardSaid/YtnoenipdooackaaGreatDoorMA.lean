
import Derived.Test.YtnoenipdooackaaGreatDoorCD
set_option linter.unusedVariables false
set_option linter.unusedSimpArgs false
namespace Go.Proofs.YtnoenipdooackaaGreatDoorS
open Go Go.Proofs.YtnoenipdooackaaGreatDoorV

variable {G : Heap}
attribute [local irreducible] VN VC VX VQ

/-! The making of schemas: the small functions. -/
def scD (fs : List Fd) (nx : Int) : D := .agg [.sl .none (fs.map fdD), .int .i64 nx]
def fdC (f : Fd) : List D := [.int .i64 f.id, .str f.name, .int .i64 f.type, .int .i64 f.parent]
def Fd.zero : Fd := ⟨0, ByteArray.empty, 0, 0⟩
def findFd (l : List Fd) (id : Int) : Option Fd := l.find? fun f => decide (f.id = id)
def orF (o : Option Fd) : Fd := o.getD Fd.zero
theorem Type_ok (t : Int) : VN P G 52 [.int .i64 t] (.bool (decide (1 ≤ t ∧ t ≤ 5))) := by
  unfold VN
  refine VC.ofs (fun | 99999999 => [(0, [0, 2])] | _ => []) [2] mixed Tryz.func52 rfl rfl rfl rfl (by decide +kernel) (by simp) ?_
  simp only [go_sem, reduceIte, Nat.reduceEqDiff, Nat.reduceAdd, Nat.reduceSub, Nat.reduceMul, Nat.reduceLT, Nat.reduceLeDiff, Nat.reducePow, Int.reduceToNat, Int.reduceLT, Int.reduceLE, Int.reduceEq, Int.reduceNe, Int.reduceAdd, Int.reduceSub, Int.reduceMul, Int.reduceNeg]
  exact finK_drop ⟨rfl, rfl, rfl⟩
theorem sep_ok (s : ByteArray) : VX P G 74 [.str s] isB := by
  unfold VX
  refine VC.ofs (fun | 99999999 => [(0, [0, 2])] | _ => []) [2] mixed Tryz.func74 rfl rfl rfl rfl (by decide +kernel) (by simp) ?_
  simp only [go_sem, reduceIte, Nat.reduceEqDiff, Nat.reduceAdd, Nat.reduceSub, Nat.reduceMul, Nat.reduceLT, Nat.reduceLeDiff, Nat.reducePow, Int.reduceToNat, Int.reduceLT, Int.reduceLE, Int.reduceEq, Int.reduceNe, Int.reduceAdd, Int.reduceSub, Int.reduceMul, Int.reduceNeg]
  exact finK_drop ⟨_, ⟨_, rfl⟩, rfl, rfl, rfl⟩
theorem New_ok : VN P G 45 [] (scD [] 1) := by
  unfold VN
  refine VC.ofc (fun | 99999999 => [(0, [0])] | _ => []) [.cell 0 34] mixed Tryz.func45 rfl rfl rfl rfl (by decide +kernel) (by simp) ?_
  simp only [go_sem, reduceIte, Nat.reduceEqDiff, Nat.reduceAdd, Nat.reduceSub, Nat.reduceMul, Nat.reduceLT, Nat.reduceLeDiff, Nat.reducePow, Int.reduceToNat, Int.reduceLT, Int.reduceLE, Int.reduceEq, Int.reduceNe, Int.reduceAdd, Int.reduceSub, Int.reduceMul, Int.reduceNeg]
  intro b0
  try simp only [go_sem, reduceIte, Nat.reduceEqDiff, Nat.reduceAdd, Nat.reduceSub, Nat.reduceMul, Nat.reduceLT, Nat.reduceLeDiff, Nat.reducePow, Int.reduceToNat, Int.reduceLT, Int.reduceLE, Int.reduceEq, Int.reduceNe, Int.reduceAdd, Int.reduceSub, Int.reduceMul, Int.reduceNeg, scD]
  exact finK_drop ⟨rfl, rfl, rfl⟩
theorem mod_ok (x n : Int) : VX P G 72 [.int .i64 x, .int .i64 n] isI := by
  unfold VX
  refine VC.ofs (fun | 99999999 => [(0, [0, 1, 4, 6])] | _ => []) [4] mixed Tryz.func72 rfl rfl rfl rfl (by decide +kernel) (by simp) ?_
  simp only [go_sem, reduceIte, Nat.reduceEqDiff, Nat.reduceAdd, Nat.reduceSub, Nat.reduceMul, Nat.reduceLT, Nat.reduceLeDiff, Nat.reducePow, Int.reduceToNat, Int.reduceLT, Int.reduceLE, Int.reduceEq, Int.reduceNe, Int.reduceAdd, Int.reduceSub, Int.reduceMul, Int.reduceNeg]
  refine cd_dec (fun k => ?_) (fun k => ?_)
  · simp only [go_sem, reduceIte, Nat.reduceEqDiff, Nat.reduceAdd, Nat.reduceSub, Nat.reduceMul, Nat.reduceLT, Nat.reduceLeDiff, Nat.reducePow, Int.reduceToNat, Int.reduceLT, Int.reduceLE, Int.reduceEq, Int.reduceNe, Int.reduceAdd, Int.reduceSub, Int.reduceMul, Int.reduceNeg]
    exact finK_drop ⟨_, ⟨_, rfl⟩, rfl, rfl, rfl⟩
  · have e := eq_false (show ¬ n = 0 by omega)
    try simp only [go_sem, reduceIte, Nat.reduceEqDiff, Nat.reduceAdd, Nat.reduceSub, Nat.reduceMul, Nat.reduceLT, Nat.reduceLeDiff, Nat.reducePow, Int.reduceToNat, Int.reduceLT, Int.reduceLE, Int.reduceEq, Int.reduceNe, Int.reduceAdd, Int.reduceSub, Int.reduceMul, Int.reduceNeg, e]
    exact ⟨by omega, by omega, finK_drop ⟨_, ⟨_, rfl⟩, rfl, rfl, rfl⟩⟩
theorem Field_ok (fs : List Fd) (nx id : Int) (z : fs.length ≤ 1048576) : VN P G 90 [.agg [.sl .none (fs.map fdD), .int .i64 nx], .int .i64 id] (.tup [.agg (fdC (orF (findFd fs id))), .bool (findFd fs id).isSome]) := by
  unfold VN
  refine VC.ofc (fun | 99999999 => [(0, [0, 1, 2, 4, 5, 6, 11, 21])] | _ => []) [.cell 4 57, .tmp 5] mixed Tryz.func90 rfl rfl rfl rfl (by decide +kernel) (by simp) ?_
  simp only [go_sem, reduceIte, Nat.reduceEqDiff, Nat.reduceAdd, Nat.reduceSub, Nat.reduceMul, Nat.reduceLT, Nat.reduceLeDiff, Nat.reducePow, Int.reduceToNat, Int.reduceLT, Int.reduceLE, Int.reduceEq, Int.reduceNe, Int.reduceAdd, Int.reduceSub, Int.reduceMul, Int.reduceNeg]
  intro b0
  refine new_1 fun b1 h1 h2 => ?_
  try simp only [go_sem, reduceIte, Nat.reduceEqDiff, Nat.reduceAdd, Nat.reduceSub, Nat.reduceMul, Nat.reduceLT, Nat.reduceLeDiff, Nat.reducePow, Int.reduceToNat, Int.reduceLT, Int.reduceLE, Int.reduceEq, Int.reduceNe, Int.reduceAdd, Int.reduceSub, Int.reduceMul, Int.reduceNeg, h1, h2]
  generalize hβ : Heap.set _ b1 _ = β0
  have e0 : β0 b0 = some [.sl .none (fs.map fdD), .int .i64 nx] := by rw [← hβ]; simp [Heap.set, h1, h2]
  have e1 : β0 b1 = some [.int .i64 0, .str ByteArray.empty, .int .i64 0, .int .i64 0] := by rw [← hβ]; simp [Heap.set]
  clear hβ
  refine vwq_loop (fun v => ∃ (j : Nat), j ≤ fs.length ∧ findFd (fs.drop j) id = findFd fs id ∧ v.σ 1 = .int .i64 id ∧ v.σ 2 = .pb b0 0 ∧ v.σ 4 = .pb b1 0 ∧ v.σ 6 = .int .i64 j ∧ v.β = β0 ∧ v.ω = []) (fun v => fs.length - (ival (v.σ 6)).toNat) ⟨0, by omega, rfl, rfl, rfl, rfl, rfl, rfl, rfl⟩ ?_
  rintro σ β ω ⟨j, j1, j2, q1, q2, q4, q6, rfl, rfl⟩
  dsimp only at q1 q2 q4 q6 e0 e1
  try simp only [go_sem, reduceIte, Nat.reduceEqDiff, Nat.reduceAdd, Nat.reduceSub, Nat.reduceMul, Nat.reduceLT, Nat.reduceLeDiff, Nat.reducePow, Int.reduceToNat, Int.reduceLT, Int.reduceLE, Int.reduceEq, Int.reduceNe, Int.reduceAdd, Int.reduceSub, Int.reduceMul, Int.reduceNeg, q1, q2, q4, q6, e0, e1]
  refine cd_dec (fun g => ?_) (fun g => ?_)
  · obtain ⟨x, hx, ex⟩ := Fd_at (l := fs) (j := j) (by rw [List.length_map] at g; omega)
    have g1 := eq_true g
    rw [List.length_map] at g
    rw [drop_at hx, findFd, List.find?_cons] at j2
    have wj := wrap_i64 (x := (j : Int) + 1) (by omega) (by omega)
    have c1 : ((0 : Int) ≤ j) = True := eq_true (by omega)
    try simp only [go_sem, reduceIte, Nat.reduceEqDiff, Nat.reduceAdd, Nat.reduceSub, Nat.reduceMul, Nat.reduceLT, Nat.reduceLeDiff, Nat.reducePow, Int.reduceToNat, Int.reduceLT, Int.reduceLE, Int.reduceEq, Int.reduceNe, Int.reduceAdd, Int.reduceSub, Int.reduceMul, Int.reduceNeg, q1, q2, q4, q6, e0, e1, ex, g1, c1]
    refine cd_dec (fun k => ?_) (fun k => ?_)
    · try simp only [go_sem, reduceIte, Nat.reduceEqDiff, Nat.reduceAdd, Nat.reduceSub, Nat.reduceMul, Nat.reduceLT, Nat.reduceLeDiff, Nat.reducePow, Int.reduceToNat, Int.reduceLT, Int.reduceLE, Int.reduceEq, Int.reduceNe, Int.reduceAdd, Int.reduceSub, Int.reduceMul, Int.reduceNeg, q1, q2, q4, q6, e0, e1, ex, g1, c1, h1, h2]
      exact finK_drop ⟨by rw [← j2]; simp [k, orF, fdC, D.er, D.er1], rfl, rfl⟩
    · try simp only [go_sem, reduceIte, Nat.reduceEqDiff, Nat.reduceAdd, Nat.reduceSub, Nat.reduceMul, Nat.reduceLT, Nat.reduceLeDiff, Nat.reducePow, Int.reduceToNat, Int.reduceLT, Int.reduceLE, Int.reduceEq, Int.reduceNe, Int.reduceAdd, Int.reduceSub, Int.reduceMul, Int.reduceNeg, q1, q2, q4, q6, e0, e1, ex, wj]
      exact ⟨⟨j + 1, by omega, by rw [← j2]; simp [k, findFd], rfl⟩, by omega⟩
  · try simp only [go_sem, reduceIte, Nat.reduceEqDiff, Nat.reduceAdd, Nat.reduceSub, Nat.reduceMul, Nat.reduceLT, Nat.reduceLeDiff, Nat.reducePow, Int.reduceToNat, Int.reduceLT, Int.reduceLE, Int.reduceEq, Int.reduceNe, Int.reduceAdd, Int.reduceSub, Int.reduceMul, Int.reduceNeg, q1, q2, q4, q6, e0, e1]
    rw [List.length_map] at g
    rw [List.drop_eq_nil_of_le (by omega), findFd] at j2
    exact finK_drop ⟨by rw [← j2]; rfl, rfl, rfl⟩
theorem Name_ok (s : ByteArray) : VX P G 94 [.str s] isB := by
  unfold VX
  refine VC.small fun hsm => ?_
  have z1 := hsm (.str s) (List.mem_cons_self ..)
  simp only [Small, mostLen] at z1
  refine VC.ofs (fun | 99999999 => [(0, [0, 2, 3, 4, 8, 32])] | _ => []) [2] mixed Tryz.func94 rfl rfl rfl rfl (by decide +kernel) (by simp) ?_
  simp only [go_sem, reduceIte, Nat.reduceEqDiff, Nat.reduceAdd, Nat.reduceSub, Nat.reduceMul, Nat.reduceLT, Nat.reduceLeDiff, Nat.reducePow, Int.reduceToNat, Int.reduceLT, Int.reduceLE, Int.reduceEq, Int.reduceNe, Int.reduceAdd, Int.reduceSub, Int.reduceMul, Int.reduceNeg]
  refine vwq_loop (fun v => ∃ (j : Nat), j ≤ s.size ∧ v.σ 0 = .str s ∧ v.σ 3 = .int .i64 j ∧ v.β = Heap.nil ∧ v.ω = []) (fun v => s.size - (ival (v.σ 3)).toNat) ⟨0, by omega, rfl, rfl, rfl, rfl⟩ ?_
  rintro σ β ω ⟨j, j1, q0, q3, rfl, rfl⟩
  dsimp only at q0 q3
  try simp only [go_sem, reduceIte, Nat.reduceEqDiff, Nat.reduceAdd, Nat.reduceSub, Nat.reduceMul, Nat.reduceLT, Nat.reduceLeDiff, Nat.reducePow, Int.reduceToNat, Int.reduceLT, Int.reduceLE, Int.reduceEq, Int.reduceNe, Int.reduceAdd, Int.reduceSub, Int.reduceMul, Int.reduceNeg, q0, q3]
  refine cd_dec (fun g => ?_) (fun g => ?_)
  · have g1 := eq_true g
    have c1 : ((0 : Int) ≤ j) = True := eq_true (by omega)
    have wj := wrap_i64 (x := (j : Int) + 1) (by omega) (by omega)
    try simp only [go_sem, reduceIte, Nat.reduceEqDiff, Nat.reduceAdd, Nat.reduceSub, Nat.reduceMul, Nat.reduceLT, Nat.reduceLeDiff, Nat.reducePow, Int.reduceToNat, Int.reduceLT, Int.reduceLE, Int.reduceEq, Int.reduceNe, Int.reduceAdd, Int.reduceSub, Int.reduceMul, Int.reduceNeg, q0, q3, g1, c1]
    refine ⟨fun h => ⟨h, fun h2 => ⟨h, h2⟩⟩, cd_dec (fun k => ?_) (fun k => ?_)⟩
    · try simp only [go_sem, reduceIte, Nat.reduceEqDiff, Nat.reduceAdd, Nat.reduceSub, Nat.reduceMul, Nat.reduceLT, Nat.reduceLeDiff, Nat.reducePow, Int.reduceToNat, Int.reduceLT, Int.reduceLE, Int.reduceEq, Int.reduceNe, Int.reduceAdd, Int.reduceSub, Int.reduceMul, Int.reduceNeg, q0, q3]
      exact finK_drop ⟨_, ⟨_, rfl⟩, rfl, rfl, rfl⟩
    · try simp only [go_sem, reduceIte, Nat.reduceEqDiff, Nat.reduceAdd, Nat.reduceSub, Nat.reduceMul, Nat.reduceLT, Nat.reduceLeDiff, Nat.reducePow, Int.reduceToNat, Int.reduceLT, Int.reduceLE, Int.reduceEq, Int.reduceNe, Int.reduceAdd, Int.reduceSub, Int.reduceMul, Int.reduceNeg, q0, q3, wj]
      exact ⟨⟨j + 1, by omega, rfl⟩, by omega⟩
  · try simp only [go_sem, reduceIte, Nat.reduceEqDiff, Nat.reduceAdd, Nat.reduceSub, Nat.reduceMul, Nat.reduceLT, Nat.reduceLeDiff, Nat.reducePow, Int.reduceToNat, Int.reduceLT, Int.reduceLE, Int.reduceEq, Int.reduceNe, Int.reduceAdd, Int.reduceSub, Int.reduceMul, Int.reduceNeg, q0, q3]
    exact finK_drop ⟨_, ⟨_, rfl⟩, rfl, rfl, rfl⟩
theorem group_ok (fs : List Fd) (nx id : Int) (z : fs.length ≤ 1048576) : VX P G 75 [.agg [.sl .none (fs.map fdD), .int .i64 nx], .int .i64 id] isB := by
  have hf := Field_ok (G := G) fs nx id z
  simp only [fdC] at hf
  generalize orF (findFd fs id) = f at hf
  generalize (findFd fs id).isSome = ok at hf
  unfold VX
  refine VC.ofs (fun | 99999999 => [(0, [0, 1, 2, 4, 5, 6])] | _ => []) [4] mixed Tryz.func75 rfl rfl rfl rfl (by decide +kernel) (by simp) ?_
  simp only [go_sem, reduceIte, Nat.reduceEqDiff, Nat.reduceAdd, Nat.reduceSub, Nat.reduceMul, Nat.reduceLT, Nat.reduceLeDiff, Nat.reducePow, Int.reduceToNat, Int.reduceLT, Int.reduceLE, Int.reduceEq, Int.reduceNe, Int.reduceAdd, Int.reduceSub, Int.reduceMul, Int.reduceNeg]
  intro b0
  refine cK_vn hf ?_
  simp only [go_sem, reduceIte, Nat.reduceEqDiff, Nat.reduceAdd, Nat.reduceSub, Nat.reduceMul, Nat.reduceLT, Nat.reduceLeDiff, Nat.reducePow, Int.reduceToNat, Int.reduceLT, Int.reduceLE, Int.reduceEq, Int.reduceNe, Int.reduceAdd, Int.reduceSub, Int.reduceMul, Int.reduceNeg]
  refine new_1 fun b1 h1 h2 => ?_
  try simp only [go_sem, reduceIte, Nat.reduceEqDiff, Nat.reduceAdd, Nat.reduceSub, Nat.reduceMul, Nat.reduceLT, Nat.reduceLeDiff, Nat.reducePow, Int.reduceToNat, Int.reduceLT, Int.reduceLE, Int.reduceEq, Int.reduceNe, Int.reduceAdd, Int.reduceSub, Int.reduceMul, Int.reduceNeg, h1, h2]
  exact ⟨fun h => ⟨h, fun h2 => by simp [h, h2]⟩, finK_drop ⟨_, ⟨_, rfl⟩, rfl, rfl, rfl⟩⟩
theorem depth_ok (fs : List Fd) (nx id : Int) (z : fs.length ≤ 1048576) : VX P G 87 [.agg [.sl .none (fs.map fdD), .int .i64 nx], .int .i64 id] isI := by
  unfold VX
  refine VC.ofs (fun | 99999999 => [(0, [0, 1, 2, 4, 5, 6, 7, 13, 21])] | _ => []) [4] mixed Tryz.func87 rfl rfl rfl rfl (by decide +kernel) (by simp) ?_
  simp only [go_sem, reduceIte, Nat.reduceEqDiff, Nat.reduceAdd, Nat.reduceSub, Nat.reduceMul, Nat.reduceLT, Nat.reduceLeDiff, Nat.reducePow, Int.reduceToNat, Int.reduceLT, Int.reduceLE, Int.reduceEq, Int.reduceNe, Int.reduceAdd, Int.reduceSub, Int.reduceMul, Int.reduceNeg]
  intro b0
  generalize hβ : Heap.set Heap.nil b0 _ = β0
  have e0 : β0 b0 = some [.sl .none (fs.map fdD), .int .i64 nx] := by rw [← hβ]; simp only [Heap.set, if_true]
  refine vwq_loop (fun v => ∃ (j : Nat) (k : Int), j ≤ 9 ∧ v.σ 1 = .int .i64 k ∧ v.σ 2 = .pb b0 0 ∧ v.σ 5 = .int .i64 j ∧ v.β b0 = some [.sl .none (fs.map fdD), .int .i64 nx] ∧ v.ω = []) (fun v => 9 - (ival (v.σ 5)).toNat) ⟨0, id, by omega, rfl, rfl, rfl, e0, rfl⟩ ?_
  clear hβ e0 β0
  rintro σ β ω ⟨j, k, j1, q1, q2, q5, e0, rfl⟩
  dsimp only at q1 q2 q5 e0
  have hf := Field_ok (G := G) fs nx k z
  simp only [fdC] at hf
  generalize orF (findFd fs k) = f at hf
  generalize (findFd fs k).isSome = ok at hf
  have wj := wrap_i64 (x := (j : Int) + 1) (by omega) (by omega)
  try simp only [go_sem, reduceIte, Nat.reduceEqDiff, Nat.reduceAdd, Nat.reduceSub, Nat.reduceMul, Nat.reduceLT, Nat.reduceLeDiff, Nat.reducePow, Int.reduceToNat, Int.reduceLT, Int.reduceLE, Int.reduceEq, Int.reduceNe, Int.reduceAdd, Int.reduceSub, Int.reduceMul, Int.reduceNeg, q1, q2, q5, e0]
  refine cd_dec (fun g => ?_) (fun g => ?_)
  · try simp only [go_sem, reduceIte, Nat.reduceEqDiff, Nat.reduceAdd, Nat.reduceSub, Nat.reduceMul, Nat.reduceLT, Nat.reduceLeDiff, Nat.reducePow, Int.reduceToNat, Int.reduceLT, Int.reduceLE, Int.reduceEq, Int.reduceNe, Int.reduceAdd, Int.reduceSub, Int.reduceMul, Int.reduceNeg, q1, q2, q5, e0]
    refine cK_vn hf ?_
    try simp only [go_sem, reduceIte, Nat.reduceEqDiff, Nat.reduceAdd, Nat.reduceSub, Nat.reduceMul, Nat.reduceLT, Nat.reduceLeDiff, Nat.reducePow, Int.reduceToNat, Int.reduceLT, Int.reduceLE, Int.reduceEq, Int.reduceNe, Int.reduceAdd, Int.reduceSub, Int.reduceMul, Int.reduceNeg, q1, q2, q5, e0]
    refine new_any fun b1 hb => ?_
    have m0 := box_ne hb e0
    cases ok
    all_goals try simp only [go_sem, reduceIte, Nat.reduceEqDiff, Nat.reduceAdd, Nat.reduceSub, Nat.reduceMul, Nat.reduceLT, Nat.reduceLeDiff, Nat.reducePow, Int.reduceToNat, Int.reduceLT, Int.reduceLE, Int.reduceEq, Int.reduceNe, Int.reduceAdd, Int.reduceSub, Int.reduceMul, Int.reduceNeg, q1, q2, q5, e0, m0, wj]
    · exact finK_drop ⟨_, ⟨_, rfl⟩, rfl, rfl, rfl⟩
    · exact ⟨⟨j + 1, _, by omega, rfl, by simp [Heap.set, m0, e0]⟩, by omega⟩
  · try simp only [go_sem, reduceIte, Nat.reduceEqDiff, Nat.reduceAdd, Nat.reduceSub, Nat.reduceMul, Nat.reduceLT, Nat.reduceLeDiff, Nat.reducePow, Int.reduceToNat, Int.reduceLT, Int.reduceLE, Int.reduceEq, Int.reduceNe, Int.reduceAdd, Int.reduceSub, Int.reduceMul, Int.reduceNeg, q1, q2, q5, e0]
    exact finK_drop ⟨_, ⟨_, rfl⟩, rfl, rfl, rfl⟩
theorem inside_ok (fs : List Fd) (nx id gr : Int) (z : fs.length ≤ 1048576) : VX P G 105 [.agg [.sl .none (fs.map fdD), .int .i64 nx], .int .i64 id, .int .i64 gr] isB := by
  unfold VX
  refine VC.ofs (fun | 99999999 => [(0, [0, 1, 2, 3, 6, 7, 8, 15, 20])] | _ => []) [6] mixed Tryz.func105 rfl rfl rfl rfl (by decide +kernel) (by simp) ?_
  simp only [go_sem, reduceIte, Nat.reduceEqDiff, Nat.reduceAdd, Nat.reduceSub, Nat.reduceMul, Nat.reduceLT, Nat.reduceLeDiff, Nat.reducePow, Int.reduceToNat, Int.reduceLT, Int.reduceLE, Int.reduceEq, Int.reduceNe, Int.reduceAdd, Int.reduceSub, Int.reduceMul, Int.reduceNeg]
  intro b0
  generalize hβ : Heap.set Heap.nil b0 _ = β0
  have e0 : β0 b0 = some [.sl .none (fs.map fdD), .int .i64 nx] := by rw [← hβ]; simp only [Heap.set, if_true]
  refine vwq_loop (fun v => ∃ (j : Nat) (k : Int), j ≤ 9 ∧ v.σ 1 = .int .i64 k ∧ v.σ 2 = .int .i64 gr ∧ v.σ 3 = .pb b0 0 ∧ v.σ 7 = .int .i64 j ∧ v.β b0 = some [.sl .none (fs.map fdD), .int .i64 nx] ∧ v.ω = []) (fun v => 9 - (ival (v.σ 7)).toNat) ⟨0, id, by omega, rfl, rfl, rfl, rfl, e0, rfl⟩ ?_
  clear hβ e0 β0
  rintro σ β ω ⟨j, k, j1, q1, q2, q3, q7, e0, rfl⟩
  dsimp only at q1 q2 q3 q7 e0
  have hf := Field_ok (G := G) fs nx k z
  simp only [fdC] at hf
  generalize orF (findFd fs k) = f at hf
  generalize (findFd fs k).isSome = ok at hf
  have wj := wrap_i64 (x := (j : Int) + 1) (by omega) (by omega)
  try simp only [go_sem, reduceIte, Nat.reduceEqDiff, Nat.reduceAdd, Nat.reduceSub, Nat.reduceMul, Nat.reduceLT, Nat.reduceLeDiff, Nat.reducePow, Int.reduceToNat, Int.reduceLT, Int.reduceLE, Int.reduceEq, Int.reduceNe, Int.reduceAdd, Int.reduceSub, Int.reduceMul, Int.reduceNeg, q1, q2, q3, q7, e0]
  refine cd_dec (fun g => ?_) (fun g => ?_)
  · try simp only [go_sem, reduceIte, Nat.reduceEqDiff, Nat.reduceAdd, Nat.reduceSub, Nat.reduceMul, Nat.reduceLT, Nat.reduceLeDiff, Nat.reducePow, Int.reduceToNat, Int.reduceLT, Int.reduceLE, Int.reduceEq, Int.reduceNe, Int.reduceAdd, Int.reduceSub, Int.reduceMul, Int.reduceNeg, q1, q2, q3, q7, e0]
    refine cd_dec (fun g2 => ?_) (fun g2 => ?_)
    · try simp only [go_sem, reduceIte, Nat.reduceEqDiff, Nat.reduceAdd, Nat.reduceSub, Nat.reduceMul, Nat.reduceLT, Nat.reduceLeDiff, Nat.reducePow, Int.reduceToNat, Int.reduceLT, Int.reduceLE, Int.reduceEq, Int.reduceNe, Int.reduceAdd, Int.reduceSub, Int.reduceMul, Int.reduceNeg, q1, q2, q3, q7, e0]
      exact finK_drop ⟨_, ⟨_, rfl⟩, rfl, rfl, rfl⟩
    try simp only [go_sem, reduceIte, Nat.reduceEqDiff, Nat.reduceAdd, Nat.reduceSub, Nat.reduceMul, Nat.reduceLT, Nat.reduceLeDiff, Nat.reducePow, Int.reduceToNat, Int.reduceLT, Int.reduceLE, Int.reduceEq, Int.reduceNe, Int.reduceAdd, Int.reduceSub, Int.reduceMul, Int.reduceNeg, q1, q2, q3, q7, e0]
    refine cK_vn hf ?_
    try simp only [go_sem, reduceIte, Nat.reduceEqDiff, Nat.reduceAdd, Nat.reduceSub, Nat.reduceMul, Nat.reduceLT, Nat.reduceLeDiff, Nat.reducePow, Int.reduceToNat, Int.reduceLT, Int.reduceLE, Int.reduceEq, Int.reduceNe, Int.reduceAdd, Int.reduceSub, Int.reduceMul, Int.reduceNeg, q1, q2, q3, q7, e0]
    refine new_any fun b1 hb => ?_
    have m0 := box_ne hb e0
    try simp only [go_sem, reduceIte, Nat.reduceEqDiff, Nat.reduceAdd, Nat.reduceSub, Nat.reduceMul, Nat.reduceLT, Nat.reduceLeDiff, Nat.reducePow, Int.reduceToNat, Int.reduceLT, Int.reduceLE, Int.reduceEq, Int.reduceNe, Int.reduceAdd, Int.reduceSub, Int.reduceMul, Int.reduceNeg, q1, q2, q3, q7, e0, m0, wj]
    exact ⟨⟨j + 1, _, by omega, rfl, by simp [Heap.set, m0, e0]⟩, by omega⟩
  · try simp only [go_sem, reduceIte, Nat.reduceEqDiff, Nat.reduceAdd, Nat.reduceSub, Nat.reduceMul, Nat.reduceLT, Nat.reduceLeDiff, Nat.reducePow, Int.reduceToNat, Int.reduceLT, Int.reduceLE, Int.reduceEq, Int.reduceNe, Int.reduceAdd, Int.reduceSub, Int.reduceMul, Int.reduceNeg, q1, q2, q3, q7, e0]
    exact finK_drop ⟨_, ⟨_, rfl⟩, rfl, rfl, rfl⟩
theorem taken_ok (fs : List Fd) (nx : Int) (f : Fd) (i k : Int) (z : fs.length ≤ 1048576) : VX P G 88 [.agg [.sl .none (fs.map fdD), .int .i64 nx], .agg (fdC f), .agg [.int .i64 i, .int .i64 k]] isB := by
  have hn := Name_ok (G := G) f.name
  simp only [fdC]
  unfold VX
  refine VC.ofs (fun | 99999999 => [(0, [0, 1, 2, 3, 4, 5, 6, 7, 8, 9, 14, 47])] | _ => []) [6] mixed Tryz.func88 rfl rfl rfl rfl (by decide +kernel) (by simp) ?_
  simp only [go_sem, reduceIte, Nat.reduceEqDiff, Nat.reduceAdd, Nat.reduceSub, Nat.reduceMul, Nat.reduceLT, Nat.reduceLeDiff, Nat.reducePow, Int.reduceToNat, Int.reduceLT, Int.reduceLE, Int.reduceEq, Int.reduceNe, Int.reduceAdd, Int.reduceSub, Int.reduceMul, Int.reduceNeg]
  intro b0
  refine new_1 fun b1 h1 h2 => ?_
  refine new_2 fun b2 h3 h4 h5 => ?_
  generalize hβ : Heap.set _ b2 _ = β0
  have e0 : β0 b0 = some [.sl .none (fs.map fdD), .int .i64 nx] := by rw [← hβ]; simp [Heap.set, h1, h2, h3, h4, h5]
  have e1 : β0 b1 = some (fdC f) := by rw [← hβ]; simp [Heap.set, h1, h2, h3, h4, h5, fdC]
  have e2 : β0 b2 = some [.int .i64 i, .int .i64 k] := by rw [← hβ]; simp [Heap.set]
  clear hβ
  simp only [fdC] at e1
  refine vwq_loop (fun v => ∃ (j : Nat), j ≤ fs.length ∧ v.σ 3 = .pb b0 0 ∧ v.σ 4 = .pb b1 0 ∧ v.σ 5 = .pb b2 0 ∧ v.σ 7 = .int .i64 j ∧ v.β b0 = some [.sl .none (fs.map fdD), .int .i64 nx] ∧ v.β b1 = some [.int .i64 f.id, .str f.name, .int .i64 f.type, .int .i64 f.parent] ∧ v.β b2 = some [.int .i64 i, .int .i64 k] ∧ v.ω = []) (fun v => fs.length - (ival (v.σ 7)).toNat) ⟨0, by omega, rfl, rfl, rfl, rfl, e0, e1, e2, rfl⟩ ?_
  clear e0 e1 e2 β0
  rintro σ β ω ⟨j, j1, q3, q4, q5, q7, e0, e1, e2, rfl⟩
  dsimp only at q3 q4 q5 q7 e0 e1 e2
  try simp only [go_sem, reduceIte, Nat.reduceEqDiff, Nat.reduceAdd, Nat.reduceSub, Nat.reduceMul, Nat.reduceLT, Nat.reduceLeDiff, Nat.reducePow, Int.reduceToNat, Int.reduceLT, Int.reduceLE, Int.reduceEq, Int.reduceNe, Int.reduceAdd, Int.reduceSub, Int.reduceMul, Int.reduceNeg, q3, q4, q5, q7, e0, e1, e2]
  refine cd_dec (fun g => ?_) (fun g => ?_)
  · obtain ⟨x, hx, ex⟩ := Fd_at (l := fs) (j := j) (by rw [List.length_map] at g; omega)
    have g1 := eq_true g
    rw [List.length_map] at g
    have wj := wrap_i64 (x := (j : Int) + 1) (by omega) (by omega)
    have c1 : ((0 : Int) ≤ j) = True := eq_true (by omega)
    try simp only [go_sem, reduceIte, Nat.reduceEqDiff, Nat.reduceAdd, Nat.reduceSub, Nat.reduceMul, Nat.reduceLT, Nat.reduceLeDiff, Nat.reducePow, Int.reduceToNat, Int.reduceLT, Int.reduceLE, Int.reduceEq, Int.reduceNe, Int.reduceAdd, Int.reduceSub, Int.reduceMul, Int.reduceNeg, q3, q4, q5, q7, e0, e1, e2, ex, g1, c1]
    refine new_any fun b3 hb => ?_
    have m0 := box_ne hb e0
    have m1 := box_ne hb e1
    have m2 := box_ne hb e2
    try simp only [go_sem, reduceIte, Nat.reduceEqDiff, Nat.reduceAdd, Nat.reduceSub, Nat.reduceMul, Nat.reduceLT, Nat.reduceLeDiff, Nat.reducePow, Int.reduceToNat, Int.reduceLT, Int.reduceLE, Int.reduceEq, Int.reduceNe, Int.reduceAdd, Int.reduceSub, Int.reduceMul, Int.reduceNeg, q3, q4, q5, q7, e0, e1, e2, ex, m0, m1, m2]
    refine cd_dec (fun k => ?_) (fun k => ?_)
    · try simp only [go_sem, reduceIte, Nat.reduceEqDiff, Nat.reduceAdd, Nat.reduceSub, Nat.reduceMul, Nat.reduceLT, Nat.reduceLeDiff, Nat.reducePow, Int.reduceToNat, Int.reduceLT, Int.reduceLE, Int.reduceEq, Int.reduceNe, Int.reduceAdd, Int.reduceSub, Int.reduceMul, Int.reduceNeg, q3, q4, q5, q7, e0, e1, e2]
      exact finK_drop ⟨_, ⟨_, rfl⟩, rfl, rfl, rfl⟩
    · try simp only [go_sem, reduceIte, Nat.reduceEqDiff, Nat.reduceAdd, Nat.reduceSub, Nat.reduceMul, Nat.reduceLT, Nat.reduceLeDiff, Nat.reducePow, Int.reduceToNat, Int.reduceLT, Int.reduceLE, Int.reduceEq, Int.reduceNe, Int.reduceAdd, Int.reduceSub, Int.reduceMul, Int.reduceNeg, q3, q4, q5, q7, e0, e1, e2, wj]
      exact ⟨⟨j + 1, by omega, rfl, by simp [Heap.set, m0, e0], by simp [Heap.set, m1, e1], by simp [Heap.set, m2, e2]⟩, by omega⟩
  · try simp only [go_sem, reduceIte, Nat.reduceEqDiff, Nat.reduceAdd, Nat.reduceSub, Nat.reduceMul, Nat.reduceLT, Nat.reduceLeDiff, Nat.reducePow, Int.reduceToNat, Int.reduceLT, Int.reduceLE, Int.reduceEq, Int.reduceNe, Int.reduceAdd, Int.reduceSub, Int.reduceMul, Int.reduceNeg, q3, q4, q5, q7, e0, e1, e2]
    refine cK_vx hn ?_
    rintro _ ⟨b, rfl⟩
    try simp only [go_sem, reduceIte, Nat.reduceEqDiff, Nat.reduceAdd, Nat.reduceSub, Nat.reduceMul, Nat.reduceLT, Nat.reduceLeDiff, Nat.reducePow, Int.reduceToNat, Int.reduceLT, Int.reduceLE, Int.reduceEq, Int.reduceNe, Int.reduceAdd, Int.reduceSub, Int.reduceMul, Int.reduceNeg, q3, q4, q5, q7, e0, e1, e2]
    exact finK_drop ⟨_, ⟨_, rfl⟩, rfl, rfl, rfl⟩
end Go.Proofs.YtnoenipdooackaaGreatDoorS
namespace Go.Proofs.YtnoenipdooackaaGreatDoorS
open Go Go.Proofs.YtnoenipdooackaaGreatDoorV

variable {G : Heap}
attribute [local irreducible] VN VC VX VQ

theorem Fd_cells4 (l : List Fd) : ∀ x ∈ l.map fdD, x.cells.length = 4 := fun x hx => by
  obtain ⟨y, _, rfl⟩ := List.mem_map.1 hx; rfl
theorem fd_er (l : List Fd) : (l.map fdD).map D.er = l.map fdD := by
  rw [List.map_map]; exact List.map_congr_left fun b _ => rfl
def plusF (fs : List Fd) (nx : Int) (f : Fd) : List Fd := fs ++ [⟨nx, f.name, f.type, f.parent⟩]
set_option maxHeartbeats 2000000 in
theorem plus_ok (fs : List Fd) (nx : Int) (f : Fd) (z : fs.length ≤ 1048576) (hn : 0 ≤ nx ∧ nx ≤ 2147483648) : VN P G 89 [.agg [.sl .none (fs.map fdD), .int .i64 nx], .agg (fdC f)] (.agg [.sl .none ((plusF fs nx f).map fdD), .int .i64 (nx + 1)]) := by
  have wn := wrap_i64 (x := nx + 1) (by omega) (by omega)
  simp only [fdC]
  unfold VN
  refine VC.ofc (fun | 2 => [(0, []), (1, []), (2, []), (3, []), (4, []), (5, []), (6, []), (7, []), (8, []), (9, [])] | 99999999 => [(0, [0, 1, 2, 3, 4, 5])] | _ => []) [.cell 4 34] mixed Tryz.func89 rfl rfl rfl rfl (by decide +kernel) (by simp) ?_
  simp only [go_sem, reduceIte, Nat.reduceEqDiff, Nat.reduceAdd, Nat.reduceSub, Nat.reduceMul, Nat.reduceLT, Nat.reduceLeDiff, Nat.reducePow, Int.reduceToNat, Int.reduceLT, Int.reduceLE, Int.reduceEq, Int.reduceNe, Int.reduceAdd, Int.reduceSub, Int.reduceMul, Int.reduceNeg]
  intro b0
  refine new_1 fun b1 h1 h2 => ?_
  refine new_2 fun b2 h3 h4 h5 => ?_
  try simp only [go_sem, reduceIte, Nat.reduceEqDiff, Nat.reduceAdd, Nat.reduceSub, Nat.reduceMul, Nat.reduceLT, Nat.reduceLeDiff, Nat.reducePow, Int.reduceToNat, Int.reduceLT, Int.reduceLE, Int.reduceEq, Int.reduceNe, Int.reduceAdd, Int.reduceSub, Int.reduceMul, Int.reduceNeg, h1, h2, h3, h4, h5, wn]
  refine ⟨fun d hd => by obtain ⟨y, _, rfl⟩ := List.mem_map.1 hd; exact ⟨rfl, rfl⟩, by simp only [List.length_map]; omega, fun t' => ?_⟩
  refine new_any fun b3 h6 => ?_
  simp only [set_none] at h6
  try simp only [go_sem, reduceIte, Nat.reduceEqDiff, Nat.reduceAdd, Nat.reduceSub, Nat.reduceMul, Nat.reduceLT, Nat.reduceLeDiff, Nat.reducePow, Int.reduceToNat, Int.reduceLT, Int.reduceLE, Int.reduceEq, Int.reduceNe, Int.reduceAdd, Int.reduceSub, Int.reduceMul, Int.reduceNeg, h1, h2, h3, h4, h5, h6, wn, fd_er]
  exact ⟨Fd_cells4 _, by rw [List.length_map]; omega, fun t'' _ => finK_drop ⟨by rw [plusF, List.map_append]; rfl, rfl, rfl⟩⟩
def withoutF (fs : List Fd) (i k : Int) : List Fd := fs.filter fun f => decide (f.id ≠ i ∧ f.id ≠ k)
set_option maxHeartbeats 2000000 in
theorem without_ok (fs : List Fd) (nx i k : Int) (z : fs.length ≤ 1048576) : VN P G 91 [.agg [.sl .none (fs.map fdD), .int .i64 nx], .agg [.int .i64 i, .int .i64 k]] (.agg [.sl .none ((withoutF fs i k).map fdD), .int .i64 nx]) := by
  unfold VN
  refine VC.ofc (fun | 5 => [(0, []), (1, []), (2, []), (3, []), (4, []), (5, []), (6, []), (7, []), (8, []), (9, []), (10, []), (11, []), (12, []), (13, []), (14, []), (15, []), (16, []), (17, []), (18, []), (19, [])] | 6 => [(0, []), (1, []), (2, []), (3, []), (4, []), (5, []), (6, []), (7, []), (8, []), (9, []), (10, [])] | 99999999 => [(0, [0, 1, 2, 3, 4, 5, 6, 14, 36])] | _ => []) [.cell 4 34] mixed Tryz.func91 rfl rfl rfl rfl (by decide +kernel) (by simp) ?_
  simp only [go_sem, reduceIte, Nat.reduceEqDiff, Nat.reduceAdd, Nat.reduceSub, Nat.reduceMul, Nat.reduceLT, Nat.reduceLeDiff, Nat.reducePow, Int.reduceToNat, Int.reduceLT, Int.reduceLE, Int.reduceEq, Int.reduceNe, Int.reduceAdd, Int.reduceSub, Int.reduceMul, Int.reduceNeg]
  intro b0
  refine new_1 fun b1 h1 h2 => ?_
  refine new_2 fun b2 h3 h4 h5 => ?_
  try simp only [go_sem, reduceIte, Nat.reduceEqDiff, Nat.reduceAdd, Nat.reduceSub, Nat.reduceMul, Nat.reduceLT, Nat.reduceLeDiff, Nat.reducePow, Int.reduceToNat, Int.reduceLT, Int.reduceLE, Int.reduceEq, Int.reduceNe, Int.reduceAdd, Int.reduceSub, Int.reduceMul, Int.reduceNeg, h1, h2, h3, h4, h5]
  refine new_any fun b3 h6 => ?_
  simp only [set_none] at h6
  generalize hβ : Heap.set _ b3 _ = β0
  have e0 : β0 b0 = some [.sl .none (fs.map fdD), .int .i64 nx] := by rw [← hβ]; simp [Heap.set, h1, h2, h3, h4, h5, h6]
  have e1 : β0 b1 = some [.int .i64 i, .int .i64 k] := by rw [← hβ]; simp [Heap.set, h1, h2, h3, h4, h5, h6]
  have e2 : β0 b2 = some [.sl .full [], .int .i64 0] := by rw [← hβ]; simp [Heap.set, h1, h2, h3, h4, h5, h6]
  have e3 : β0 b3 = some [.sl .full [], .int .i64 nx] := by rw [← hβ]; simp [Heap.set]
  clear hβ
  refine vwq_loop (fun v => ∃ (j : Nat) (tk : Tk), j ≤ fs.length ∧ TW 4 tk v.ω ∧ v.σ 2 = .pb b0 0 ∧ v.σ 3 = .pb b1 0 ∧ v.σ 4 = .pb b2 0 ∧ v.σ 5 = .pb b3 0 ∧ v.σ 6 = .int .i64 j ∧ v.β b0 = some [.sl .none (fs.map fdD), .int .i64 nx] ∧ v.β b1 = some [.int .i64 i, .int .i64 k] ∧ v.β b2 = some [.sl .full [], .int .i64 0] ∧ v.β b3 = some [.sl tk ((withoutF (fs.take j) i k).map fdD), .int .i64 nx]) (fun v => fs.length - (ival (v.σ 6)).toNat) ?_ ?_
  · exact ⟨0, .full, by omega, TW.full 4, rfl, rfl, rfl, rfl, rfl, e0, e1, e2, e3⟩
  clear e0 e1 e2 e3 β0
  rintro σ β ω ⟨j, tk, j1, hw, q2, q3, q4, q5, q6, e0, e1, e2, e3⟩
  dsimp only at hw q2 q3 q4 q5 q6 e0 e1 e2 e3
  have ho := hw.ok
  have hg := hw.gone
  try simp only [go_sem, reduceIte, Nat.reduceEqDiff, Nat.reduceAdd, Nat.reduceSub, Nat.reduceMul, Nat.reduceLT, Nat.reduceLeDiff, Nat.reducePow, Int.reduceToNat, Int.reduceLT, Int.reduceLE, Int.reduceEq, Int.reduceNe, Int.reduceAdd, Int.reduceSub, Int.reduceMul, Int.reduceNeg, q2, q3, q4, q5, q6, e0, e1, e2, e3]
  refine cd_dec (fun g => ?_) (fun g => ?_)
  · obtain ⟨x, hx, ex⟩ := Fd_at (l := fs) (j := j) (by rw [List.length_map] at g; omega)
    have g1 := eq_true g
    rw [List.length_map] at g
    have wj := wrap_i64 (x := (j : Int) + 1) (by omega) (by omega)
    have c1 : ((0 : Int) ≤ j) = True := eq_true (by omega)
    have hl : (withoutF (fs.take j) i k).length ≤ j := Nat.le_trans (List.length_filter_le ..) (by rw [List.length_take]; omega)
    have ht : withoutF (fs.take (j + 1)) i k = withoutF (fs.take j) i k ++ (if x.id ≠ i ∧ x.id ≠ k then [x] else []) := by
      rw [List.take_add_one, hx]
      simp only [withoutF, List.filter_append, Option.toList_some]
      by_cases h : x.id ≠ i ∧ x.id ≠ k <;> simp [h]
    try simp only [go_sem, reduceIte, Nat.reduceEqDiff, Nat.reduceAdd, Nat.reduceSub, Nat.reduceMul, Nat.reduceLT, Nat.reduceLeDiff, Nat.reducePow, Int.reduceToNat, Int.reduceLT, Int.reduceLE, Int.reduceEq, Int.reduceNe, Int.reduceAdd, Int.reduceSub, Int.reduceMul, Int.reduceNeg, q2, q3, q4, q5, q6, e0, e1, e2, e3, ex, g1, c1]
    refine cd_dec (fun kk => ?_) (fun kk => ?_)
    · rw [if_pos kk] at ht
      try simp only [go_sem, reduceIte, Nat.reduceEqDiff, Nat.reduceAdd, Nat.reduceSub, Nat.reduceMul, Nat.reduceLT, Nat.reduceLeDiff, Nat.reducePow, Int.reduceToNat, Int.reduceLT, Int.reduceLE, Int.reduceEq, Int.reduceNe, Int.reduceAdd, Int.reduceSub, Int.reduceMul, Int.reduceNeg, q2, q3, q4, q5, q6, e0, e1, e2, e3, ex, g1, c1, ho, hg, wj]
      refine ⟨Fd_cells4 _, by rw [List.length_map]; omega, fun t' _ => ⟨⟨j + 1, .live t' 4, by omega, TW.live 4 t', ?_⟩, by omega⟩⟩
      simp [Heap.set, e0, e1, e2, h6, ht, fdD]
    · rw [if_neg kk] at ht
      try simp only [go_sem, reduceIte, Nat.reduceEqDiff, Nat.reduceAdd, Nat.reduceSub, Nat.reduceMul, Nat.reduceLT, Nat.reduceLeDiff, Nat.reducePow, Int.reduceToNat, Int.reduceLT, Int.reduceLE, Int.reduceEq, Int.reduceNe, Int.reduceAdd, Int.reduceSub, Int.reduceMul, Int.reduceNeg, q2, q3, q4, q5, q6, e0, e1, e2, e3, ex, g1, c1, wj]
      refine ⟨⟨j + 1, tk, by omega, hw, ?_⟩, by omega⟩
      rw [ht, List.append_nil]
      simp [e0, e1, e2, e3]
  · try simp only [go_sem, reduceIte, Nat.reduceEqDiff, Nat.reduceAdd, Nat.reduceSub, Nat.reduceMul, Nat.reduceLT, Nat.reduceLeDiff, Nat.reducePow, Int.reduceToNat, Int.reduceLT, Int.reduceLE, Int.reduceEq, Int.reduceNe, Int.reduceAdd, Int.reduceSub, Int.reduceMul, Int.reduceNeg, q2, q3, q4, q5, q6, e0, e1, e2, e3]
    rw [List.length_map] at g
    rw [List.take_of_length_le (by omega)]
    exact finK_drop ⟨rfl, rfl, rfl⟩
def withF (fs : List Fd) (f : Fd) : List Fd := fs.map fun x => if x.id = f.id then f else x
set_option maxHeartbeats 2000000 in
theorem with_ok (fs : List Fd) (nx : Int) (f : Fd) (z : fs.length ≤ 1048576) : VN P G 92 [.agg [.sl .none (fs.map fdD), .int .i64 nx], .agg (fdC f)] (.agg [.sl .none ((withF fs f).map fdD), .int .i64 nx]) := by
  simp only [fdC]
  unfold VN
  refine VC.ofc (fun | 5 => [(0, []), (1, []), (2, []), (3, []), (4, []), (5, []), (6, []), (7, []), (8, [])] | 7 => [(0, []), (1, []), (2, []), (3, []), (4, []), (5, []), (6, []), (7, []), (8, []), (9, []), (10, [])] | 99999999 => [(0, [0, 1, 2, 3, 4, 5, 6, 14, 25])] | _ => []) [.cell 4 34] mixed Tryz.func92 rfl rfl rfl rfl (by decide +kernel) (by simp) ?_
  simp only [go_sem, reduceIte, Nat.reduceEqDiff, Nat.reduceAdd, Nat.reduceSub, Nat.reduceMul, Nat.reduceLT, Nat.reduceLeDiff, Nat.reducePow, Int.reduceToNat, Int.reduceLT, Int.reduceLE, Int.reduceEq, Int.reduceNe, Int.reduceAdd, Int.reduceSub, Int.reduceMul, Int.reduceNeg]
  intro b0
  refine new_1 fun b1 h1 h2 => ?_
  refine new_2 fun b2 h3 h4 h5 => ?_
  try simp only [go_sem, reduceIte, Nat.reduceEqDiff, Nat.reduceAdd, Nat.reduceSub, Nat.reduceMul, Nat.reduceLT, Nat.reduceLeDiff, Nat.reducePow, Int.reduceToNat, Int.reduceLT, Int.reduceLE, Int.reduceEq, Int.reduceNe, Int.reduceAdd, Int.reduceSub, Int.reduceMul, Int.reduceNeg, h1, h2, h3, h4, h5]
  refine new_any fun b3 h6 => ?_
  simp only [set_none] at h6
  generalize hβ : Heap.set _ b3 _ = β0
  have e0 : β0 b0 = some [.sl .none (fs.map fdD), .int .i64 nx] := by rw [← hβ]; simp [Heap.set, h1, h2, h3, h4, h5, h6]
  have e1 : β0 b1 = some [.int .i64 f.id, .str f.name, .int .i64 f.type, .int .i64 f.parent] := by rw [← hβ]; simp [Heap.set, h1, h2, h3, h4, h5, h6]
  have e2 : β0 b2 = some [.sl .full [], .int .i64 0] := by rw [← hβ]; simp [Heap.set, h1, h2, h3, h4, h5, h6]
  have e3 : β0 b3 = some [.sl .full [], .int .i64 nx] := by rw [← hβ]; simp [Heap.set]
  clear hβ
  refine vwq_loop (fun v => ∃ (j : Nat) (tk : Tk), j ≤ fs.length ∧ TW 4 tk v.ω ∧ v.σ 2 = .pb b0 0 ∧ v.σ 3 = .pb b1 0 ∧ v.σ 4 = .pb b2 0 ∧ v.σ 5 = .pb b3 0 ∧ v.σ 6 = .int .i64 j ∧ v.β b0 = some [.sl .none (fs.map fdD), .int .i64 nx] ∧ v.β b1 = some [.int .i64 f.id, .str f.name, .int .i64 f.type, .int .i64 f.parent] ∧ v.β b2 = some [.sl .full [], .int .i64 0] ∧ v.β b3 = some [.sl tk ((withF (fs.take j) f).map fdD), .int .i64 nx]) (fun v => fs.length - (ival (v.σ 6)).toNat) ?_ ?_
  · exact ⟨0, .full, by omega, TW.full 4, rfl, rfl, rfl, rfl, rfl, e0, e1, e2, e3⟩
  clear e0 e1 e2 e3 β0
  rintro σ β ω ⟨j, tk, j1, hw, q2, q3, q4, q5, q6, e0, e1, e2, e3⟩
  dsimp only at hw q2 q3 q4 q5 q6 e0 e1 e2 e3
  have ho := hw.ok
  have hg := hw.gone
  try simp only [go_sem, reduceIte, Nat.reduceEqDiff, Nat.reduceAdd, Nat.reduceSub, Nat.reduceMul, Nat.reduceLT, Nat.reduceLeDiff, Nat.reducePow, Int.reduceToNat, Int.reduceLT, Int.reduceLE, Int.reduceEq, Int.reduceNe, Int.reduceAdd, Int.reduceSub, Int.reduceMul, Int.reduceNeg, q2, q3, q4, q5, q6, e0, e1, e2, e3]
  refine cd_dec (fun g => ?_) (fun g => ?_)
  · obtain ⟨x, hx, ex⟩ := Fd_at (l := fs) (j := j) (by rw [List.length_map] at g; omega)
    have g1 := eq_true g
    rw [List.length_map] at g
    have wj := wrap_i64 (x := (j : Int) + 1) (by omega) (by omega)
    have c1 : ((0 : Int) ≤ j) = True := eq_true (by omega)
    have hl : (withF (fs.take j) f).length ≤ j := by rw [withF, List.length_map, List.length_take]; omega
    have ht : withF (fs.take (j + 1)) f = withF (fs.take j) f ++ [if x.id = f.id then f else x] := by
      rw [List.take_add_one, hx]
      simp only [withF, List.map_append, Option.toList_some]
      rfl
    try simp only [go_sem, reduceIte, Nat.reduceEqDiff, Nat.reduceAdd, Nat.reduceSub, Nat.reduceMul, Nat.reduceLT, Nat.reduceLeDiff, Nat.reducePow, Int.reduceToNat, Int.reduceLT, Int.reduceLE, Int.reduceEq, Int.reduceNe, Int.reduceAdd, Int.reduceSub, Int.reduceMul, Int.reduceNeg, q2, q3, q4, q5, q6, e0, e1, e2, e3, ex, g1, c1]
    refine cd_dec (fun kk => ?_) (fun kk => ?_)
    · rw [if_pos kk] at ht
      try simp only [go_sem, reduceIte, Nat.reduceEqDiff, Nat.reduceAdd, Nat.reduceSub, Nat.reduceMul, Nat.reduceLT, Nat.reduceLeDiff, Nat.reducePow, Int.reduceToNat, Int.reduceLT, Int.reduceLE, Int.reduceEq, Int.reduceNe, Int.reduceAdd, Int.reduceSub, Int.reduceMul, Int.reduceNeg, q2, q3, q4, q5, q6, e0, e1, e2, e3, ex, g1, c1, ho, hg, wj]
      refine ⟨Fd_cells4 _, by rw [List.length_map]; omega, fun t' _ => ⟨⟨j + 1, .live t' 4, by omega, TW.live 4 t', ?_⟩, by omega⟩⟩
      simp [Heap.set, e0, e1, e2, h6, ht, fdD]
    · rw [if_neg kk] at ht
      try simp only [go_sem, reduceIte, Nat.reduceEqDiff, Nat.reduceAdd, Nat.reduceSub, Nat.reduceMul, Nat.reduceLT, Nat.reduceLeDiff, Nat.reducePow, Int.reduceToNat, Int.reduceLT, Int.reduceLE, Int.reduceEq, Int.reduceNe, Int.reduceAdd, Int.reduceSub, Int.reduceMul, Int.reduceNeg, q2, q3, q4, q5, q6, e0, e1, e2, e3, ex, g1, c1, ho, hg, wj]
      refine ⟨Fd_cells4 _, by rw [List.length_map]; omega, fun t' _ => ⟨⟨j + 1, .live t' 4, by omega, TW.live 4 t', ?_⟩, by omega⟩⟩
      simp [Heap.set, e0, e1, e2, h6, ht, fdD]
  · try simp only [go_sem, reduceIte, Nat.reduceEqDiff, Nat.reduceAdd, Nat.reduceSub, Nat.reduceMul, Nat.reduceLT, Nat.reduceLeDiff, Nat.reducePow, Int.reduceToNat, Int.reduceLT, Int.reduceLE, Int.reduceEq, Int.reduceNe, Int.reduceAdd, Int.reduceSub, Int.reduceMul, Int.reduceNeg, q2, q3, q4, q5, q6, e0, e1, e2, e3]
    rw [List.length_map] at g
    rw [List.take_of_length_le (by omega)]
    exact finK_drop ⟨rfl, rfl, rfl⟩
end Go.Proofs.YtnoenipdooackaaGreatDoorS
namespace Go.Proofs.YtnoenipdooackaaGreatDoorS
open Go Go.Proofs.YtnoenipdooackaaGreatDoorV

variable {G : Heap}
attribute [local irreducible] VN VC VX VQ

/-- What a made schema keeps. -/
structure SOk (fs : List Fd) (nx : Int) : Prop where
  len : fs.length ≤ 64
  lo : 1 ≤ nx
  hi : nx ≤ 1073741824
  asc : fs.Pairwise fun a b => a.id < b.id
  ids : ∀ f ∈ fs, 1 ≤ f.id ∧ f.id < nx
theorem SOk.new : SOk [] 1 := ⟨by simp, by omega, by omega, List.Pairwise.nil, by simp⟩
theorem SOk.plus {fs : List Fd} {nx : Int} (h : SOk fs nx) (f : Fd) (hl : fs.length < 64) (hn : nx < 1073741824) : SOk (plusF fs nx f) (nx + 1) := by
  refine ⟨by simp [plusF]; omega, by have := h.lo; omega, by omega, ?_, fun g hg => ?_⟩
  · rw [plusF, List.pairwise_append]
    refine ⟨h.asc, List.pairwise_singleton _ _, fun a ha b hb => ?_⟩
    simp at hb; subst hb
    exact (h.ids a ha).2
  · rcases List.mem_append.1 hg with hg | hg
    · have := h.ids g hg; omega
    · simp at hg; subst hg; have := h.lo; simp only; omega
theorem SOk.without {fs : List Fd} {nx : Int} (h : SOk fs nx) (i k : Int) : SOk (withoutF fs i k) nx :=
  ⟨Nat.le_trans (List.length_filter_le ..) h.len, h.lo, h.hi, h.asc.filter _, fun f hf => h.ids f (List.mem_filter.1 hf).1⟩
theorem findFd_some {l : List Fd} {id : Int} {f : Fd} (h : findFd l id = some f) : f ∈ l ∧ f.id = id := by
  unfold findFd at h
  exact ⟨List.mem_of_find?_eq_some h, by simpa using List.find?_some h⟩
theorem without_less {fs : List Fd} {f : Fd} {id k : Int} (h : findFd fs id = some f) : (withoutF fs id k).length < fs.length := by
  obtain ⟨h1, h2⟩ := findFd_some h
  apply Classical.byContradiction
  intro q
  have e : (withoutF fs id k).length = fs.length := Nat.le_antisymm (List.length_filter_le ..) (by omega)
  have := (List.length_filter_eq_length_iff.1 e) f h1
  simp [h2] at this
theorem SOk.with {fs : List Fd} {nx : Int} (h : SOk fs nx) (f : Fd) : SOk (withF fs f) nx := by
  have e : ∀ x : Fd, (if x.id = f.id then f else x).id = x.id := fun x => by split <;> simp_all
  refine ⟨by simp [withF, h.len], h.lo, h.hi, ?_, fun g hg => ?_⟩
  · rw [withF, List.pairwise_map]
    exact h.asc.imp fun {a b} hab => by rw [e, e]; exact hab
  · obtain ⟨x, hx, rfl⟩ := List.mem_map.1 hg
    rw [e]; exact h.ids x hx
def isS (d : D) : Prop := ∃ fs nx e, d = .tup [.agg [.sl .none (fs.map fdD), .int .i64 nx], .int .i64 e] ∧ (e = 0 → SOk fs nx)
structure Ch where
  kind : Int
  id : Int
  wit : Int
  name : ByteArray
  other : ByteArray
  type : Int
  parent : Int
  sep : ByteArray
def Ch.cells (c : Ch) : List D := [.int .i64 c.kind, .int .i64 c.id, .int .i64 c.wit, .str c.name, .str c.other, .int .i64 c.type, .int .i64 c.parent, .str c.sep]
set_option maxHeartbeats 4000000 in
theorem add_ok (fs : List Fd) (nx : Int) (c : Ch) (h : SOk fs nx) : VX P G 68 [.agg [.sl .none (fs.map fdD), .int .i64 nx], .agg c.cells] isS := by
  have z := h.len
  have hlm : (fs.map fdD).length = fs.length := List.length_map ..
  have hlo := h.lo
  have hhi := h.hi
  have hgr := group_ok (G := G) fs nx c.parent (by omega)
  have hd := depth_ok (G := G) fs nx c.parent (by omega)
  have ht := taken_ok (G := G) fs nx ⟨0, c.name, c.type, c.parent⟩ 0 0 (by omega)
  have hp := plus_ok (G := G) fs nx ⟨0, c.name, c.type, c.parent⟩ (by omega) (by omega)
  simp only [fdC] at ht hp
  simp only [Ch.cells]
  unfold VX
  refine VC.ofc (fun | 99999999 => [(0, [0, 1, 2, 3, 4, 5, 6, 14, 27, 39, 49])] | _ => []) [.cell 4 34, .tmp 5] mixed Tryz.func68 rfl rfl rfl rfl (by decide +kernel) (by simp) ?_
  simp only [go_sem, reduceIte, Nat.reduceEqDiff, Nat.reduceAdd, Nat.reduceSub, Nat.reduceMul, Nat.reduceLT, Nat.reduceLeDiff, Nat.reducePow, Int.reduceToNat, Int.reduceLT, Int.reduceLE, Int.reduceEq, Int.reduceNe, Int.reduceAdd, Int.reduceSub, Int.reduceMul, Int.reduceNeg]
  intro b0
  refine new_1 fun b1 h1 h2 => ?_
  refine new_2 fun b2 h3 h4 h5 => ?_
  repeat' (first | simp only [go_sem, reduceIte, Nat.reduceEqDiff, Nat.reduceAdd, Nat.reduceSub, Nat.reduceMul, Nat.reduceLT, Nat.reduceLeDiff, Nat.reducePow, Int.reduceToNat, Int.reduceLT, Int.reduceLE, Int.reduceEq, Int.reduceNe, Int.reduceAdd, Int.reduceSub, Int.reduceMul, Int.reduceNeg, h1, h2, h3, h4, h5] | refine cd_dec (fun _ => ?_) (fun _ => ?_) | (refine cK_vx hgr ?_; rintro _ ⟨bb, rfl⟩; cases bb) | (refine cK_vx hd ?_; rintro _ ⟨k, rfl⟩) | fail)
  all_goals first | exact finK_drop ⟨_, ⟨[], 0, _, rfl, fun h => (by simp at h)⟩, rfl, rfl, rfl⟩ | skip
  refine new_any fun b3 h6 => ?_
  simp only [set_none] at h6
  repeat' (first | simp only [go_sem, reduceIte, Nat.reduceEqDiff, Nat.reduceAdd, Nat.reduceSub, Nat.reduceMul, Nat.reduceLT, Nat.reduceLeDiff, Nat.reducePow, Int.reduceToNat, Int.reduceLT, Int.reduceLE, Int.reduceEq, Int.reduceNe, Int.reduceAdd, Int.reduceSub, Int.reduceMul, Int.reduceNeg, h1, h2, h3, h4, h5, h6] | refine cd_dec (fun _ => ?_) (fun _ => ?_) | (refine cK_vx ht ?_; rintro _ ⟨bb, rfl⟩; cases bb) | refine cK_vn hp ?_ | refine cE_vn hp ?_ | fail)
  all_goals first | exact finK_drop ⟨_, ⟨[], 0, _, rfl, fun h => (by simp at h)⟩, rfl, rfl, rfl⟩ | skip
  exact finK_drop ⟨_, ⟨_, _, _, rfl, fun _ => h.plus _ (by omega) (by omega)⟩, rfl, rfl, rfl⟩
set_option maxHeartbeats 4000000 in
theorem move_ok (fs : List Fd) (nx : Int) (f : Fd) (pa : Int) (h : SOk fs nx) : VX P G 93 [.agg [.sl .none (fs.map fdD), .int .i64 nx], .agg (fdC f), .int .i64 pa] isS := by
  have z := h.len
  have hlm : (fs.map fdD).length = fs.length := List.length_map ..
  have hgr := group_ok (G := G) fs nx pa (by omega)
  have hin := inside_ok (G := G) fs nx pa f.id (by omega)
  have hw := with_ok (G := G) fs nx ⟨f.id, f.name, f.type, pa⟩ (by omega)
  have ht := taken_ok (G := G) fs nx ⟨f.id, f.name, f.type, pa⟩ f.id f.id (by omega)
  have hk := h.with ⟨f.id, f.name, f.type, pa⟩
  generalize withF fs ⟨f.id, f.name, f.type, pa⟩ = ws at hw hk
  have zw := hk.len
  simp only [fdC] at ht hw ⊢
  unfold VX
  refine VC.ofc (fun | 8 => [(0, []), (1, []), (2, []), (3, []), (4, []), (5, []), (6, []), (7, []), (8, [])] | 99999999 => [(0, [0, 1, 2, 3, 4, 6, 7, 8, 9, 20, 31, 42, 51])] | _ => []) [.cell 6 34, .tmp 7] mixed Tryz.func93 rfl rfl rfl rfl (by decide +kernel) (by simp) ?_
  simp only [go_sem, reduceIte, Nat.reduceEqDiff, Nat.reduceAdd, Nat.reduceSub, Nat.reduceMul, Nat.reduceLT, Nat.reduceLeDiff, Nat.reducePow, Int.reduceToNat, Int.reduceLT, Int.reduceLE, Int.reduceEq, Int.reduceNe, Int.reduceAdd, Int.reduceSub, Int.reduceMul, Int.reduceNeg]
  intro b0
  refine new_1 fun b1 h1 h2 => ?_
  refine new_2 fun b2 h3 h4 h5 => ?_
  repeat' (first | simp only [go_sem, reduceIte, Nat.reduceEqDiff, Nat.reduceAdd, Nat.reduceSub, Nat.reduceMul, Nat.reduceLT, Nat.reduceLeDiff, Nat.reducePow, Int.reduceToNat, Int.reduceLT, Int.reduceLE, Int.reduceEq, Int.reduceNe, Int.reduceAdd, Int.reduceSub, Int.reduceMul, Int.reduceNeg, h1, h2, h3, h4, h5] | refine cd_dec (fun _ => ?_) (fun _ => ?_) | (refine cK_vx hgr ?_; rintro _ ⟨bb, rfl⟩; cases bb) | (refine cK_vx hin ?_; rintro _ ⟨bb, rfl⟩; cases bb) | refine cK_vn hw ?_ | fail)
  all_goals first | exact finK_drop ⟨_, ⟨[], 0, _, rfl, fun h => (by simp at h)⟩, rfl, rfl, rfl⟩ | skip
  refine new_any fun b3 h6 => ?_
  simp only [set_none] at h6
  try simp only [go_sem, reduceIte, Nat.reduceEqDiff, Nat.reduceAdd, Nat.reduceSub, Nat.reduceMul, Nat.reduceLT, Nat.reduceLeDiff, Nat.reducePow, Int.reduceToNat, Int.reduceLT, Int.reduceLE, Int.reduceEq, Int.reduceNe, Int.reduceAdd, Int.reduceSub, Int.reduceMul, Int.reduceNeg, h1, h2, h3, h4, h5, h6]
  generalize hβ : Heap.set _ b3 _ = β0
  have e0 : β0 b0 = some [.sl .none (fs.map fdD), .int .i64 nx] := by rw [← hβ]; simp [Heap.set, h1, h2, h3, h4, h5, h6]
  have e1 : β0 b1 = some [.int .i64 f.id, .str f.name, .int .i64 f.type, .int .i64 pa] := by rw [← hβ]; simp [Heap.set, h1, h2, h3, h4, h5, h6]
  have e2 : β0 b2 = some [.sl .full [], .int .i64 0] := by rw [← hβ]; simp [Heap.set, h1, h2, h3, h4, h5, h6]
  have e3 : β0 b3 = some [.sl .none (ws.map fdD), .int .i64 nx] := by rw [← hβ]; simp [Heap.set]
  have n23 : b2 ≠ b3 ∧ b3 ≠ b2 := by simp [h6]
  clear hβ
  refine vwq_loop (fun v => ∃ (j : Nat), j ≤ ws.length ∧ v.σ 3 = .pb b0 0 ∧ v.σ 4 = .pb b1 0 ∧ v.σ 6 = .pb b2 0 ∧ v.σ 8 = .pb b3 0 ∧ v.σ 9 = .int .i64 j ∧ v.β = β0 ∧ v.ω = []) (fun v => ws.length - (ival (v.σ 9)).toNat) ⟨0, by omega, rfl, rfl, rfl, rfl, rfl, rfl, rfl⟩ ?_
  rintro σ β ω ⟨j, j1, q3, q4, q6, q8, q9, rfl, rfl⟩
  dsimp only at q3 q4 q6 q8 q9 e0 e1 e2 e3
  try simp only [go_sem, reduceIte, Nat.reduceEqDiff, Nat.reduceAdd, Nat.reduceSub, Nat.reduceMul, Nat.reduceLT, Nat.reduceLeDiff, Nat.reducePow, Int.reduceToNat, Int.reduceLT, Int.reduceLE, Int.reduceEq, Int.reduceNe, Int.reduceAdd, Int.reduceSub, Int.reduceMul, Int.reduceNeg, q3, q4, q6, q8, q9, e0, e1, e2, e3]
  refine cd_dec (fun g => ?_) (fun g => ?_)
  · obtain ⟨x, hx, ex⟩ := Fd_at (l := ws) (j := j) (by rw [List.length_map] at g; omega)
    have g1 := eq_true g
    rw [List.length_map] at g
    have wj := wrap_i64 (x := (j : Int) + 1) (by omega) (by omega)
    have c1 : ((0 : Int) ≤ j) = True := eq_true (by omega)
    have hd := depth_ok (G := G) ws nx x.id (by omega)
    try simp only [go_sem, reduceIte, Nat.reduceEqDiff, Nat.reduceAdd, Nat.reduceSub, Nat.reduceMul, Nat.reduceLT, Nat.reduceLeDiff, Nat.reducePow, Int.reduceToNat, Int.reduceLT, Int.reduceLE, Int.reduceEq, Int.reduceNe, Int.reduceAdd, Int.reduceSub, Int.reduceMul, Int.reduceNeg, q3, q4, q6, q8, q9, e0, e1, e2, e3, ex, g1, c1]
    refine cE_vx hd ⟨_, 0, rfl⟩ ?_
    rintro _ ⟨k, rfl⟩
    try simp only [go_sem, reduceIte, Nat.reduceEqDiff, Nat.reduceAdd, Nat.reduceSub, Nat.reduceMul, Nat.reduceLT, Nat.reduceLeDiff, Nat.reducePow, Int.reduceToNat, Int.reduceLT, Int.reduceLE, Int.reduceEq, Int.reduceNe, Int.reduceAdd, Int.reduceSub, Int.reduceMul, Int.reduceNeg, q3, q4, q6, q8, q9, e0, e1, e2, e3, ex, g1, c1]
    refine cd_dec (fun k => ?_) (fun k => ?_)
    · try simp only [go_sem, reduceIte, Nat.reduceEqDiff, Nat.reduceAdd, Nat.reduceSub, Nat.reduceMul, Nat.reduceLT, Nat.reduceLeDiff, Nat.reducePow, Int.reduceToNat, Int.reduceLT, Int.reduceLE, Int.reduceEq, Int.reduceNe, Int.reduceAdd, Int.reduceSub, Int.reduceMul, Int.reduceNeg, q3, q4, q6, q8, q9, e0, e1, e2, e3, ex, g1, c1]
      exact finK_drop ⟨_, ⟨[], 0, _, rfl, fun h => (by simp at h)⟩, rfl, rfl, rfl⟩
    · try simp only [go_sem, reduceIte, Nat.reduceEqDiff, Nat.reduceAdd, Nat.reduceSub, Nat.reduceMul, Nat.reduceLT, Nat.reduceLeDiff, Nat.reducePow, Int.reduceToNat, Int.reduceLT, Int.reduceLE, Int.reduceEq, Int.reduceNe, Int.reduceAdd, Int.reduceSub, Int.reduceMul, Int.reduceNeg, q3, q4, q6, q8, q9, e0, e1, e2, e3, ex, g1, c1, wj]
      exact ⟨⟨j + 1, by omega, rfl⟩, by omega⟩
  · try simp only [go_sem, reduceIte, Nat.reduceEqDiff, Nat.reduceAdd, Nat.reduceSub, Nat.reduceMul, Nat.reduceLT, Nat.reduceLeDiff, Nat.reducePow, Int.reduceToNat, Int.reduceLT, Int.reduceLE, Int.reduceEq, Int.reduceNe, Int.reduceAdd, Int.reduceSub, Int.reduceMul, Int.reduceNeg, q3, q4, q6, q8, q9, e0, e1, e2, e3]
    refine cK_vx ht ?_
    rintro _ ⟨bb, rfl⟩
    cases bb
    all_goals try simp only [go_sem, reduceIte, Nat.reduceEqDiff, Nat.reduceAdd, Nat.reduceSub, Nat.reduceMul, Nat.reduceLT, Nat.reduceLeDiff, Nat.reducePow, Int.reduceToNat, Int.reduceLT, Int.reduceLE, Int.reduceEq, Int.reduceNe, Int.reduceAdd, Int.reduceSub, Int.reduceMul, Int.reduceNeg, q3, q4, q6, q8, q9, e0, e1, e2, e3]
    · exact finK_drop ⟨_, ⟨_, _, _, rfl, fun _ => hk⟩, rfl, rfl, rfl⟩
    · exact finK_drop ⟨_, ⟨[], 0, _, rfl, fun h => (by simp at h)⟩, rfl, rfl, rfl⟩
end Go.Proofs.YtnoenipdooackaaGreatDoorS
namespace Go.Proofs.YtnoenipdooackaaGreatDoorS
open Go Go.Proofs.YtnoenipdooackaaGreatDoorV

variable {G : Heap}
attribute [local irreducible] VN VC VX VQ

set_option maxHeartbeats 8000000 in
theorem one_ok (fs : List Fd) (nx : Int) (c : Ch) (h : SOk fs nx) : VX P G 69 [.agg [.sl .none (fs.map fdD), .int .i64 nx], .agg c.cells] isS := by
  have z := h.len
  have hlm : (fs.map fdD).length = fs.length := List.length_map ..
  have hf := Field_ok (G := G) fs nx c.id (by omega)
  cases hff : findFd fs c.id
  all_goals rw [hff] at hf
  all_goals simp only [orF, Option.getD_none, Option.getD_some, Option.isSome_none, Option.isSome_some, fdC, Fd.zero] at hf
  all_goals simp only [Ch.cells]
  all_goals unfold VX
  all_goals refine VC.ofc (fun | 9 => [(0, []), (1, []), (2, []), (3, []), (4, []), (5, []), (6, []), (7, []), (8, [])] | 99999999 => [(0, [0, 1, 2, 3, 4, 5, 6, 7, 8, 17, 20, 21, 27, 38, 47, 59, 64, 68])] | _ => []) [.cell 4 34, .tmp 5] mixed Tryz.func69 rfl rfl rfl rfl (by decide +kernel) (by simp) ?_
  all_goals simp only [go_sem, reduceIte, Nat.reduceEqDiff, Nat.reduceAdd, Nat.reduceSub, Nat.reduceMul, Nat.reduceLT, Nat.reduceLeDiff, Nat.reducePow, Int.reduceToNat, Int.reduceLT, Int.reduceLE, Int.reduceEq, Int.reduceNe, Int.reduceAdd, Int.reduceSub, Int.reduceMul, Int.reduceNeg]
  all_goals intro b0
  all_goals refine new_1 fun b1 h1 h2 => ?_
  all_goals refine new_2 fun b2 h3 h4 h5 => ?_
  all_goals try simp only [go_sem, reduceIte, Nat.reduceEqDiff, Nat.reduceAdd, Nat.reduceSub, Nat.reduceMul, Nat.reduceLT, Nat.reduceLeDiff, Nat.reducePow, Int.reduceToNat, Int.reduceLT, Int.reduceLE, Int.reduceEq, Int.reduceNe, Int.reduceAdd, Int.reduceSub, Int.reduceMul, Int.reduceNeg, h1, h2, h3, h4, h5]
  all_goals refine cK_vn hf ?_
  all_goals try simp only [go_sem, reduceIte, Nat.reduceEqDiff, Nat.reduceAdd, Nat.reduceSub, Nat.reduceMul, Nat.reduceLT, Nat.reduceLeDiff, Nat.reducePow, Int.reduceToNat, Int.reduceLT, Int.reduceLE, Int.reduceEq, Int.reduceNe, Int.reduceAdd, Int.reduceSub, Int.reduceMul, Int.reduceNeg, h1, h2, h3, h4, h5]
  all_goals refine new_any fun b3 h6 => ?_
  all_goals simp only [set_none] at h6
  · repeat' (first | simp only [go_sem, reduceIte, Nat.reduceEqDiff, Nat.reduceAdd, Nat.reduceSub, Nat.reduceMul, Nat.reduceLT, Nat.reduceLeDiff, Nat.reducePow, Int.reduceToNat, Int.reduceLT, Int.reduceLE, Int.reduceEq, Int.reduceNe, Int.reduceAdd, Int.reduceSub, Int.reduceMul, Int.reduceNeg, h1, h2, h3, h4, h5, h6] | fail)
    exact finK_drop ⟨_, ⟨[], 0, _, rfl, fun h => (by simp at h)⟩, rfl, rfl, rfl⟩
  rename_i f
  have ho := without_ok (G := G) fs nx f.id f.id (by omega)
  have hw1 := with_ok (G := G) fs nx ⟨f.id, c.name, f.type, f.parent⟩ (by omega)
  have ht := taken_ok (G := G) fs nx ⟨f.id, c.name, f.type, f.parent⟩ f.id f.id (by omega)
  have hw2 := with_ok (G := G) fs nx ⟨f.id, f.name, 3, f.parent⟩ (by omega)
  have hm := move_ok (G := G) fs nx f c.parent h
  simp only [fdC] at hw1 ht hw2 hm
  by_cases k2 : c.kind = 2
  · try simp only [go_sem, reduceIte, Nat.reduceEqDiff, Nat.reduceAdd, Nat.reduceSub, Nat.reduceMul, Nat.reduceLT, Nat.reduceLeDiff, Nat.reducePow, Int.reduceToNat, Int.reduceLT, Int.reduceLE, Int.reduceEq, Int.reduceNe, Int.reduceAdd, Int.reduceSub, Int.reduceMul, Int.reduceNeg, h1, h2, h3, h4, h5, h6, k2]
    generalize hβ : Heap.set _ b3 _ = β0
    have e0 : β0 b0 = some [.sl .none (fs.map fdD), .int .i64 nx] := by rw [← hβ]; simp [Heap.set, h1, h2, h3, h4, h5, h6]
    have e2 : β0 b2 = some [.sl .full [], .int .i64 0] := by rw [← hβ]; simp [Heap.set, h1, h2, h3, h4, h5, h6]
    have e3 : β0 b3 = some [.int .i64 f.id, .str f.name, .int .i64 f.type, .int .i64 f.parent] := by rw [← hβ]; simp [Heap.set]
    clear hβ
    refine vwq_loop (fun v => ∃ (j : Nat), j ≤ fs.length ∧ v.σ 2 = .pb b0 0 ∧ v.σ 4 = .pb b2 0 ∧ v.σ 6 = .pb b3 0 ∧ v.σ 8 = .int .i64 j ∧ v.β = β0 ∧ v.ω = []) (fun v => fs.length - (ival (v.σ 8)).toNat) ⟨0, by omega, rfl, rfl, rfl, rfl, rfl, rfl⟩ ?_
    rintro σ β ω ⟨j, j1, q2, q4, q6, q8, rfl, rfl⟩
    dsimp only at q2 q4 q6 q8 e0 e2 e3
    try simp only [go_sem, reduceIte, Nat.reduceEqDiff, Nat.reduceAdd, Nat.reduceSub, Nat.reduceMul, Nat.reduceLT, Nat.reduceLeDiff, Nat.reducePow, Int.reduceToNat, Int.reduceLT, Int.reduceLE, Int.reduceEq, Int.reduceNe, Int.reduceAdd, Int.reduceSub, Int.reduceMul, Int.reduceNeg, q2, q4, q6, q8, e0, e2, e3]
    refine cd_dec (fun g => ?_) (fun g => ?_)
    · obtain ⟨x, hx, ex⟩ := Fd_at (l := fs) (j := j) (by omega)
      have g1 := eq_true g
      rw [List.length_map] at g
      have wj := wrap_i64 (x := (j : Int) + 1) (by omega) (by omega)
      have c1 : ((0 : Int) ≤ j) = True := eq_true (by omega)
      try simp only [go_sem, reduceIte, Nat.reduceEqDiff, Nat.reduceAdd, Nat.reduceSub, Nat.reduceMul, Nat.reduceLT, Nat.reduceLeDiff, Nat.reducePow, Int.reduceToNat, Int.reduceLT, Int.reduceLE, Int.reduceEq, Int.reduceNe, Int.reduceAdd, Int.reduceSub, Int.reduceMul, Int.reduceNeg, q2, q4, q6, q8, e0, e2, e3, ex, g1, c1]
      refine cd_dec (fun k => ?_) (fun k => ?_)
      · try simp only [go_sem, reduceIte, Nat.reduceEqDiff, Nat.reduceAdd, Nat.reduceSub, Nat.reduceMul, Nat.reduceLT, Nat.reduceLeDiff, Nat.reducePow, Int.reduceToNat, Int.reduceLT, Int.reduceLE, Int.reduceEq, Int.reduceNe, Int.reduceAdd, Int.reduceSub, Int.reduceMul, Int.reduceNeg, q2, q4, q6, q8, e0, e2, e3]
        exact finK_drop ⟨_, ⟨[], 0, _, rfl, fun h => (by simp at h)⟩, rfl, rfl, rfl⟩
      · try simp only [go_sem, reduceIte, Nat.reduceEqDiff, Nat.reduceAdd, Nat.reduceSub, Nat.reduceMul, Nat.reduceLT, Nat.reduceLeDiff, Nat.reducePow, Int.reduceToNat, Int.reduceLT, Int.reduceLE, Int.reduceEq, Int.reduceNe, Int.reduceAdd, Int.reduceSub, Int.reduceMul, Int.reduceNeg, q2, q4, q6, q8, e0, e2, e3, wj]
        exact ⟨⟨j + 1, by omega, rfl⟩, by omega⟩
    · repeat' (first | simp only [go_sem, reduceIte, Nat.reduceEqDiff, Nat.reduceAdd, Nat.reduceSub, Nat.reduceMul, Nat.reduceLT, Nat.reduceLeDiff, Nat.reducePow, Int.reduceToNat, Int.reduceLT, Int.reduceLE, Int.reduceEq, Int.reduceNe, Int.reduceAdd, Int.reduceSub, Int.reduceMul, Int.reduceNeg, q2, q4, q6, q8, e0, e2, e3] | refine cK_vn ho ?_ | refine cE_vn ho ?_ | fail)
      exact finK_drop ⟨_, ⟨_, _, _, rfl, fun _ => h.without _ _⟩, rfl, rfl, rfl⟩
  by_cases k3 : c.kind = 3
  · try simp only [go_sem, reduceIte, Nat.reduceEqDiff, Nat.reduceAdd, Nat.reduceSub, Nat.reduceMul, Nat.reduceLT, Nat.reduceLeDiff, Nat.reducePow, Int.reduceToNat, Int.reduceLT, Int.reduceLE, Int.reduceEq, Int.reduceNe, Int.reduceAdd, Int.reduceSub, Int.reduceMul, Int.reduceNeg, h1, h2, h3, h4, h5, h6, k3]
    refine cK_vx ht ?_
    rintro _ ⟨bb, rfl⟩
    cases bb
    all_goals repeat' (first | simp only [go_sem, reduceIte, Nat.reduceEqDiff, Nat.reduceAdd, Nat.reduceSub, Nat.reduceMul, Nat.reduceLT, Nat.reduceLeDiff, Nat.reducePow, Int.reduceToNat, Int.reduceLT, Int.reduceLE, Int.reduceEq, Int.reduceNe, Int.reduceAdd, Int.reduceSub, Int.reduceMul, Int.reduceNeg, h1, h2, h3, h4, h5, h6] | refine cK_vn hw1 ?_ | refine cE_vn hw1 ?_ | fail)
    · exact finK_drop ⟨_, ⟨_, _, _, rfl, fun _ => h.with _⟩, rfl, rfl, rfl⟩
    · exact finK_drop ⟨_, ⟨[], 0, _, rfl, fun h => (by simp at h)⟩, rfl, rfl, rfl⟩
  by_cases k4 : c.kind = 4
  · repeat' (first | simp only [go_sem, reduceIte, Nat.reduceEqDiff, Nat.reduceAdd, Nat.reduceSub, Nat.reduceMul, Nat.reduceLT, Nat.reduceLeDiff, Nat.reducePow, Int.reduceToNat, Int.reduceLT, Int.reduceLE, Int.reduceEq, Int.reduceNe, Int.reduceAdd, Int.reduceSub, Int.reduceMul, Int.reduceNeg, h1, h2, h3, h4, h5, h6, k4] | refine cd_dec (fun _ => ?_) (fun _ => ?_) | refine cK_vn hw2 ?_ | refine cE_vn hw2 ?_ | fail)
    · exact finK_drop ⟨_, ⟨[], 0, _, rfl, fun h => (by simp at h)⟩, rfl, rfl, rfl⟩
    · exact finK_drop ⟨_, ⟨_, _, _, rfl, fun _ => h.with _⟩, rfl, rfl, rfl⟩
  try simp only [go_sem, reduceIte, Nat.reduceEqDiff, Nat.reduceAdd, Nat.reduceSub, Nat.reduceMul, Nat.reduceLT, Nat.reduceLeDiff, Nat.reducePow, Int.reduceToNat, Int.reduceLT, Int.reduceLE, Int.reduceEq, Int.reduceNe, Int.reduceAdd, Int.reduceSub, Int.reduceMul, Int.reduceNeg, h1, h2, h3, h4, h5, h6, k2, k3, k4]
  refine cK_vx hm ?_
  rintro _ ⟨ws, m, e, rfl, he⟩
  repeat' (first | simp only [go_sem, reduceIte, Nat.reduceEqDiff, Nat.reduceAdd, Nat.reduceSub, Nat.reduceMul, Nat.reduceLT, Nat.reduceLeDiff, Nat.reducePow, Int.reduceToNat, Int.reduceLT, Int.reduceLE, Int.reduceEq, Int.reduceNe, Int.reduceAdd, Int.reduceSub, Int.reduceMul, Int.reduceNeg, h1, h2, h3, h4, h5, h6] | fail)
  exact finK_drop ⟨_, ⟨ws, m, e, rfl, he⟩, rfl, rfl, rfl⟩
set_option maxHeartbeats 8000000 in
theorem split_ok (fs : List Fd) (nx : Int) (c : Ch) (h : SOk fs nx) : VX P G 70 [.agg [.sl .none (fs.map fdD), .int .i64 nx], .agg c.cells] isS := by
  have z := h.len
  have hlo := h.lo
  have hhi := h.hi
  have hlm : (fs.map fdD).length = fs.length := List.length_map ..
  have hf := Field_ok (G := G) fs nx c.id (by omega)
  cases hff : findFd fs c.id
  all_goals rw [hff] at hf
  all_goals simp only [orF, Option.getD_none, Option.getD_some, Option.isSome_none, Option.isSome_some, fdC, Fd.zero] at hf
  all_goals simp only [Ch.cells]
  all_goals unfold VX
  all_goals refine VC.ofc (fun | 14 => [(0, []), (1, []), (2, []), (3, []), (4, []), (5, []), (7, [6]), (9, [6, 8]), (6, []), (8, []), (10, []), (11, []), (12, [])] | 99999999 => [(0, [0, 1, 2, 3, 4, 5, 6, 7, 8, 9, 18, 22, 27, 63, 73])] | _ => []) [.cell 4 34, .tmp 5] mixed Tryz.func70 rfl rfl rfl rfl (by decide +kernel) (by simp) ?_
  all_goals simp only [go_sem, reduceIte, Nat.reduceEqDiff, Nat.reduceAdd, Nat.reduceSub, Nat.reduceMul, Nat.reduceLT, Nat.reduceLeDiff, Nat.reducePow, Int.reduceToNat, Int.reduceLT, Int.reduceLE, Int.reduceEq, Int.reduceNe, Int.reduceAdd, Int.reduceSub, Int.reduceMul, Int.reduceNeg]
  all_goals intro b0
  all_goals refine new_1 fun b1 h1 h2 => ?_
  all_goals refine new_2 fun b2 h3 h4 h5 => ?_
  all_goals try simp only [go_sem, reduceIte, Nat.reduceEqDiff, Nat.reduceAdd, Nat.reduceSub, Nat.reduceMul, Nat.reduceLT, Nat.reduceLeDiff, Nat.reducePow, Int.reduceToNat, Int.reduceLT, Int.reduceLE, Int.reduceEq, Int.reduceNe, Int.reduceAdd, Int.reduceSub, Int.reduceMul, Int.reduceNeg, h1, h2, h3, h4, h5]
  all_goals refine cK_vn hf ?_
  all_goals try simp only [go_sem, reduceIte, Nat.reduceEqDiff, Nat.reduceAdd, Nat.reduceSub, Nat.reduceMul, Nat.reduceLT, Nat.reduceLeDiff, Nat.reducePow, Int.reduceToNat, Int.reduceLT, Int.reduceLE, Int.reduceEq, Int.reduceNe, Int.reduceAdd, Int.reduceSub, Int.reduceMul, Int.reduceNeg, h1, h2, h3, h4, h5]
  all_goals refine new_any fun b3 h6 => ?_
  all_goals simp only [set_none] at h6
  · repeat' (first | simp only [go_sem, reduceIte, Nat.reduceEqDiff, Nat.reduceAdd, Nat.reduceSub, Nat.reduceMul, Nat.reduceLT, Nat.reduceLeDiff, Nat.reducePow, Int.reduceToNat, Int.reduceLT, Int.reduceLE, Int.reduceEq, Int.reduceNe, Int.reduceAdd, Int.reduceSub, Int.reduceMul, Int.reduceNeg, h1, h2, h3, h4, h5, h6] | fail)
    exact finK_drop ⟨_, ⟨[], 0, _, rfl, fun h => (by simp at h)⟩, rfl, rfl, rfl⟩
  rename_i f
  have hl : (withoutF fs f.id f.id).length < fs.length := by rw [(findFd_some hff).2]; exact without_less hff
  have hs := sep_ok (G := G) c.sep
  have ta := taken_ok (G := G) fs nx ⟨0, c.name, 4, f.parent⟩ f.id f.id (by omega)
  have tb := taken_ok (G := G) fs nx ⟨0, c.other, 4, f.parent⟩ f.id f.id (by omega)
  have ho := without_ok (G := G) fs nx f.id f.id (by omega)
  have hso := h.without f.id f.id
  generalize withoutF fs f.id f.id = ws at hl ho hso
  have p1 := plus_ok (G := G) ws nx ⟨0, c.name, 4, f.parent⟩ (by omega) (by omega)
  have hpl : (plusF ws nx ⟨0, c.name, 4, f.parent⟩).length = ws.length + 1 := by simp [plusF]
  have p2 := plus_ok (G := G) (plusF ws nx ⟨0, c.name, 4, f.parent⟩) (nx + 1) ⟨0, c.other, 4, f.parent⟩ (by omega) (by omega)
  have fin : fs.length < 64 → nx ≤ 1073741822 → SOk (plusF (plusF ws nx ⟨0, c.name, 4, f.parent⟩) (nx + 1) ⟨0, c.other, 4, f.parent⟩) (nx + 1 + 1) := fun q1 q2 => (hso.plus _ (by omega) (by omega)).plus _ (by omega) (by omega)
  simp only [fdC] at ta tb p1 p2
  repeat' (first | simp only [go_sem, reduceIte, Nat.reduceEqDiff, Nat.reduceAdd, Nat.reduceSub, Nat.reduceMul, Nat.reduceLT, Nat.reduceLeDiff, Nat.reducePow, Int.reduceToNat, Int.reduceLT, Int.reduceLE, Int.reduceEq, Int.reduceNe, Int.reduceAdd, Int.reduceSub, Int.reduceMul, Int.reduceNeg, h1, h2, h3, h4, h5, h6] | refine cd_dec (fun _ => ?_) (fun _ => ?_) | (refine cK_vx hs ?_; rintro _ ⟨bb, rfl⟩; cases bb) | fail)
  all_goals first | exact finK_drop ⟨_, ⟨[], 0, _, rfl, fun h => (by simp at h)⟩, rfl, rfl, rfl⟩ | skip
  refine new_any fun b4 h7 => ?_
  simp only [set_none] at h7
  try simp only [go_sem, reduceIte, Nat.reduceEqDiff, Nat.reduceAdd, Nat.reduceSub, Nat.reduceMul, Nat.reduceLT, Nat.reduceLeDiff, Nat.reducePow, Int.reduceToNat, Int.reduceLT, Int.reduceLE, Int.reduceEq, Int.reduceNe, Int.reduceAdd, Int.reduceSub, Int.reduceMul, Int.reduceNeg, h1, h2, h3, h4, h5, h6, h7]
  refine new_any fun b5 h8 => ?_
  simp only [set_none] at h8
  repeat' (first | simp only [go_sem, reduceIte, Nat.reduceEqDiff, Nat.reduceAdd, Nat.reduceSub, Nat.reduceMul, Nat.reduceLT, Nat.reduceLeDiff, Nat.reducePow, Int.reduceToNat, Int.reduceLT, Int.reduceLE, Int.reduceEq, Int.reduceNe, Int.reduceAdd, Int.reduceSub, Int.reduceMul, Int.reduceNeg, h1, h2, h3, h4, h5, h6, h7, h8] | refine cd_dec (fun _ => ?_) (fun _ => ?_) | (refine cK_vx ta ?_; rintro _ ⟨bb, rfl⟩; cases bb) | (refine cK_vx tb ?_; rintro _ ⟨bb, rfl⟩; cases bb) | refine cK_vn ho ?_ | refine cK_vn p1 ?_ | refine cK_vn p2 ?_ | refine cE_vn ho ?_ | refine cE_vn p1 ?_ | refine cE_vn p2 ?_ | fail)
  all_goals first | exact finK_drop ⟨_, ⟨[], 0, _, rfl, fun h => (by simp at h)⟩, rfl, rfl, rfl⟩ | skip
  refine ⟨(show ¬ rdAdd _ _ _ _ _ from by simp [rdAdd, h1, h2, h3, h4, h5, h6, h7, h8]), ?_⟩
  exact finK_drop ⟨_, ⟨_, _, _, rfl, fun _ => fin (by omega) (by omega)⟩, rfl, rfl, rfl⟩
end Go.Proofs.YtnoenipdooackaaGreatDoorS
