/-
  Texts of this proof, merged: MB E1 Q0 Q1 Q2 Q4 R1 Q6 V31 R2 Q5 WA P1 J1 J2 J3 QI QK E2 R3.
  Conditions: as said at each part.
-/
import Derived.Below
import Derived.Carry
import Derived.JoinedCond
import Derived.OpenShut
import Derived.ChangeArms
import Derived.Test.YtpblgfgcoamgmaaGreatRows
import Derived.Test.YtpblgfgcoamgmaaGreatG4
set_option linter.unusedVariables false
set_option linter.unusedSimpArgs false
namespace Go.Proofs.YtpblgfgcoamgmaaGreatS
open Go Go.Proofs.YtpblgfgcoamgmaaGreatV

variable {G : Heap}
attribute [local irreducible] VN VC VX VQ

set_option maxHeartbeats 8000000 in
theorem join6_ok (fs : List Fd) (nx : Int) (c : Ch) (h : SOk fs nx) : VX P G 109 [.agg [.sl .none (fs.map fdD), .int .i64 nx], .agg c.cells] isS := by
  have z := h.len
  have hlo := h.lo
  have hhi := h.hi
  have hlm : (fs.map fdD).length = fs.length := List.length_map ..
  have hf := Field_ok (G := G) fs nx c.id (by omega)
  have hg := Field_ok (G := G) fs nx c.wit (by omega)
  cases hff : findFd fs c.id <;> cases hgg : findFd fs c.wit
  all_goals rw [hff] at hf
  all_goals rw [hgg] at hg
  all_goals simp only [orF, Option.getD_none, Option.getD_some, Option.isSome_none, Option.isSome_some, fdC, Fd.zero] at hf hg
  all_goals simp only [Ch.cells]
  all_goals unfold VX
  all_goals refine VC.ofc (fun | 16 => [(0, []), (1, []), (2, []), (3, []), (4, []), (5, []), (7, [6]), (6, []), (8, []), (9, []), (10, [])] | 99999999 => [(0, [0, 1, 2, 3, 4, 5, 6, 7, 8, 9, 10, 37, 46, 52, 57, 71, 75])] | _ => []) [.cell 4 30, .tmp 5] mixed Tryz.func109 rfl rfl rfl rfl (by decide +kernel) (by simp) ?_
  all_goals simp only [go_sem, reduceIte, Nat.reduceEqDiff, Nat.reduceAdd, Nat.reduceSub, Nat.reduceMul, Nat.reduceLT, Nat.reduceLeDiff, Nat.reducePow, Int.reduceToNat, Int.reduceLT, Int.reduceLE, Int.reduceEq, Int.reduceNe, Int.reduceAdd, Int.reduceSub, Int.reduceMul, Int.reduceNeg]
  all_goals intro b0
  all_goals refine new_1 fun b1 h1 h2 => ?_
  all_goals refine new_2 fun b2 h3 h4 h5 => ?_
  all_goals try simp only [go_sem, reduceIte, Nat.reduceEqDiff, Nat.reduceAdd, Nat.reduceSub, Nat.reduceMul, Nat.reduceLT, Nat.reduceLeDiff, Nat.reducePow, Int.reduceToNat, Int.reduceLT, Int.reduceLE, Int.reduceEq, Int.reduceNe, Int.reduceAdd, Int.reduceSub, Int.reduceMul, Int.reduceNeg, h1, h2, h3, h4, h5]
  all_goals refine cK_vn hf ?_
  all_goals try simp only [go_sem, reduceIte, Nat.reduceEqDiff, Nat.reduceAdd, Nat.reduceSub, Nat.reduceMul, Nat.reduceLT, Nat.reduceLeDiff, Nat.reducePow, Int.reduceToNat, Int.reduceLT, Int.reduceLE, Int.reduceEq, Int.reduceNe, Int.reduceAdd, Int.reduceSub, Int.reduceMul, Int.reduceNeg, h1, h2, h3, h4, h5]
  all_goals refine new_any fun b3 h6 => ?_
  all_goals simp only [set_none] at h6
  all_goals try simp only [go_sem, reduceIte, Nat.reduceEqDiff, Nat.reduceAdd, Nat.reduceSub, Nat.reduceMul, Nat.reduceLT, Nat.reduceLeDiff, Nat.reducePow, Int.reduceToNat, Int.reduceLT, Int.reduceLE, Int.reduceEq, Int.reduceNe, Int.reduceAdd, Int.reduceSub, Int.reduceMul, Int.reduceNeg, h1, h2, h3, h4, h5, h6]
  all_goals refine cK_vn hg ?_
  all_goals try simp only [go_sem, reduceIte, Nat.reduceEqDiff, Nat.reduceAdd, Nat.reduceSub, Nat.reduceMul, Nat.reduceLT, Nat.reduceLeDiff, Nat.reducePow, Int.reduceToNat, Int.reduceLT, Int.reduceLE, Int.reduceEq, Int.reduceNe, Int.reduceAdd, Int.reduceSub, Int.reduceMul, Int.reduceNeg, h1, h2, h3, h4, h5, h6]
  all_goals refine new_any fun b4 h7 => ?_
  all_goals simp only [set_none] at h7
  case' none.none => repeat' (first | simp only [go_sem, reduceIte, Nat.reduceEqDiff, Nat.reduceAdd, Nat.reduceSub, Nat.reduceMul, Nat.reduceLT, Nat.reduceLeDiff, Nat.reducePow, Int.reduceToNat, Int.reduceLT, Int.reduceLE, Int.reduceEq, Int.reduceNe, Int.reduceAdd, Int.reduceSub, Int.reduceMul, Int.reduceNeg, h1, h2, h3, h4, h5, h6, h7] | fail)
  case' none.some => repeat' (first | simp only [go_sem, reduceIte, Nat.reduceEqDiff, Nat.reduceAdd, Nat.reduceSub, Nat.reduceMul, Nat.reduceLT, Nat.reduceLeDiff, Nat.reducePow, Int.reduceToNat, Int.reduceLT, Int.reduceLE, Int.reduceEq, Int.reduceNe, Int.reduceAdd, Int.reduceSub, Int.reduceMul, Int.reduceNeg, h1, h2, h3, h4, h5, h6, h7] | fail)
  case' some.none => repeat' (first | simp only [go_sem, reduceIte, Nat.reduceEqDiff, Nat.reduceAdd, Nat.reduceSub, Nat.reduceMul, Nat.reduceLT, Nat.reduceLeDiff, Nat.reducePow, Int.reduceToNat, Int.reduceLT, Int.reduceLE, Int.reduceEq, Int.reduceNe, Int.reduceAdd, Int.reduceSub, Int.reduceMul, Int.reduceNeg, h1, h2, h3, h4, h5, h6, h7] | fail)
  all_goals first | exact finK_drop ⟨_, ⟨[], 0, _, rfl, fun h => (by simp at h)⟩, rfl, rfl, rfl⟩ | skip
  rename_i f g
  have hl : (withoutF fs f.id g.id).length < fs.length := by rw [(findFd_some hff).2]; exact without_less hff
  have hs := sep_ok (G := G) c.sep
  have ta := taken_ok (G := G) fs nx ⟨0, c.name, 4, f.parent⟩ f.id g.id (by omega)
  have ho := without_ok (G := G) fs nx f.id g.id (by omega)
  have hso := h.without f.id g.id
  generalize withoutF fs f.id g.id = ws at hl ho hso
  have p1 := plus_ok (G := G) ws nx ⟨0, c.name, 4, f.parent⟩ (by omega) (by omega)
  have fin : nx < 1073741824 → SOk (plusF ws nx ⟨0, c.name, 4, f.parent⟩) (nx + 1) := fun q2 => hso.plus _ ⟨by dsimp only; omega, by dsimp only; omega⟩ (by omega) (by omega)
  simp only [fdC] at ta p1
  repeat' (first | simp only [go_sem, reduceIte, Nat.reduceEqDiff, Nat.reduceAdd, Nat.reduceSub, Nat.reduceMul, Nat.reduceLT, Nat.reduceLeDiff, Nat.reducePow, Int.reduceToNat, Int.reduceLT, Int.reduceLE, Int.reduceEq, Int.reduceNe, Int.reduceAdd, Int.reduceSub, Int.reduceMul, Int.reduceNeg, h1, h2, h3, h4, h5, h6, h7] | refine cd_dec (fun _ => ?_) (fun _ => ?_) | (refine cK_vx hs ?_; rintro _ ⟨bb, rfl⟩; cases bb) | fail)
  all_goals first | exact finK_drop ⟨_, ⟨[], 0, _, rfl, fun h => (by simp at h)⟩, rfl, rfl, rfl⟩ | skip
  refine new_any fun b5 h8 => ?_
  simp only [set_none] at h8
  repeat' (first | simp only [go_sem, reduceIte, Nat.reduceEqDiff, Nat.reduceAdd, Nat.reduceSub, Nat.reduceMul, Nat.reduceLT, Nat.reduceLeDiff, Nat.reducePow, Int.reduceToNat, Int.reduceLT, Int.reduceLE, Int.reduceEq, Int.reduceNe, Int.reduceAdd, Int.reduceSub, Int.reduceMul, Int.reduceNeg, h1, h2, h3, h4, h5, h6, h7, h8] | refine cd_dec (fun _ => ?_) (fun _ => ?_) | (refine cK_vx ta ?_; rintro _ ⟨bb, rfl⟩; cases bb) | refine cK_vn ho ?_ | refine cK_vn p1 ?_ | refine cE_vn ho ?_ | refine cE_vn p1 ?_ | fail)
  all_goals first | exact finK_drop ⟨_, ⟨[], 0, _, rfl, fun h => (by simp at h)⟩, rfl, rfl, rfl⟩ | skip
  refine ⟨(show ¬ rdAdd _ _ _ _ _ from by simp [rdAdd, h1, h2, h3, h4, h5, h6, h7, h8]), ?_⟩
  exact finK_drop ⟨_, ⟨_, _, _, rfl, fun _ => fin (by omega)⟩, rfl, rfl, rfl⟩
end Go.Proofs.YtpblgfgcoamgmaaGreatS
namespace Go.Proofs.YtpblgfgcoamgmaaGreatS
open Go Go.Proofs.YtpblgfgcoamgmaaGreatV

variable {G : Heap}
attribute [local irreducible] VN VC VX VQ

set_option maxHeartbeats 4000000 in
theorem Apply_ok (fs : List Fd) (nx : Int) (c : Ch) (h : SOk fs nx) : VX P G 67 [.agg [.sl .none (fs.map fdD), .int .i64 nx], .agg c.cells] isS := by
  have ha := add6_ok (G := G) fs nx c h
  have hb := one6_ok (G := G) fs nx c h
  have hc := split_ok (G := G) fs nx c h
  have hd := join6_ok (G := G) fs nx c h
  simp only [Ch.cells] at ha hb hc hd ⊢
  unfold VX
  refine VC.ofc (fun | 99999999 => [(0, [0, 1, 2, 3, 4, 5, 7, 8, 15, 25, 32])] | _ => []) [.cell 4 30, .tmp 5] mixed Tryz.func67 rfl rfl rfl rfl (by decide +kernel) (by simp) ?_
  simp only [go_sem, reduceIte, Nat.reduceEqDiff, Nat.reduceAdd, Nat.reduceSub, Nat.reduceMul, Nat.reduceLT, Nat.reduceLeDiff, Nat.reducePow, Int.reduceToNat, Int.reduceLT, Int.reduceLE, Int.reduceEq, Int.reduceNe, Int.reduceAdd, Int.reduceSub, Int.reduceMul, Int.reduceNeg]
  intro b0
  refine new_1 fun b1 h1 h2 => ?_
  refine new_2 fun b2 h3 h4 h5 => ?_
  repeat' (first | simp only [go_sem, reduceIte, Nat.reduceEqDiff, Nat.reduceAdd, Nat.reduceSub, Nat.reduceMul, Nat.reduceLT, Nat.reduceLeDiff, Nat.reducePow, Int.reduceToNat, Int.reduceLT, Int.reduceLE, Int.reduceEq, Int.reduceNe, Int.reduceAdd, Int.reduceSub, Int.reduceMul, Int.reduceNeg, h1, h2, h3, h4, h5] | refine cd_dec (fun _ => ?_) (fun _ => ?_) | (refine cK_vx ha ?_; rintro _ ⟨ws, m, e, rfl, he⟩) | (refine cK_vx hb ?_; rintro _ ⟨ws, m, e, rfl, he⟩) | (refine cK_vx hc ?_; rintro _ ⟨ws, m, e, rfl, he⟩) | (refine cK_vx hd ?_; rintro _ ⟨ws, m, e, rfl, he⟩) | fail)
  all_goals first | exact finK_drop ⟨_, ⟨[], 0, 1, rfl, fun h => (by simp at h)⟩, rfl, rfl, rfl⟩ | exact finK_drop ⟨_, ⟨_, _, _, rfl, by assumption⟩, rfl, rfl, rfl⟩
def Ch.d (c : Ch) : D := .agg c.cells
theorem Ch_at {l : List Ch} {j : Nat} (h : j < l.length) : ∃ c, l[j]? = some c ∧ (l.map Ch.d).getD j .any = .agg [.int .i64 c.kind, .int .i64 c.id, .int .i64 c.wit, .str c.name, .str c.other, .int .i64 c.type, .int .i64 c.parent, .str c.sep] := at_map h
def isA (d : D) : Prop := ∃ fs nx i e, d = .tup [.agg [.sl .none (fs.map fdD), .int .i64 nx], .int .i64 i, .int .i64 e] ∧ SOk fs nx
set_option maxHeartbeats 4000000 in
theorem After_ok (l : List Ch) : VX P G 31 [.sl .none (l.map Ch.d)] isA := by
  have hn := New_ok (G := G)
  simp only [scD] at hn
  unfold VX
  refine VC.small fun hsm => ?_
  have z := hsm (.sl .none (l.map Ch.d)) (List.mem_cons_self ..)
  simp only [Small, mostLen, List.length_map] at z
  clear hsm
  refine VC.ofc (fun | 5 => [(0, []), (1, []), (2, []), (3, []), (4, []), (5, [9]), (6, []), (7, []), (8, []), (9, []), (10, []), (11, [])] | 99999999 => [(0, [0, 2, 3, 4, 5, 6, 7, 8, 13, 26])] | _ => []) [.cell 2 30, .tmp 3, .tmp 4] mixed Tryz.func31 rfl rfl rfl rfl (by decide +kernel) (by simp) ?_
  simp only [go_sem, reduceIte, Nat.reduceEqDiff, Nat.reduceAdd, Nat.reduceSub, Nat.reduceMul, Nat.reduceLT, Nat.reduceLeDiff, Nat.reducePow, Int.reduceToNat, Int.reduceLT, Int.reduceLE, Int.reduceEq, Int.reduceNe, Int.reduceAdd, Int.reduceSub, Int.reduceMul, Int.reduceNeg]
  intro b0
  refine cK_vn hn ?_
  try simp only [go_sem, reduceIte, Nat.reduceEqDiff, Nat.reduceAdd, Nat.reduceSub, Nat.reduceMul, Nat.reduceLT, Nat.reduceLeDiff, Nat.reducePow, Int.reduceToNat, Int.reduceLT, Int.reduceLE, Int.reduceEq, Int.reduceNe, Int.reduceAdd, Int.reduceSub, Int.reduceMul, Int.reduceNeg, hn]
  refine new_1 fun b1 h1 h2 => ?_
  try simp only [go_sem, reduceIte, Nat.reduceEqDiff, Nat.reduceAdd, Nat.reduceSub, Nat.reduceMul, Nat.reduceLT, Nat.reduceLeDiff, Nat.reducePow, Int.reduceToNat, Int.reduceLT, Int.reduceLE, Int.reduceEq, Int.reduceNe, Int.reduceAdd, Int.reduceSub, Int.reduceMul, Int.reduceNeg, h1, h2]
  generalize hβ : Heap.set _ b1 _ = β0
  have e0 : β0 b0 = some [.sl .full [], .int .i64 0] := by rw [← hβ]; simp [Heap.set, h1, h2]
  have e1 : β0 b1 = some [.sl .none ((([] : List Fd)).map fdD), .int .i64 1] := by rw [← hβ]; simp [Heap.set]
  clear hβ
  refine vwq_loop (fun v => ∃ (j : Nat) (fs : List Fd) (nx : Int), j ≤ l.length ∧ SOk fs nx ∧ v.σ 0 = .sl .none (l.map Ch.d) ∧ v.σ 2 = .pb b0 0 ∧ v.σ 5 = .pb b1 0 ∧ v.σ 6 = .int .i64 j ∧ v.β b0 = some [.sl .full [], .int .i64 0] ∧ v.β b1 = some [.sl .none (fs.map fdD), .int .i64 nx] ∧ v.ω = []) (fun v => l.length - (ival (v.σ 6)).toNat) ⟨0, [], 1, by omega, SOk.new, rfl, rfl, rfl, rfl, e0, e1, rfl⟩ ?_
  clear e0 e1 β0
  rintro σ β ω ⟨j, fs, nx, j1, h, q0, q2, q5, q6, e0, e1, rfl⟩
  dsimp only at q0 q2 q5 q6 e0 e1
  try simp only [go_sem, reduceIte, Nat.reduceEqDiff, Nat.reduceAdd, Nat.reduceSub, Nat.reduceMul, Nat.reduceLT, Nat.reduceLeDiff, Nat.reducePow, Int.reduceToNat, Int.reduceLT, Int.reduceLE, Int.reduceEq, Int.reduceNe, Int.reduceAdd, Int.reduceSub, Int.reduceMul, Int.reduceNeg, q0, q2, q5, q6, e0, e1]
  refine cd_dec (fun g => ?_) (fun g => ?_)
  · obtain ⟨c, hx, ex⟩ := Ch_at (l := l) (j := j) (by rw [List.length_map] at g; omega)
    have g1 := eq_true g
    rw [List.length_map] at g
    have wj := wrap_i64 (x := (j : Int) + 1) (by omega) (by omega)
    have c1 : ((0 : Int) ≤ j) = True := eq_true (by omega)
    have ha := Apply_ok (G := G) fs nx c h
    simp only [Ch.cells] at ha
    try simp only [go_sem, reduceIte, Nat.reduceEqDiff, Nat.reduceAdd, Nat.reduceSub, Nat.reduceMul, Nat.reduceLT, Nat.reduceLeDiff, Nat.reducePow, Int.reduceToNat, Int.reduceLT, Int.reduceLE, Int.reduceEq, Int.reduceNe, Int.reduceAdd, Int.reduceSub, Int.reduceMul, Int.reduceNeg, q0, q2, q5, q6, e0, e1, ex, g1, c1]
    refine cE_vx ha ⟨_, [], 0, 1, rfl, fun h => (by simp at h)⟩ ?_
    rintro _ ⟨ws, m, e, rfl, he⟩
    try simp only [go_sem, reduceIte, Nat.reduceEqDiff, Nat.reduceAdd, Nat.reduceSub, Nat.reduceMul, Nat.reduceLT, Nat.reduceLeDiff, Nat.reducePow, Int.reduceToNat, Int.reduceLT, Int.reduceLE, Int.reduceEq, Int.reduceNe, Int.reduceAdd, Int.reduceSub, Int.reduceMul, Int.reduceNeg, q0, q2, q5, q6, e0, e1, ex, g1, c1]
    refine new_any fun b3 hb => ?_
    have m0 := box_ne hb e0
    have m1 := box_ne hb e1
    try simp only [go_sem, reduceIte, Nat.reduceEqDiff, Nat.reduceAdd, Nat.reduceSub, Nat.reduceMul, Nat.reduceLT, Nat.reduceLeDiff, Nat.reducePow, Int.reduceToNat, Int.reduceLT, Int.reduceLE, Int.reduceEq, Int.reduceNe, Int.reduceAdd, Int.reduceSub, Int.reduceMul, Int.reduceNeg, q0, q2, q5, q6, e0, e1, m0, m1]
    refine cd_dec (fun k => ?_) (fun k => ?_)
    · try simp only [go_sem, reduceIte, Nat.reduceEqDiff, Nat.reduceAdd, Nat.reduceSub, Nat.reduceMul, Nat.reduceLT, Nat.reduceLeDiff, Nat.reducePow, Int.reduceToNat, Int.reduceLT, Int.reduceLE, Int.reduceEq, Int.reduceNe, Int.reduceAdd, Int.reduceSub, Int.reduceMul, Int.reduceNeg, q0, q2, q5, q6, e0, e1, m0, m1]
      exact finK_drop ⟨_, ⟨_, _, _, _, rfl, h⟩, rfl, rfl, rfl⟩
    · try simp only [go_sem, reduceIte, Nat.reduceEqDiff, Nat.reduceAdd, Nat.reduceSub, Nat.reduceMul, Nat.reduceLT, Nat.reduceLeDiff, Nat.reducePow, Int.reduceToNat, Int.reduceLT, Int.reduceLE, Int.reduceEq, Int.reduceNe, Int.reduceAdd, Int.reduceSub, Int.reduceMul, Int.reduceNeg, q0, q2, q5, q6, e0, e1, m0, m1, wj]
      exact ⟨⟨j + 1, ws, m, by omega, he (by omega), rfl, by simp [Heap.set, e0, e1, m0, m1, h1, h2]⟩, by omega⟩
  · try simp only [go_sem, reduceIte, Nat.reduceEqDiff, Nat.reduceAdd, Nat.reduceSub, Nat.reduceMul, Nat.reduceLT, Nat.reduceLeDiff, Nat.reducePow, Int.reduceToNat, Int.reduceLT, Int.reduceLE, Int.reduceEq, Int.reduceNe, Int.reduceAdd, Int.reduceSub, Int.reduceMul, Int.reduceNeg, q0, q2, q5, q6, e0, e1]
    exact finK_drop ⟨_, ⟨_, _, _, _, rfl, h⟩, rfl, rfl, rfl⟩
def isT (d : D) : Prop := ∃ s, d = .str s
theorem name_ok (s : ByteArray) : VX P G 111 [.str s] isT := by
  have hn := Name_ok (G := G) s
  unfold VX
  refine VC.ofs (fun | 99999999 => [(0, [0, 2, 3, 11])] | _ => []) [2] mixed Tryz.func111 rfl rfl rfl rfl (by decide +kernel) (by simp) ?_
  simp only [go_sem, reduceIte, Nat.reduceEqDiff, Nat.reduceAdd, Nat.reduceSub, Nat.reduceMul, Nat.reduceLT, Nat.reduceLeDiff, Nat.reducePow, Int.reduceToNat, Int.reduceLT, Int.reduceLE, Int.reduceEq, Int.reduceNe, Int.reduceAdd, Int.reduceSub, Int.reduceMul, Int.reduceNeg]
  refine cK_vx hn ?_
  rintro _ ⟨bb, rfl⟩
  obtain ⟨r, hr, hrl⟩ : ∃ r : Nat, ((s.size : Nat) : Int).tmod 6 = r ∧ r < 6 := ⟨s.size % 6, by rw [Int.tmod_eq_emod_of_nonneg (by omega)]; omega, by omega⟩
  have c1 : ((r : Int) < 6) = True := eq_true (by omega)
  have c2 : ((0 : Int) ≤ r) = True := eq_true (by omega)
  cases bb
  all_goals repeat' (first | simp only [go_sem, reduceIte, Nat.reduceEqDiff, Nat.reduceAdd, Nat.reduceSub, Nat.reduceMul, Nat.reduceLT, Nat.reduceLeDiff, Nat.reducePow, Int.reduceToNat, Int.reduceLT, Int.reduceLE, Int.reduceEq, Int.reduceNe, Int.reduceAdd, Int.reduceSub, Int.reduceMul, Int.reduceNeg, hr, c1, c2] | refine cd_dec (fun _ => ?_) (fun _ => ?_) | fail)
  all_goals first
    | exact finK_drop ⟨_, ⟨s, rfl⟩, rfl, rfl, rfl⟩
    | (obtain h | h | h | h | h | h : r = 0 ∨ r = 1 ∨ r = 2 ∨ r = 3 ∨ r = 4 ∨ r = 5 := by omega
       all_goals subst h; exact ⟨rfl, Nat.zero_lt_one, finK_drop ⟨_, ⟨_, rfl⟩, rfl, rfl, rfl⟩⟩)
theorem Change_ok (fs : List Fd) (nx : Int) (c : Ch) (z : fs.length ≤ 1048576) : VX P G 68 [.agg [.sl .none (fs.map fdD), .int .i64 nx], .agg c.cells] (fun d => ∃ c' : Ch, d = .agg c'.cells) := by
  have hm := mod_ok (G := G)
  have hn := name_ok (G := G)
  have hs := sep_ok (G := G) c.sep
  have hg := fun i => group_ok (G := G) fs nx i z
  simp only [Ch.cells]
  unfold VX
  refine VC.ofc (fun | 1 => [(0, []), (1, []), (4, []), (5, [2]), (6, []), (7, [2]), (10, []), (11, [2, 8]), (12, []), (13, [2, 8]), (16, []), (17, [2, 8, 14]), (19, []), (20, [2, 8, 14, 18]), (22, []), (23, [2, 8, 14, 18, 21]), (26, []), (27, [2, 8, 14, 18, 21, 24]), (28, []), (29, [2, 8, 14, 18, 21, 24]), (31, []), (32, [2, 8, 14, 18, 21, 24, 30]), (2, [34]), (3, []), (8, [34]), (9, []), (14, [34]), (15, []), (18, [34]), (21, [34]), (24, [34]), (25, []), (30, [34]), (33, []), (34, []), (35, [])] | 99999999 => [(0, [0, 1, 2, 3, 4, 5, 43, 49])] | _ => []) [.cell 4 124] mixed Tryz.func68 rfl rfl rfl rfl (by decide +kernel) (by simp) ?_
  simp only [go_sem, reduceIte, Nat.reduceEqDiff, Nat.reduceAdd, Nat.reduceSub, Nat.reduceMul, Nat.reduceLT, Nat.reduceLeDiff, Nat.reducePow, Int.reduceToNat, Int.reduceLT, Int.reduceLE, Int.reduceEq, Int.reduceNe, Int.reduceAdd, Int.reduceSub, Int.reduceMul, Int.reduceNeg]
  intro b0
  refine new_1 fun b1 h1 h2 => ?_
  refine new_2 fun b2 h3 h4 h5 => ?_
  repeat' (first | simp only [go_sem, reduceIte, Nat.reduceEqDiff, Nat.reduceAdd, Nat.reduceSub, Nat.reduceMul, Nat.reduceLT, Nat.reduceLeDiff, Nat.reducePow, Int.reduceToNat, Int.reduceLT, Int.reduceLE, Int.reduceEq, Int.reduceNe, Int.reduceAdd, Int.reduceSub, Int.reduceMul, Int.reduceNeg, h1, h2, h3, h4, h5] | (refine cK_vx (hm _ _) ?_; rintro _ ⟨k, rfl⟩) | (refine cE_vx (hm _ _) ⟨_, 0, rfl⟩ ?_; rintro _ ⟨k, rfl⟩) | (refine cK_vx (hn _) ?_; rintro _ ⟨t, rfl⟩) | (refine cE_vx (hn _) ⟨_, ByteArray.empty, rfl⟩ ?_; rintro _ ⟨t, rfl⟩) | fail)
  refine new_any fun b3 h6 => ?_
  simp only [set_none] at h6
  refine ⟨(show ¬ rdAdd _ _ _ _ _ from by simp [rdAdd, h1, h2, h3, h4, h5, h6]), ?_⟩
  repeat' (first | simp only [go_sem, reduceIte, Nat.reduceEqDiff, Nat.reduceAdd, Nat.reduceSub, Nat.reduceMul, Nat.reduceLT, Nat.reduceLeDiff, Nat.reducePow, Int.reduceToNat, Int.reduceLT, Int.reduceLE, Int.reduceEq, Int.reduceNe, Int.reduceAdd, Int.reduceSub, Int.reduceMul, Int.reduceNeg, h1, h2, h3, h4, h5, h6] | (refine cK_vx hs ?_; rintro _ ⟨bb, rfl⟩; cases bb) | (refine cK_vx (hg _) ?_; rintro _ ⟨bb, rfl⟩; cases bb) | fail)
  all_goals exact finK_drop ⟨_, ⟨⟨_, _, _, _, _, _, _, _⟩, rfl⟩, rfl, rfl, rfl⟩
theorem Ch_cells8 (l : List Ch) : ∀ x ∈ l.map Ch.d, x.cells.length = 8 := fun x hx => by
  obtain ⟨y, _, rfl⟩ := List.mem_map.1 hx; rfl
set_option maxHeartbeats 4000000 in
theorem Made_ok (l : List Ch) (n : Nat) (hn : n ≤ 1048576) : VX P G 32 [.sl .none (l.map Ch.d), .int .i64 n] (fun d => ∃ m : List Ch, d = .sl .none (m.map Ch.d)) := by
  have hw := New_ok (G := G)
  simp only [scD] at hw
  unfold VX
  refine VC.small fun hsm => ?_
  have z := hsm (.sl .none (l.map Ch.d)) (List.mem_cons_self ..)
  simp only [Small, mostLen, List.length_map] at z
  clear hsm
  refine VC.ofs (fun | 6 => [(0, []), (1, []), (2, []), (3, []), (4, []), (5, [6]), (6, []), (7, [])] | 99999999 => [(0, [0, 1, 4, 5, 6, 7, 8, 9, 10, 21, 37])] | _ => []) [4] mixed Tryz.func32 rfl rfl rfl rfl (by decide +kernel) (by simp) ?_
  simp only [go_sem, reduceIte, Nat.reduceEqDiff, Nat.reduceAdd, Nat.reduceSub, Nat.reduceMul, Nat.reduceLT, Nat.reduceLeDiff, Nat.reducePow, Int.reduceToNat, Int.reduceLT, Int.reduceLE, Int.reduceEq, Int.reduceNe, Int.reduceAdd, Int.reduceSub, Int.reduceMul, Int.reduceNeg]
  refine cK_vn hw ?_
  simp only [go_sem, reduceIte, Nat.reduceEqDiff, Nat.reduceAdd, Nat.reduceSub, Nat.reduceMul, Nat.reduceLT, Nat.reduceLeDiff, Nat.reducePow, Int.reduceToNat, Int.reduceLT, Int.reduceLE, Int.reduceEq, Int.reduceNe, Int.reduceAdd, Int.reduceSub, Int.reduceMul, Int.reduceNeg]
  intro b0
  generalize hβ : Heap.set _ b0 _ = β0
  have e0 : β0 b0 = some [.sl .none (([] : List Fd).map fdD), .int .i64 1] := by rw [← hβ]; simp [Heap.set]
  clear hβ
  refine vwq_loop (fun v => ∃ (j : Nat) (fs : List Fd) (nx : Int) (m : List Ch) (tk : Tk), j ≤ l.length ∧ m.length ≤ j ∧ j ≤ n ∧ SOk fs nx ∧ TW 8 tk v.ω ∧ v.σ 0 = .sl .none (l.map Ch.d) ∧ v.σ 1 = .int .i64 n ∧ v.σ 5 = .pb b0 0 ∧ v.σ 6 = .sl tk (m.map Ch.d) ∧ v.σ 7 = .int .i64 j ∧ v.β b0 = some [.sl .none (fs.map fdD), .int .i64 nx]) (fun v => l.length - (ival (v.σ 7)).toNat) ⟨0, [], 1, [], .full, by omega, by simp, by omega, SOk.new, TW.full 8, rfl, rfl, rfl, rfl, rfl, e0⟩ ?_
  clear e0 β0
  rintro σ β ω ⟨j, fs, nx, m, tk, j1, j2, j3, h, hw, q0, q1, q5, q6, q7, e0⟩
  dsimp only at hw q0 q1 q5 q6 q7 e0
  have ho := hw.ok
  have hg := hw.gone
  try simp only [go_sem, reduceIte, Nat.reduceEqDiff, Nat.reduceAdd, Nat.reduceSub, Nat.reduceMul, Nat.reduceLT, Nat.reduceLeDiff, Nat.reducePow, Int.reduceToNat, Int.reduceLT, Int.reduceLE, Int.reduceEq, Int.reduceNe, Int.reduceAdd, Int.reduceSub, Int.reduceMul, Int.reduceNeg, q0, q1, q5, q6, q7, e0]
  refine cd_dec (fun g => ?_) (fun g => ?_)
  · obtain ⟨g, g'⟩ := g
    obtain ⟨c, hx, ex⟩ := Ch_at (l := l) (j := j) (by rw [List.length_map] at g; omega)
    have g1 := eq_true g
    rw [List.length_map] at g
    have wj := wrap_i64 (x := (j : Int) + 1) (by omega) (by omega)
    have c1 : ((0 : Int) ≤ j) = True := eq_true (by omega)
    have hc := Change_ok (G := G) fs nx c (by have := h.len; omega)
    simp only [Ch.cells] at hc
    try simp only [go_sem, reduceIte, Nat.reduceEqDiff, Nat.reduceAdd, Nat.reduceSub, Nat.reduceMul, Nat.reduceLT, Nat.reduceLeDiff, Nat.reducePow, Int.reduceToNat, Int.reduceLT, Int.reduceLE, Int.reduceEq, Int.reduceNe, Int.reduceAdd, Int.reduceSub, Int.reduceMul, Int.reduceNeg, q0, q1, q5, q6, q7, e0, ex, g1, c1]
    refine cE_vx hc ⟨_, c, rfl⟩ ?_
    rintro _ ⟨c', rfl⟩
    have ha := Apply_ok (G := G) fs nx c' h
    simp only [Ch.cells] at ha
    try simp only [go_sem, reduceIte, Nat.reduceEqDiff, Nat.reduceAdd, Nat.reduceSub, Nat.reduceMul, Nat.reduceLT, Nat.reduceLeDiff, Nat.reducePow, Int.reduceToNat, Int.reduceLT, Int.reduceLE, Int.reduceEq, Int.reduceNe, Int.reduceAdd, Int.reduceSub, Int.reduceMul, Int.reduceNeg, q0, q1, q5, q6, q7, e0, ex, g1, c1, Ch.cells]
    refine new_any fun b3 hb => ?_
    have m0 := box_ne hb e0
    try simp only [go_sem, reduceIte, Nat.reduceEqDiff, Nat.reduceAdd, Nat.reduceSub, Nat.reduceMul, Nat.reduceLT, Nat.reduceLeDiff, Nat.reducePow, Int.reduceToNat, Int.reduceLT, Int.reduceLE, Int.reduceEq, Int.reduceNe, Int.reduceAdd, Int.reduceSub, Int.reduceMul, Int.reduceNeg, q0, q1, q5, q6, q7, e0, m0]
    refine cK_vx ha ?_
    rintro _ ⟨ws, mx, e, rfl, he⟩
    try simp only [go_sem, reduceIte, Nat.reduceEqDiff, Nat.reduceAdd, Nat.reduceSub, Nat.reduceMul, Nat.reduceLT, Nat.reduceLeDiff, Nat.reducePow, Int.reduceToNat, Int.reduceLT, Int.reduceLE, Int.reduceEq, Int.reduceNe, Int.reduceAdd, Int.reduceSub, Int.reduceMul, Int.reduceNeg, q0, q1, q5, q6, q7, e0, m0]
    refine new_any fun b4 hb => ?_
    simp only [set_none] at hb
    have p0 := box_ne hb.2.2 e0
    try simp only [go_sem, reduceIte, Nat.reduceEqDiff, Nat.reduceAdd, Nat.reduceSub, Nat.reduceMul, Nat.reduceLT, Nat.reduceLeDiff, Nat.reducePow, Int.reduceToNat, Int.reduceLT, Int.reduceLE, Int.reduceEq, Int.reduceNe, Int.reduceAdd, Int.reduceSub, Int.reduceMul, Int.reduceNeg, q0, q1, q5, q6, q7, e0, m0, p0, hb]
    refine cd_dec (fun k => ?_) (fun k => ?_)
    · try simp only [go_sem, reduceIte, Nat.reduceEqDiff, Nat.reduceAdd, Nat.reduceSub, Nat.reduceMul, Nat.reduceLT, Nat.reduceLeDiff, Nat.reducePow, Int.reduceToNat, Int.reduceLT, Int.reduceLE, Int.reduceEq, Int.reduceNe, Int.reduceAdd, Int.reduceSub, Int.reduceMul, Int.reduceNeg, q0, q1, q5, q6, q7, e0, m0, p0, hb, ho, hg, wj]
      refine ⟨Ch_cells8 _, by rw [List.length_map]; omega, fun t' _ => ⟨⟨j + 1, ws, mx, m ++ [c'], .live t' 8, by omega, by simp; omega, by omega, he k, TW.live 8 t', ?_⟩, by omega⟩⟩
      simp [Heap.set, e0, m0, p0, hb, Ch.d, Ch.cells]
    · try simp only [go_sem, reduceIte, Nat.reduceEqDiff, Nat.reduceAdd, Nat.reduceSub, Nat.reduceMul, Nat.reduceLT, Nat.reduceLeDiff, Nat.reducePow, Int.reduceToNat, Int.reduceLT, Int.reduceLE, Int.reduceEq, Int.reduceNe, Int.reduceAdd, Int.reduceSub, Int.reduceMul, Int.reduceNeg, q0, q1, q5, q6, q7, e0, m0, p0, hb, wj]
      refine ⟨⟨j + 1, fs, nx, m, tk, by omega, by omega, by omega, h, hw, ?_⟩, by omega⟩
      simp [Heap.set, e0, m0, p0]
  · try simp only [go_sem, reduceIte, Nat.reduceEqDiff, Nat.reduceAdd, Nat.reduceSub, Nat.reduceMul, Nat.reduceLT, Nat.reduceLeDiff, Nat.reducePow, Int.reduceToNat, Int.reduceLT, Int.reduceLE, Int.reduceEq, Int.reduceNe, Int.reduceAdd, Int.reduceSub, Int.reduceMul, Int.reduceNeg, q0, q1, q5, q6, q7, e0]
    exact finK_drop ⟨_, ⟨m, rfl⟩, rfl, rfl, rfl⟩
end Go.Proofs.YtpblgfgcoamgmaaGreatS
namespace Go.Proofs.YtpblgfgcoamgmaaGreatS
open Go Go.Proofs.YtpblgfgcoamgmaaGreatV

variable {G : Heap}
attribute [local irreducible] VN VC VX VQ

def truth (b : Bool) : Int := if b then 1 else 0
theorem truth_ok (b : Bool) : VN P G 74 [.bool b] (.int .i64 (truth b)) := by
  unfold VN
  refine VC.ofs (fun | 99999999 => [(0, [0, 2, 3])] | _ => []) [2] mixed Tryz.func74 rfl rfl rfl rfl (by decide +kernel) (by simp) ?_
  cases b
  all_goals simp only [go_sem, reduceIte, Nat.reduceEqDiff, Nat.reduceAdd, Nat.reduceSub, Nat.reduceMul, Nat.reduceLT, Nat.reduceLeDiff, Nat.reducePow, Int.reduceToNat, Int.reduceLT, Int.reduceLE, Int.reduceEq, Int.reduceNe, Int.reduceAdd, Int.reduceSub, Int.reduceMul, Int.reduceNeg]
  all_goals exact finK_drop ⟨rfl, rfl, rfl⟩
theorem begins08_ok (s t : ByteArray) : VN P G 123 [.str s, .str t] (.bool (pre s t)) := by
  unfold VN
  refine VC.ofs (fun | 99999999 => [(0, [0, 1, 4])] | _ => []) [4] mixed Tryz.func123 rfl rfl rfl rfl (by decide +kernel) (by simp) ?_
  simp only [go_sem, reduceIte, Nat.reduceEqDiff, Nat.reduceAdd, Nat.reduceSub, Nat.reduceMul, Nat.reduceLT, Nat.reduceLeDiff, Nat.reducePow, Int.reduceToNat, Int.reduceLT, Int.reduceLE, Int.reduceEq, Int.reduceNe, Int.reduceAdd, Int.reduceSub, Int.reduceMul, Int.reduceNeg]
  exact ⟨fun _ => by omega, finK_drop ⟨by rw [pre_eq]; rfl, rfl, rfl⟩⟩
def valV (r : Rw) (id : Int) : Vl := match r with
  | [] => Vl.nul
  | c :: l => if c.1 = id then c.2 else valV l id
theorem Value_ok (r : Rw) (id : Int) : VN P G 73 [.agg [.sl .none (r.map clD)], .int .i64 id] (.agg (valV r id).cells) := by
  unfold VN
  refine VC.small2 fun hsm => ?_
  have z1 := hsm (.agg [.sl .none (r.map clD)]) (List.mem_cons_self ..) (.sl .none (r.map clD)) (by simp [D.cells])
  simp only [Small, mostLen, List.length_map] at z1
  clear hsm
  refine VC.ofc (fun | 99999999 => [(0, [0, 1, 2, 4, 5, 10, 20])] | _ => []) [.cell 4 81] mixed Tryz.func73 rfl rfl rfl rfl (by decide +kernel) (by simp) ?_
  simp only [go_sem, reduceIte, Nat.reduceEqDiff, Nat.reduceAdd, Nat.reduceSub, Nat.reduceMul, Nat.reduceLT, Nat.reduceLeDiff, Nat.reducePow, Int.reduceToNat, Int.reduceLT, Int.reduceLE, Int.reduceEq, Int.reduceNe, Int.reduceAdd, Int.reduceSub, Int.reduceMul, Int.reduceNeg]
  intro b0
  refine new_1 fun b1 h1 h2 => ?_
  try simp only [go_sem, reduceIte, Nat.reduceEqDiff, Nat.reduceAdd, Nat.reduceSub, Nat.reduceMul, Nat.reduceLT, Nat.reduceLeDiff, Nat.reducePow, Int.reduceToNat, Int.reduceLT, Int.reduceLE, Int.reduceEq, Int.reduceNe, Int.reduceAdd, Int.reduceSub, Int.reduceMul, Int.reduceNeg, h1, h2]
  generalize hβ : Heap.set _ b1 _ = β0
  have e0 : β0 b0 = some [.sl .none (r.map clD)] := by rw [← hβ]; simp [Heap.set, h1, h2]
  have e1 : β0 b1 = some [.bool false, .int .i64 0, .str ByteArray.empty] := by rw [← hβ]; simp [Heap.set]
  clear hβ
  refine vwq_loop (fun v => ∃ (j : Nat), j ≤ r.length ∧ valV (r.drop j) id = valV r id ∧ v.σ 1 = .int .i64 id ∧ v.σ 2 = .pb b0 0 ∧ v.σ 4 = .pb b1 0 ∧ v.σ 5 = .int .i64 j ∧ v.β = β0 ∧ v.ω = []) (fun v => r.length - (ival (v.σ 5)).toNat) ⟨0, by omega, rfl, rfl, rfl, rfl, rfl, rfl, rfl⟩ ?_
  rintro σ β ω ⟨j, j1, j2, q1, q2, q4, q5, rfl, rfl⟩
  dsimp only at q1 q2 q4 q5 e0 e1
  try simp only [go_sem, reduceIte, Nat.reduceEqDiff, Nat.reduceAdd, Nat.reduceSub, Nat.reduceMul, Nat.reduceLT, Nat.reduceLeDiff, Nat.reducePow, Int.reduceToNat, Int.reduceLT, Int.reduceLE, Int.reduceEq, Int.reduceNe, Int.reduceAdd, Int.reduceSub, Int.reduceMul, Int.reduceNeg, q1, q2, q4, q5, e0, e1]
  refine cd_dec (fun g => ?_) (fun g => ?_)
  · obtain ⟨x, hx, ex⟩ := Cl_at (l := r) (j := j) (by rw [List.length_map] at g; omega)
    rw [drop_at hx, valV] at j2
    have g1 := eq_true g
    rw [List.length_map] at g
    have wj := wrap_i64 (x := (j : Int) + 1) (by omega) (by omega)
    have c1 : ((0 : Int) ≤ j) = True := eq_true (by omega)
    try simp only [go_sem, reduceIte, Nat.reduceEqDiff, Nat.reduceAdd, Nat.reduceSub, Nat.reduceMul, Nat.reduceLT, Nat.reduceLeDiff, Nat.reducePow, Int.reduceToNat, Int.reduceLT, Int.reduceLE, Int.reduceEq, Int.reduceNe, Int.reduceAdd, Int.reduceSub, Int.reduceMul, Int.reduceNeg, q1, q2, q4, q5, e0, e1, ex, g1, c1]
    refine cd_dec (fun k => ?_) (fun k => ?_)
    · try simp only [go_sem, reduceIte, Nat.reduceEqDiff, Nat.reduceAdd, Nat.reduceSub, Nat.reduceMul, Nat.reduceLT, Nat.reduceLeDiff, Nat.reducePow, Int.reduceToNat, Int.reduceLT, Int.reduceLE, Int.reduceEq, Int.reduceNe, Int.reduceAdd, Int.reduceSub, Int.reduceMul, Int.reduceNeg, q1, q2, q4, q5, e0, e1, ex, g1, c1, h1, h2]
      exact finK_drop ⟨by rw [← j2, if_pos k]; rfl, rfl, rfl⟩
    · try simp only [go_sem, reduceIte, Nat.reduceEqDiff, Nat.reduceAdd, Nat.reduceSub, Nat.reduceMul, Nat.reduceLT, Nat.reduceLeDiff, Nat.reducePow, Int.reduceToNat, Int.reduceLT, Int.reduceLE, Int.reduceEq, Int.reduceNe, Int.reduceAdd, Int.reduceSub, Int.reduceMul, Int.reduceNeg, q1, q2, q4, q5, e0, e1, ex, wj]
      rw [if_neg k] at j2
      exact ⟨⟨j + 1, by omega, j2, rfl⟩, by omega⟩
  · try simp only [go_sem, reduceIte, Nat.reduceEqDiff, Nat.reduceAdd, Nat.reduceSub, Nat.reduceMul, Nat.reduceLT, Nat.reduceLeDiff, Nat.reducePow, Int.reduceToNat, Int.reduceLT, Int.reduceLE, Int.reduceEq, Int.reduceNe, Int.reduceAdd, Int.reduceSub, Int.reduceMul, Int.reduceNeg, q1, q2, q4, q5, e0, e1]
    rw [List.length_map] at g
    rw [List.drop_eq_nil_of_le (by omega), valV] at j2
    exact finK_drop ⟨by rw [← j2]; rfl, rfl, rfl⟩
def within (v : Vl) (l : List Vl) : Bool := l.any fun x => !x.null && decide (x.n = v.n) && decide (x.s = v.s)
theorem within_ok (v : Vl) (l : List Vl) : VN P G 122 [.agg v.cells, .sl .none (l.map Vl.d)] (.bool (within v l)) := by
  simp only [Vl.cells]
  unfold VN
  refine VC.small2 fun hsm => ?_
  have z1 := hsm (.sl .none (l.map Vl.d)) (by simp) (.sl .none (l.map Vl.d)) (by simp [D.cells])
  simp only [Small, mostLen, List.length_map] at z1
  clear hsm
  refine VC.ofs (fun | 4 => [(0, []), (1, []), (2, []), (3, []), (4, []), (5, []), (6, []), (7, []), (8, []), (9, []), (10, []), (11, []), (12, []), (13, []), (14, []), (15, []), (16, []), (17, []), (18, []), (19, []), (20, []), (21, []), (22, []), (23, []), (24, []), (25, [])] | 99999999 => [(0, [0, 1, 2, 4, 5, 9, 37])] | _ => []) [4] mixed Tryz.func122 rfl rfl rfl rfl (by decide +kernel) (by simp) ?_
  simp only [go_sem, reduceIte, Nat.reduceEqDiff, Nat.reduceAdd, Nat.reduceSub, Nat.reduceMul, Nat.reduceLT, Nat.reduceLeDiff, Nat.reducePow, Int.reduceToNat, Int.reduceLT, Int.reduceLE, Int.reduceEq, Int.reduceNe, Int.reduceAdd, Int.reduceSub, Int.reduceMul, Int.reduceNeg]
  intro b0
  generalize hβ : Heap.set _ b0 _ = β0
  have e0 : β0 b0 = some [.bool v.null, .int .i64 v.n, .str v.s] := by rw [← hβ]; simp [Heap.set]
  clear hβ
  refine vwq_loop (fun u => ∃ (j : Nat), j ≤ l.length ∧ within v (l.drop j) = within v l ∧ u.σ 1 = .sl .none (l.map Vl.d) ∧ u.σ 2 = .pb b0 0 ∧ u.σ 5 = .int .i64 j ∧ u.β = β0 ∧ u.ω = []) (fun u => l.length - (ival (u.σ 5)).toNat) ⟨0, by omega, rfl, rfl, rfl, rfl, rfl, rfl⟩ ?_
  rintro σ β ω ⟨j, j1, j2, q1, q2, q5, rfl, rfl⟩
  dsimp only at q1 q2 q5 e0
  try simp only [go_sem, reduceIte, Nat.reduceEqDiff, Nat.reduceAdd, Nat.reduceSub, Nat.reduceMul, Nat.reduceLT, Nat.reduceLeDiff, Nat.reducePow, Int.reduceToNat, Int.reduceLT, Int.reduceLE, Int.reduceEq, Int.reduceNe, Int.reduceAdd, Int.reduceSub, Int.reduceMul, Int.reduceNeg, q1, q2, q5, e0]
  refine cd_dec (fun g => ?_) (fun g => ?_)
  · obtain ⟨x, hx, ex⟩ := Vl_at g
    have g1 := eq_true g
    rw [List.length_map] at g
    rw [drop_at hx, within, List.any_cons] at j2
    have wj := wrap_i64 (x := (j : Int) + 1) (by omega) (by omega)
    have c1 : ((0 : Int) ≤ j) = True := eq_true (by omega)
    obtain ⟨xn, xi, xs⟩ := x
    dsimp only at ex j2
    cases xn
    · by_cases k1 : xi = v.n
      · by_cases k2 : xs = v.s
        all_goals try simp only [go_sem, reduceIte, Nat.reduceEqDiff, Nat.reduceAdd, Nat.reduceSub, Nat.reduceMul, Nat.reduceLT, Nat.reduceLeDiff, Nat.reducePow, Int.reduceToNat, Int.reduceLT, Int.reduceLE, Int.reduceEq, Int.reduceNe, Int.reduceAdd, Int.reduceSub, Int.reduceMul, Int.reduceNeg, q1, q2, q5, e0, ex, g1, c1, k1, k2]
        · exact finK_drop ⟨by rw [← j2]; simp [k1, k2, D.er, D.er1], rfl, rfl⟩
        · try simp only [go_sem, reduceIte, Nat.reduceEqDiff, Nat.reduceAdd, Nat.reduceSub, Nat.reduceMul, Nat.reduceLT, Nat.reduceLeDiff, Nat.reducePow, Int.reduceToNat, Int.reduceLT, Int.reduceLE, Int.reduceEq, Int.reduceNe, Int.reduceAdd, Int.reduceSub, Int.reduceMul, Int.reduceNeg, q1, q2, q5, e0, ex, g1, c1, k1, k2, wj]
          exact ⟨⟨j + 1, by omega, by rw [← j2]; simp [k2, within], rfl⟩, by omega⟩
      · try simp only [go_sem, reduceIte, Nat.reduceEqDiff, Nat.reduceAdd, Nat.reduceSub, Nat.reduceMul, Nat.reduceLT, Nat.reduceLeDiff, Nat.reducePow, Int.reduceToNat, Int.reduceLT, Int.reduceLE, Int.reduceEq, Int.reduceNe, Int.reduceAdd, Int.reduceSub, Int.reduceMul, Int.reduceNeg, q1, q2, q5, e0, ex, g1, c1, k1]
        try simp only [go_sem, reduceIte, Nat.reduceEqDiff, Nat.reduceAdd, Nat.reduceSub, Nat.reduceMul, Nat.reduceLT, Nat.reduceLeDiff, Nat.reducePow, Int.reduceToNat, Int.reduceLT, Int.reduceLE, Int.reduceEq, Int.reduceNe, Int.reduceAdd, Int.reduceSub, Int.reduceMul, Int.reduceNeg, q1, q2, q5, e0, ex, g1, c1, k1, wj]
        exact ⟨⟨j + 1, by omega, by rw [← j2]; simp [k1, within], rfl⟩, by omega⟩
    · try simp only [go_sem, reduceIte, Nat.reduceEqDiff, Nat.reduceAdd, Nat.reduceSub, Nat.reduceMul, Nat.reduceLT, Nat.reduceLeDiff, Nat.reducePow, Int.reduceToNat, Int.reduceLT, Int.reduceLE, Int.reduceEq, Int.reduceNe, Int.reduceAdd, Int.reduceSub, Int.reduceMul, Int.reduceNeg, q1, q2, q5, e0, ex, g1, c1]
      try simp only [go_sem, reduceIte, Nat.reduceEqDiff, Nat.reduceAdd, Nat.reduceSub, Nat.reduceMul, Nat.reduceLT, Nat.reduceLeDiff, Nat.reducePow, Int.reduceToNat, Int.reduceLT, Int.reduceLE, Int.reduceEq, Int.reduceNe, Int.reduceAdd, Int.reduceSub, Int.reduceMul, Int.reduceNeg, q1, q2, q5, e0, ex, g1, c1, wj]
      exact ⟨⟨j + 1, by omega, by rw [← j2]; simp [within], rfl⟩, by omega⟩
  · try simp only [go_sem, reduceIte, Nat.reduceEqDiff, Nat.reduceAdd, Nat.reduceSub, Nat.reduceMul, Nat.reduceLT, Nat.reduceLeDiff, Nat.reducePow, Int.reduceToNat, Int.reduceLT, Int.reduceLE, Int.reduceEq, Int.reduceNe, Int.reduceAdd, Int.reduceSub, Int.reduceMul, Int.reduceNeg, q1, q2, q5, e0]
    rw [List.length_map] at g
    rw [List.drop_eq_nil_of_le (by omega)] at j2
    exact finK_drop ⟨by rw [← j2]; rfl, rfl, rfl⟩
def simpleF (p : Pr) (v : Vl) : Int := if p.op = 4 then truth v.null else if v.null = true then 2 else if p.op = 1 then truth (decide (p.lo ≤ v.n) && decide (v.n ≤ p.hi)) else if p.op = 2 then truth (within v p.set) else truth (pre v.s p.text)
theorem simple_ok (p : Pr) (v : Vl) : VN P G 72 [.agg p.cells, .agg v.cells] (.int .i64 (simpleF p v)) := by
  have hw := within_ok (G := G) v p.set
  have hb := begins08_ok (G := G) v.s p.text
  obtain ⟨vn, vi, vs⟩ := v
  simp only [Pr.cells, Vl.cells] at hw ⊢
  unfold VN
  refine VC.ofs (fun | 99999999 => [(0, [0, 1, 2, 3, 4, 5, 12, 15, 32])] | _ => []) [4] mixed Tryz.func72 rfl rfl rfl rfl (by decide +kernel) (by simp) ?_
  cases vn
  all_goals simp only [go_sem, reduceIte, Nat.reduceEqDiff, Nat.reduceAdd, Nat.reduceSub, Nat.reduceMul, Nat.reduceLT, Nat.reduceLeDiff, Nat.reducePow, Int.reduceToNat, Int.reduceLT, Int.reduceLE, Int.reduceEq, Int.reduceNe, Int.reduceAdd, Int.reduceSub, Int.reduceMul, Int.reduceNeg]
  all_goals intro b0
  all_goals refine new_1 fun b1 h1 h2 => ?_
  all_goals repeat' (first | simp only [go_sem, reduceIte, Nat.reduceEqDiff, Nat.reduceAdd, Nat.reduceSub, Nat.reduceMul, Nat.reduceLT, Nat.reduceLeDiff, Nat.reducePow, Int.reduceToNat, Int.reduceLT, Int.reduceLE, Int.reduceEq, Int.reduceNe, Int.reduceAdd, Int.reduceSub, Int.reduceMul, Int.reduceNeg, h1, h2] | refine cd_dec (fun _ => ?_) (fun _ => ?_) | refine cd_b (fun _ => ?_) (fun _ => ?_) | refine cK_vn (truth_ok _) ?_ | refine cK_vn hw ?_ | refine cK_vn hb ?_)
  all_goals refine finK_drop ⟨?_, rfl, rfl⟩
  all_goals simp_all [simpleF, D.er, D.er1]

def evK (op simple : Int) (ks : List Int) : Int :=
  if op = 0 then 1
  else if op = 1 ∨ op = 2 ∨ op = 3 ∨ op = 4 then simple
  else if op = 5 then (if 0 < (ks.count 0 : Int) ∨ (ks.count 1 : Int) = ks.length then truth (decide ((ks.count 0 : Int) = 0)) else 2)
  else if op = 6 then (if 0 < (ks.count 1 : Int) ∨ (ks.count 0 : Int) = ks.length then truth (decide (0 < (ks.count 1 : Int))) else 2)
  else if op = 7 then (if (ks.length : Int) = 1 ∧ (ks.count 1 : Int) + ks.count 0 = 1 then truth (decide ((ks.count 0 : Int) = 1)) else 2)
  else 2
mutual
def evalP (r : Rw) : Pr → Int
  | .mk op id lo hi set text kids => evK op (simpleF (.mk op id lo hi set text kids) (valV r id)) (evalPs r kids)
def evalPs (r : Rw) : List Pr → List Int
  | [] => []
  | p :: l => evalP r p :: evalPs r l
end
theorem evalPs_eq (r : Rw) : ∀ l : List Pr, evalPs r l = l.map (evalP r)
  | [] => by simp only [evalPs, List.map_nil]
  | p :: l => by simp only [evalPs, evalPs_eq r l, List.map_cons]
theorem evalP_eq (r : Rw) (p : Pr) : evalP r p = evK p.op (simpleF p (valV r p.id)) (p.kids.map (evalP r)) := by
  cases p; simp only [evalP, evalPs_eq]; rfl
theorem count_take {ks : List Int} {j : Nat} {x : Int} (h : ks[j]? = some x) (a : Int) : (ks.take (j + 1)).count a = (ks.take j).count a + if x = a then 1 else 0 := by
  rw [List.take_add_one, h, Option.toList_some, List.count_append]
  by_cases e : x = a <;> simp [e]
set_option maxHeartbeats 4000000 in
theorem eval_step (r : Rw) (p : Pr) (z : p.kids.length ≤ 1048576) (ih : ∀ k ∈ p.kids, VN P G 36 [.agg k.cells, .agg [.sl .none (r.map clD)]] (.int .i64 (evalP r k))) : VN P G 36 [.agg p.cells, .agg [.sl .none (r.map clD)]] (.int .i64 (evalP r p)) := by
  have hs := simple_ok (G := G) p (valV r p.id)
  have hv := Value_ok (G := G) r p.id
  obtain ⟨ks, hks⟩ : ∃ ks, p.kids.map (evalP r) = ks := ⟨_, rfl⟩
  have hlen : ks.length = p.kids.length := by rw [← hks, List.length_map]
  have hE : evalP r p = evK p.op (simpleF p (valV r p.id)) ks := by rw [evalP_eq, hks]
  rw [hE]
  simp only [Pr.cells, Vl.cells] at hs hv ⊢
  unfold VN
  refine VC.ofs (fun | 5 => [(0, []), (1, []), (2, []), (3, []), (4, []), (5, []), (6, [])] | 18 => [(0, [4]), (1, []), (2, []), (3, []), (4, []), (5, []), (6, [])] | 99999999 => [(0, [0, 1, 2, 3, 4, 5, 6, 7, 8, 13, 22, 23, 27, 35, 36, 38, 49, 57, 61, 69, 73, 82])] | _ => []) [4] mixed Tryz.func36 rfl rfl rfl rfl (by decide +kernel) (by simp) ?_
  simp only [go_sem, reduceIte, Nat.reduceEqDiff, Nat.reduceAdd, Nat.reduceSub, Nat.reduceMul, Nat.reduceLT, Nat.reduceLeDiff, Nat.reducePow, Int.reduceToNat, Int.reduceLT, Int.reduceLE, Int.reduceEq, Int.reduceNe, Int.reduceAdd, Int.reduceSub, Int.reduceMul, Int.reduceNeg]
  intro b0
  refine new_1 fun b1 h1 h2 => ?_
  try simp only [go_sem, reduceIte, Nat.reduceEqDiff, Nat.reduceAdd, Nat.reduceSub, Nat.reduceMul, Nat.reduceLT, Nat.reduceLeDiff, Nat.reducePow, Int.reduceToNat, Int.reduceLT, Int.reduceLE, Int.reduceEq, Int.reduceNe, Int.reduceAdd, Int.reduceSub, Int.reduceMul, Int.reduceNeg, h1, h2]
  generalize hβ : Heap.set _ b1 _ = β0
  have e0 : β0 b0 = some p.cells := by rw [← hβ]; simp [Heap.set, h1, h2, Pr.cells]
  have e1 : β0 b1 = some [.sl .none (r.map clD)] := by rw [← hβ]; simp [Heap.set]
  clear hβ
  refine vwq_loop (fun v => ∃ (j : Nat), j ≤ ks.length ∧ v.σ 2 = .pb b0 0 ∧ v.σ 3 = .pb b1 0 ∧ v.σ 5 = .int .i64 ((ks.take j).count 1 : Nat) ∧ v.σ 6 = .int .i64 ((ks.take j).count 0 : Nat) ∧ v.σ 7 = .int .i64 j ∧ v.β = β0 ∧ v.ω = []) (fun v => ks.length - (ival (v.σ 7)).toNat) ⟨0, by omega, rfl, rfl, rfl, rfl, rfl, rfl, rfl⟩ ?_
  rintro σ β ω ⟨j, j1, q2, q3, q5, q6, q7, rfl, rfl⟩
  dsimp only [Pr.cells] at q2 q3 q5 q6 q7 e0 e1
  have hl : ((p.kids.map Pr.d).length : Int) = ks.length := by rw [List.length_map, hlen]
  try simp only [go_sem, reduceIte, Nat.reduceEqDiff, Nat.reduceAdd, Nat.reduceSub, Nat.reduceMul, Nat.reduceLT, Nat.reduceLeDiff, Nat.reducePow, Int.reduceToNat, Int.reduceLT, Int.reduceLE, Int.reduceEq, Int.reduceNe, Int.reduceAdd, Int.reduceSub, Int.reduceMul, Int.reduceNeg, q2, q3, q5, q6, q7, e0, e1, hl]
  refine cd_dec (fun g => ?_) (fun g => ?_)
  · obtain ⟨x, hx, ex⟩ := Pr_at (l := p.kids) (j := j) (by rw [List.length_map]; omega)
    have hm := ih x (List.mem_of_getElem? hx)
    have hkx : ks[j]? = some (evalP r x) := by rw [← hks, List.getElem?_map, hx]; rfl
    simp only [Pr.cells] at hm
    have wj := wrap_i64 (x := (j : Int) + 1) (by omega) (by omega)
    have k0 := List.count_le_length (a := (0 : Int)) (l := ks.take j)
    have k1 := List.count_le_length (a := (1 : Int)) (l := ks.take j)
    rw [List.length_take] at k0 k1
    have w5 := wrap_i64 (x := ((ks.take j).count 1 : Int) + 1) (by omega) (by omega)
    have w6 := wrap_i64 (x := ((ks.take j).count 0 : Int) + 1) (by omega) (by omega)
    have c1 : ((0 : Int) ≤ j) = True := eq_true (by omega)
    have c2 : ((j : Int) < ks.length) = True := eq_true g
    have t1 := count_take hkx 1
    have t0 := count_take hkx 0
    try simp only [go_sem, reduceIte, Nat.reduceEqDiff, Nat.reduceAdd, Nat.reduceSub, Nat.reduceMul, Nat.reduceLT, Nat.reduceLeDiff, Nat.reducePow, Int.reduceToNat, Int.reduceLT, Int.reduceLE, Int.reduceEq, Int.reduceNe, Int.reduceAdd, Int.reduceSub, Int.reduceMul, Int.reduceNeg, q2, q3, q5, q6, q7, e0, e1, ex, c1, c2, hl]
    refine cE_vn hm ?_
    generalize evalP r x = y at t1 t0
    by_cases y1 : y = 1
    · subst y1
      try simp only [go_sem, reduceIte, Nat.reduceEqDiff, Nat.reduceAdd, Nat.reduceSub, Nat.reduceMul, Nat.reduceLT, Nat.reduceLeDiff, Nat.reducePow, Int.reduceToNat, Int.reduceLT, Int.reduceLE, Int.reduceEq, Int.reduceNe, Int.reduceAdd, Int.reduceSub, Int.reduceMul, Int.reduceNeg, q2, q3, q5, q6, q7, e0, e1, ex, wj, w5, w6]
      exact ⟨⟨j + 1, by omega, by simp [t1, t0], by simp [t0], rfl⟩, by omega⟩
    by_cases y0 : y = 0
    · subst y0
      try simp only [go_sem, reduceIte, Nat.reduceEqDiff, Nat.reduceAdd, Nat.reduceSub, Nat.reduceMul, Nat.reduceLT, Nat.reduceLeDiff, Nat.reducePow, Int.reduceToNat, Int.reduceLT, Int.reduceLE, Int.reduceEq, Int.reduceNe, Int.reduceAdd, Int.reduceSub, Int.reduceMul, Int.reduceNeg, q2, q3, q5, q6, q7, e0, e1, ex, wj, w5, w6]
      exact ⟨⟨j + 1, by omega, by simp [t1], by simp [t0], rfl⟩, by omega⟩
    · try simp only [go_sem, reduceIte, Nat.reduceEqDiff, Nat.reduceAdd, Nat.reduceSub, Nat.reduceMul, Nat.reduceLT, Nat.reduceLeDiff, Nat.reducePow, Int.reduceToNat, Int.reduceLT, Int.reduceLE, Int.reduceEq, Int.reduceNe, Int.reduceAdd, Int.reduceSub, Int.reduceMul, Int.reduceNeg, q2, q3, q5, q6, q7, e0, e1, ex, wj, y1, y0]
      exact ⟨⟨j + 1, by omega, by simp [t1, y1], by simp [t0, y0], rfl⟩, by omega⟩
  · have hj' : ks.take j = ks := List.take_of_length_le (by omega)
    obtain ⟨ye, hye⟩ : ∃ ye, ks.count 1 = ye := ⟨_, rfl⟩
    obtain ⟨no, hno⟩ : ∃ no, ks.count 0 = no := ⟨_, rfl⟩
    have k0 := List.count_le_length (a := (0 : Int)) (l := ks)
    have k1 := List.count_le_length (a := (1 : Int)) (l := ks)
    have t1 : (ks.take j).count 1 = ye := by rw [hj', hye]
    have t0 : (ks.take j).count 0 = no := by rw [hj', hno]
    rw [hye] at k1
    rw [hno] at k0
    have wn := wrap_i64 (x := (ye : Int) + no) (by omega) (by omega)
    simp only [evK, hye, hno]
    try simp only [go_sem, reduceIte, Nat.reduceEqDiff, Nat.reduceAdd, Nat.reduceSub, Nat.reduceMul, Nat.reduceLT, Nat.reduceLeDiff, Nat.reducePow, Int.reduceToNat, Int.reduceLT, Int.reduceLE, Int.reduceEq, Int.reduceNe, Int.reduceAdd, Int.reduceSub, Int.reduceMul, Int.reduceNeg, q2, q3, q5, q6, q7, e0, e1, hl, t1, t0]
    by_cases o0 : p.op = 0
    · try simp only [go_sem, reduceIte, Nat.reduceEqDiff, Nat.reduceAdd, Nat.reduceSub, Nat.reduceMul, Nat.reduceLT, Nat.reduceLeDiff, Nat.reducePow, Int.reduceToNat, Int.reduceLT, Int.reduceLE, Int.reduceEq, Int.reduceNe, Int.reduceAdd, Int.reduceSub, Int.reduceMul, Int.reduceNeg, q2, q3, q5, q6, q7, e0, e1, hl, t1, t0, o0]
      exact finK_drop ⟨rfl, rfl, rfl⟩
    by_cases o1 : p.op = 1 ∨ p.op = 2 ∨ p.op = 3 ∨ p.op = 4
    · rw [if_neg o0, if_pos o1]
      rcases o1 with h | h | h | h
      all_goals
        simp only [h] at hs
        repeat' (first | simp only [go_sem, reduceIte, Nat.reduceEqDiff, Nat.reduceAdd, Nat.reduceSub, Nat.reduceMul, Nat.reduceLT, Nat.reduceLeDiff, Nat.reducePow, Int.reduceToNat, Int.reduceLT, Int.reduceLE, Int.reduceEq, Int.reduceNe, Int.reduceAdd, Int.reduceSub, Int.reduceMul, Int.reduceNeg, q2, q3, q5, q6, q7, e0, e1, hl, t1, t0, h] | refine cE_vn hv ?_ | refine cE_vn hs ?_)
        exact finK_drop ⟨rfl, rfl, rfl⟩
    have f1 := eq_false (fun h => o1 (.inl h) : ¬ p.op = 1)
    have f2 := eq_false (fun h => o1 (.inr (.inl h)) : ¬ p.op = 2)
    have f3 := eq_false (fun h => o1 (.inr (.inr (.inl h))) : ¬ p.op = 3)
    have f4 := eq_false (fun h => o1 (.inr (.inr (.inr h))) : ¬ p.op = 4)
    rw [if_neg o0, if_neg o1]
    by_cases o5 : p.op = 5
    · by_cases a0 : (0 : Int) < no
      · repeat' (first | simp only [go_sem, reduceIte, Nat.reduceEqDiff, Nat.reduceAdd, Nat.reduceSub, Nat.reduceMul, Nat.reduceLT, Nat.reduceLeDiff, Nat.reducePow, Int.reduceToNat, Int.reduceLT, Int.reduceLE, Int.reduceEq, Int.reduceNe, Int.reduceAdd, Int.reduceSub, Int.reduceMul, Int.reduceNeg, q2, q3, q5, q6, q7, e0, e1, hl, t1, t0, o5, a0] | refine cK_vn (truth_ok _) ?_)
        exact finK_drop ⟨by simp [o5, D.er, D.er1], rfl, rfl⟩
      · by_cases a1 : (ye : Int) = ks.length
        all_goals repeat' (first | simp only [go_sem, reduceIte, Nat.reduceEqDiff, Nat.reduceAdd, Nat.reduceSub, Nat.reduceMul, Nat.reduceLT, Nat.reduceLeDiff, Nat.reducePow, Int.reduceToNat, Int.reduceLT, Int.reduceLE, Int.reduceEq, Int.reduceNe, Int.reduceAdd, Int.reduceSub, Int.reduceMul, Int.reduceNeg, q2, q3, q5, q6, q7, e0, e1, hl, t1, t0, o5, a0, a1] | refine cK_vn (truth_ok _) ?_)
        all_goals exact finK_drop ⟨by simp [o5, a0, a1, D.er, D.er1], rfl, rfl⟩
    by_cases o6 : p.op = 6
    · by_cases a0 : (0 : Int) < ye
      · repeat' (first | simp only [go_sem, reduceIte, Nat.reduceEqDiff, Nat.reduceAdd, Nat.reduceSub, Nat.reduceMul, Nat.reduceLT, Nat.reduceLeDiff, Nat.reducePow, Int.reduceToNat, Int.reduceLT, Int.reduceLE, Int.reduceEq, Int.reduceNe, Int.reduceAdd, Int.reduceSub, Int.reduceMul, Int.reduceNeg, q2, q3, q5, q6, q7, e0, e1, hl, t1, t0, o6, a0] | refine cK_vn (truth_ok _) ?_)
        exact finK_drop ⟨by simp [o6, D.er, D.er1], rfl, rfl⟩
      · by_cases a1 : (no : Int) = ks.length
        all_goals repeat' (first | simp only [go_sem, reduceIte, Nat.reduceEqDiff, Nat.reduceAdd, Nat.reduceSub, Nat.reduceMul, Nat.reduceLT, Nat.reduceLeDiff, Nat.reducePow, Int.reduceToNat, Int.reduceLT, Int.reduceLE, Int.reduceEq, Int.reduceNe, Int.reduceAdd, Int.reduceSub, Int.reduceMul, Int.reduceNeg, q2, q3, q5, q6, q7, e0, e1, hl, t1, t0, o6, a0, a1] | refine cK_vn (truth_ok _) ?_)
        all_goals exact finK_drop ⟨by simp [o6, a0, a1, D.er, D.er1], rfl, rfl⟩
    by_cases o7 : p.op = 7
    · by_cases a0 : (ks.length : Int) = 1
      · by_cases a1 : (ye : Int) + no = 1
        all_goals repeat' (first | simp only [go_sem, reduceIte, Nat.reduceEqDiff, Nat.reduceAdd, Nat.reduceSub, Nat.reduceMul, Nat.reduceLT, Nat.reduceLeDiff, Nat.reducePow, Int.reduceToNat, Int.reduceLT, Int.reduceLE, Int.reduceEq, Int.reduceNe, Int.reduceAdd, Int.reduceSub, Int.reduceMul, Int.reduceNeg, q2, q3, q5, q6, q7, e0, e1, hl, t1, t0, o7, a0, wn, a1] | refine cK_vn (truth_ok _) ?_)
        all_goals exact finK_drop ⟨by simp [o7, a0, a1, D.er, D.er1], rfl, rfl⟩
      · repeat' (first | simp only [go_sem, reduceIte, Nat.reduceEqDiff, Nat.reduceAdd, Nat.reduceSub, Nat.reduceMul, Nat.reduceLT, Nat.reduceLeDiff, Nat.reducePow, Int.reduceToNat, Int.reduceLT, Int.reduceLE, Int.reduceEq, Int.reduceNe, Int.reduceAdd, Int.reduceSub, Int.reduceMul, Int.reduceNeg, q2, q3, q5, q6, q7, e0, e1, hl, t1, t0, o7, a0, wn] | refine cK_vn (truth_ok _) ?_)
        exact finK_drop ⟨by simp [o7, a0, D.er, D.er1], rfl, rfl⟩
    · try simp only [go_sem, reduceIte, Nat.reduceEqDiff, Nat.reduceAdd, Nat.reduceSub, Nat.reduceMul, Nat.reduceLT, Nat.reduceLeDiff, Nat.reducePow, Int.reduceToNat, Int.reduceLT, Int.reduceLE, Int.reduceEq, Int.reduceNe, Int.reduceAdd, Int.reduceSub, Int.reduceMul, Int.reduceNeg, q2, q3, q5, q6, q7, e0, e1, hl, t1, t0, o0, f1, f2, f3, f4, o5, o6, o7]
      exact finK_drop ⟨by simp [o5, o6, o7, D.er, D.er1], rfl, rfl⟩
end Go.Proofs.YtpblgfgcoamgmaaGreatS
namespace Go.Proofs.YtpblgfgcoamgmaaGreatS
open Go Go.Proofs.YtpblgfgcoamgmaaGreatV

theorem hit_set {β β' : Heap} {b : Nat} {c : List D} (h : β.set b c = β') : β' b = some c := by rw [← h]; simp [Heap.set]
theorem keep_new {β β' : Heap} {a b : Nat} {c x : List D} (h : β.set b c = β') (hb : β b = none) (e : β a = some x) : β' a = some x := by
  rw [← h]; simp only [Heap.set]; rw [if_neg (fun h => by rw [h, hb] at e; cases e)]; exact e
theorem keep_ne {β β' : Heap} {a b : Nat} {c x : List D} (h : β.set b c = β') (hb : a ≠ b) (e : β a = some x) : β' a = some x := by
  rw [← h]; simp only [Heap.set]; rw [if_neg hb]; exact e
@[go_sem] theorem set_again {β : Heap} {b : Nat} {x y : List D} : (β.set b x).set b y = β.set b y := by
  funext i; simp only [Heap.set]; split <;> rfl
@[go_sem] theorem Pr_take (p : Pr) : p.cells.take 7 = p.cells := (rfl)
@[go_sem] theorem Pr_len (p : Pr) : p.cells.length = 7 := (rfl)
@[go_sem] theorem Pr_obj (p : Pr) : isObj p.cells = false := (rfl)
@[go_sem] theorem Pr_one (p : Pr) : p.cells.all D.one = true := (rfl)
@[go_sem] theorem Pr_er (p : Pr) : p.cells.map D.er1 = p.cells := (rfl)
@[go_sem] theorem Pr_0 (p : Pr) : p.cells.getD 0 .any = .int .i64 p.op := (rfl)
@[go_sem] theorem Pr_1 (p : Pr) : p.cells.getD 1 .any = .int .i64 p.id := (rfl)
@[go_sem] theorem Pr_2 (p : Pr) : p.cells.getD 2 .any = .int .i64 p.lo := (rfl)
@[go_sem] theorem Pr_3 (p : Pr) : p.cells.getD 3 .any = .int .i64 p.hi := (rfl)
@[go_sem] theorem Pr_4 (p : Pr) : p.cells.getD 4 .any = .sl .none (p.set.map Vl.d) := (rfl)
@[go_sem] theorem Pr_5 (p : Pr) : p.cells.getD 5 .any = .str p.text := (rfl)
@[go_sem] theorem Pr_6 (p : Pr) : p.cells.getD 6 .any = .sl .none (p.kids.map Pr.d) := (rfl)
theorem Pr_pat {ps : List Pr} {j : Nat} (h : j < ps.length) : ∃ p, ps[j]? = some p ∧ (ps.map Pr.d).getD j .any = .agg p.cells := by
  obtain ⟨k, h1, h2⟩ := at_map (f := Pr.d) (l := ps) (j := j) h
  exact ⟨k, h1, h2.trans k.d_eq⟩
section
variable {P : Program} {G : Heap} {β : Heap} {ω : List Nat} {args : List D} {d : D}
variable {ops : Array Oper} {rest : List Oper} {es : List Ent} {Q : VE → St → Prop} {dst : Option Tmp} {σ : Sg} {β0 : Heap} {ω0 : List Nat} {Φ0 : Out → Heap → List Nat → Prop}
theorem part_join {β1 : Heap} {ω1 : List Nat} : Part β1 ω1 (joinH β β0 β1) (joinT ω ω0 ω1) :=
  ⟨fun b cs h => by simp [joinH, h], fun t ht => mem_joinT.2 (.inl ht)⟩
theorem join_keep {β1 : Heap} {b : Nat} {cs : List D} (hf : ∀ b, β1 b ≠ none → β0 b = none → β b = none) (h : β b = some cs) (h0 : β0 b = none) : joinH β β0 β1 b = some cs := by
  have h1 : β1 b = none := by
    cases e : β1 b with
    | none => rfl
    | some c => have := hf b (by rw [e]; simp) h0; rw [h] at this; cases this
  simp [joinH, h1, h0, h]
theorem cK_fr (h : VCall P G d args β0 ω0 Φ0) (hp : Part β0 ω0 β ω)
    (hk : ∀ r β1 ω1 β' ω', Φ0 (.ret r) β1 ω1 → Part β1 ω1 β' ω' → (∀ b cs, β b = some cs → β0 b = none → β' b = some cs) → ω' = joinT ω ω0 ω1 → Ko P G ops rest Q dst σ r β' ω')
    (hq : ∀ r β1 ω1, ¬ Φ0 (.pan r) β1 ω1) : cK P G d args β ω ops rest Q dst σ := by
  unfold cK callK
  refine (VCall.frame h hp).mono fun o β' ω' hf => ?_
  obtain ⟨β1, ω1, h1, h2, _, rfl, rfl⟩ := hf
  cases o with
  | ret r => exact hk r β1 ω1 _ _ h1 part_join (fun b cs e e0 => join_keep h2 e e0) rfl
  | pan r => exact (hq r β1 ω1 h1).elim
theorem part_refl (β : Heap) (ω : List Nat) : Part β ω β ω := ⟨fun _ _ h => h, fun _ h => h⟩
theorem part_new {β1 : Heap} {ω1 : List Nat} {b : Nat} {c : List D} (h : Part β1 ω1 β ω) (hb : β b = none) : Part β1 ω1 (β.set b c) ω :=
  ⟨fun b' cs e => keep_new rfl hb (h.box b' cs e), h.tok⟩
theorem finK_part {Φ : Out → Heap → List Nat → Prop} {β1 : Heap} {ω1 : List Nat} (h : Part β1 ω1 β ω) (hd : Φ (.ret d) β1 ω1) : finK Φ d β ω := ⟨d, β1, ω1, Wk.refl d, h.box, h.tok, hd⟩
def VTA (P : Program) (G : Heap) (f : FuncId) (args : List D) (m : Nat) (xs : List D) : Prop := VC P G f args Heap.nil [] fun o β ω => ∃ tk, o = .ret (.sl tk xs) ∧ β = Heap.nil ∧ TW m tk ω
theorem TW.okr {m : Nat} {tk : Tk} {ω1 : List Nat} (h : TW m tk ω1) (ω : List Nat) : tokOk m (ω1 ++ ω) tk := by
  rcases h with ⟨rfl, rfl⟩ | ⟨t, rfl, rfl⟩
  · trivial
  · exact ⟨by simp, rfl⟩
theorem framed_ta {f : FuncId} {m : Nat} {xs : List D} {o : Out} {β' : Heap} {ω' : List Nat} (h : Framed β ω Heap.nil [] (fun o β ω => ∃ tk, o = .ret (.sl tk xs) ∧ β = Heap.nil ∧ TW m tk ω) o β' ω') : ∃ tk ω1, TW m tk ω1 ∧ (∀ t, t ∈ ω1 → t ∉ ω) ∧ o = .ret (.sl tk xs) ∧ β' = β ∧ ω' = ω1 ++ ω := by
  obtain ⟨β1, ω1, ⟨tk, h1, h2, h3⟩, h4, h5, h6, h7⟩ := h
  subst h1 h2 h6 h7
  refine ⟨tk, ω1, h3, fun t ht => h5 t ht (by simp), rfl, joinH_nil β, ?_⟩
  simp [joinT]
theorem cK_ta {f : FuncId} {m : Nat} {xs : List D} (h : VTA P G f args m xs) (hk : ∀ tk ω1, TW m tk ω1 → (∀ t, t ∈ ω1 → t ∉ ω) → Ko P G ops rest Q dst σ (.sl tk xs) β (ω1 ++ ω)) : cK P G (.clo (.func f) [] []) args β ω ops rest Q dst σ :=
  callK_vc h (Part.nil β ω) (fun d β' ω' hf => by
    obtain ⟨tk, ω1, h1, h2, h3, rfl, rfl⟩ := framed_ta (f := f) hf
    cases h3
    exact hk tk ω1 h1 h2) (fun d β' ω' hf => by
    obtain ⟨tk, ω1, h1, h2, h3, _, _⟩ := framed_ta (f := f) hf
    cases h3)
theorem VTA.vn {f : FuncId} {m : Nat} {xs : List D} (h : VTA P G f args m xs) : VN P G f args (.sl .none xs) :=
  VC.turn h (fun d' β' ω' ⟨tk, h1, h2, h3⟩ => by
    cases h1; subst h2
    exact Turn.weak (finK_drop ⟨rfl, rfl, rfl⟩)) (fun d' β' ω' ⟨tk, h1, _⟩ => by cases h1)
theorem VT0.ta {f : FuncId} {m : Nat} {xs : List D} (h : VT0 P G f args fun t => .sl (.live t m) xs) : VTA P G f args m xs :=
  h.mono fun o β ω ⟨t, h1, h2, h3⟩ => ⟨_, h1, h2, by rw [h3]; exact TW.live m t⟩
theorem fin_ta {m : Nat} {xs : List D} {tk : Tk} (h : tokOk m ω tk) : finK (fun o β ω => ∃ tk, o = .ret (.sl tk xs) ∧ β = Heap.nil ∧ TW m tk ω) (.sl tk xs) β ω := by
  cases tk with
  | none => cases h
  | full => exact ⟨_, Heap.nil, [], Wk.refl _, (fun b cs h => by cases h), (fun t h => by cases h), .full, rfl, rfl, TW.full m⟩
  | live t m' => 
    obtain ⟨h1, rfl⟩ := h
    exact ⟨_, Heap.nil, [t], Wk.refl _, (fun b cs h => by cases h), (fun u hu => by simp at hu; exact hu ▸ h1), _, rfl, rfl, TW.live _ t⟩
end
end Go.Proofs.YtpblgfgcoamgmaaGreatS
namespace Go.Proofs.YtpblgfgcoamgmaaGreatS
open Go Go.Proofs.YtpblgfgcoamgmaaGreatV

variable {G : Heap}
attribute [local irreducible] VN VC VX VQ VP

def isAt (op : Int) : Bool := decide (1 ≤ op) && decide (op ≤ 4)
theorem isAtom_ok (op : Int) : VN P G 82 [.int .i64 op] (.bool (isAt op)) := by
  unfold VN isAt
  refine VC.ofs (fun | 99999999 => [(0, [0, 2])] | _ => []) [2] mixed Tryz.func82 rfl rfl rfl rfl (by decide +kernel) (by simp) ?_
  by_cases h : 1 ≤ op
  · have h' := eq_true h
    simp only [go_sem, reduceIte, Nat.reduceEqDiff, Nat.reduceAdd, Nat.reduceSub, Nat.reduceMul, Nat.reduceLT, Nat.reduceLeDiff, Nat.reducePow, Int.reduceToNat, Int.reduceLT, Int.reduceLE, Int.reduceEq, Int.reduceNe, Int.reduceAdd, Int.reduceSub, Int.reduceMul, Int.reduceNeg, h', ge_iff_le, decide_true, Bool.true_and]
    exact finK_drop ⟨rfl, rfl, rfl⟩
  · have h' := eq_false h
    simp only [go_sem, reduceIte, Nat.reduceEqDiff, Nat.reduceAdd, Nat.reduceSub, Nat.reduceMul, Nat.reduceLT, Nat.reduceLeDiff, Nat.reducePow, Int.reduceToNat, Int.reduceLT, Int.reduceLE, Int.reduceEq, Int.reduceNe, Int.reduceAdd, Int.reduceSub, Int.reduceMul, Int.reduceNeg, h', ge_iff_le, decide_false, Bool.false_and]
    exact finK_drop ⟨rfl, rfl, rfl⟩
theorem ptruth_ok (b : Bool) : VN P G 119 [.bool b] (.int .i64 (truth b)) := by
  unfold VN
  refine VC.ofs (fun | 99999999 => [(0, [0, 2, 3])] | _ => []) [2] mixed Tryz.func119 rfl rfl rfl rfl (by decide +kernel) (by simp) ?_
  cases b
  all_goals simp only [go_sem, reduceIte, Nat.reduceEqDiff, Nat.reduceAdd, Nat.reduceSub, Nat.reduceMul, Nat.reduceLT, Nat.reduceLeDiff, Nat.reducePow, Int.reduceToNat, Int.reduceLT, Int.reduceLE, Int.reduceEq, Int.reduceNe, Int.reduceAdd, Int.reduceSub, Int.reduceMul, Int.reduceNeg]
  all_goals exact finK_drop ⟨rfl, rfl, rfl⟩
theorem pget_ok (r : Rw) (id : Int) : VN P G 118 [.agg [.sl .none (r.map clD)], .int .i64 id] (.agg (valV r id).cells) := by
  unfold VN
  refine VC.small2 fun hsm => ?_
  have z1 := hsm (.agg [.sl .none (r.map clD)]) (List.mem_cons_self ..) (.sl .none (r.map clD)) (by simp [D.cells])
  simp only [Small, mostLen, List.length_map] at z1
  clear hsm
  refine VC.ofc (fun | 99999999 => [(0, [0, 1, 2, 4, 6, 8, 9, 10, 11, 17])] | _ => []) [.cell 4 81] mixed Tryz.func118 rfl rfl rfl rfl (by decide +kernel) (by simp) ?_
  simp only [go_sem, reduceIte, Nat.reduceEqDiff, Nat.reduceAdd, Nat.reduceSub, Nat.reduceMul, Nat.reduceLT, Nat.reduceLeDiff, Nat.reducePow, Int.reduceToNat, Int.reduceLT, Int.reduceLE, Int.reduceEq, Int.reduceNe, Int.reduceAdd, Int.reduceSub, Int.reduceMul, Int.reduceNeg]
  intro b2
  refine new_1 fun b4 h1 h2 => ?_
  try simp only [go_sem, reduceIte, Nat.reduceEqDiff, Nat.reduceAdd, Nat.reduceSub, Nat.reduceMul, Nat.reduceLT, Nat.reduceLeDiff, Nat.reducePow, Int.reduceToNat, Int.reduceLT, Int.reduceLE, Int.reduceEq, Int.reduceNe, Int.reduceAdd, Int.reduceSub, Int.reduceMul, Int.reduceNeg, h1, h2]
  have el : (r.map clD).length = r.length := by simp
  generalize hβ : Heap.set _ b4 _ = β0
  have e2 : β0 b2 = some [.sl .none (r.map clD)] := by rw [← hβ]; simp [Heap.set, h1, h2]
  have e4 : β0 b4 = some [.bool false, .int .i64 0, .str ByteArray.empty] := by rw [← hβ]; simp [Heap.set]
  clear hβ
  refine vwq_loop (fun v => ∃ (j : Nat), j ≤ r.length ∧ valV (r.drop j) id = valV r id ∧ v.σ 1 = .int .i64 id ∧ v.σ 4 = .pb b4 0 ∧ v.σ 8 = .sl .none (r.map clD) ∧ v.σ 9 = .int .i64 r.length ∧ v.σ 10 = .int .i64 j ∧ v.β b4 = some [.bool false, .int .i64 0, .str ByteArray.empty] ∧ v.ω = []) (fun v => r.length - (ival (v.σ 10)).toNat) ⟨0, by omega, rfl, rfl, rfl, rfl, by simp only [go_sem, reduceIte, Nat.reduceEqDiff, Nat.reduceAdd, Nat.reduceSub, Nat.reduceMul, Nat.reduceLT, Nat.reduceLeDiff, Nat.reducePow, Int.reduceToNat, Int.reduceLT, Int.reduceLE, Int.reduceEq, Int.reduceNe, Int.reduceAdd, Int.reduceSub, Int.reduceMul, Int.reduceNeg, el], rfl, e4, rfl⟩ ?_
  clear e2 e4 β0
  rintro σ β ω ⟨j, j1, j2, q1, q4, q8, q9, q10, e4, rfl⟩
  dsimp only at q1 q4 q8 q9 q10 e4
  try simp only [go_sem, reduceIte, Nat.reduceEqDiff, Nat.reduceAdd, Nat.reduceSub, Nat.reduceMul, Nat.reduceLT, Nat.reduceLeDiff, Nat.reducePow, Int.reduceToNat, Int.reduceLT, Int.reduceLE, Int.reduceEq, Int.reduceNe, Int.reduceAdd, Int.reduceSub, Int.reduceMul, Int.reduceNeg, q1, q4, q8, q9, q10, e4]
  refine cd_dec (fun g => ?_) (fun g => ?_)
  · obtain ⟨x, hx, ex⟩ := Cl_at (l := r) (j := j) (by omega)
    rw [drop_at hx, valV] at j2
    have g1 := eq_true g
    have wj := wrap_i64 (x := (j : Int) + 1) (by omega) (by omega)
    have c1 : ((0 : Int) ≤ j) = True := eq_true (by omega)
    try simp only [go_sem, reduceIte, Nat.reduceEqDiff, Nat.reduceAdd, Nat.reduceSub, Nat.reduceMul, Nat.reduceLT, Nat.reduceLeDiff, Nat.reducePow, Int.reduceToNat, Int.reduceLT, Int.reduceLE, Int.reduceEq, Int.reduceNe, Int.reduceAdd, Int.reduceSub, Int.reduceMul, Int.reduceNeg, q1, q4, q8, q9, q10, e4, ex, g1, c1, el]
    have N := trivial
    refine new_any fun b6 hb6 => ?_
    have N := And.intro N (box_ne hb6 e4)
    try simp only [go_sem, reduceIte, Nat.reduceEqDiff, Nat.reduceAdd, Nat.reduceSub, Nat.reduceMul, Nat.reduceLT, Nat.reduceLeDiff, Nat.reducePow, Int.reduceToNat, Int.reduceLT, Int.reduceLE, Int.reduceEq, Int.reduceNe, Int.reduceAdd, Int.reduceSub, Int.reduceMul, Int.reduceNeg, q1, q4, q8, q9, q10, e4, ex, g1, c1, el, N]
    refine cd_dec (fun k => ?_) (fun k => ?_)
    · try simp only [go_sem, reduceIte, Nat.reduceEqDiff, Nat.reduceAdd, Nat.reduceSub, Nat.reduceMul, Nat.reduceLT, Nat.reduceLeDiff, Nat.reducePow, Int.reduceToNat, Int.reduceLT, Int.reduceLE, Int.reduceEq, Int.reduceNe, Int.reduceAdd, Int.reduceSub, Int.reduceMul, Int.reduceNeg, q1, q4, q8, q9, q10, e4, ex, g1, c1, N]
      exact finK_drop ⟨by rw [← j2, if_pos k]; rfl, rfl, rfl⟩
    · try simp only [go_sem, reduceIte, Nat.reduceEqDiff, Nat.reduceAdd, Nat.reduceSub, Nat.reduceMul, Nat.reduceLT, Nat.reduceLeDiff, Nat.reducePow, Int.reduceToNat, Int.reduceLT, Int.reduceLE, Int.reduceEq, Int.reduceNe, Int.reduceAdd, Int.reduceSub, Int.reduceMul, Int.reduceNeg, q1, q4, q8, q9, q10, e4, ex, wj]
      rw [if_neg k] at j2
      exact ⟨⟨j + 1, by omega, j2, rfl, by simp [Heap.set, N, e4]⟩, by omega⟩
  · try simp only [go_sem, reduceIte, Nat.reduceEqDiff, Nat.reduceAdd, Nat.reduceSub, Nat.reduceMul, Nat.reduceLT, Nat.reduceLeDiff, Nat.reducePow, Int.reduceToNat, Int.reduceLT, Int.reduceLE, Int.reduceEq, Int.reduceNe, Int.reduceAdd, Int.reduceSub, Int.reduceMul, Int.reduceNeg, q1, q4, q8, q9, q10, e4]
    rw [List.drop_eq_nil_of_le (by omega), valV] at j2
    exact finK_drop ⟨by rw [← j2]; rfl, rfl, rfl⟩
def someF (stop : Int) : Int → List Int → Int
  | out, [] => out
  | out, t :: l => if t = stop then stop else if t = 2 then someF stop 2 l else someF stop out l
theorem some_ok (ks : List Pr) (stop : Int) (hs : 0 ≤ stop ∧ stop ≤ 1) {ev : Pr → Int} {f : FuncId} {fs cs : List D} (b : Nat) (X : List D) (hk : ∀ k ∈ ks, VQ P G f (fs ++ [.agg k.cells] ++ cs) b X (.int .i64 (ev k))) :
    VQ P G 117 ([] ++ [.sl .none (ks.map Pr.d), .int .i64 stop, .clo (.func f) fs cs] ++ []) b X (.int .i64 (someF stop (1 - stop) (ks.map ev))) := by
  unfold VQ
  simp only [List.nil_append, List.append_nil]
  refine VC.small2 fun hsm => ?_
  have z1 := hsm (.sl .none (ks.map Pr.d)) (List.mem_cons_self ..) (.sl .none (ks.map Pr.d)) (by simp [D.cells])
  simp only [Small, mostLen, List.length_map] at z1
  clear hsm
  refine VC.ofs (fun | 99999999 => [(0, [0, 1, 2, 6, 7, 9, 10, 13, 14, 15, 16, 22, 23, 27])] | _ => []) [6] mixed Tryz.func117 rfl rfl rfl rfl (by decide +kernel) (by simp) ?_
  have el : (ks.map Pr.d).length = ks.length := by simp
  have w0 := wrap_i64 (x := 1 - stop) (by omega) (by omega)
  simp only [go_sem, reduceIte, Nat.reduceEqDiff, Nat.reduceAdd, Nat.reduceSub, Nat.reduceMul, Nat.reduceLT, Nat.reduceLeDiff, Nat.reducePow, Int.reduceToNat, Int.reduceLT, Int.reduceLE, Int.reduceEq, Int.reduceNe, Int.reduceAdd, Int.reduceSub, Int.reduceMul, Int.reduceNeg, el, w0]
  refine vwq_loop (fun v => ∃ (j : Nat) (o : Int), j ≤ ks.length ∧ someF stop o ((ks.map ev).drop j) = someF stop (1 - stop) (ks.map ev) ∧ v.σ 1 = .int .i64 stop ∧ v.σ 2 = .clo (.func f) fs cs ∧ v.σ 7 = .int .i64 o ∧ v.σ 13 = .sl .none (ks.map Pr.d) ∧ v.σ 14 = .int .i64 ks.length ∧ v.σ 15 = .int .i64 j ∧ v.β b = some X ∧ v.ω = []) (fun v => ks.length - (ival (v.σ 15)).toNat) ⟨0, 1 - stop, by omega, rfl, rfl, rfl, rfl, rfl, rfl, rfl, by simp [Heap.set], rfl⟩ ?_
  rintro σ β ω ⟨j, o, hj, hf, q1, q2, q7, q13, q14, q15, eb, rfl⟩
  dsimp only at q1 q2 q7 q13 q14 q15 eb
  try simp only [go_sem, reduceIte, Nat.reduceEqDiff, Nat.reduceAdd, Nat.reduceSub, Nat.reduceMul, Nat.reduceLT, Nat.reduceLeDiff, Nat.reducePow, Int.reduceToNat, Int.reduceLT, Int.reduceLE, Int.reduceEq, Int.reduceNe, Int.reduceAdd, Int.reduceSub, Int.reduceMul, Int.reduceNeg, q1, q2, q7, q13, q14, q15]
  refine cd_dec (fun g => ?_) (fun g => ?_)
  · have g' := eq_true g
    obtain ⟨k, hx, ex⟩ := Pr_at (l := ks) (j := j) (by rw [List.length_map]; omega)
    have c1 : ((0 : Int) ≤ j) = True := eq_true (by omega)
    have wj := wrap_i64 (x := (j : Int) + 1) (by omega) (by omega)
    have hkk := hk k (List.mem_of_getElem? hx)
    have hx' : (ks.map ev)[j]? = some (ev k) := by rw [List.getElem?_map, hx]; rfl
    rw [drop_at hx', someF] at hf
    simp only [Pr.cells] at hkk
    try simp only [go_sem, reduceIte, Nat.reduceEqDiff, Nat.reduceAdd, Nat.reduceSub, Nat.reduceMul, Nat.reduceLT, Nat.reduceLeDiff, Nat.reducePow, Int.reduceToNat, Int.reduceLT, Int.reduceLE, Int.reduceEq, Int.reduceNe, Int.reduceAdd, Int.reduceSub, Int.reduceMul, Int.reduceNeg, q1, q2, q7, q13, q14, q15, c1, g', el, ex]
    have N := trivial
    refine new_any fun b9 hb9 => ?_
    have N := And.intro N (box_ne hb9 eb)
    try simp only [go_sem, reduceIte, Nat.reduceEqDiff, Nat.reduceAdd, Nat.reduceSub, Nat.reduceMul, Nat.reduceLT, Nat.reduceLeDiff, Nat.reducePow, Int.reduceToNat, Int.reduceLT, Int.reduceLE, Int.reduceEq, Int.reduceNe, Int.reduceAdd, Int.reduceSub, Int.reduceMul, Int.reduceNeg, q1, q2, q7, q13, q14, q15, c1, g', el, ex, N]
    refine cK_vq hkk (by simp [Heap.set, N, eb]) ?_
    generalize ev k = t at hf
    by_cases h1 : t = stop
    · rw [if_pos h1] at hf
      have h1' := eq_true h1
      try simp only [go_sem, reduceIte, Nat.reduceEqDiff, Nat.reduceAdd, Nat.reduceSub, Nat.reduceMul, Nat.reduceLT, Nat.reduceLeDiff, Nat.reducePow, Int.reduceToNat, Int.reduceLT, Int.reduceLE, Int.reduceEq, Int.reduceNe, Int.reduceAdd, Int.reduceSub, Int.reduceMul, Int.reduceNeg, q1, q2, q7, q13, q14, q15, c1, g', el, ex, N, h1', decide_true]
      exact finK_var (b := b) (x := X) (by simp [Heap.set, N, eb]) ⟨by rw [← hf]; rfl, rfl, rfl⟩
    · rw [if_neg h1] at hf
      have h1' := eq_false h1
      by_cases h2 : t = 2
      · rw [if_pos h2] at hf
        have h2' := eq_true h2
        try simp only [go_sem, reduceIte, Nat.reduceEqDiff, Nat.reduceAdd, Nat.reduceSub, Nat.reduceMul, Nat.reduceLT, Nat.reduceLeDiff, Nat.reducePow, Int.reduceToNat, Int.reduceLT, Int.reduceLE, Int.reduceEq, Int.reduceNe, Int.reduceAdd, Int.reduceSub, Int.reduceMul, Int.reduceNeg, q1, q2, q7, q13, q14, q15, c1, g', el, ex, N, h1', h2', decide_true, decide_false, wj]
        exact ⟨⟨j + 1, t, by omega, by rw [h2]; exact hf, rfl, rfl, by simp [Heap.set, N, eb]⟩, by omega⟩
      · rw [if_neg h2] at hf
        have h2' := eq_false h2
        try simp only [go_sem, reduceIte, Nat.reduceEqDiff, Nat.reduceAdd, Nat.reduceSub, Nat.reduceMul, Nat.reduceLT, Nat.reduceLeDiff, Nat.reducePow, Int.reduceToNat, Int.reduceLT, Int.reduceLE, Int.reduceEq, Int.reduceNe, Int.reduceAdd, Int.reduceSub, Int.reduceMul, Int.reduceNeg, q1, q2, q7, q13, q14, q15, c1, g', el, ex, N, h1', h2', decide_true, decide_false, wj]
        exact ⟨⟨j + 1, o, by omega, hf, rfl, rfl, by simp [Heap.set, N, eb]⟩, by omega⟩
  · try simp only [go_sem, reduceIte, Nat.reduceEqDiff, Nat.reduceAdd, Nat.reduceSub, Nat.reduceMul, Nat.reduceLT, Nat.reduceLeDiff, Nat.reducePow, Int.reduceToNat, Int.reduceLT, Int.reduceLE, Int.reduceEq, Int.reduceNe, Int.reduceAdd, Int.reduceSub, Int.reduceMul, Int.reduceNeg, q1, q2, q7, q13, q14, q15]
    rw [List.drop_eq_nil_of_le (by rw [List.length_map]; omega), someF] at hf
    exact finK_var (b := b) (x := X) eb ⟨by rw [← hf]; rfl, rfl, rfl⟩
theorem someF_and : ∀ (l : List Int) (o : Int), (o = 1 ∨ o = 2) → (∀ t ∈ l, t = 0 ∨ t = 1 ∨ t = 2) → someF 0 o l = if 0 ∈ l then 0 else if 2 ∈ l then 2 else o
  | [], o, _, _ => by simp [someF]
  | t :: l, o, ho, h => by
    have h1 := h t (by simp)
    have h2 : ∀ t ∈ l, t = 0 ∨ t = 1 ∨ t = 2 := fun t ht => h t (by simp [ht])
    rw [someF]
    rcases h1 with rfl | rfl | rfl
    · simp
    · rw [if_neg (by decide), if_neg (by decide), someF_and l o ho h2]; simp
    · rw [if_neg (by decide), if_pos rfl, someF_and l 2 (.inr rfl) h2]; simp
theorem someF_or : ∀ (l : List Int) (o : Int), (o = 0 ∨ o = 2) → (∀ t ∈ l, t = 0 ∨ t = 1 ∨ t = 2) → someF 1 o l = if 1 ∈ l then 1 else if 2 ∈ l then 2 else o
  | [], o, _, _ => by simp [someF]
  | t :: l, o, ho, h => by
    have h1 := h t (by simp)
    have h2 : ∀ t ∈ l, t = 0 ∨ t = 1 ∨ t = 2 := fun t ht => h t (by simp [ht])
    rw [someF]
    rcases h1 with rfl | rfl | rfl
    · rw [if_neg (by decide), if_neg (by decide), someF_or l o ho h2]; simp
    · simp
    · rw [if_neg (by decide), if_pos rfl, someF_or l 2 (.inr rfl) h2]; simp
theorem count_all {l : List Int} {a : Int} : ((l.count a : Nat) : Int) = l.length ↔ ∀ t ∈ l, t = a := by
  rw [Int.ofNat_inj, List.count_eq_length]
  exact ⟨fun h t ht => (h t ht).symm, fun h t ht => (h t ht).symm⟩
theorem evK_and (s : Int) {l : List Int} (h : ∀ t ∈ l, t = 0 ∨ t = 1 ∨ t = 2) : evK 5 s l = someF 0 1 l := by
  rw [someF_and l 1 (.inl rfl) h]
  simp only [evK]
  rw [if_neg (by decide), if_neg (by decide), if_pos trivial]
  have hp : (0 < ((l.count 0 : Nat) : Int)) ↔ 0 ∈ l := by rw [← List.count_pos_iff]; omega
  by_cases h0 : 0 ∈ l
  · rw [if_pos h0, if_pos (.inl (hp.2 h0)), decide_eq_false (by have := hp.2 h0; omega)]; rfl
  · rw [if_neg h0]
    by_cases h2 : 2 ∈ l
    · rw [if_pos h2, if_neg]
      rintro (h3 | h3)
      · exact h0 (hp.1 h3)
      · have := count_all.1 h3 2 h2; omega
    · rw [if_neg h2, if_pos (.inr (count_all.2 fun t ht => by
        rcases h t ht with rfl | rfl | rfl
        · exact absurd ht h0
        · rfl
        · exact absurd ht h2)), decide_eq_true (by have := mt hp.1 h0; omega)]; rfl
theorem evK_or (s : Int) {l : List Int} (h : ∀ t ∈ l, t = 0 ∨ t = 1 ∨ t = 2) : evK 6 s l = someF 1 0 l := by
  rw [someF_or l 0 (.inl rfl) h]
  simp only [evK]
  rw [if_neg (by decide), if_neg (by decide), if_neg (by decide), if_pos trivial]
  have hp : (0 < ((l.count 1 : Nat) : Int)) ↔ 1 ∈ l := by rw [← List.count_pos_iff]; omega
  by_cases h0 : 1 ∈ l
  · rw [if_pos h0, if_pos (.inl (hp.2 h0)), decide_eq_true (hp.2 h0)]; rfl
  · rw [if_neg h0]
    by_cases h2 : 2 ∈ l
    · rw [if_pos h2, if_neg]
      rintro (h3 | h3)
      · exact h0 (hp.1 h3)
      · have := count_all.1 h3 2 h2; omega
    · rw [if_neg h2, if_pos (.inr (count_all.2 fun t ht => by
        rcases h t ht with rfl | rfl | rfl
        · rfl
        · exact absurd ht h0
        · exact absurd ht h2)), decide_eq_false (mt hp.1 h0)]; rfl
theorem simple012 (p : Pr) (v : Vl) : simpleF p v = 0 ∨ simpleF p v = 1 ∨ simpleF p v = 2 := by
  have ht : ∀ b, truth b = 0 ∨ truth b = 1 := fun b => by cases b <;> simp [truth]
  unfold simpleF
  repeat' split
  all_goals first | exact .inr (.inr rfl) | (rcases ht _ with h | h; exact .inl h; exact .inr (.inl h))
theorem eval012 (r : Rw) (p : Pr) : evalP r p = 0 ∨ evalP r p = 1 ∨ evalP r p = 2 := by
  have ht : ∀ b, truth b = 0 ∨ truth b = 1 := fun b => by cases b <;> simp [truth]
  rw [evalP_eq, evK]
  repeat' split
  all_goals first | (exact .inr (.inl rfl)) | (exact .inr (.inr rfl)) | exact simple012 _ _ | (rcases ht _ with h | h; exact .inl h; exact .inr (.inl h))
theorem evK_not (s : Int) (t : Int) (h : t = 0 ∨ t = 1 ∨ t = 2) : evK 7 s [t] = if t = 2 then 2 else 1 - t := by
  rcases h with rfl | rfl | rfl <;> simp [evK, truth]
theorem evK_not' (s : Int) {l : List Int} (h : (l.length : Int) ≠ 1) : evK 7 s l = 2 := by
  simp only [evK]
  rw [if_neg (by decide), if_neg (by decide), if_neg (by decide), if_neg (by decide), if_pos trivial, if_neg (fun g => h g.1)]
theorem within_any {v : Vl} (h : v.null = false) (l : List Vl) : within v l = l.any fun x => decide (v = x) := by
  unfold within
  congr 1
  funext x
  obtain ⟨vn, vi, vs⟩ := v
  obtain ⟨xn, xi, xs⟩ := x
  dsimp only at h; subst h
  cases xn <;> simp [eq_comm]
theorem Eval1_ok {r : Rw} {k : Pr} (b : Nat) (h : VN P G 71 [.agg k.cells, .agg [.sl .none (r.map clD)]] (.int .i64 (evalP r k))) : VQ P G 116 ([] ++ [.agg k.cells] ++ [.pb b 0]) b [.sl .none (r.map clD)] (.int .i64 (evalP r k)) := by
  simp only [List.nil_append, List.cons_append]
  unfold VQ
  refine VC.ofs (fun | 99999999 => [(0, [0, 1, 2, 3])] | _ => []) [3] mixed Tryz.func116 rfl rfl rfl rfl (by decide +kernel) (by simp) ?_
  simp only [go_sem, reduceIte, Nat.reduceEqDiff, Nat.reduceAdd, Nat.reduceSub, Nat.reduceMul, Nat.reduceLT, Nat.reduceLeDiff, Nat.reducePow, Int.reduceToNat, Int.reduceLT, Int.reduceLE, Int.reduceEq, Int.reduceNe, Int.reduceAdd, Int.reduceSub, Int.reduceMul, Int.reduceNeg]
  refine new_1 fun b2 h1 h2 => ?_
  try simp only [go_sem, reduceIte, Nat.reduceEqDiff, Nat.reduceAdd, Nat.reduceSub, Nat.reduceMul, Nat.reduceLT, Nat.reduceLeDiff, Nat.reducePow, Int.reduceToNat, Int.reduceLT, Int.reduceLE, Int.reduceEq, Int.reduceNe, Int.reduceAdd, Int.reduceSub, Int.reduceMul, Int.reduceNeg, h1, h2, show k.cells.take 7 = k.cells from rfl, show k.cells.length = 7 from rfl, show isObj k.cells = false from rfl]
  (first | refine cK_vn (h) ?_ | refine cE_vn (h) ?_)
  try simp only [go_sem, reduceIte, Nat.reduceEqDiff, Nat.reduceAdd, Nat.reduceSub, Nat.reduceMul, Nat.reduceLT, Nat.reduceLeDiff, Nat.reducePow, Int.reduceToNat, Int.reduceLT, Int.reduceLE, Int.reduceEq, Int.reduceNe, Int.reduceAdd, Int.reduceSub, Int.reduceMul, Int.reduceNeg, h1, h2]
  exact finK_var (b := b) (by simp [Heap.set, h1, h2]) ⟨rfl, rfl, rfl⟩
set_option maxHeartbeats 4000000 in
theorem peval_step (r : Rw) (p : Pr) (ih : ∀ k ∈ p.kids, VN P G 71 [.agg k.cells, .agg [.sl .none (r.map clD)]] (.int .i64 (evalP r k))) : VN P G 71 [.agg p.cells, .agg [.sl .none (r.map clD)]] (.int .i64 (evalP r p)) := by
  have hv := pget_ok (G := G) r p.id
  have h012 : ∀ t ∈ p.kids.map (evalP r), t = 0 ∨ t = 1 ∨ t = 2 := fun t ht => by
    obtain ⟨k, _, rfl⟩ := List.mem_map.1 ht; exact eval012 r k
  have hE : evalP r p = evK p.op (simpleF p (valV r p.id)) (p.kids.map (evalP r)) := evalP_eq r p
  have hat := isAtom_ok (G := G) p.op
  rw [hE]
  simp only [Pr.cells] at ⊢
  unfold VN
  refine VC.ofs (fun | 99999999 => [(0, [0, 1, 2, 3, 4, 5, 6, 7, 10, 11, 13, 19, 25, 30, 38, 44, 49, 56, 59, 76])] | _ => []) [4] mixed Tryz.func71 rfl rfl rfl rfl (by decide +kernel) (by simp) ?_
  simp only [go_sem, reduceIte, Nat.reduceEqDiff, Nat.reduceAdd, Nat.reduceSub, Nat.reduceMul, Nat.reduceLT, Nat.reduceLeDiff, Nat.reducePow, Int.reduceToNat, Int.reduceLT, Int.reduceLE, Int.reduceEq, Int.reduceNe, Int.reduceAdd, Int.reduceSub, Int.reduceMul, Int.reduceNeg]
  intro b2
  refine new_1 fun b3 h1 h2 => ?_
  try simp only [go_sem, reduceIte, Nat.reduceEqDiff, Nat.reduceAdd, Nat.reduceSub, Nat.reduceMul, Nat.reduceLT, Nat.reduceLeDiff, Nat.reducePow, Int.reduceToNat, Int.reduceLT, Int.reduceLE, Int.reduceEq, Int.reduceNe, Int.reduceAdd, Int.reduceSub, Int.reduceMul, Int.reduceNeg, h1, h2]
  generalize hβ : Heap.set _ b3 _ = β0
  have e2 : β0 b2 = some [.int .i64 p.op, .int .i64 p.id, .int .i64 p.lo, .int .i64 p.hi, .sl .none (p.set.map Vl.d), .str p.text, .sl .none (p.kids.map Pr.d)] := by rw [← hβ]; simp [Heap.set, h1, h2]
  have e3 : β0 b3 = some [.sl .none (r.map clD)] := by rw [← hβ]; simp [Heap.set]
  clear hβ
  have hsome : ∀ stop : Int, 0 ≤ stop ∧ stop ≤ 1 → VQ P G 117 ([] ++ [.sl .none (p.kids.map Pr.d), .int .i64 stop, .clo (.func 116) [] [.pb b3 0]] ++ []) b3 [.sl .none (r.map clD)] (.int .i64 (someF stop (1 - stop) (p.kids.map (evalP r)))) := fun stop hs => some_ok p.kids stop hs b3 _ fun k hk => Eval1_ok b3 (ih k hk)
  by_cases o0 : p.op = 0
  · try simp only [go_sem, reduceIte, Nat.reduceEqDiff, Nat.reduceAdd, Nat.reduceSub, Nat.reduceMul, Nat.reduceLT, Nat.reduceLeDiff, Nat.reducePow, Int.reduceToNat, Int.reduceLT, Int.reduceLE, Int.reduceEq, Int.reduceNe, Int.reduceAdd, Int.reduceSub, Int.reduceMul, Int.reduceNeg, h1, h2, e2, o0]
    exact finK_drop ⟨by simp [evK, D.er, D.er1], rfl, rfl⟩
  by_cases o5 : p.op = 5
  · try simp only [go_sem, reduceIte, Nat.reduceEqDiff, Nat.reduceAdd, Nat.reduceSub, Nat.reduceMul, Nat.reduceLT, Nat.reduceLeDiff, Nat.reducePow, Int.reduceToNat, Int.reduceLT, Int.reduceLE, Int.reduceEq, Int.reduceNe, Int.reduceAdd, Int.reduceSub, Int.reduceMul, Int.reduceNeg, h1, h2, e2, o5]
    refine cK_vq (hsome 0 (by decide)) e3 ?_
    try simp only [go_sem, reduceIte, Nat.reduceEqDiff, Nat.reduceAdd, Nat.reduceSub, Nat.reduceMul, Nat.reduceLT, Nat.reduceLeDiff, Nat.reducePow, Int.reduceToNat, Int.reduceLT, Int.reduceLE, Int.reduceEq, Int.reduceNe, Int.reduceAdd, Int.reduceSub, Int.reduceMul, Int.reduceNeg, h1, h2, e2, o5]
    exact finK_drop ⟨by rw [evK_and _ h012]; rfl, rfl, rfl⟩
  by_cases o6 : p.op = 6
  · try simp only [go_sem, reduceIte, Nat.reduceEqDiff, Nat.reduceAdd, Nat.reduceSub, Nat.reduceMul, Nat.reduceLT, Nat.reduceLeDiff, Nat.reducePow, Int.reduceToNat, Int.reduceLT, Int.reduceLE, Int.reduceEq, Int.reduceNe, Int.reduceAdd, Int.reduceSub, Int.reduceMul, Int.reduceNeg, h1, h2, e2, o6]
    refine cK_vq (hsome 1 (by decide)) e3 ?_
    try simp only [go_sem, reduceIte, Nat.reduceEqDiff, Nat.reduceAdd, Nat.reduceSub, Nat.reduceMul, Nat.reduceLT, Nat.reduceLeDiff, Nat.reducePow, Int.reduceToNat, Int.reduceLT, Int.reduceLE, Int.reduceEq, Int.reduceNe, Int.reduceAdd, Int.reduceSub, Int.reduceMul, Int.reduceNeg, h1, h2, e2, o6]
    exact finK_drop ⟨by rw [evK_or _ h012]; rfl, rfl, rfl⟩
  have el : (p.kids.map Pr.d).length = p.kids.length := by simp
  by_cases o7 : p.op = 7
  · by_cases o8 : (p.kids.length : Int) = 1
    · obtain ⟨k, hk⟩ : ∃ k, p.kids = [k] := by
        match hx : p.kids, o8 with
        | [k], _ => exact ⟨k, rfl⟩
        | [], h => simp at h
        | _ :: _ :: _, h => simp at h; omega
      have hkk := Eval1_ok (G := G) b3 (ih k (by rw [hk]; simp))
      have o8' := eq_true o8
      have ek : (p.kids.map Pr.d).getD 0 .any = .agg k.cells := by rw [hk]; simp [Pr.d_eq]
      have h3 : evK 7 (simpleF p (valV r p.id)) (p.kids.map (evalP r)) = if evalP r k = 2 then 2 else 1 - evalP r k := by rw [hk]; exact evK_not _ _ (eval012 r k)
      have h4 := eval012 r k
      rw [o7, h3]
      try simp only [go_sem, reduceIte, Nat.reduceEqDiff, Nat.reduceAdd, Nat.reduceSub, Nat.reduceMul, Nat.reduceLT, Nat.reduceLeDiff, Nat.reducePow, Int.reduceToNat, Int.reduceLT, Int.reduceLE, Int.reduceEq, Int.reduceNe, Int.reduceAdd, Int.reduceSub, Int.reduceMul, Int.reduceNeg, h1, h2, e2, o7, el, o8', ek, show k.cells.take 7 = k.cells from rfl, show k.cells.length = 7 from rfl]
      refine ⟨by omega, cK_vq hkk e3 ?_⟩
      generalize evalP r k = t at h4
      have wt := wrap_i64 (x := 1 - t) (by omega) (by omega)
      try simp only [go_sem, reduceIte, Nat.reduceEqDiff, Nat.reduceAdd, Nat.reduceSub, Nat.reduceMul, Nat.reduceLT, Nat.reduceLeDiff, Nat.reducePow, Int.reduceToNat, Int.reduceLT, Int.reduceLE, Int.reduceEq, Int.reduceNe, Int.reduceAdd, Int.reduceSub, Int.reduceMul, Int.reduceNeg, h1, h2, e2, o7, ne_eq]
      refine cd_dec (fun g => ?_) (fun g => ?_)
      · try simp only [go_sem, reduceIte, Nat.reduceEqDiff, Nat.reduceAdd, Nat.reduceSub, Nat.reduceMul, Nat.reduceLT, Nat.reduceLeDiff, Nat.reducePow, Int.reduceToNat, Int.reduceLT, Int.reduceLE, Int.reduceEq, Int.reduceNe, Int.reduceAdd, Int.reduceSub, Int.reduceMul, Int.reduceNeg, h1, h2, e2, wt]
        exact finK_drop ⟨by rw [if_neg g]; rfl, rfl, rfl⟩
      · try simp only [go_sem, reduceIte, Nat.reduceEqDiff, Nat.reduceAdd, Nat.reduceSub, Nat.reduceMul, Nat.reduceLT, Nat.reduceLeDiff, Nat.reducePow, Int.reduceToNat, Int.reduceLT, Int.reduceLE, Int.reduceEq, Int.reduceNe, Int.reduceAdd, Int.reduceSub, Int.reduceMul, Int.reduceNeg, h1, h2, e2, wt]
        exact finK_drop ⟨by rw [if_pos (by omega)]; rfl, rfl, rfl⟩
    · have o8' := eq_false o8
      rw [o7, evK_not' _ (by rw [List.length_map]; exact o8)]
      try simp only [go_sem, reduceIte, Nat.reduceEqDiff, Nat.reduceAdd, Nat.reduceSub, Nat.reduceMul, Nat.reduceLT, Nat.reduceLeDiff, Nat.reducePow, Int.reduceToNat, Int.reduceLT, Int.reduceLE, Int.reduceEq, Int.reduceNe, Int.reduceAdd, Int.reduceSub, Int.reduceMul, Int.reduceNeg, h1, h2, e2, o7, el, o8', decide_false]
      exact finK_drop ⟨rfl, rfl, rfl⟩
  rw [show evK p.op (simpleF p (valV r p.id)) (p.kids.map (evalP r)) = if p.op = 1 ∨ p.op = 2 ∨ p.op = 3 ∨ p.op = 4 then simpleF p (valV r p.id) else 2 from by simp [evK, o0, o5, o6, o7]]
  unfold isAt at hat
  by_cases ho : 1 ≤ p.op ∧ p.op ≤ 4
  · rw [if_pos (show p.op = 1 ∨ p.op = 2 ∨ p.op = 3 ∨ p.op = 4 by omega)]
    rw [decide_eq_true ho.1, decide_eq_true ho.2] at hat
    obtain ⟨v, hvv⟩ : ∃ v, valV r p.id = v := ⟨_, rfl⟩
    rw [hvv] at hv ⊢
    have hco := Contains_ok (G := G) p.set v
    have hpf := HasPrefix_ok (G := G) v.s p.text
    have hw := within_any (v := v)
    obtain ⟨vn, vi, vs⟩ := v
    simp only [Vl.cells] at hv hco
    try simp only [go_sem, reduceIte, Nat.reduceEqDiff, Nat.reduceAdd, Nat.reduceSub, Nat.reduceMul, Nat.reduceLT, Nat.reduceLeDiff, Nat.reducePow, Int.reduceToNat, Int.reduceLT, Int.reduceLE, Int.reduceEq, Int.reduceNe, Int.reduceAdd, Int.reduceSub, Int.reduceMul, Int.reduceNeg, h1, h2, e2, o0, o5, o6, o7, decide_false]
    (first | refine cK_vn (hat) ?_ | refine cE_vn (hat) ?_)
    try simp only [go_sem, reduceIte, Nat.reduceEqDiff, Nat.reduceAdd, Nat.reduceSub, Nat.reduceMul, Nat.reduceLT, Nat.reduceLeDiff, Nat.reducePow, Int.reduceToNat, Int.reduceLT, Int.reduceLE, Int.reduceEq, Int.reduceNe, Int.reduceAdd, Int.reduceSub, Int.reduceMul, Int.reduceNeg, h1, h2, e2, e3, Bool.and_self]
    (first | refine cK_vn (hv) ?_ | refine cE_vn (hv) ?_)
    try simp only [go_sem, reduceIte, Nat.reduceEqDiff, Nat.reduceAdd, Nat.reduceSub, Nat.reduceMul, Nat.reduceLT, Nat.reduceLeDiff, Nat.reducePow, Int.reduceToNat, Int.reduceLT, Int.reduceLE, Int.reduceEq, Int.reduceNe, Int.reduceAdd, Int.reduceSub, Int.reduceMul, Int.reduceNeg, h1, h2, e2]
    have N := trivial
    refine new_any fun b7 hb7 => ?_
    have N := And.intro N (box_ne hb7 e2)
    have N := And.intro N (box_ne hb7 e3)
    try simp only [go_sem, reduceIte, Nat.reduceEqDiff, Nat.reduceAdd, Nat.reduceSub, Nat.reduceMul, Nat.reduceLT, Nat.reduceLeDiff, Nat.reducePow, Int.reduceToNat, Int.reduceLT, Int.reduceLE, Int.reduceEq, Int.reduceNe, Int.reduceAdd, Int.reduceSub, Int.reduceMul, Int.reduceNeg, N, h1, h2, e2]
    by_cases o4 : p.op = 4
    · try simp only [go_sem, reduceIte, Nat.reduceEqDiff, Nat.reduceAdd, Nat.reduceSub, Nat.reduceMul, Nat.reduceLT, Nat.reduceLeDiff, Nat.reducePow, Int.reduceToNat, Int.reduceLT, Int.reduceLE, Int.reduceEq, Int.reduceNe, Int.reduceAdd, Int.reduceSub, Int.reduceMul, Int.reduceNeg, N, h1, h2, e2, o4]
      (first | refine cK_vn (ptruth_ok _) ?_ | refine cE_vn (ptruth_ok _) ?_)
      try simp only [go_sem, reduceIte, Nat.reduceEqDiff, Nat.reduceAdd, Nat.reduceSub, Nat.reduceMul, Nat.reduceLT, Nat.reduceLeDiff, Nat.reducePow, Int.reduceToNat, Int.reduceLT, Int.reduceLE, Int.reduceEq, Int.reduceNe, Int.reduceAdd, Int.reduceSub, Int.reduceMul, Int.reduceNeg, N, h1, h2, e2, o4]
      exact finK_drop ⟨by simp [simpleF, o4, D.er, D.er1], rfl, rfl⟩
    cases vn
    · by_cases o1 : p.op = 1
      · by_cases k1 : p.lo ≤ vi
        · have k1' := eq_true k1
          try simp only [go_sem, reduceIte, Nat.reduceEqDiff, Nat.reduceAdd, Nat.reduceSub, Nat.reduceMul, Nat.reduceLT, Nat.reduceLeDiff, Nat.reducePow, Int.reduceToNat, Int.reduceLT, Int.reduceLE, Int.reduceEq, Int.reduceNe, Int.reduceAdd, Int.reduceSub, Int.reduceMul, Int.reduceNeg, N, h1, h2, e2, o4, o1, decide_false, k1', decide_true]
          (first | refine cK_vn (ptruth_ok _) ?_ | refine cE_vn (ptruth_ok _) ?_)
          try simp only [go_sem, reduceIte, Nat.reduceEqDiff, Nat.reduceAdd, Nat.reduceSub, Nat.reduceMul, Nat.reduceLT, Nat.reduceLeDiff, Nat.reducePow, Int.reduceToNat, Int.reduceLT, Int.reduceLE, Int.reduceEq, Int.reduceNe, Int.reduceAdd, Int.reduceSub, Int.reduceMul, Int.reduceNeg, N, h1, h2, e2]
          exact finK_drop ⟨by simp [simpleF, o1, k1, D.er, D.er1], rfl, rfl⟩
        · have k1' := eq_false k1
          try simp only [go_sem, reduceIte, Nat.reduceEqDiff, Nat.reduceAdd, Nat.reduceSub, Nat.reduceMul, Nat.reduceLT, Nat.reduceLeDiff, Nat.reducePow, Int.reduceToNat, Int.reduceLT, Int.reduceLE, Int.reduceEq, Int.reduceNe, Int.reduceAdd, Int.reduceSub, Int.reduceMul, Int.reduceNeg, N, h1, h2, e2, o4, o1, decide_false, k1']
          (first | refine cK_vn (ptruth_ok _) ?_ | refine cE_vn (ptruth_ok _) ?_)
          try simp only [go_sem, reduceIte, Nat.reduceEqDiff, Nat.reduceAdd, Nat.reduceSub, Nat.reduceMul, Nat.reduceLT, Nat.reduceLeDiff, Nat.reducePow, Int.reduceToNat, Int.reduceLT, Int.reduceLE, Int.reduceEq, Int.reduceNe, Int.reduceAdd, Int.reduceSub, Int.reduceMul, Int.reduceNeg, N, h1, h2, e2]
          exact finK_drop ⟨by simp [simpleF, o1, k1, D.er, D.er1], rfl, rfl⟩
      · by_cases o2 : p.op = 2
        · try simp only [go_sem, reduceIte, Nat.reduceEqDiff, Nat.reduceAdd, Nat.reduceSub, Nat.reduceMul, Nat.reduceLT, Nat.reduceLeDiff, Nat.reducePow, Int.reduceToNat, Int.reduceLT, Int.reduceLE, Int.reduceEq, Int.reduceNe, Int.reduceAdd, Int.reduceSub, Int.reduceMul, Int.reduceNeg, N, h1, h2, e2, o4, o1, o2, decide_false, decide_true]
          (first | refine cK_vn (hco) ?_ | refine cE_vn (hco) ?_)
          try simp only [go_sem, reduceIte, Nat.reduceEqDiff, Nat.reduceAdd, Nat.reduceSub, Nat.reduceMul, Nat.reduceLT, Nat.reduceLeDiff, Nat.reducePow, Int.reduceToNat, Int.reduceLT, Int.reduceLE, Int.reduceEq, Int.reduceNe, Int.reduceAdd, Int.reduceSub, Int.reduceMul, Int.reduceNeg, N, h1, h2, e2]
          (first | refine cK_vn (ptruth_ok _) ?_ | refine cE_vn (ptruth_ok _) ?_)
          try simp only [go_sem, reduceIte, Nat.reduceEqDiff, Nat.reduceAdd, Nat.reduceSub, Nat.reduceMul, Nat.reduceLT, Nat.reduceLeDiff, Nat.reducePow, Int.reduceToNat, Int.reduceLT, Int.reduceLE, Int.reduceEq, Int.reduceNe, Int.reduceAdd, Int.reduceSub, Int.reduceMul, Int.reduceNeg, N, h1, h2, e2]
          exact finK_drop ⟨by simp [simpleF, o2, hw rfl, D.er, D.er1], rfl, rfl⟩
        · try simp only [go_sem, reduceIte, Nat.reduceEqDiff, Nat.reduceAdd, Nat.reduceSub, Nat.reduceMul, Nat.reduceLT, Nat.reduceLeDiff, Nat.reducePow, Int.reduceToNat, Int.reduceLT, Int.reduceLE, Int.reduceEq, Int.reduceNe, Int.reduceAdd, Int.reduceSub, Int.reduceMul, Int.reduceNeg, N, h1, h2, e2, o4, o1, o2, decide_false, decide_true]
          (first | refine cK_vn (hpf) ?_ | refine cE_vn (hpf) ?_)
          try simp only [go_sem, reduceIte, Nat.reduceEqDiff, Nat.reduceAdd, Nat.reduceSub, Nat.reduceMul, Nat.reduceLT, Nat.reduceLeDiff, Nat.reducePow, Int.reduceToNat, Int.reduceLT, Int.reduceLE, Int.reduceEq, Int.reduceNe, Int.reduceAdd, Int.reduceSub, Int.reduceMul, Int.reduceNeg, N, h1, h2, e2]
          (first | refine cK_vn (ptruth_ok _) ?_ | refine cE_vn (ptruth_ok _) ?_)
          try simp only [go_sem, reduceIte, Nat.reduceEqDiff, Nat.reduceAdd, Nat.reduceSub, Nat.reduceMul, Nat.reduceLT, Nat.reduceLeDiff, Nat.reducePow, Int.reduceToNat, Int.reduceLT, Int.reduceLE, Int.reduceEq, Int.reduceNe, Int.reduceAdd, Int.reduceSub, Int.reduceMul, Int.reduceNeg, N, h1, h2, e2]
          exact finK_drop ⟨by simp [simpleF, o1, o2, o4, D.er, D.er1], rfl, rfl⟩
    · try simp only [go_sem, reduceIte, Nat.reduceEqDiff, Nat.reduceAdd, Nat.reduceSub, Nat.reduceMul, Nat.reduceLT, Nat.reduceLeDiff, Nat.reducePow, Int.reduceToNat, Int.reduceLT, Int.reduceLE, Int.reduceEq, Int.reduceNe, Int.reduceAdd, Int.reduceSub, Int.reduceMul, Int.reduceNeg, N, h1, h2, e2, o4, decide_false]
      exact finK_drop ⟨by simp [simpleF, o4, D.er, D.er1], rfl, rfl⟩
  · rw [if_neg (show ¬ (p.op = 1 ∨ p.op = 2 ∨ p.op = 3 ∨ p.op = 4) by omega)]
    rw [show (decide (1 ≤ p.op) && decide (p.op ≤ 4)) = false by simp; omega] at hat
    try simp only [go_sem, reduceIte, Nat.reduceEqDiff, Nat.reduceAdd, Nat.reduceSub, Nat.reduceMul, Nat.reduceLT, Nat.reduceLeDiff, Nat.reducePow, Int.reduceToNat, Int.reduceLT, Int.reduceLE, Int.reduceEq, Int.reduceNe, Int.reduceAdd, Int.reduceSub, Int.reduceMul, Int.reduceNeg, h1, h2, e2, o0, o5, o6, o7, decide_false]
    (first | refine cK_vn (hat) ?_ | refine cE_vn (hat) ?_)
    try simp only [go_sem, reduceIte, Nat.reduceEqDiff, Nat.reduceAdd, Nat.reduceSub, Nat.reduceMul, Nat.reduceLT, Nat.reduceLeDiff, Nat.reducePow, Int.reduceToNat, Int.reduceLT, Int.reduceLE, Int.reduceEq, Int.reduceNe, Int.reduceAdd, Int.reduceSub, Int.reduceMul, Int.reduceNeg, h1, h2, e2]
    exact finK_drop ⟨rfl, rfl, rfl⟩
theorem peval_ok (r : Rw) : ∀ (n : Nat) (p : Pr), SizeOf.sizeOf p ≤ n → VN P G 71 [.agg p.cells, .agg [.sl .none (r.map clD)]] (.int .i64 (evalP r p))
  | 0, p, h => by cases p; simp at h
  | n + 1, p, hn => peval_step r p fun k hk => peval_ok r n k (Nat.le_of_lt_succ (Nat.lt_of_lt_of_le (Pr.kid_lt (p := p) hk) hn))
theorem pEval_ok (r : Rw) (p : Pr) : VN P G 71 [.agg p.cells, .agg [.sl .none (r.map clD)]] (.int .i64 (evalP r p)) := peval_ok r _ p (Nat.le_refl _)
def matchF (p : Pr) (r : Rw) : Bool := decide (evalP r p = 1)
theorem pMatch_ok (r : Rw) (p : Pr) : VN P G 35 [.agg p.cells, .agg [.sl .none (r.map clD)]] (.bool (matchF p r)) := by
  have he := pEval_ok (G := G) r p
  unfold VN
  refine VC.ofs (fun | 99999999 => [(0, [0, 1, 2, 3, 4])] | _ => []) [4] mixed Tryz.func35 rfl rfl rfl rfl (by decide +kernel) (by simp) ?_
  simp only [go_sem, reduceIte, Nat.reduceEqDiff, Nat.reduceAdd, Nat.reduceSub, Nat.reduceMul, Nat.reduceLT, Nat.reduceLeDiff, Nat.reducePow, Int.reduceToNat, Int.reduceLT, Int.reduceLE, Int.reduceEq, Int.reduceNe, Int.reduceAdd, Int.reduceSub, Int.reduceMul, Int.reduceNeg]
  intro b0
  refine new_1 fun b1 h1 h2 => ?_
  try simp only [go_sem, reduceIte, Nat.reduceEqDiff, Nat.reduceAdd, Nat.reduceSub, Nat.reduceMul, Nat.reduceLT, Nat.reduceLeDiff, Nat.reducePow, Int.reduceToNat, Int.reduceLT, Int.reduceLE, Int.reduceEq, Int.reduceNe, Int.reduceAdd, Int.reduceSub, Int.reduceMul, Int.reduceNeg, h1, h2, show p.cells.take 7 = p.cells from rfl, show p.cells.length = 7 from rfl, show isObj p.cells = false from rfl]
  (first | refine cK_vn (he) ?_ | refine cE_vn (he) ?_)
  try simp only [go_sem, reduceIte, Nat.reduceEqDiff, Nat.reduceAdd, Nat.reduceSub, Nat.reduceMul, Nat.reduceLT, Nat.reduceLeDiff, Nat.reducePow, Int.reduceToNat, Int.reduceLT, Int.reduceLE, Int.reduceEq, Int.reduceNe, Int.reduceAdd, Int.reduceSub, Int.reduceMul, Int.reduceNeg, h1, h2]
  exact finK_drop ⟨rfl, rfl, rfl⟩
end Go.Proofs.YtpblgfgcoamgmaaGreatS
namespace Go.Proofs.YtpblgfgcoamgmaaGreatS
open Go Go.Proofs.YtpblgfgcoamgmaaGreatV

variable {G : Heap}
attribute [local irreducible] VN VC VX VQ VP VY

mutual
def subs : Pr → List Pr
  | .mk op id lo hi set text kids => .mk op id lo hi set text kids :: subsL kids
def subsL : List Pr → List Pr
  | [] => []
  | p :: l => subs p ++ subsL l
end
theorem subs_eq (p : Pr) : subs p = p :: subsL p.kids := by cases p; simp only [subs]; rfl
theorem subsL_nil : subsL [] = [] := by simp only [subsL]
theorem subsL_cons (p : Pr) (l : List Pr) : subsL (p :: l) = subs p ++ subsL l := by simp only [subsL]
theorem subsL_flat : ∀ l : List Pr, subsL l = l.flatMap subs
  | [] => by rw [subsL_nil]; rfl
  | p :: l => by rw [subsL_cons, subsL_flat l]; rfl
abbrev WkΦ (I : List Pr → Heap → List Nat → Prop) (J : Heap → List Nat → Prop) (vis : List Pr) (o : Out) (β : Heap) (ω : List Nat) : Prop :=
  (o = .ret (.bool true) ∧ I vis β ω) ∨ (o = .ret (.bool false) ∧ J β ω)
set_option maxHeartbeats 1000000 in
theorem walk_vc {l : Nat} {I : List Pr → Heap → List Nat → Prop} {J : Heap → List Nat → Prop} {tot : List Pr}
    (hy : ∀ q vis β ω, vis ++ [q] <+: tot → I vis β ω → VY P G l [.agg q.cells] β ω (WkΦ I J (vis ++ [q]))) :
    ∀ (n : Nat) (p : Pr), SizeOf.sizeOf p ≤ n → ∀ (vis : List Pr) (β : Heap) (ω : List Nat), vis ++ subs p <+: tot → I vis β ω → VC P G 127 [.agg p.cells, .clo (.yield l) [] []] β ω (WkΦ I J (vis ++ subs p))
  | 0, p, h, _, _, _, _, _ => by cases p; simp at h
  | n + 1, p, hn, vis, β, ω, hp, hI => by
    have hp0 : vis ++ [p] <+: tot := (by rw [subs_eq]; exact ⟨subsL p.kids, by simp⟩ : vis ++ [p] <+: vis ++ subs p).trans hp
    refine VC.small2 fun hsm => ?_
    have z1 := hsm (.agg p.cells) (List.mem_cons_self ..) (.sl .none (p.kids.map Pr.d)) (by simp [D.cells, Pr.cells])
    simp only [Small, mostLen, List.length_map] at z1
    clear hsm
    refine VC.ofs (fun | 99999999 => [(0, [0, 1, 2, 4, 6, 10, 12, 13, 14, 15, 21])] | _ => []) [4] mixed Tryz.func127 rfl rfl rfl rfl (by decide +kernel) (by simp) ?_
    have el : (p.kids.map Pr.d).length = p.kids.length := by simp
    simp only [go_sem, reduceIte, Nat.reduceEqDiff, Nat.reduceAdd, Nat.reduceSub, Nat.reduceMul, Nat.reduceLT, Nat.reduceLeDiff, Nat.reducePow, Int.reduceToNat, Int.reduceLT, Int.reduceLE, Int.reduceEq, Int.reduceNe, Int.reduceAdd, Int.reduceSub, Int.reduceMul, Int.reduceNeg]
    refine new_any fun b2 hb2 => ?_
    refine cK_fr (d := .clo (.yield l) [] []) (args := [.agg p.cells]) (hy p vis β ω hp0 hI) (part_new (part_refl β ω) hb2) ?_ ?_
    rotate_left
    · rintro r β1 ω1 (⟨h, _⟩ | ⟨h, _⟩) <;> cases h
    rintro r β1 ω1 β' ω' (⟨h, h1⟩ | ⟨h, h1⟩) hpt hkeep hω
    all_goals cases h
    · have e2 := hkeep b2 p.cells (by simp [Heap.set]) hb2
      try simp only [go_sem, reduceIte, Nat.reduceEqDiff, Nat.reduceAdd, Nat.reduceSub, Nat.reduceMul, Nat.reduceLT, Nat.reduceLeDiff, Nat.reducePow, Int.reduceToNat, Int.reduceLT, Int.reduceLE, Int.reduceEq, Int.reduceNe, Int.reduceAdd, Int.reduceSub, Int.reduceMul, Int.reduceNeg, e2, el]
      refine vwq_loop (fun v => ∃ (j : Nat) (β1 : Heap) (ω1 : List Nat), j ≤ p.kids.length ∧ I (vis ++ p :: subsL (p.kids.take j)) β1 ω1 ∧ Part β1 ω1 v.β v.ω ∧ v.σ 1 = .clo (.yield l) [] [] ∧ v.σ 12 = .sl .none (p.kids.map Pr.d) ∧ v.σ 13 = .int .i64 p.kids.length ∧ v.σ 14 = .int .i64 j) (fun v => p.kids.length - (ival (v.σ 14)).toNat) ⟨0, β1, ω1, by omega, by simpa [subsL_nil] using h1, hpt, rfl, rfl, rfl, rfl⟩ ?_
      clear h1 hpt hkeep hω e2 β1 ω1 hI hb2 b2
      rintro σ β ω ⟨j, β1, ω1, hj, hI, hpt, q1, q12, q13, q14⟩
      dsimp only at q1 q12 q13 q14 hpt
      try simp only [go_sem, reduceIte, Nat.reduceEqDiff, Nat.reduceAdd, Nat.reduceSub, Nat.reduceMul, Nat.reduceLT, Nat.reduceLeDiff, Nat.reducePow, Int.reduceToNat, Int.reduceLT, Int.reduceLE, Int.reduceEq, Int.reduceNe, Int.reduceAdd, Int.reduceSub, Int.reduceMul, Int.reduceNeg, q1, q12, q13, q14]
      refine cd_dec (fun g => ?_) (fun g => ?_)
      · have g' := eq_true g
        obtain ⟨k, hx, ex⟩ : ∃ k, p.kids[j]? = some k ∧ (p.kids.map Pr.d).getD j .any = .agg k.cells := by
          obtain ⟨k, h1, h2⟩ := at_map (f := Pr.d) (l := p.kids) (j := j) (by omega)
          exact ⟨k, h1, h2.trans k.d_eq⟩
        have hm := List.mem_of_getElem? hx
        have c1 : ((0 : Int) ≤ j) = True := eq_true (by omega)
        have wj := wrap_i64 (x := (j : Int) + 1) (by omega) (by omega)
        have ih := walk_vc hy n k (Nat.le_of_lt_succ (Nat.lt_of_lt_of_le (Pr.kid_lt (p := p) hm) hn)) (vis ++ p :: subsL (p.kids.take j)) β1 ω1
        have hnext : vis ++ p :: subsL (p.kids.take (j + 1)) = (vis ++ p :: subsL (p.kids.take j)) ++ subs k := by
          rw [List.take_add_one, hx, subsL_flat, subsL_flat, List.flatMap_append]; simp
        have hpre : vis ++ p :: subsL (p.kids.take (j + 1)) <+: vis ++ subs p := by
          rw [subs_eq, subsL_flat, subsL_flat]
          refine ⟨(p.kids.drop (j + 1)).flatMap subs, ?_⟩
          rw [List.append_assoc, List.cons_append, ← List.flatMap_append, List.take_append_drop]
        have ih := ih (by rw [← hnext]; exact hpre.trans hp) hI
        try simp only [go_sem, reduceIte, Nat.reduceEqDiff, Nat.reduceAdd, Nat.reduceSub, Nat.reduceMul, Nat.reduceLT, Nat.reduceLeDiff, Nat.reducePow, Int.reduceToNat, Int.reduceLT, Int.reduceLE, Int.reduceEq, Int.reduceNe, Int.reduceAdd, Int.reduceSub, Int.reduceMul, Int.reduceNeg, q1, q12, q13, q14, c1, g', ex, el]
        refine new_any fun b6 hb6 => ?_
        try simp only [go_sem, reduceIte, Nat.reduceEqDiff, Nat.reduceAdd, Nat.reduceSub, Nat.reduceMul, Nat.reduceLT, Nat.reduceLeDiff, Nat.reducePow, Int.reduceToNat, Int.reduceLT, Int.reduceLE, Int.reduceEq, Int.reduceNe, Int.reduceAdd, Int.reduceSub, Int.reduceMul, Int.reduceNeg, q1, q12, q13, q14]
        refine cK_fr (d := .clo (.func 127) [] []) (args := [.agg k.cells, .clo (.yield l) [] []]) ih (part_new hpt hb6) ?_ ?_
        rotate_left
        · rintro r β1 ω1 (⟨h, _⟩ | ⟨h, _⟩) <;> cases h
        rintro r β2 ω2 β' ω' (⟨h, h1⟩ | ⟨h, h1⟩) hpt2 _ _
        all_goals cases h
        · try simp only [go_sem, reduceIte, Nat.reduceEqDiff, Nat.reduceAdd, Nat.reduceSub, Nat.reduceMul, Nat.reduceLT, Nat.reduceLeDiff, Nat.reducePow, Int.reduceToNat, Int.reduceLT, Int.reduceLE, Int.reduceEq, Int.reduceNe, Int.reduceAdd, Int.reduceSub, Int.reduceMul, Int.reduceNeg, q1, q12, q13, q14, wj]
          exact ⟨⟨j + 1, β2, ω2, by omega, by rw [hnext]; exact h1, hpt2, rfl⟩, by omega⟩
        · try simp only [go_sem, reduceIte, Nat.reduceEqDiff, Nat.reduceAdd, Nat.reduceSub, Nat.reduceMul, Nat.reduceLT, Nat.reduceLeDiff, Nat.reducePow, Int.reduceToNat, Int.reduceLT, Int.reduceLE, Int.reduceEq, Int.reduceNe, Int.reduceAdd, Int.reduceSub, Int.reduceMul, Int.reduceNeg, q1, q12, q13, q14]
          exact finK_part hpt2 (.inr ⟨rfl, h1⟩)
      · try simp only [go_sem, reduceIte, Nat.reduceEqDiff, Nat.reduceAdd, Nat.reduceSub, Nat.reduceMul, Nat.reduceLT, Nat.reduceLeDiff, Nat.reducePow, Int.reduceToNat, Int.reduceLT, Int.reduceLE, Int.reduceEq, Int.reduceNe, Int.reduceAdd, Int.reduceSub, Int.reduceMul, Int.reduceNeg, q1, q12, q13, q14]
        rw [List.take_of_length_le (by omega)] at hI
        exact finK_part hpt (.inl ⟨rfl, by rw [subs_eq]; exact hI⟩)
    · try simp only [go_sem, reduceIte, Nat.reduceEqDiff, Nat.reduceAdd, Nat.reduceSub, Nat.reduceMul, Nat.reduceLT, Nat.reduceLeDiff, Nat.reducePow, Int.reduceToNat, Int.reduceLT, Int.reduceLE, Int.reduceEq, Int.reduceNe, Int.reduceAdd, Int.reduceSub, Int.reduceMul, Int.reduceNeg, ]
      exact finK_part hpt (.inr ⟨rfl, h1⟩)
theorem all_ok (p : Pr) : VC P G 81 [.agg p.cells] Heap.nil [] fun o β ω => ∃ b, o = .ret (.clo (.func 126) [] [.pb b 0]) ∧ β = Heap.nil.set b p.cells ∧ ω = [] := by
  refine VC.ofs (fun | 99999999 => [(0, [0, 1, 2])] | _ => []) [2] mixed Tryz.func81 rfl rfl rfl rfl (by decide +kernel) (by simp) ?_
  simp only [go_sem, reduceIte, Nat.reduceEqDiff, Nat.reduceAdd, Nat.reduceSub, Nat.reduceMul, Nat.reduceLT, Nat.reduceLeDiff, Nat.reducePow, Int.reduceToNat, Int.reduceLT, Int.reduceLE, Int.reduceEq, Int.reduceNe, Int.reduceAdd, Int.reduceSub, Int.reduceMul, Int.reduceNeg]
  exact fun b => finK_exact ⟨b, rfl, rfl, rfl⟩
theorem all1_vc {l bq : Nat} {I : List Pr → Heap → List Nat → Prop} {J : Heap → List Nat → Prop} {p : Pr} {vis : List Pr}
    (hy : ∀ q vis' β ω, vis' ++ [q] <+: vis ++ subs p → I vis' β ω → VY P G l [.agg q.cells] β ω (WkΦ I J (vis' ++ [q]))) {β : Heap} {ω : List Nat} (hq : β bq = some p.cells) (hI : I vis β ω) :
    VC P G 126 ([] ++ [.clo (.yield l) [] []] ++ [.pb bq 0]) β ω fun o β' ω' => o = .ret (.tup []) ∧ (I (vis ++ subs p) β' ω' ∨ J β' ω') := by
  refine VC.ofs (fun | 99999999 => [(0, [0, 1])] | _ => []) [] mixed Tryz.func126 rfl rfl rfl rfl (by decide +kernel) (by simp) ?_
  simp only [go_sem, reduceIte, Nat.reduceEqDiff, Nat.reduceAdd, Nat.reduceSub, Nat.reduceMul, Nat.reduceLT, Nat.reduceLeDiff, Nat.reducePow, Int.reduceToNat, Int.reduceLT, Int.reduceLE, Int.reduceEq, Int.reduceNe, Int.reduceAdd, Int.reduceSub, Int.reduceMul, Int.reduceNeg, hq]
  refine cK_fr (d := .clo (.func 127) [] []) (args := [.agg p.cells, .clo (.yield l) [] []]) (walk_vc hy _ p (Nat.le_refl _) vis β ω (List.prefix_refl _) hI) (part_refl β ω) ?_ ?_
  · rintro r β1 ω1 β' ω' (⟨h, h1⟩ | ⟨h, h1⟩) hpt _ _
    all_goals cases h
    all_goals simp only [go_sem, reduceIte, Nat.reduceEqDiff, Nat.reduceAdd, Nat.reduceSub, Nat.reduceMul, Nat.reduceLT, Nat.reduceLeDiff, Nat.reducePow, Int.reduceToNat, Int.reduceLT, Int.reduceLE, Int.reduceEq, Int.reduceNe, Int.reduceAdd, Int.reduceSub, Int.reduceMul, Int.reduceNeg]
    · exact finK_part hpt ⟨rfl, .inl h1⟩
    · exact finK_part hpt ⟨rfl, .inr h1⟩
  · rintro r β1 ω1 (⟨h, _⟩ | ⟨h, _⟩) <;> cases h
def Mon (β β' : Heap) : Prop := ∀ b cs, β b = some cs → isObj cs = false → β' b = some cs
theorem Mon.new {β : Heap} {l : Nat} {X : List D} (h : β l = none) : Mon β (β.set l X) := fun b cs e _ => by
  have : b ≠ l := fun h' => by rw [h', h] at e; cases e
  simp only [Heap.set, if_neg this]; exact e
theorem Mon.rec {β : Heap} {l : Nat} {X : List D} {r : Loop} {tm : Nat → D} (h : β l = some [.lp r tm]) : Mon β (β.set l X) := fun b cs e ho => by
  have : b ≠ l := fun h' => by rw [h', h] at e; cases e; cases ho
  simp only [Heap.set, if_neg this]; exact e
theorem Mon.drop {β : Heap} {l : Nat} {r : Loop} {tm : Nat → D} (h : β l = some [.lp r tm]) : Mon β (β.drop l) := fun b cs e ho => by
  have : b ≠ l := fun h' => by rw [h', h] at e; cases e; cases ho
  simp only [Heap.drop, if_neg this]; exact e
def rgQ (β0 : Heap) (bo l : Nat) (r : Loop) (σ : Nat → D) (I : Heap → List D → List Nat → Prop) (J : VE → Heap → List D → List Nat → Prop) (e : VE) (s : St) : Prop :=
  (∀ b cs, β0 b = some cs → b ≠ bo → s.β b = some cs) ∧ s.β l = some [.lp (LpBusy r) σ] ∧ ∃ c, s.β bo = some c ∧ match e with
    | .normal => I s.β c s.ω
    | e => J e s.β c s.ω
theorem rgQ_end {β0 : Heap} {bo l : Nat} {r : Loop} {σ : Nat → D} {I : Heap → List D → List Nat → Prop} {J : VE → Heap → List D → List Nat → Prop} {s : St} {c : List D} (h1 : ∀ b cs, β0 b = some cs → b ≠ bo → s.β b = some cs) (h2 : s.β l = some [.lp (LpBusy r) σ]) (h3 : s.β bo = some c) (h4 : I s.β c s.ω) : rgQ β0 bo l r σ I J .normal s := ⟨h1, h2, c, h3, h4⟩
theorem rgQ_out {β0 : Heap} {bo l : Nat} {r : Loop} {σ : Nat → D} {I : Heap → List D → List Nat → Prop} {J : VE → Heap → List D → List Nat → Prop} {s : St} {c : List D} (h1 : ∀ b cs, β0 b = some cs → b ≠ bo → s.β b = some cs) (h2 : s.β l = some [.lp (LpBusy r) σ]) (h3 : s.β bo = some c) (h4 : J .ret s.β c s.ω) : rgQ β0 bo l r σ I J .ret s := ⟨h1, h2, c, h3, h4⟩
set_option maxHeartbeats 1000000 in
theorem rg_all {pb : Bool} (ct : Cert) {p : Pr} {bq bo : Nat} {β0 : Heap} {ω0 : List Nat} {ps : Array Tmp} {x y : Code} {Q : VE → St → Prop} {σ : Nat → D} {c0 : List D} (hq : β0 bq = some p.cells) (ho : β0 bo = some c0)
    {I : List Pr → Heap → List D → List Nat → Prop} {J : VE → Heap → List D → List Nat → Prop} (h0 : I [] β0 c0 ω0) (hJ : ∀ d β c ω, ¬ J (.panic d) β c ω) (hIm : ∀ vis β β' c ω, Mon β β' → I vis β c ω → I vis β' c ω) (hJm : ∀ e β β' c ω, Mon β β' → J e β c ω → J e β' c ω)
    (hps : ps.size = 1) (hnx : noRange x = true) (hny : noRange y = true) (hox : okCode ct x = true) (hoy : okCode ct y = true)
    (hround : ∀ (l : Nat) (r : Loop) (q : Pr) (vis : List Pr) (β : Heap) (c : List D) (ω : List Nat), β0 l = none → vis ++ [q] <+: subs p → I vis β c ω → (∀ b cs, β0 b = some cs → b ≠ bo → β b = some cs) → β bo = some c → β l = some [.lp r σ] →
      vwq pb ct P G x (VE.then (fun s1 => s1.β l = some [.lp r σ] ∧ vwq pb ct P G y (rgQ β0 bo l r σ (I (vis ++ [q])) J) ⟨s1.σ, s1.β.set l [.lp (LpBusy r) σ], s1.ω⟩) (fun _ _ => False)) ⟨roundσ σ ps.toList [.agg q.cells], β, ω⟩)
    (hend : ∀ β c ω, (∀ b cs, β0 b = some cs → b ≠ bo → β b = some cs) → β bo = some c → I (subs p) β c ω → Q .normal ⟨σ, β, ω⟩)
    (hout : ∀ e β c ω, (∀ b cs, β0 b = some cs → b ≠ bo → β b = some cs) → β bo = some c → J e β c ω → Q e ⟨σ, β, ω⟩) :
    rgK P G (.clo (.func 126) [] [.pb bq 0]) True ps x y Q σ β0 ω0 := by
  refine ⟨trivial, ⟨_, Tryz.func126, rfl, rfl⟩, fun l r hl hn => ?_⟩
  have hlb : ∀ b cs, β0 b = some cs → b ≠ l := fun b cs h e => by rw [e, hl] at h; cases h
  have hlo := hlb bo c0 ho
  refine (all1_vc (l := l) (bq := bq) (p := p) (vis := [])
    (I := fun vis β ω => β l = some [.lp r σ] ∧ (∀ b cs, β0 b = some cs → b ≠ bo → β b = some cs) ∧ ∃ c, β bo = some c ∧ I vis β c ω)
    (J := fun β ω => ∃ (r' : Loop) (e : VE), β l = some [.lp r' σ] ∧ r'.state ≠ .busy ∧ (∀ (Q : VE → St → Prop) s, Q e s → rangeOut r'.pending Q s) ∧ (∀ b cs, β0 b = some cs → b ≠ bo → β b = some cs) ∧ ∃ c, β bo = some c ∧ J e β c ω)
    ?_ (by simp [Heap.set, hlb bq _ hq, hq]) ⟨by simp [Heap.set], fun b cs h _ => by simp [Heap.set, hlb b cs h, h], c0, by simp [Heap.set, hlo, ho], hIm _ _ _ _ _ (Mon.new hl) h0⟩).mono ?_
  · rintro q vis β ω hq ⟨hl1, hk, c, hc, hI⟩
    have h := hround l r q vis β c ω hl (by simpa using hq) hI hk hc hl1
    have hset : ∀ (β : Heap) X, (∀ b cs, β0 b = some cs → b ≠ bo → β b = some cs) → (∀ b cs, β0 b = some cs → b ≠ bo → (β.set l X) b = some cs) := fun β X h b cs h1 h2 => by
      simp only [Heap.set, if_neg (hlb b cs h1)]; exact h b cs h1 h2
    have hfin : ∀ e s, rgQ β0 bo l r σ (I (vis ++ [q])) J e s → rdQ l r σ (WkΦ (fun vis β ω => β l = some [.lp r σ] ∧ (∀ b cs, β0 b = some cs → b ≠ bo → β b = some cs) ∧ ∃ c, β bo = some c ∧ I vis β c ω)
        (fun β ω => ∃ (r' : Loop) (e : VE), β l = some [.lp r' σ] ∧ r'.state ≠ .busy ∧ (∀ (Q : VE → St → Prop) s, Q e s → rangeOut r'.pending Q s) ∧ (∀ b cs, β0 b = some cs → b ≠ bo → β b = some cs) ∧ ∃ c, β bo = some c ∧ J e β c ω) (vis ++ [q])) e s := by
      rintro e s ⟨g1, g2, c', g3, g4⟩
      have hm : ∀ X, Mon s.β (s.β.set l X) := fun X => Mon.rec g2
      cases e with
      | normal => exact ⟨g2, .inl ⟨rfl, by simp [Heap.set], hset _ _ g1, c', by simp only [Heap.set, if_neg hlo]; exact g3, hIm _ _ _ _ _ (hm _) g4⟩⟩
      | ret => exact ⟨g2, .inr ⟨rfl, LpDone r .ret, .ret, by simp [Heap.set], by simp [LpDone], fun Q s h => h, hset _ _ g1, c', by simp only [Heap.set, if_neg hlo]; exact g3, hJm _ _ _ _ _ (hm _) g4⟩⟩
      | exit i => exact ⟨g2, .inr ⟨rfl, LpDone r (.exit i), .exit i, by simp [Heap.set], by simp [LpDone], fun Q s h => h, hset _ _ g1, c', by simp only [Heap.set, if_neg hlo]; exact g3, hJm _ _ _ _ _ (hm _) g4⟩⟩
      | goto i => exact ⟨g2, .inr ⟨rfl, LpDone r (.goto i), .goto i, by simp [Heap.set], by simp [LpDone], fun Q s h => h, hset _ _ g1, c', by simp only [Heap.set, if_neg hlo]; exact g3, hJm _ _ _ _ _ (hm _) g4⟩⟩
      | panic d => exact (hJ _ _ _ _ g4).elim
    exact VY.roundw ct mixed hl1 hn (by simp [hps]) hnx hny hox hoy hfin h
  · rintro o β' ω' ⟨rfl, ⟨g1, g2, c, g3, g4⟩ | ⟨r', e, g1, g2, g3, g4, c, g5, g6⟩⟩
    · refine ⟨r, σ, g1, by rw [hn.state]; exact fun h => (by cases h), ?_⟩
      rw [hn.pending]
      refine hend _ c _ (fun b cs h1 h2 => ?_) ?_ (hIm _ _ _ _ _ (Mon.drop g1) g4)
      · simp only [Heap.drop, if_neg (hlb b cs h1)]; exact g2 b cs h1 h2
      · simp only [Heap.drop, if_neg hlo]; exact g3
    · refine ⟨r', σ, g1, g2, g3 _ _ (hout e _ c _ (fun b cs h1 h2 => ?_) ?_ (hJm _ _ _ _ _ (Mon.drop g1) g6))⟩
      · simp only [Heap.drop, if_neg (hlb b cs h1)]; exact g4 b cs h1 h2
      · simp only [Heap.drop, if_neg hlo]; exact g5
theorem rg_head {β0 β : Heap} {bo l : Nat} {r : Loop} {σ : Nat → D} {c : List D} (hl : β0 l = none) (hk : ∀ b cs, β0 b = some cs → b ≠ bo → β b = some cs) (hbo : β bo = some c) (hlr : β l = some [.lp r σ]) (hob : isObj c = false) {b : Nat} (hb : β b = none) (X : List D) (β' : Heap) (h : (β.set b X).set l [.lp (LpBusy r) σ] = β') :
    (∀ b cs, β0 b = some cs → b ≠ bo → β' b = some cs) ∧ β' bo = some c ∧ β' l = some [.lp (LpBusy r) σ] ∧ β' b = some X ∧ β0 b = none := by
  have hbl : b ≠ l := fun e => by rw [e, hlr] at hb; cases hb
  have hbb : b ≠ bo := fun e => by rw [e, hbo] at hb; cases hb
  have hlo : bo ≠ l := fun e => by rw [e, hlr] at hbo; cases hbo; cases hob
  subst h
  refine ⟨fun b' cs h1 h2 => ?_, ?_, by simp [Heap.set], by simp [Heap.set, hbl], ?_⟩
  · have e1 : b' ≠ l := fun e => by rw [e, hl] at h1; cases h1
    have e2 : b' ≠ b := fun e => by have := hk b' cs h1 h2; rw [e, hb] at this; cases this
    simp only [Heap.set, if_neg e1, if_neg e2]; exact hk b' cs h1 h2
  · simp only [Heap.set, if_neg hlo, if_neg (Ne.symm hbb)]; exact hbo
  · cases e : β0 b with
    | none => rfl
    | some x => have := hk b x e hbb; rw [hb] at this; cases this
end Go.Proofs.YtpblgfgcoamgmaaGreatS
namespace Go.Proofs.YtpblgfgcoamgmaaGreatS
open Go Go.Proofs.YtpblgfgcoamgmaaGreatV

variable {G : Heap}
attribute [local irreducible] VN VC VX VQ VP VY VW

def depN : Nat → Pr → Nat
  | 0, _ => 1
  | n + 1, p => (p.kids.map (depN n)).foldl max 0 + 1
theorem depN_le : ∀ n p, depN n p ≤ n + 1
  | 0, p => by simp [depN]
  | n + 1, p => by
    have h : ∀ (l : List Nat) (a : Nat), a ≤ n + 1 → (∀ x ∈ l, x ≤ n + 1) → l.foldl max a ≤ n + 1 := by
      intro l
      induction l with
      | nil => intro a ha _; simpa using ha
      | cons x l ih => intro a ha hl; exact ih _ (by have := hl x (by simp); omega) fun y hy => hl y (by simp [hy])
    have := h (p.kids.map (depN n)) 0 (by omega) fun x hx => by
      obtain ⟨k, _, rfl⟩ := List.mem_map.1 hx; exact depN_le n k
    simp only [depN]; omega
theorem depth_ok : ∀ (n : Nat) (p : Pr), n ≤ 100 → VN P G 124 [.agg p.cells, .int .i64 ((n : Int) + 1)] (.int .i64 (depN n p))
  | n, p, hn => by
    unfold VN
    refine VC.small2 fun hsm => ?_
    have z1 := hsm (.agg p.cells) (List.mem_cons_self ..) (.sl .none (p.kids.map Pr.d)) (by simp [D.cells, Pr.cells])
    simp only [Small, mostLen, List.length_map] at z1
    clear hsm
    refine VC.ofs (fun | 99999999 => [(0, [0, 1, 2, 4, 5, 7, 9, 11, 12, 13, 14])] | _ => []) [4] mixed Tryz.func124 rfl rfl rfl rfl (by decide +kernel) (by simp) ?_
    simp only [go_sem, reduceIte, Nat.reduceEqDiff, Nat.reduceAdd, Nat.reduceSub, Nat.reduceMul, Nat.reduceLT, Nat.reduceLeDiff, Nat.reducePow, Int.reduceToNat, Int.reduceLT, Int.reduceLE, Int.reduceEq, Int.reduceNe, Int.reduceAdd, Int.reduceSub, Int.reduceMul, Int.reduceNeg]
    intro b2
    have el : (p.kids.map Pr.d).length = p.kids.length := by simp
    cases n with
    | zero =>
      try simp only [go_sem, reduceIte, Nat.reduceEqDiff, Nat.reduceAdd, Nat.reduceSub, Nat.reduceMul, Nat.reduceLT, Nat.reduceLeDiff, Nat.reducePow, Int.reduceToNat, Int.reduceLT, Int.reduceLE, Int.reduceEq, Int.reduceNe, Int.reduceAdd, Int.reduceSub, Int.reduceMul, Int.reduceNeg, Int.lt_irrefl, decide_false, show ((1 : Int) < ((0 : Nat) : Int) + 1) = False from by simp]
      exact finK_drop ⟨rfl, rfl, rfl⟩
    | succ n =>
      have g1 : ((1 : Int) < ((n + 1 : Nat) : Int) + 1) = True := eq_true (by omega)
      try simp only [go_sem, reduceIte, Nat.reduceEqDiff, Nat.reduceAdd, Nat.reduceSub, Nat.reduceMul, Nat.reduceLT, Nat.reduceLeDiff, Nat.reducePow, Int.reduceToNat, Int.reduceLT, Int.reduceLE, Int.reduceEq, Int.reduceNe, Int.reduceAdd, Int.reduceSub, Int.reduceMul, Int.reduceNeg, g1, el]
      generalize hβ : Heap.set _ b2 _ = β0
      have e2 : β0 b2 = some p.cells := by rw [← hβ]; simp [Heap.set]
      clear hβ
      refine vwq_loop (fun v => ∃ (j m : Nat), j ≤ p.kids.length ∧ ((p.kids.drop j).map (depN n)).foldl max m = (p.kids.map (depN n)).foldl max 0 ∧ m ≤ n + 1 ∧ v.σ 1 = .int .i64 (((n + 1 : Nat) : Int) + 1) ∧ v.σ 5 = .int .i64 m ∧ v.σ 11 = .sl .none (p.kids.map Pr.d) ∧ v.σ 12 = .int .i64 p.kids.length ∧ v.σ 13 = .int .i64 j ∧ v.ω = []) (fun v => p.kids.length - (ival (v.σ 13)).toNat) ⟨0, 0, by omega, rfl, by omega, rfl, rfl, rfl, rfl, rfl, rfl⟩ ?_
      clear e2 β0
      rintro σ β ω ⟨j, m, hj, hf, hm, q1, q5, q11, q12, q13, rfl⟩
      dsimp only at q1 q5 q11 q12 q13
      try simp only [go_sem, reduceIte, Nat.reduceEqDiff, Nat.reduceAdd, Nat.reduceSub, Nat.reduceMul, Nat.reduceLT, Nat.reduceLeDiff, Nat.reducePow, Int.reduceToNat, Int.reduceLT, Int.reduceLE, Int.reduceEq, Int.reduceNe, Int.reduceAdd, Int.reduceSub, Int.reduceMul, Int.reduceNeg, q1, q5, q11, q12, q13]
      refine cd_dec (fun g => ?_) (fun g => ?_)
      · have g' := eq_true g
        obtain ⟨k, hx, ex⟩ := Pr_pat (ps := p.kids) (j := j) (by omega)
        have c1 : ((0 : Int) ≤ j) = True := eq_true (by omega)
        have wj := wrap_i64 (x := (j : Int) + 1) (by omega) (by omega)
        have w1 : IntKind.i64.wrap (((n + 1 : Nat) : Int) + 1 - 1) = (n : Int) + 1 := by rw [wrap_i64 (by omega) (by omega)]; omega
        have ih := depth_ok n k (by omega)
        have hk := depN_le n k
        rw [drop_at hx, List.map_cons, List.foldl_cons] at hf
        try simp only [go_sem, reduceIte, Nat.reduceEqDiff, Nat.reduceAdd, Nat.reduceSub, Nat.reduceMul, Nat.reduceLT, Nat.reduceLeDiff, Nat.reducePow, Int.reduceToNat, Int.reduceLT, Int.reduceLE, Int.reduceEq, Int.reduceNe, Int.reduceAdd, Int.reduceSub, Int.reduceMul, Int.reduceNeg, q1, q5, q11, q12, q13, c1, g', ex, el]
        have N := trivial
        refine new_any fun b7 hb7 => ?_
        try simp only [go_sem, reduceIte, Nat.reduceEqDiff, Nat.reduceAdd, Nat.reduceSub, Nat.reduceMul, Nat.reduceLT, Nat.reduceLeDiff, Nat.reducePow, Int.reduceToNat, Int.reduceLT, Int.reduceLE, Int.reduceEq, Int.reduceNe, Int.reduceAdd, Int.reduceSub, Int.reduceMul, Int.reduceNeg, q1, q5, q11, q12, q13, c1, g', ex, el, w1]
        refine cK_vn ih ?_
        try simp only [go_sem, reduceIte, Nat.reduceEqDiff, Nat.reduceAdd, Nat.reduceSub, Nat.reduceMul, Nat.reduceLT, Nat.reduceLeDiff, Nat.reducePow, Int.reduceToNat, Int.reduceLT, Int.reduceLE, Int.reduceEq, Int.reduceNe, Int.reduceAdd, Int.reduceSub, Int.reduceMul, Int.reduceNeg, q1, q5, q11, q12, q13, c1, g', ex, el, wj]
        refine ⟨⟨j + 1, max m (depN n k), by omega, hf, by omega, ?_, rfl⟩, by omega⟩
        congr 1; split <;> omega
      · try simp only [go_sem, reduceIte, Nat.reduceEqDiff, Nat.reduceAdd, Nat.reduceSub, Nat.reduceMul, Nat.reduceLT, Nat.reduceLeDiff, Nat.reducePow, Int.reduceToNat, Int.reduceLT, Int.reduceLE, Int.reduceEq, Int.reduceNe, Int.reduceAdd, Int.reduceSub, Int.reduceMul, Int.reduceNeg, q1, q5, q11, q12, q13]
        rw [List.drop_eq_nil_of_le (by omega)] at hf
        have wm := wrap_i64 (x := (m : Int) + 1) (by omega) (by omega)
        try simp only [go_sem, reduceIte, Nat.reduceEqDiff, Nat.reduceAdd, Nat.reduceSub, Nat.reduceMul, Nat.reduceLT, Nat.reduceLeDiff, Nat.reducePow, Int.reduceToNat, Int.reduceLT, Int.reduceLE, Int.reduceEq, Int.reduceNe, Int.reduceAdd, Int.reduceSub, Int.reduceMul, Int.reduceNeg, q1, q5, q11, q12, q13, wm]
        refine finK_drop ⟨?_, rfl, rfl⟩
        simp only [List.map_nil, List.foldl_nil] at hf
        simp only [depN, ← hf]; rfl
def usedP (p : Pr) : Pr := .mk p.op (if isAt p.op then p.id else 0) (if p.op = 1 then p.lo else 0) (if p.op = 1 then p.hi else 0) (if p.op = 2 then p.set else []) (if p.op = 3 then p.text else ByteArray.empty) (if 5 ≤ p.op ∧ p.op ≤ 7 then p.kids else [])
theorem usedP_cells (p : Pr) : (usedP p).cells = [.int .i64 p.op, .int .i64 (if isAt p.op then p.id else 0), .int .i64 (if p.op = 1 then p.lo else 0), .int .i64 (if p.op = 1 then p.hi else 0), .sl .none ((if p.op = 2 then p.set else []).map Vl.d), .str (if p.op = 3 then p.text else ByteArray.empty), .sl .none ((if 5 ≤ p.op ∧ p.op ≤ 7 then p.kids else []).map Pr.d)] := rfl
theorem used_ok (p : Pr) : VN P G 158 [.agg p.cells] (.agg (usedP p).cells) := by
  have ha := isAtom_ok (G := G) p.op
  unfold VN
  refine VC.ofc (fun | 6 => [(0, []), (1, []), (2, []), (3, [5]), (4, []), (5, []), (6, []), (7, [])] | 99999999 => [(0, [0, 1, 2, 3, 9, 14, 15, 23, 28, 33])] | _ => []) [.cell 2 40] mixed Tryz.func158 rfl rfl rfl rfl (by decide +kernel) (by simp) ?_
  simp only [go_sem, reduceIte, Nat.reduceEqDiff, Nat.reduceAdd, Nat.reduceSub, Nat.reduceMul, Nat.reduceLT, Nat.reduceLeDiff, Nat.reducePow, Int.reduceToNat, Int.reduceLT, Int.reduceLE, Int.reduceEq, Int.reduceNe, Int.reduceAdd, Int.reduceSub, Int.reduceMul, Int.reduceNeg]
  intro b1
  refine new_1 fun b2 h1 h2 => ?_
  try simp only [go_sem, reduceIte, Nat.reduceEqDiff, Nat.reduceAdd, Nat.reduceSub, Nat.reduceMul, Nat.reduceLT, Nat.reduceLeDiff, Nat.reducePow, Int.reduceToNat, Int.reduceLT, Int.reduceLE, Int.reduceEq, Int.reduceNe, Int.reduceAdd, Int.reduceSub, Int.reduceMul, Int.reduceNeg, h1, h2]
  refine new_2 fun b3 h3 h4 h5 => ?_
  try simp only [go_sem, reduceIte, Nat.reduceEqDiff, Nat.reduceAdd, Nat.reduceSub, Nat.reduceMul, Nat.reduceLT, Nat.reduceLeDiff, Nat.reducePow, Int.reduceToNat, Int.reduceLT, Int.reduceLE, Int.reduceEq, Int.reduceNe, Int.reduceAdd, Int.reduceSub, Int.reduceMul, Int.reduceNeg, h1, h2, h3, h4, h5]
  refine cK_vn ha ?_
  cases hx : isAt p.op
  · try simp only [go_sem, reduceIte, Nat.reduceEqDiff, Nat.reduceAdd, Nat.reduceSub, Nat.reduceMul, Nat.reduceLT, Nat.reduceLeDiff, Nat.reducePow, Int.reduceToNat, Int.reduceLT, Int.reduceLE, Int.reduceEq, Int.reduceNe, Int.reduceAdd, Int.reduceSub, Int.reduceMul, Int.reduceNeg, h1, h2, h3, h4, h5]
    by_cases k1 : p.op = 1
    · simp [isAt, k1] at hx
    by_cases k2 : p.op = 2
    · simp [isAt, k2] at hx
    by_cases k3 : p.op = 3
    · simp [isAt, k3] at hx
    by_cases k5 : p.op = 5
    · try simp only [go_sem, reduceIte, Nat.reduceEqDiff, Nat.reduceAdd, Nat.reduceSub, Nat.reduceMul, Nat.reduceLT, Nat.reduceLeDiff, Nat.reducePow, Int.reduceToNat, Int.reduceLT, Int.reduceLE, Int.reduceEq, Int.reduceNe, Int.reduceAdd, Int.reduceSub, Int.reduceMul, Int.reduceNeg, h1, h2, h3, h4, h5, k1, k2, k3, k5]
      exact finK_drop ⟨by rw [usedP_cells]; simp [isAt, k5, D.er, D.er1], rfl, rfl⟩
    by_cases k6 : p.op = 6
    · try simp only [go_sem, reduceIte, Nat.reduceEqDiff, Nat.reduceAdd, Nat.reduceSub, Nat.reduceMul, Nat.reduceLT, Nat.reduceLeDiff, Nat.reducePow, Int.reduceToNat, Int.reduceLT, Int.reduceLE, Int.reduceEq, Int.reduceNe, Int.reduceAdd, Int.reduceSub, Int.reduceMul, Int.reduceNeg, h1, h2, h3, h4, h5, k1, k2, k3, k5, k6]
      exact finK_drop ⟨by rw [usedP_cells]; simp [isAt, k6, D.er, D.er1], rfl, rfl⟩
    by_cases k7 : p.op = 7
    · try simp only [go_sem, reduceIte, Nat.reduceEqDiff, Nat.reduceAdd, Nat.reduceSub, Nat.reduceMul, Nat.reduceLT, Nat.reduceLeDiff, Nat.reducePow, Int.reduceToNat, Int.reduceLT, Int.reduceLE, Int.reduceEq, Int.reduceNe, Int.reduceAdd, Int.reduceSub, Int.reduceMul, Int.reduceNeg, h1, h2, h3, h4, h5, k1, k2, k3, k5, k6, k7]
      exact finK_drop ⟨by rw [usedP_cells]; simp [isAt, k7, D.er, D.er1], rfl, rfl⟩
    · try simp only [go_sem, reduceIte, Nat.reduceEqDiff, Nat.reduceAdd, Nat.reduceSub, Nat.reduceMul, Nat.reduceLT, Nat.reduceLeDiff, Nat.reducePow, Int.reduceToNat, Int.reduceLT, Int.reduceLE, Int.reduceEq, Int.reduceNe, Int.reduceAdd, Int.reduceSub, Int.reduceMul, Int.reduceNeg, h1, h2, h3, h4, h5, k1, k2, k3, k5, k6, k7, decide_false]
      have k8 : ¬ (5 ≤ p.op ∧ p.op ≤ 7) := by omega
      exact finK_drop ⟨by rw [usedP_cells]; simp [hx, k1, k2, k3, k8, D.er, D.er1], rfl, rfl⟩
  · try simp only [go_sem, reduceIte, Nat.reduceEqDiff, Nat.reduceAdd, Nat.reduceSub, Nat.reduceMul, Nat.reduceLT, Nat.reduceLeDiff, Nat.reducePow, Int.reduceToNat, Int.reduceLT, Int.reduceLE, Int.reduceEq, Int.reduceNe, Int.reduceAdd, Int.reduceSub, Int.reduceMul, Int.reduceNeg, h1, h2, h3, h4, h5]
    by_cases k1 : p.op = 1
    · try simp only [go_sem, reduceIte, Nat.reduceEqDiff, Nat.reduceAdd, Nat.reduceSub, Nat.reduceMul, Nat.reduceLT, Nat.reduceLeDiff, Nat.reducePow, Int.reduceToNat, Int.reduceLT, Int.reduceLE, Int.reduceEq, Int.reduceNe, Int.reduceAdd, Int.reduceSub, Int.reduceMul, Int.reduceNeg, h1, h2, h3, h4, h5, k1]
      repeat' (first | (refine ⟨by simp [rdAdd, h1, h2, h3, h4, h5], ?_⟩) | simp only [go_sem, reduceIte, Nat.reduceEqDiff, Nat.reduceAdd, Nat.reduceSub, Nat.reduceMul, Nat.reduceLT, Nat.reduceLeDiff, Nat.reducePow, Int.reduceToNat, Int.reduceLT, Int.reduceLE, Int.reduceEq, Int.reduceNe, Int.reduceAdd, Int.reduceSub, Int.reduceMul, Int.reduceNeg, h1, h2, h3, h4, h5, k1])
      exact finK_drop ⟨by rw [usedP_cells]; simp [isAt, k1, D.er, D.er1], rfl, rfl⟩
    by_cases k2 : p.op = 2
    · try simp only [go_sem, reduceIte, Nat.reduceEqDiff, Nat.reduceAdd, Nat.reduceSub, Nat.reduceMul, Nat.reduceLT, Nat.reduceLeDiff, Nat.reducePow, Int.reduceToNat, Int.reduceLT, Int.reduceLE, Int.reduceEq, Int.reduceNe, Int.reduceAdd, Int.reduceSub, Int.reduceMul, Int.reduceNeg, h1, h2, h3, h4, h5, k1, k2]
      exact finK_drop ⟨by rw [usedP_cells]; simp [isAt, k2, D.er, D.er1], rfl, rfl⟩
    by_cases k3 : p.op = 3
    · try simp only [go_sem, reduceIte, Nat.reduceEqDiff, Nat.reduceAdd, Nat.reduceSub, Nat.reduceMul, Nat.reduceLT, Nat.reduceLeDiff, Nat.reducePow, Int.reduceToNat, Int.reduceLT, Int.reduceLE, Int.reduceEq, Int.reduceNe, Int.reduceAdd, Int.reduceSub, Int.reduceMul, Int.reduceNeg, h1, h2, h3, h4, h5, k1, k2, k3]
      exact finK_drop ⟨by rw [usedP_cells]; simp [isAt, k3, D.er, D.er1], rfl, rfl⟩
    · have k4 : p.op = 4 := by simp [isAt] at hx; omega
      try simp only [go_sem, reduceIte, Nat.reduceEqDiff, Nat.reduceAdd, Nat.reduceSub, Nat.reduceMul, Nat.reduceLT, Nat.reduceLeDiff, Nat.reducePow, Int.reduceToNat, Int.reduceLT, Int.reduceLE, Int.reduceEq, Int.reduceNe, Int.reduceAdd, Int.reduceSub, Int.reduceMul, Int.reduceNeg, h1, h2, h3, h4, h5, k1, k2, k3, k4]
      exact finK_drop ⟨by rw [usedP_cells]; simp [isAt, k4, D.er, D.er1], rfl, rfl⟩
def longV (v : Vl) : Bool := decide (200 < (v.s.size : Int))
theorem formed1_ok (v : Vl) : VN P G 159 [.agg v.cells] (.bool (longV v)) := by
  simp only [Vl.cells]
  unfold VN
  refine VC.ofs (fun | 99999999 => [(0, [0, 1, 2])] | _ => []) [2] mixed Tryz.func159 rfl rfl rfl rfl (by decide +kernel) (by simp) ?_
  simp only [go_sem, reduceIte, Nat.reduceEqDiff, Nat.reduceAdd, Nat.reduceSub, Nat.reduceMul, Nat.reduceLT, Nat.reduceLeDiff, Nat.reducePow, Int.reduceToNat, Int.reduceLT, Int.reduceLE, Int.reduceEq, Int.reduceNe, Int.reduceAdd, Int.reduceSub, Int.reduceMul, Int.reduceNeg]
  exact fun _ => finK_drop ⟨rfl, rfl, rfl⟩
theorem VN.vq {P : Program} {f : FuncId} {args : List D} {d : D} (h : VN P G f args d) (b : Nat) (X : List D) : VQ P G f args b X d := by
  unfold VQ
  exact h.call _ _ ⟨rfl, rfl, rfl⟩
structure FormP (p : Pr) : Prop where
  op : 0 ≤ p.op ∧ p.op ≤ 7
  id : p.id = (usedP p).id
  lo : p.lo = (usedP p).lo
  hi : p.hi = (usedP p).hi
  text : p.text = (usedP p).text
  set : p.set.length = (usedP p).set.length
  kids : p.kids.length = (usedP p).kids.length
  s16 : p.set.length ≤ 16
  k16 : p.kids.length ≤ 16
  one : p.op = 7 → p.kids.length = 1
  t200 : p.text.size ≤ 200
  v200 : ∀ v ∈ p.set, v.s.size ≤ 200
theorem formP_iff (p : Pr) : FormP p ↔ ((0 ≤ p.op ∧ p.op ≤ 7) ∧ p.id = (usedP p).id ∧ p.lo = (usedP p).lo ∧ p.hi = (usedP p).hi ∧ p.text = (usedP p).text ∧ p.set.length = (usedP p).set.length ∧ p.kids.length = (usedP p).kids.length ∧ p.set.length ≤ 16 ∧ p.kids.length ≤ 16 ∧ (p.op = 7 → p.kids.length = 1) ∧ p.text.size ≤ 200 ∧ ∀ v ∈ p.set, v.s.size ≤ 200) :=
  ⟨fun ⟨a, b, c, d, e, f, g, h, i, j, k, l⟩ => ⟨a, b, c, d, e, f, g, h, i, j, k, l⟩, fun ⟨a, b, c, d, e, f, g, h, i, j, k, l⟩ => ⟨a, b, c, d, e, f, g, h, i, j, k, l⟩⟩
instance (p : Pr) : Decidable (FormP p) := decidable_of_iff _ (formP_iff p).symm
set_option maxRecDepth 100000 in
set_option maxHeartbeats 4000000 in
theorem formed_ok (p : Pr) : VN P G 125 [.agg p.cells] (.bool (decide (FormP p))) := by
  have hu := used_ok (G := G) p
  obtain ⟨u, hue⟩ : ∃ u, usedP p = u := ⟨_, rfl⟩
  rw [hue] at hu
  have hF : FormP p ↔ _ := formP_iff p
  rw [hue] at hF
  unfold VN
  refine VC.ofs (fun | 99999999 => [(0, [0, 1, 2, 3, 4, 7, 16, 61])] | _ => []) [2] mixed Tryz.func125 rfl rfl rfl rfl (by decide +kernel) (by simp) ?_
  simp only [go_sem, reduceIte, Nat.reduceEqDiff, Nat.reduceAdd, Nat.reduceSub, Nat.reduceMul, Nat.reduceLT, Nat.reduceLeDiff, Nat.reducePow, Int.reduceToNat, Int.reduceLT, Int.reduceLE, Int.reduceEq, Int.reduceNe, Int.reduceAdd, Int.reduceSub, Int.reduceMul, Int.reduceNeg]
  intro b1
  refine cK_vn hu ?_
  try simp only [go_sem, reduceIte, Nat.reduceEqDiff, Nat.reduceAdd, Nat.reduceSub, Nat.reduceMul, Nat.reduceLT, Nat.reduceLeDiff, Nat.reducePow, Int.reduceToNat, Int.reduceLT, Int.reduceLE, Int.reduceEq, Int.reduceNe, Int.reduceAdd, Int.reduceSub, Int.reduceMul, Int.reduceNeg, ]
  refine new_1 fun b3 h1 h2 => ?_
  try simp only [go_sem, reduceIte, Nat.reduceEqDiff, Nat.reduceAdd, Nat.reduceSub, Nat.reduceMul, Nat.reduceLT, Nat.reduceLeDiff, Nat.reducePow, Int.reduceToNat, Int.reduceLT, Int.reduceLE, Int.reduceEq, Int.reduceNe, Int.reduceAdd, Int.reduceSub, Int.reduceMul, Int.reduceNeg, h1, h2]
  have e1 : (p.set.map Vl.d).length = p.set.length := by simp
  have e2 : (p.kids.map Pr.d).length = p.kids.length := by simp
  have e3 : (u.set.map Vl.d).length = u.set.length := by simp
  have e4 : (u.kids.map Pr.d).length = u.kids.length := by simp
  refine cd_dec (fun k1 => ?_) (fun k1 => ?_)
  · try simp only [go_sem, reduceIte, Nat.reduceEqDiff, Nat.reduceAdd, Nat.reduceSub, Nat.reduceMul, Nat.reduceLT, Nat.reduceLeDiff, Nat.reducePow, Int.reduceToNat, Int.reduceLT, Int.reduceLE, Int.reduceEq, Int.reduceNe, Int.reduceAdd, Int.reduceSub, Int.reduceMul, Int.reduceNeg, h1, h2]
    exact finK_drop ⟨by rw [decide_eq_false (by rw [hF]; omega)]; rfl, rfl, rfl⟩
  try simp only [go_sem, reduceIte, Nat.reduceEqDiff, Nat.reduceAdd, Nat.reduceSub, Nat.reduceMul, Nat.reduceLT, Nat.reduceLeDiff, Nat.reducePow, Int.reduceToNat, Int.reduceLT, Int.reduceLE, Int.reduceEq, Int.reduceNe, Int.reduceAdd, Int.reduceSub, Int.reduceMul, Int.reduceNeg, h1, h2, e1, e2, e3, e4]
  refine cd_dec (fun k2 => ?_) (fun k2 => ?_)
  · try simp only [go_sem, reduceIte, Nat.reduceEqDiff, Nat.reduceAdd, Nat.reduceSub, Nat.reduceMul, Nat.reduceLT, Nat.reduceLeDiff, Nat.reducePow, Int.reduceToNat, Int.reduceLT, Int.reduceLE, Int.reduceEq, Int.reduceNe, Int.reduceAdd, Int.reduceSub, Int.reduceMul, Int.reduceNeg, h1, h2]
    exact finK_drop ⟨by rw [decide_eq_false (by rw [hF]; rintro ⟨_, g1, g2, g3, g4, g5, g6, _⟩; simp only [g1, g2, g3, g4, g5, g6, ne_eq, not_true_eq_false, or_self] at k2)]; rfl, rfl, rfl⟩
  try simp only [go_sem, reduceIte, Nat.reduceEqDiff, Nat.reduceAdd, Nat.reduceSub, Nat.reduceMul, Nat.reduceLT, Nat.reduceLeDiff, Nat.reducePow, Int.reduceToNat, Int.reduceLT, Int.reduceLE, Int.reduceEq, Int.reduceNe, Int.reduceAdd, Int.reduceSub, Int.reduceMul, Int.reduceNeg, h1, h2, e1, e2, e3, e4]
  refine ⟨fun h => ⟨h, fun h2 => ⟨h, h2⟩⟩, cd_dec (fun k3 => ?_) (fun k3 => ?_)⟩
  · try simp only [go_sem, reduceIte, Nat.reduceEqDiff, Nat.reduceAdd, Nat.reduceSub, Nat.reduceMul, Nat.reduceLT, Nat.reduceLeDiff, Nat.reducePow, Int.reduceToNat, Int.reduceLT, Int.reduceLE, Int.reduceEq, Int.reduceNe, Int.reduceAdd, Int.reduceSub, Int.reduceMul, Int.reduceNeg, h1, h2]
    refine finK_drop ⟨?_, rfl, rfl⟩
    rw [decide_eq_false]; rfl
    rw [hF]
    rintro ⟨_, _, _, _, _, _, _, g1, g2, g3, _⟩
    rcases k3 with k3 | ⟨k3, k4⟩
    · split at k3 <;> omega
    · have := g3 k3; omega
  have hlv : ∀ x ∈ p.set, VQ P G 159 ([] ++ [.agg x.cells] ++ []) b1 p.cells (.bool (longV x)) := fun x _ => by
    simp only [List.nil_append, List.append_nil]
    exact VN.vq (formed1_ok x) _ _
  have hcf := ContainsF_ok p.set longV b1 p.cells hlv
  have hns : (∀ v ∈ p.set, v.s.size ≤ 200) ↔ p.set.any longV = false := by
    rw [List.any_eq_false]
    simp only [longV, decide_eq_true_eq]
    exact ⟨fun h v hv => by have := h v hv; omega, fun h v hv => by have := h v hv; omega⟩
  have hrest : FormP p ↔ (p.text.size ≤ 200 ∧ ∀ v ∈ p.set, v.s.size ≤ 200) := by
    rw [hF]
    refine ⟨fun ⟨_, _, _, _, _, _, _, _, _, _, g1, g2⟩ => ⟨g1, g2⟩, fun ⟨g1, g2⟩ => ?_⟩
    simp only [not_or, ne_eq, Decidable.not_not] at k2 k3
    obtain ⟨⟨⟨⟨⟨a1, a2⟩, a3⟩, a4⟩, a5⟩, a6⟩ := k2
    obtain ⟨a7, a8⟩ := k3
    refine ⟨by omega, a1, a2, a3, a4, by omega, by omega, ?_, ?_, fun h => ?_, g1, g2⟩
    · split at a7 <;> omega
    · split at a7 <;> omega
    · have : ¬ ¬ (p.kids.length : Int) = 1 := fun h' => a8 ⟨h, h'⟩
      omega
  by_cases k5 : (p.text.size : Int) ≤ 200
  · have k5' := eq_true k5
    try simp only [go_sem, reduceIte, Nat.reduceEqDiff, Nat.reduceAdd, Nat.reduceSub, Nat.reduceMul, Nat.reduceLT, Nat.reduceLeDiff, Nat.reducePow, Int.reduceToNat, Int.reduceLT, Int.reduceLE, Int.reduceEq, Int.reduceNe, Int.reduceAdd, Int.reduceSub, Int.reduceMul, Int.reduceNeg, h1, h2, k5', decide_true]
    refine cK_vq (fs := []) (cs := []) hcf (by simp [Heap.set, h1, h2]) ?_
    try simp only [go_sem, reduceIte, Nat.reduceEqDiff, Nat.reduceAdd, Nat.reduceSub, Nat.reduceMul, Nat.reduceLT, Nat.reduceLeDiff, Nat.reducePow, Int.reduceToNat, Int.reduceLT, Int.reduceLE, Int.reduceEq, Int.reduceNe, Int.reduceAdd, Int.reduceSub, Int.reduceMul, Int.reduceNeg, h1, h2, k5']
    refine finK_drop ⟨?_, rfl, rfl⟩
    have : decide (FormP p) = !p.set.any longV := by
      cases hx : p.set.any longV
      · rw [decide_eq_true (hrest.2 ⟨by omega, hns.2 hx⟩)]; rfl
      · rw [decide_eq_false (fun h => by have := hns.1 (hrest.1 h).2; rw [hx] at this; cases this)]; rfl
    rw [this]; rfl
  · have k5' := eq_false k5
    try simp only [go_sem, reduceIte, Nat.reduceEqDiff, Nat.reduceAdd, Nat.reduceSub, Nat.reduceMul, Nat.reduceLT, Nat.reduceLeDiff, Nat.reducePow, Int.reduceToNat, Int.reduceLT, Int.reduceLE, Int.reduceEq, Int.reduceNe, Int.reduceAdd, Int.reduceSub, Int.reduceMul, Int.reduceNeg, h1, h2, k5', decide_false]
    exact finK_drop ⟨by rw [decide_eq_false (fun h => by have := (hrest.1 h).1; omega)]; rfl, rfl, rfl⟩
def wellF (p : Pr) : Bool := decide (depN 8 p ≤ 8) && (subs p).all fun q => decide (FormP q)
set_option maxRecDepth 100000 in
set_option maxHeartbeats 1000000 in
theorem wellFormed_ok (p : Pr) : VN P G 80 [.agg p.cells] (.bool (wellF p)) := by
  have hd := depth_ok (G := G) 8 p (by omega)
  rw [show (((8 : Nat) : Int) + 1) = 9 from rfl] at hd
  unfold VN
  refine VC.ofc (fun | 99999999 => [(0, [0, 1, 2, 3, 6, 8, 12])] | _ => []) [.cell 2 4] mixed Tryz.func80 rfl rfl rfl rfl (by decide +kernel) (by simp) ?_
  simp only [go_sem, reduceIte, Nat.reduceEqDiff, Nat.reduceAdd, Nat.reduceSub, Nat.reduceMul, Nat.reduceLT, Nat.reduceLeDiff, Nat.reducePow, Int.reduceToNat, Int.reduceLT, Int.reduceLE, Int.reduceEq, Int.reduceNe, Int.reduceAdd, Int.reduceSub, Int.reduceMul, Int.reduceNeg]
  intro b1
  refine new_1 fun b2 h1 h2 => ?_
  try simp only [go_sem, reduceIte, Nat.reduceEqDiff, Nat.reduceAdd, Nat.reduceSub, Nat.reduceMul, Nat.reduceLT, Nat.reduceLeDiff, Nat.reducePow, Int.reduceToNat, Int.reduceLT, Int.reduceLE, Int.reduceEq, Int.reduceNe, Int.reduceAdd, Int.reduceSub, Int.reduceMul, Int.reduceNeg, h1, h2]
  refine cK_vn hd ?_
  try simp only [go_sem, reduceIte, Nat.reduceEqDiff, Nat.reduceAdd, Nat.reduceSub, Nat.reduceMul, Nat.reduceLT, Nat.reduceLeDiff, Nat.reducePow, Int.reduceToNat, Int.reduceLT, Int.reduceLE, Int.reduceEq, Int.reduceNe, Int.reduceAdd, Int.reduceSub, Int.reduceMul, Int.reduceNeg, h1, h2]
  refine cd_dec (fun k => ?_) (fun k => ?_)
  · try simp only [go_sem, reduceIte, Nat.reduceEqDiff, Nat.reduceAdd, Nat.reduceSub, Nat.reduceMul, Nat.reduceLT, Nat.reduceLeDiff, Nat.reducePow, Int.reduceToNat, Int.reduceLT, Int.reduceLE, Int.reduceEq, Int.reduceNe, Int.reduceAdd, Int.reduceSub, Int.reduceMul, Int.reduceNeg, h1, h2]
    exact finK_drop ⟨by rw [wellF, decide_eq_false (show ¬ depN 8 p ≤ 8 by omega)]; rfl, rfl, rfl⟩
  try simp only [go_sem, reduceIte, Nat.reduceEqDiff, Nat.reduceAdd, Nat.reduceSub, Nat.reduceMul, Nat.reduceLT, Nat.reduceLeDiff, Nat.reducePow, Int.reduceToNat, Int.reduceLT, Int.reduceLE, Int.reduceEq, Int.reduceNe, Int.reduceAdd, Int.reduceSub, Int.reduceMul, Int.reduceNeg, h1, h2]
  generalize hβ : Heap.set _ b2 _ = β0
  have e1 : β0 b1 = some p.cells := by rw [← hβ]; simp [Heap.set, h1, h2]
  have e2 : β0 b2 = some [.bool false] := by rw [← hβ]; simp [Heap.set]
  clear hβ
  refine cK_fr (d := .clo (.func 81) [] []) (args := [.agg p.cells]) (all_ok p) (Part.nil _ _) ?_ ?_
  rotate_left
  · rintro r β1 ω1 ⟨b, h, _⟩; cases h
  rintro r β1 ω1 β' ω' ⟨bq, h3, rfl, rfl⟩ hpt hkeep hω
  cases h3
  rw [joinT_nil] at hω
  subst hω
  have e2 := hkeep b2 _ e2 rfl
  have eq := hpt.box bq p.cells (by simp [Heap.set])
  clear hkeep hpt
  simp only [go_sem, reduceIte, Nat.reduceEqDiff, Nat.reduceAdd, Nat.reduceSub, Nat.reduceMul, Nat.reduceLT, Nat.reduceLeDiff, Nat.reducePow, Int.reduceToNat, Int.reduceLT, Int.reduceLE, Int.reduceEq, Int.reduceNe, Int.reduceAdd, Int.reduceSub, Int.reduceMul, Int.reduceNeg]
  generalize hσ : upd _ 0 _ = σ0
  have q2 : σ0 2 = .pb b2 0 := by rw [← hσ]; rfl
  clear hσ
  refine rg_all (pb := false) (I := fun vis β c ω => ω = [] ∧ c = [.bool false] ∧ ∀ q ∈ vis, FormP q) (J := fun e β c ω => e = .ret ∧ ω = [] ∧ c = [.bool false] ∧ ∃ q ∈ subs p, ¬ FormP q) (bo := b2) (fun | 99999999 => [(0, [0, 1, 2, 3, 6, 8, 12])] | _ => []) eq e2 ⟨rfl, rfl, fun _ h => by cases h⟩ (fun _ _ _ _ h => by cases h.1) (fun vis β β' c ω hm h => h) (fun _ _ _ _ _ _ h => h) rfl rfl rfl (by decide +kernel) (by decide +kernel) ?_ ?_ ?_
  · rintro l r q vis β c ω hl hpre ⟨rfl, rfl, hall⟩ hk hbo hlr
    rw [show roundσ σ0 #[9].toList [D.agg q.cells] = upd σ0 9 (.agg q.cells) from rfl]
    try simp only [go_sem, reduceIte, Nat.reduceEqDiff, Nat.reduceAdd, Nat.reduceSub, Nat.reduceMul, Nat.reduceLT, Nat.reduceLeDiff, Nat.reducePow, Int.reduceToNat, Int.reduceLT, Int.reduceLE, Int.reduceEq, Int.reduceNe, Int.reduceAdd, Int.reduceSub, Int.reduceMul, Int.reduceNeg, q2]
    refine new_any fun b4 hb4 => ?_
    have N := And.intro (box_ne hb4 hlr) (And.intro (box_ne hb4 hbo) (box_ne hl e2))
    try simp only [go_sem, reduceIte, Nat.reduceEqDiff, Nat.reduceAdd, Nat.reduceSub, Nat.reduceMul, Nat.reduceLT, Nat.reduceLeDiff, Nat.reducePow, Int.reduceToNat, Int.reduceLT, Int.reduceLE, Int.reduceEq, Int.reduceNe, Int.reduceAdd, Int.reduceSub, Int.reduceMul, Int.reduceNeg, q2, N, hbo, hlr]
    generalize hβ2 : Heap.set _ l _ = β2
    obtain ⟨g1, g2, g3, g4, g5⟩ := rg_head hl hk hbo hlr rfl hb4 _ _ hβ2
    clear hβ2 hb4
    refine cK_vn (formed_ok q) ?_
    by_cases hq : FormP q
    · have hq' := decide_eq_true hq
      try simp only [go_sem, reduceIte, Nat.reduceEqDiff, Nat.reduceAdd, Nat.reduceSub, Nat.reduceMul, Nat.reduceLT, Nat.reduceLeDiff, Nat.reducePow, Int.reduceToNat, Int.reduceLT, Int.reduceLE, Int.reduceEq, Int.reduceNe, Int.reduceAdd, Int.reduceSub, Int.reduceMul, Int.reduceNeg, q2, hq', g2]
      exact rgQ_end g1 g3 g2 ⟨rfl, rfl, fun x hx => by
        rcases List.mem_append.1 hx with hx | hx
        · exact hall x hx
        · rw [List.mem_singleton] at hx; subst hx; exact hq⟩
    · have hq' := decide_eq_false hq
      try simp only [go_sem, reduceIte, Nat.reduceEqDiff, Nat.reduceAdd, Nat.reduceSub, Nat.reduceMul, Nat.reduceLT, Nat.reduceLeDiff, Nat.reducePow, Int.reduceToNat, Int.reduceLT, Int.reduceLE, Int.reduceEq, Int.reduceNe, Int.reduceAdd, Int.reduceSub, Int.reduceMul, Int.reduceNeg, q2, hq', g2]
      refine rgQ_out (fun b cs e1 e2 => ?_) ?_ (hit_set rfl) ⟨rfl, rfl, rfl, q, hpre.subset (by simp), hq⟩
      · simp only [Heap.set, if_neg e2]; exact g1 b cs e1 e2
      · simp only [Heap.set, if_neg (Ne.symm N.2.2.1)]; exact g3
  · rintro β c ω hk hbo ⟨rfl, rfl, hall⟩
    try simp only [go_sem, reduceIte, Nat.reduceEqDiff, Nat.reduceAdd, Nat.reduceSub, Nat.reduceMul, Nat.reduceLT, Nat.reduceLeDiff, Nat.reducePow, Int.reduceToNat, Int.reduceLT, Int.reduceLE, Int.reduceEq, Int.reduceNe, Int.reduceAdd, Int.reduceSub, Int.reduceMul, Int.reduceNeg, q2, hbo]
    refine finK_drop ⟨?_, rfl, rfl⟩
    rw [wellF, decide_eq_true (show depN 8 p ≤ 8 by omega), Bool.true_and, List.all_eq_true.2 fun q hq => decide_eq_true (hall q hq)]; rfl
  · rintro e β c ω hk hbo ⟨rfl, rfl, rfl, q, hq, hn⟩
    try simp only [go_sem, reduceIte, Nat.reduceEqDiff, Nat.reduceAdd, Nat.reduceSub, Nat.reduceMul, Nat.reduceLT, Nat.reduceLeDiff, Nat.reducePow, Int.reduceToNat, Int.reduceLT, Int.reduceLE, Int.reduceEq, Int.reduceNe, Int.reduceAdd, Int.reduceSub, Int.reduceMul, Int.reduceNeg, q2, hbo]
    refine finK_drop ⟨?_, rfl, rfl⟩
    rw [wellF, show ((subs p).all fun q => decide (FormP q)) = false from by
      rw [List.all_eq_false]; exact ⟨q, hq, by simp [hn]⟩, Bool.and_false]; rfl
end Go.Proofs.YtpblgfgcoamgmaaGreatS
namespace Go.Proofs.YtpblgfgcoamgmaaGreatS
open Go Go.Proofs.YtpblgfgcoamgmaaGreatV

variable {G : Heap}

def vflat (f : List Vl) : List D := flat (f.map Vl.d)
theorem vl_er (l : List Vl) : (l.map Vl.d).map D.er = l.map Vl.d := by
  rw [List.map_map]; exact List.map_congr_left fun b _ => rfl
theorem vl_cells (l : List Vl) : ∀ x ∈ l.map Vl.d, x.cells.length = 3 ∧ x.solid = true := fun x hx => by
  obtain ⟨y, _, rfl⟩ := List.mem_map.1 hx; exact ⟨rfl, rfl⟩

def BoxV (β : Heap) (d : D) (n : Nat) : Prop := ∃ (b : Nat) (f : List Vl), d = .so b 0 n f.length ∧ β b = some (vflat f) ∧ n ≤ f.length
def OutV (β : Heap) (d : D) (n : Nat) : Prop := (d = .sl .full [] ∧ n = 0) ∨ BoxV β d n
theorem BoxV.keep {β : Heap} {d : D} {n : Nat} (h : BoxV β d n) {b' : Nat} {cs : List D} (hb : β b' = none) : BoxV (β.set b' cs) d n := by
  obtain ⟨b, f, h1, h2, h3⟩ := h
  refine ⟨b, f, h1, ?_, h3⟩
  have : b ≠ b' := fun e => by rw [e, hb] at h2; cases h2
  simp only [Heap.set, if_neg this]
  exact h2
theorem OutV.keep {β : Heap} {d : D} {n : Nat} (h : OutV β d n) {b' : Nat} {cs : List D} (hb : β b' = none) : OutV (β.set b' cs) d n := h.imp id fun h => h.keep hb

end Go.Proofs.YtpblgfgcoamgmaaGreatS
namespace Go.Proofs.YtpblgfgcoamgmaaGreatS
open Go Go.Proofs.YtpblgfgcoamgmaaGreatV

variable {G : Heap}
attribute [local irreducible] VN VC VX VQ VP VY VW VTA VT0

def bit (b : Bool) : Nat := if b then 1 else 0
theorem flag_ok (b : Bool) : VN P G 83 [.bool b] (.int .u8 (bit b : Nat)) := by
  unfold VN
  refine VC.ofs (fun | 99999999 => [(0, [0, 2, 3])] | _ => []) [2] mixed Tryz.func83 rfl rfl rfl rfl (by decide +kernel) (by simp) ?_
  cases b
  all_goals simp only [go_sem, reduceIte, Nat.reduceEqDiff, Nat.reduceAdd, Nat.reduceSub, Nat.reduceMul, Nat.reduceLT, Nat.reduceLeDiff, Nat.reducePow, Int.reduceToNat, Int.reduceLT, Int.reduceLE, Int.reduceEq, Int.reduceNe, Int.reduceAdd, Int.reduceSub, Int.reduceMul, Int.reduceNeg]
  all_goals exact finK_drop ⟨rfl, rfl, rfl⟩
theorem CloneB_ta (tk : Tk) (l : List Nat) (h : l.length ≤ 2^45) : VTA P G 79 [.sl tk (bs l)] 1 (bs l) := by
  unfold VTA
  refine VC.nilcmps (fun | 99999999 => [(0, [0, 2, 4])] | _ => []) [2] mixed Tryz.func79 rfl rfl rfl (by simp) (by decide +kernel) (by decide +kernel) Tryz.underlying62 ?_
  simp only [go_sem, reduceIte, Nat.reduceEqDiff, Nat.reduceAdd, Nat.reduceSub, Nat.reduceMul, Nat.reduceLT, Nat.reduceLeDiff, Nat.reducePow, Int.reduceToNat, Int.reduceLT, Int.reduceLE, Int.reduceEq, Int.reduceNe, Int.reduceAdd, Int.reduceSub, Int.reduceMul, Int.reduceNeg]
  refine ⟨_, _, rfl, fun b hb => ?_⟩
  cases b
  all_goals simp only [go_sem, reduceIte, Nat.reduceEqDiff, Nat.reduceAdd, Nat.reduceSub, Nat.reduceMul, Nat.reduceLT, Nat.reduceLeDiff, Nat.reducePow, Int.reduceToNat, Int.reduceLT, Int.reduceLE, Int.reduceEq, Int.reduceNe, Int.reduceAdd, Int.reduceSub, Int.reduceMul, Int.reduceNeg, cd_true, cd_false]
  · refine ⟨by omega, fun t' => fin_ta (by simp [tokOk])⟩
  · have := hb rfl
    cases l with
    | nil => exact fin_ta trivial
    | cons a l => cases this
abbrev I64' (k : Int) : Prop := -9223372036854775808 ≤ k ∧ k < 9223372036854775808
structure PI (q : Pr) : Prop where
  id : I64' q.id
  lo : I64' q.lo
  hi : I64' q.hi
  set : ∀ v ∈ q.set, I64' v.n
def encVl (v : Vl) : List Nat := bit v.null :: (enc (zig v.n) ++ enc v.s.size ++ sb v.s)
def encH (q : Pr) : List Nat := q.op.toNat :: ((if isAt q.op then enc (zig q.id) else []) ++ (if q.op = 1 then enc (zig q.lo) ++ enc (zig q.hi) else if q.op = 2 then enc q.set.length ++ q.set.flatMap encVl else if q.op = 3 then enc q.text.size ++ sb q.text else if 5 ≤ q.op ∧ q.op ≤ 7 then enc q.kids.length else []))
def encP (p : Pr) : List Nat := (subs p).flatMap encH
theorem encVl_len {v : Vl} (h : I64' v.n) (hs : v.s.size ≤ 200) : (encVl v).length ≤ 221 := by
  have h1 := enc_len (zig_lt h)
  have h2 := enc_len (n := v.s.size) (by omega)
  simp only [encVl, List.length_cons, List.length_append, sb_length]; omega
theorem encVls_len : ∀ {l : List Vl}, (∀ v ∈ l, I64' v.n) → (∀ v ∈ l, v.s.size ≤ 200) → (l.flatMap encVl).length ≤ l.length * 221
  | [], _, _ => by simp
  | v :: l, h, hs => by
    have h1 := encVl_len (h v (by simp)) (hs v (by simp))
    have h2 := encVls_len (fun x hx => h x (by simp [hx])) (fun x hx => hs x (by simp [hx])) (l := l)
    simp only [List.flatMap_cons, List.length_append, List.length_cons]; omega
theorem encH_len {q : Pr} (hi : PI q) (hf : FormP q) : (encH q).length ≤ 4000 := by
  have h1 := enc_len (zig_lt hi.id)
  have h2 := enc_len (zig_lt hi.lo)
  have h3 := enc_len (zig_lt hi.hi)
  have h4 := enc_len (n := q.set.length) (by have := hf.s16; omega)
  have h5 := enc_len (n := q.text.size) (by have := hf.t200; omega)
  have h6 := enc_len (n := q.kids.length) (by have := hf.k16; omega)
  have h7 := encVls_len hi.set hf.v200
  have h8 := hf.s16
  have h9 := hf.t200
  unfold encH
  simp only [List.length_cons, List.length_append]
  split <;> (repeat' split) <;> (try simp only [List.length_append, List.length_nil, sb_length]) <;> omega
theorem encHs_len : ∀ {l : List Pr}, (∀ q ∈ l, PI q) → (∀ q ∈ l, FormP q) → (l.flatMap encH).length ≤ l.length * 4000
  | [], _, _ => by simp
  | v :: l, h, hs => by
    have h1 := encH_len (h v (by simp)) (hs v (by simp))
    have h2 := encHs_len (fun x hx => h x (by simp [hx])) (fun x hx => hs x (by simp [hx])) (l := l)
    simp only [List.flatMap_cons, List.length_append, List.length_cons]; omega
theorem wellF_form {p : Pr} (h : wellF p = true) : ∀ q ∈ subs p, FormP q := fun q hq => by
  simp only [wellF, Bool.and_eq_true, List.all_eq_true, decide_eq_true_eq] at h
  exact h.2 q hq
set_option maxRecDepth 100000 in
set_option maxHeartbeats 4000000 in
theorem pEncode_ta (tk : Tk) (b : List Nat) (p : Pr) (hb : b.length ≤ 2^40) (hn : (subs p).length ≤ 4000000) (hi : ∀ q ∈ subs p, PI q) : VTA P G 40 [.sl tk (bs b), .agg p.cells] 1 (bs (b ++ if wellF p then encP p else [])) := by
  have hw := wellFormed_ok (G := G) p
  unfold VTA
  refine VC.ofs (fun | 11 => [(0, []), (1, []), (2, []), (4, []), (5, [3]), (3, []), (6, []), (7, [])] | 17 => [(0, [3]), (1, []), (2, []), (6, []), (7, [3]), (9, []), (10, [3, 8]), (3, []), (4, []), (5, []), (8, []), (11, []), (12, [])] | 99999999 => [(0, [0, 1, 3, 4, 5, 6, 8, 13, 16, 26, 32, 33, 42, 51, 52, 53, 54, 70, 76])] | _ => []) [4] mixed Tryz.func40 rfl rfl rfl rfl (by decide +kernel) (by simp) ?_
  simp only [go_sem, reduceIte, Nat.reduceEqDiff, Nat.reduceAdd, Nat.reduceSub, Nat.reduceMul, Nat.reduceLT, Nat.reduceLeDiff, Nat.reducePow, Int.reduceToNat, Int.reduceLT, Int.reduceLE, Int.reduceEq, Int.reduceNe, Int.reduceAdd, Int.reduceSub, Int.reduceMul, Int.reduceNeg]
  intro b3
  refine cK_ta (CloneB_ta tk b (by omega)) fun tk0 ω0 htw _ => ?_
  try simp only [go_sem, reduceIte, Nat.reduceEqDiff, Nat.reduceAdd, Nat.reduceSub, Nat.reduceMul, Nat.reduceLT, Nat.reduceLeDiff, Nat.reducePow, Int.reduceToNat, Int.reduceLT, Int.reduceLE, Int.reduceEq, Int.reduceNe, Int.reduceAdd, Int.reduceSub, Int.reduceMul, Int.reduceNeg, ]
  refine new_1 fun b5 h1 h2 => ?_
  try simp only [go_sem, reduceIte, Nat.reduceEqDiff, Nat.reduceAdd, Nat.reduceSub, Nat.reduceMul, Nat.reduceLT, Nat.reduceLeDiff, Nat.reducePow, Int.reduceToNat, Int.reduceLT, Int.reduceLE, Int.reduceEq, Int.reduceNe, Int.reduceAdd, Int.reduceSub, Int.reduceMul, Int.reduceNeg, h1, h2]
  refine cK_vn hw ?_
  cases hwf : wellF p
  · try simp only [go_sem, reduceIte, Nat.reduceEqDiff, Nat.reduceAdd, Nat.reduceSub, Nat.reduceMul, Nat.reduceLT, Nat.reduceLeDiff, Nat.reducePow, Int.reduceToNat, Int.reduceLT, Int.reduceLE, Int.reduceEq, Int.reduceNe, Int.reduceAdd, Int.reduceSub, Int.reduceMul, Int.reduceNeg, h1, h2]
    have := htw.okr []
    rw [List.append_nil] at this
    exact fin_ta this
  try simp only [if_true]
  have hform := wellF_form hwf
  have htok := htw.okr []
  rw [List.append_nil] at htok
  try simp only [go_sem, reduceIte, Nat.reduceEqDiff, Nat.reduceAdd, Nat.reduceSub, Nat.reduceMul, Nat.reduceLT, Nat.reduceLeDiff, Nat.reducePow, Int.reduceToNat, Int.reduceLT, Int.reduceLE, Int.reduceEq, Int.reduceNe, Int.reduceAdd, Int.reduceSub, Int.reduceMul, Int.reduceNeg, h1, h2]
  generalize hβ : Heap.set _ b5 _ = β0
  have e3 : β0 b3 = some p.cells := by rw [← hβ]; simp [Heap.set, h1, h2]
  have e5 : β0 b5 = some [.sl tk0 (bs b)] := by rw [← hβ]; simp [Heap.set]
  clear hβ
  refine cK_fr (d := .clo (.func 81) [] []) (args := [.agg p.cells]) (all_ok p) (Part.nil _ _) ?_ ?_
  rotate_left
  · rintro r β1 ω1 ⟨b, h, _⟩; cases h
  rintro r β1 ω1 β' ω' ⟨bq, hr, rfl, rfl⟩ hpt hkeep hω
  cases hr
  rw [joinT_nil] at hω
  subst hω
  have e5 := hkeep b5 _ e5 rfl
  have eq := hpt.box bq p.cells (by simp [Heap.set])
  clear hkeep hpt
  simp only [go_sem, reduceIte, Nat.reduceEqDiff, Nat.reduceAdd, Nat.reduceSub, Nat.reduceMul, Nat.reduceLT, Nat.reduceLeDiff, Nat.reducePow, Int.reduceToNat, Int.reduceLT, Int.reduceLE, Int.reduceEq, Int.reduceNe, Int.reduceAdd, Int.reduceSub, Int.reduceMul, Int.reduceNeg]
  generalize hσ : upd _ 0 _ = σ0
  have q5 : σ0 5 = .pb b5 0 := by rw [← hσ]; rfl
  clear hσ
  refine rg_all (pb := false) (I := fun vis β c ω => ∃ tk, c = [.sl tk (bs (b ++ vis.flatMap encH))] ∧ tokOk 1 ω tk) (J := fun _ _ _ _ => False) (bo := b5) (fun | 11 => [(0, []), (1, []), (2, []), (4, []), (5, [3]), (3, []), (6, []), (7, [])] | 17 => [(0, [3]), (1, []), (2, []), (6, []), (7, [3]), (9, []), (10, [3, 8]), (3, []), (4, []), (5, []), (8, []), (11, []), (12, [])] | 99999999 => [(0, [0, 1, 3, 4, 5, 6, 8, 13, 16, 26, 32, 33, 42, 51, 52, 53, 54, 70, 76])] | _ => []) eq e5 ⟨tk0, by simp, htok⟩ (fun _ _ _ _ h => h) (fun vis β β' c ω hm h => h) (fun _ _ _ _ _ _ h => h) rfl rfl rfl (by decide +kernel) (by decide +kernel) ?_ ?_ (fun _ _ _ _ _ _ h => h.elim)
  · rintro l r q vis β c ω hl hpre ⟨tk1, rfl, hok⟩ hk hbo hlr
    rw [show roundσ σ0 #[17].toList [D.agg q.cells] = upd σ0 17 (.agg q.cells) from rfl]
    try simp only [go_sem, reduceIte, Nat.reduceEqDiff, Nat.reduceAdd, Nat.reduceSub, Nat.reduceMul, Nat.reduceLT, Nat.reduceLeDiff, Nat.reducePow, Int.reduceToNat, Int.reduceLT, Int.reduceLE, Int.reduceEq, Int.reduceNe, Int.reduceAdd, Int.reduceSub, Int.reduceMul, Int.reduceNeg, q5]
    refine new_any fun b6 hb6 => ?_
    have N := And.intro (box_ne hb6 hlr) (And.intro (box_ne hb6 hbo) (box_ne hl e5))
    try simp only [go_sem, reduceIte, Nat.reduceEqDiff, Nat.reduceAdd, Nat.reduceSub, Nat.reduceMul, Nat.reduceLT, Nat.reduceLeDiff, Nat.reducePow, Int.reduceToNat, Int.reduceLT, Int.reduceLE, Int.reduceEq, Int.reduceNe, Int.reduceAdd, Int.reduceSub, Int.reduceMul, Int.reduceNeg, q5, N, hbo, hlr]
    have hf := hform q (hpre.subset (by simp))
    have hq := hi q (hpre.subset (by simp))
    obtain ⟨o1, o2⟩ := hf.op
    have hlen : (b ++ vis.flatMap encH).length ≤ 2^42 := by
      have h1 := hpre.length_le
      have h2 := encHs_len (l := vis) (fun x hx => hi x (hpre.subset (by simp [hx]))) (fun x hx => hform x (hpre.subset (by simp [hx])))
      simp only [List.length_append, List.length_cons, List.length_nil] at h1 ⊢
      have : vis.length * 4000 ≤ 4000000 * 4000 := Nat.mul_le_mul_right _ (by omega)
      omega
    generalize hβ2 : Heap.set (Heap.set β b6 _) l _ = β2
    obtain ⟨g1, g2, g3, g4, g5⟩ := rg_head hl hk hbo hlr rfl hb6 _ _ hβ2
    clear hβ2 hb6
    obtain ⟨acc, hacc⟩ : ∃ acc, b ++ vis.flatMap encH = acc := ⟨_, rfl⟩
    have hflat : b ++ (vis ++ [q]).flatMap encH = acc ++ encH q := by rw [List.flatMap_append, ← hacc]; simp
    rw [hacc] at hlen ⊢
    have hend : ∀ {σ1 : Nat → D} {ω3 : List Nat} {X : List Nat} {t : Nat}, t ∈ ω3 → X = acc ++ encH q → rgQ β' b5 l r σ0 (fun β c ω => ∃ tk, c = [.sl tk (bs (b ++ (vis ++ [q]).flatMap encH))] ∧ tokOk 1 ω tk) (fun _ _ _ _ => False) .normal ⟨σ1, β2.set b5 [.sl (.live t 1) (bs X)], ω3⟩ := by
      rintro σ1 ω3 X t ht rfl
      refine rgQ_end (fun b cs e1 e2 => ?_) ?_ (hit_set rfl) ⟨.live t 1, by rw [hflat], (show tokOk 1 ω3 (.live t 1) from ⟨ht, rfl⟩)⟩
      · simp only [Heap.set, if_neg e2]; exact g1 b cs e1 e2
      · simp only [Heap.set, if_neg (Ne.symm N.2.2.1)]; exact g3
    refine ⟨hok, by omega, fun t1 _ => ?_⟩
    have wop : q.op % 256 = ((q.op.toNat : Nat) : Int) := by omega
    obtain ⟨o, hop⟩ : ∃ o, q.op.toNat = o := ⟨_, rfl⟩
    rw [wop, bs_snoc, hop]
    have hid := enc_len (zig_lt hq.id)
    have hlo := enc_len (zig_lt hq.lo)
    have hhi := enc_len (zig_lt hq.hi)
    refine cK_vn (isAtom_ok q.op) ?_
    obtain h | h | h | h | h | h | h | h : q.op = 0 ∨ q.op = 1 ∨ q.op = 2 ∨ q.op = 3 ∨ q.op = 4 ∨ q.op = 5 ∨ q.op = 6 ∨ q.op = 7 := by omega
    · have ha : isAt q.op = false := by rw [h]; rfl
      have hE : encH q = [o] := by rw [encH, ha, hop]; try simp [h]
      try simp only [go_sem, reduceIte, Nat.reduceEqDiff, Nat.reduceAdd, Nat.reduceSub, Nat.reduceMul, Nat.reduceLT, Nat.reduceLeDiff, Nat.reducePow, Int.reduceToNat, Int.reduceLT, Int.reduceLE, Int.reduceEq, Int.reduceNe, Int.reduceAdd, Int.reduceSub, Int.reduceMul, Int.reduceNeg, q5, N, ha, g4]
      try simp only [go_sem, reduceIte, Nat.reduceEqDiff, Nat.reduceAdd, Nat.reduceSub, Nat.reduceMul, Nat.reduceLT, Nat.reduceLeDiff, Nat.reducePow, Int.reduceToNat, Int.reduceLT, Int.reduceLE, Int.reduceEq, Int.reduceNe, Int.reduceAdd, Int.reduceSub, Int.reduceMul, Int.reduceNeg, q5, N, g4, h]
      exact hend (List.mem_cons_self ..) (by rw [hE])
    · have ha : isAt q.op = true := by rw [h]; rfl
      have hE : encH q = [o] ++ enc (zig q.id) ++ enc (zig q.lo) ++ enc (zig q.hi) := by rw [encH, ha, hop]; try simp [h]
      try simp only [go_sem, reduceIte, Nat.reduceEqDiff, Nat.reduceAdd, Nat.reduceSub, Nat.reduceMul, Nat.reduceLT, Nat.reduceLeDiff, Nat.reducePow, Int.reduceToNat, Int.reduceLT, Int.reduceLE, Int.reduceEq, Int.reduceNe, Int.reduceAdd, Int.reduceSub, Int.reduceMul, Int.reduceNeg, q5, N, ha, g4]
      refine cK_t0 (S_ok _ (acc ++ [o]) q.id hq.id (by simp; omega) (by omega)) fun t2 _ => ?_
      try simp only [go_sem, reduceIte, Nat.reduceEqDiff, Nat.reduceAdd, Nat.reduceSub, Nat.reduceMul, Nat.reduceLT, Nat.reduceLeDiff, Nat.reducePow, Int.reduceToNat, Int.reduceLT, Int.reduceLE, Int.reduceEq, Int.reduceNe, Int.reduceAdd, Int.reduceSub, Int.reduceMul, Int.reduceNeg, q5, N, g4, h]
      refine cE_t0 (S_ok _ (acc ++ [o] ++ enc (zig q.id)) q.lo hq.lo (by simp; omega) (by omega)) fun t3 _ => ?_
      try simp only [go_sem, reduceIte, Nat.reduceEqDiff, Nat.reduceAdd, Nat.reduceSub, Nat.reduceMul, Nat.reduceLT, Nat.reduceLeDiff, Nat.reducePow, Int.reduceToNat, Int.reduceLT, Int.reduceLE, Int.reduceEq, Int.reduceNe, Int.reduceAdd, Int.reduceSub, Int.reduceMul, Int.reduceNeg, q5, N, g4, h]
      refine cE_t0 (S_ok _ (acc ++ [o] ++ enc (zig q.id) ++ enc (zig q.lo)) q.hi hq.hi (by simp; omega) (by omega)) fun t4 _ => ?_
      try simp only [go_sem, reduceIte, Nat.reduceEqDiff, Nat.reduceAdd, Nat.reduceSub, Nat.reduceMul, Nat.reduceLT, Nat.reduceLeDiff, Nat.reducePow, Int.reduceToNat, Int.reduceLT, Int.reduceLE, Int.reduceEq, Int.reduceNe, Int.reduceAdd, Int.reduceSub, Int.reduceMul, Int.reduceNeg, q5, N, g4, h]
      exact ⟨by simp [rdAdd, N], hend (List.mem_cons_self ..) (by rw [hE]; try simp)⟩
    · have ha : isAt q.op = true := by rw [h]; rfl
      have hE : encH q = [o] ++ enc (zig q.id) ++ enc q.set.length ++ q.set.flatMap encVl := by rw [encH, ha, hop]; try simp [h]
      have hs16 := hf.s16
      have wk : ((q.set.map Vl.d).length : Int) % 18446744073709551616 = ((q.set.length : Nat) : Int) := by rw [List.length_map]; omega
      have el : (q.set.map Vl.d).length = q.set.length := by simp
      try simp only [go_sem, reduceIte, Nat.reduceEqDiff, Nat.reduceAdd, Nat.reduceSub, Nat.reduceMul, Nat.reduceLT, Nat.reduceLeDiff, Nat.reducePow, Int.reduceToNat, Int.reduceLT, Int.reduceLE, Int.reduceEq, Int.reduceNe, Int.reduceAdd, Int.reduceSub, Int.reduceMul, Int.reduceNeg, q5, N, ha, g4]
      refine cK_t0 (S_ok _ (acc ++ [o]) q.id hq.id (by simp; omega) (by omega)) fun t2 _ => ?_
      try simp only [go_sem, reduceIte, Nat.reduceEqDiff, Nat.reduceAdd, Nat.reduceSub, Nat.reduceMul, Nat.reduceLT, Nat.reduceLeDiff, Nat.reducePow, Int.reduceToNat, Int.reduceLT, Int.reduceLE, Int.reduceEq, Int.reduceNe, Int.reduceAdd, Int.reduceSub, Int.reduceMul, Int.reduceNeg, q5, N, g4, h, wk]
      refine cK_t0 (U_ok _ (acc ++ [o] ++ enc (zig q.id)) q.set.length (by simp; omega) (by have := enc_len (n := q.set.length) (by omega); omega)) fun t3 _ => ?_
      have hsl := enc_len (n := q.set.length) (by omega)
      try simp only [go_sem, reduceIte, Nat.reduceEqDiff, Nat.reduceAdd, Nat.reduceSub, Nat.reduceMul, Nat.reduceLT, Nat.reduceLeDiff, Nat.reducePow, Int.reduceToNat, Int.reduceLT, Int.reduceLE, Int.reduceEq, Int.reduceNe, Int.reduceAdd, Int.reduceSub, Int.reduceMul, Int.reduceNeg, q5, N, g4, h, el]
      refine vwq_loop (fun v => ∃ (j : Nat) (t : Nat), j ≤ q.set.length ∧ t ∈ v.ω ∧ v.β b5 = some [.sl (.live t 1) (bs (acc ++ [o] ++ enc (zig q.id) ++ enc q.set.length ++ (q.set.take j).flatMap encVl))] ∧ v.β l = some [.lp (LpBusy r) σ0] ∧ (∀ b cs, β' b = some cs → b ≠ b5 → v.β b = some cs) ∧ v.σ 5 = .pb b5 0 ∧ v.σ 51 = .sl .none (q.set.map Vl.d) ∧ v.σ 52 = .int .i64 q.set.length ∧ v.σ 53 = .int .i64 j) (fun v => q.set.length - (ival (v.σ 53)).toNat) ⟨0, t3, by omega, by simp, by simp [Heap.set], by simp only [Heap.set, if_neg (Ne.symm N.2.2.1)]; exact g3, (fun b cs e1 e2 => by simp only [Heap.set, if_neg e2]; exact g1 b cs e1 e2), rfl, rfl, rfl, rfl⟩ ?_
      rintro σ β ω ⟨j, t, hj, ht, e5', el', hkp, q5, q51, q52, q53⟩
      dsimp only at q5 q51 q52 q53 e5' el' hkp
      try simp only [go_sem, reduceIte, Nat.reduceEqDiff, Nat.reduceAdd, Nat.reduceSub, Nat.reduceMul, Nat.reduceLT, Nat.reduceLeDiff, Nat.reducePow, Int.reduceToNat, Int.reduceLT, Int.reduceLE, Int.reduceEq, Int.reduceNe, Int.reduceAdd, Int.reduceSub, Int.reduceMul, Int.reduceNeg, q5, q51, q52, q53]
      refine cd_dec (fun g => ?_) (fun g => ?_)
      · have g' := eq_true g
        obtain ⟨x, hx, ex⟩ := Vl_at (l := q.set) (j := j) (by rw [List.length_map]; omega)
        have c1 : ((0 : Int) ≤ j) = True := eq_true (by omega)
        have wj := wrap_i64 (x := (j : Int) + 1) (by omega) (by omega)
        have hm := List.mem_of_getElem? hx
        have hxi := hq.set x hm
        have hxs := hf.v200 x hm
        have hzl := enc_len (zig_lt hxi)
        have hvl := encVls_len (l := q.set.take j) (fun v hv => hq.set v (List.mem_of_mem_take hv)) (fun v hv => hf.v200 v (List.mem_of_mem_take hv))
        rw [List.length_take] at hvl
        obtain ⟨a2, ha2⟩ : ∃ a2, acc ++ [o] ++ enc (zig q.id) ++ enc q.set.length ++ (q.set.take j).flatMap encVl = a2 := ⟨_, rfl⟩
        have hla : a2.length ≤ 2^43 := by
          rw [← ha2]
          simp only [List.length_append, List.length_cons, List.length_nil]
          omega
        have hnext : acc ++ [o] ++ enc (zig q.id) ++ enc q.set.length ++ (q.set.take (j + 1)).flatMap encVl = a2 ++ [bit x.null] ++ enc (zig x.n) ++ enc x.s.size ++ sb x.s := by
          rw [List.take_add_one, hx, ← ha2, List.flatMap_append]; simp [encVl]
        rw [ha2] at e5'
        have htk : tokOk 1 ω (.live t 1) = True := eq_true ⟨ht, rfl⟩
        try simp only [go_sem, reduceIte, Nat.reduceEqDiff, Nat.reduceAdd, Nat.reduceSub, Nat.reduceMul, Nat.reduceLT, Nat.reduceLeDiff, Nat.reducePow, Int.reduceToNat, Int.reduceLT, Int.reduceLE, Int.reduceEq, Int.reduceNe, Int.reduceAdd, Int.reduceSub, Int.reduceMul, Int.reduceNeg, q5, q51, q52, q53, ex, c1, g', el]
        refine new_any fun b8 hb8 => ?_
        have N2 := And.intro (box_ne hb8 e5') (box_ne hb8 el')
        try simp only [go_sem, reduceIte, Nat.reduceEqDiff, Nat.reduceAdd, Nat.reduceSub, Nat.reduceMul, Nat.reduceLT, Nat.reduceLeDiff, Nat.reducePow, Int.reduceToNat, Int.reduceLT, Int.reduceLE, Int.reduceEq, Int.reduceNe, Int.reduceAdd, Int.reduceSub, Int.reduceMul, Int.reduceNeg, q5, q51, q52, q53, e5', N2]
        refine cE_vn (flag_ok x.null) ?_
        try simp only [go_sem, reduceIte, Nat.reduceEqDiff, Nat.reduceAdd, Nat.reduceSub, Nat.reduceMul, Nat.reduceLT, Nat.reduceLeDiff, Nat.reducePow, Int.reduceToNat, Int.reduceLT, Int.reduceLE, Int.reduceEq, Int.reduceNe, Int.reduceAdd, Int.reduceSub, Int.reduceMul, Int.reduceNeg, q5, q51, q52, q53, e5', N2, htk]
        refine ⟨by omega, fun t5 _ => ?_⟩
        rw [bs_snoc]
        refine cE_t0 (S_ok _ (a2 ++ [bit x.null]) x.n hxi (by simp; omega) (by omega)) fun t6 _ => ?_
        try simp only [go_sem, reduceIte, Nat.reduceEqDiff, Nat.reduceAdd, Nat.reduceSub, Nat.reduceMul, Nat.reduceLT, Nat.reduceLeDiff, Nat.reducePow, Int.reduceToNat, Int.reduceLT, Int.reduceLE, Int.reduceEq, Int.reduceNe, Int.reduceAdd, Int.reduceSub, Int.reduceMul, Int.reduceNeg, q5, q51, q52, q53, e5', N2]
        refine cE_t0 (Text_ok _ (a2 ++ [bit x.null] ++ enc (zig x.n)) x.s (by simp; omega) (by have := enc_len (n := x.s.size) (by omega); omega)) fun t7 _ => ?_
        try simp only [go_sem, reduceIte, Nat.reduceEqDiff, Nat.reduceAdd, Nat.reduceSub, Nat.reduceMul, Nat.reduceLT, Nat.reduceLeDiff, Nat.reducePow, Int.reduceToNat, Int.reduceLT, Int.reduceLE, Int.reduceEq, Int.reduceNe, Int.reduceAdd, Int.reduceSub, Int.reduceMul, Int.reduceNeg, q5, q51, q52, q53, e5', N2, wj]
        refine ⟨by simp [rdAdd, N2], ⟨j + 1, t7, by omega, List.mem_cons_self .., ?_, ?_, fun b cs e1 e2 => ?_, rfl⟩, by omega⟩
        · rw [hnext]; try exact hit_set rfl
        · simp only [Heap.set, if_neg (Ne.symm N.2.2.1), if_neg N2.2.1]; exact el'
        · have e8 : b ≠ b8 := fun e => by have := hkp b cs e1 e2; rw [e, hb8] at this; cases this
          simp only [Heap.set, if_neg e2, if_neg e8]; exact hkp b cs e1 e2
      · try simp only [go_sem, reduceIte, Nat.reduceEqDiff, Nat.reduceAdd, Nat.reduceSub, Nat.reduceMul, Nat.reduceLT, Nat.reduceLeDiff, Nat.reducePow, Int.reduceToNat, Int.reduceLT, Int.reduceLE, Int.reduceEq, Int.reduceNe, Int.reduceAdd, Int.reduceSub, Int.reduceMul, Int.reduceNeg, q5, q51, q52, q53]
        rw [List.take_of_length_le (by omega)] at e5'
        exact rgQ_end hkp el' e5' ⟨.live t 1, by rw [hflat, hE]; simp, (show tokOk 1 ω (.live t 1) from ⟨ht, rfl⟩)⟩
    · have ha : isAt q.op = true := by rw [h]; rfl
      have hE : encH q = [o] ++ enc (zig q.id) ++ enc q.text.size ++ sb q.text := by rw [encH, ha, hop]; try simp [h]
      have ht := hf.t200
      try simp only [go_sem, reduceIte, Nat.reduceEqDiff, Nat.reduceAdd, Nat.reduceSub, Nat.reduceMul, Nat.reduceLT, Nat.reduceLeDiff, Nat.reducePow, Int.reduceToNat, Int.reduceLT, Int.reduceLE, Int.reduceEq, Int.reduceNe, Int.reduceAdd, Int.reduceSub, Int.reduceMul, Int.reduceNeg, q5, N, ha, g4]
      refine cK_t0 (S_ok _ (acc ++ [o]) q.id hq.id (by simp; omega) (by omega)) fun t2 _ => ?_
      try simp only [go_sem, reduceIte, Nat.reduceEqDiff, Nat.reduceAdd, Nat.reduceSub, Nat.reduceMul, Nat.reduceLT, Nat.reduceLeDiff, Nat.reducePow, Int.reduceToNat, Int.reduceLT, Int.reduceLE, Int.reduceEq, Int.reduceNe, Int.reduceAdd, Int.reduceSub, Int.reduceMul, Int.reduceNeg, q5, N, g4, h]
      refine cK_t0 (Text_ok _ (acc ++ [o] ++ enc (zig q.id)) q.text (by simp; omega) (by have := enc_len (n := q.text.size) (by omega); omega)) fun t3 _ => ?_
      try simp only [go_sem, reduceIte, Nat.reduceEqDiff, Nat.reduceAdd, Nat.reduceSub, Nat.reduceMul, Nat.reduceLT, Nat.reduceLeDiff, Nat.reducePow, Int.reduceToNat, Int.reduceLT, Int.reduceLE, Int.reduceEq, Int.reduceNe, Int.reduceAdd, Int.reduceSub, Int.reduceMul, Int.reduceNeg, q5, N, g4, h]
      exact hend (List.mem_cons_self ..) (by rw [hE]; try simp)
    · have ha : isAt q.op = true := by rw [h]; rfl
      have hE : encH q = [o] ++ enc (zig q.id) := by rw [encH, ha, hop]; try simp [h]
      try simp only [go_sem, reduceIte, Nat.reduceEqDiff, Nat.reduceAdd, Nat.reduceSub, Nat.reduceMul, Nat.reduceLT, Nat.reduceLeDiff, Nat.reducePow, Int.reduceToNat, Int.reduceLT, Int.reduceLE, Int.reduceEq, Int.reduceNe, Int.reduceAdd, Int.reduceSub, Int.reduceMul, Int.reduceNeg, q5, N, ha, g4]
      refine cK_t0 (S_ok _ (acc ++ [o]) q.id hq.id (by simp; omega) (by omega)) fun t2 _ => ?_
      try simp only [go_sem, reduceIte, Nat.reduceEqDiff, Nat.reduceAdd, Nat.reduceSub, Nat.reduceMul, Nat.reduceLT, Nat.reduceLeDiff, Nat.reducePow, Int.reduceToNat, Int.reduceLT, Int.reduceLE, Int.reduceEq, Int.reduceNe, Int.reduceAdd, Int.reduceSub, Int.reduceMul, Int.reduceNeg, q5, N, g4, h]
      exact hend (List.mem_cons_self ..) (by rw [hE]; try simp)
    all_goals
      have ha : isAt q.op = false := by rw [h]; rfl
      have hE : encH q = [o] ++ enc q.kids.length := by rw [encH, ha, hop]; try simp [h]
      have hk16 := hf.k16
      have wk : ((q.kids.map Pr.d).length : Int) % 18446744073709551616 = ((q.kids.length : Nat) : Int) := by rw [List.length_map]; omega
      try simp only [go_sem, reduceIte, Nat.reduceEqDiff, Nat.reduceAdd, Nat.reduceSub, Nat.reduceMul, Nat.reduceLT, Nat.reduceLeDiff, Nat.reducePow, Int.reduceToNat, Int.reduceLT, Int.reduceLE, Int.reduceEq, Int.reduceNe, Int.reduceAdd, Int.reduceSub, Int.reduceMul, Int.reduceNeg, q5, N, ha, g4]
      try simp only [go_sem, reduceIte, Nat.reduceEqDiff, Nat.reduceAdd, Nat.reduceSub, Nat.reduceMul, Nat.reduceLT, Nat.reduceLeDiff, Nat.reducePow, Int.reduceToNat, Int.reduceLT, Int.reduceLE, Int.reduceEq, Int.reduceNe, Int.reduceAdd, Int.reduceSub, Int.reduceMul, Int.reduceNeg, q5, N, g4, h, wk]
      refine cK_t0 (U_ok _ (acc ++ [o]) q.kids.length (by simp; omega) (by have := enc_len (n := q.kids.length) (by omega); omega)) fun t2 _ => ?_
      try simp only [go_sem, reduceIte, Nat.reduceEqDiff, Nat.reduceAdd, Nat.reduceSub, Nat.reduceMul, Nat.reduceLT, Nat.reduceLeDiff, Nat.reducePow, Int.reduceToNat, Int.reduceLT, Int.reduceLE, Int.reduceEq, Int.reduceNe, Int.reduceAdd, Int.reduceSub, Int.reduceMul, Int.reduceNeg, q5, N, g4, h]
      exact hend (List.mem_cons_self ..) (by rw [hE]; try simp)
  · rintro β c ω hk hbo ⟨tk1, rfl, hok⟩
    try simp only [go_sem, reduceIte, Nat.reduceEqDiff, Nat.reduceAdd, Nat.reduceSub, Nat.reduceMul, Nat.reduceLT, Nat.reduceLeDiff, Nat.reducePow, Int.reduceToNat, Int.reduceLT, Int.reduceLE, Int.reduceEq, Int.reduceNe, Int.reduceAdd, Int.reduceSub, Int.reduceMul, Int.reduceNeg, q5, hbo]
    exact fin_ta hok
end Go.Proofs.YtpblgfgcoamgmaaGreatS
namespace Go.Proofs.YtpblgfgcoamgmaaGreatV
open Go

section
variable {P : Program} {G : Heap} {K : Kn} {β : Heap} {ω : List Nat} {w : World}

end
end Go.Proofs.YtpblgfgcoamgmaaGreatV
namespace Go.Proofs.YtpblgfgcoamgmaaGreatS
open Go Go.Proofs.YtpblgfgcoamgmaaGreatV

variable {G : Heap}
attribute [local irreducible] VN VC VX VQ VY VW VTA VT0

def isIx (n : Nat) (d : D) : Prop := ∃ r : Nat, d = .int .i64 r ∧ r < n
structure Gd (n : Nat) (q : Pr) : Prop where
  dep : depN n q ≤ n
  form : ∀ s ∈ subs q, FormP s
  pi : ∀ s ∈ subs q, PI s
theorem Gd.wellF {q : Pr} (h : Gd 8 q) : wellF q = true := by
  unfold YtpblgfgcoamgmaaGreatS.wellF
  rw [decide_eq_true h.dep, Bool.true_and, List.all_eq_true]
  exact fun s hs => decide_eq_true (h.form s hs)
theorem subs_leaf {q : Pr} (h : q.kids = []) : subs q = [q] := by rw [subs_eq, h, subsL_nil]
theorem Gd.leaf {n : Nat} {q : Pr} (h : q.kids = []) (hf : FormP q) (hp : PI q) : Gd (n + 1) q := by
  refine ⟨?_, fun s hs => ?_, fun s hs => ?_⟩
  · rw [depN, h]; simp
  all_goals
    rw [subs_leaf h, List.mem_singleton] at hs
    subst hs; assumption
theorem foldl_max_leR {l : List Nat} {a n : Nat} (ha : a ≤ n) (h : ∀ x ∈ l, x ≤ n) : l.foldl max a ≤ n := by
  induction l generalizing a with
  | nil => exact ha
  | cons x l ih => exact ih (by have := h x (by simp); omega) fun y hy => h y (by simp [hy])
theorem Gd.node {n : Nat} {q : Pr} (hk : ∀ k ∈ q.kids, Gd n k) (hf : FormP q) (hp : PI q) : Gd (n + 1) q := by
  refine ⟨?_, fun s hs => ?_, fun s hs => ?_⟩
  · rw [depN]
    have := foldl_max_leR (l := q.kids.map (depN n)) (Nat.zero_le n) fun x hx => by
      obtain ⟨k, hk', rfl⟩ := List.mem_map.1 hx; exact (hk k hk').dep
    omega
  all_goals
    rw [subs_eq] at hs
    rcases List.mem_cons.1 hs with rfl | hs
    · assumption
    · rw [subsL_flat] at hs
      obtain ⟨k, hk', hs'⟩ := List.mem_flatMap.1 hs
      first | exact (hk k hk').form s hs' | exact (hk k hk').pi s hs'
theorem Gd.mono {n : Nat} {q : Pr} (h : Gd n q) : Gd n q := h
theorem I64'_0 : I64' 0 := ⟨by omega, by omega⟩
theorem nul_form : FormP (.mk 0 0 0 0 [] ByteArray.empty []) := by decide +kernel
theorem form1 (id lo hi : Int) : FormP (.mk 1 id lo hi [] ByteArray.empty []) := by constructor <;> simp [usedP, isAt, Pr.op, Pr.id, Pr.lo, Pr.hi, Pr.set, Pr.text, Pr.kids]
theorem form2 (id : Int) (set : List Vl) (h : set.length ≤ 16) (h2 : ∀ v ∈ set, v.s.size ≤ 200) : FormP (.mk 2 id 0 0 set ByteArray.empty []) := by
  constructor <;> simp [usedP, isAt, Pr.op, Pr.id, Pr.lo, Pr.hi, Pr.set, Pr.text, Pr.kids]
  · exact h
  · exact h2
theorem form3 (id : Int) (t : ByteArray) (h : t.size ≤ 200) : FormP (.mk 3 id 0 0 [] t []) := by
  constructor <;> simp [usedP, isAt, Pr.op, Pr.id, Pr.lo, Pr.hi, Pr.set, Pr.text, Pr.kids]
  exact h
theorem form4 (id : Int) : FormP (.mk 4 id 0 0 [] ByteArray.empty []) := by constructor <;> simp [usedP, isAt, Pr.op, Pr.id, Pr.lo, Pr.hi, Pr.set, Pr.text, Pr.kids]
theorem formK (o : Int) (l : List Pr) (ho : 5 ≤ o ∧ o ≤ 7) (h : l.length ≤ 16) (h7 : o = 7 → l.length = 1) : FormP (.mk o 0 0 0 [] ByteArray.empty l) := by
  obtain rfl | rfl | rfl : o = 5 ∨ o = 6 ∨ o = 7 := by omega
  all_goals
    constructor <;> simp [usedP, isAt, Pr.op, Pr.id, Pr.lo, Pr.hi, Pr.set, Pr.text, Pr.kids]
    first | exact h | exact h7 rfl | skip
  all_goals exact h7 rfl
theorem subs_pos (q : Pr) : 1 ≤ (subs q).length := by rw [subs_eq]; simp
end Go.Proofs.YtpblgfgcoamgmaaGreatS
namespace Go.Proofs.YtpblgfgcoamgmaaGreatS
open Go Go.Proofs.YtpblgfgcoamgmaaGreatV

variable {G : Heap}
attribute [local irreducible] VN VC VX VQ VP VY VW

def isTy (t : Int) : Bool := decide (1 ≤ t ∧ t ≤ 5)
def limT (t : Int) : Int × Int := if t = 1 then (0, 1) else if t = 2 then (-2147483648, 2147483647) else if t = 5 then (-1000000, 1000000) else (-9223372036854775808, 9223372036854775807)
def valOk (v : Vl) (t : Int) : Bool := isTy t && (if v.null = true then decide (v = Vl.nul) else if t = 4 then decide (v.n = 0 ∧ v.s.size ≤ 200) else decide (v.s = ByteArray.empty ∧ (limT t).1 ≤ v.n ∧ v.n ≤ (limT t).2))
theorem valOk_nul (t : Int) : valOk Vl.nul t = isTy t := by simp [valOk, Vl.nul]
def incF : List Vl → Bool
  | a :: b :: l => decide (cmpV a b < 0) && incF (b :: l)
  | _ => true
def wrongV (t : Int) (v : Vl) : Bool := v.null || !valOk v t
def fitsF (p : Pr) (t : Int) : Bool := isTy t && (if p.op = 1 then decide (t ≠ 4) else if p.op = 3 then decide (t = 4) else if p.op = 2 then incF p.set && decide (0 < p.set.length) && !p.set.any (wrongV t) else true)
def typeOf (fs : List Fd) (id : Int) : Option Int := (fs.find? fun f => decide (f.id = id)).map (·.type)
def atomOk (fs : List Fd) (q : Pr) : Bool := !isAt q.op || match typeOf fs q.id with
  | none => false
  | some t => fitsF q t
def validF (fs : List Fd) (p : Pr) : Bool := wellF p && (subs p).all (atomOk fs)
end Go.Proofs.YtpblgfgcoamgmaaGreatS
namespace Go.Proofs.YtpblgfgcoamgmaaGreatV
open Go Go.ChangeShapes Go.RowKit

inductive RW (w : World) : D → Value → Prop
  | int (k : IntKind) (n : Int) : RW w (.int k n) (.int k n)
  | bool (b : Bool) : RW w (.bool b) (.bool b)
  | str (s : ByteArray) (h : s.size ≤ mostLen) : RW w (.str s) (.string s)
  | nil : RW w (.sl .none []) (.slice none 0 0)
  | sl {xs : List D} {ad : Addr} {n c sz : Nat} (vs : Nat → Nat → Value) (hn : xs.length = n) (hc : n ≤ c) (hm : n ≤ mostLen) (hs : ∀ (i : Nat) (x : D), xs[i]? = some x → ad.spot = none ∧ x.cells.length = sz)
      (h2 : ∀ (i : Nat) (x : D) (j : Nat) (y : D), xs[i]? = some x → x.cells[j]? = some y → w.cell? ⟨ad.block, ad.off + i * sz + j, none⟩ = some (vs i j))
      (h3 : ∀ (i : Nat) (x : D) (j : Nat) (y : D), xs[i]? = some x → x.cells[j]? = some y → RW w y (vs i j)) : RW w (.sl .none xs) (.slice (some ad) n c)

def K0 (w : World) : Kn where
  cells := fun b o d => ∃ v, w.cell? ⟨b, o, none⟩ = some v ∧ RW w d v
  tok := fun _ => none

theorem RW.rep {w : World} {d : D} {v : Value} (h : RW w d v) : Rep (K0 w) d v := by
  cases h with
  | int k n => exact .int k n
  | bool b => exact .bool b
  | str s h => exact .str s h
  | nil => exact .sl rfl (Nat.le_refl _) (Nat.zero_le _) (sz := 0) (fun i x h => by simp at h) trivial
  | sl vs hn hc hm hs h2 h3 =>
    rename_i xs ad n c sz
    refine .sl (sz := sz) hn hc hm (fun i x hx => ?_) trivial
    obtain ⟨q1, q2⟩ := hs i x hx
    exact ⟨_, rfl, q1, q2, fun j y hy => ⟨_, h2 i x j y hx hy, h3 i x j y hx hy⟩⟩

theorem K0.rel {G : Heap} {w : World} (hG : ∀ g cs, G g = some cs → ∀ (o : Nat) d, cs[o]? = some d → (K0 w).cells g o d) : Rel G (K0 w) Heap.nil [] w :=
  ⟨fun b o d ⟨v, h1, h2⟩ => ⟨v, h1, h2.rep⟩, fun b cs h => (nomatch h : False).elim, fun b cs h => (nomatch h : False).elim, fun t h => (List.not_mem_nil h).elim, fun t u h h' a => (List.not_mem_nil a).elim, hG, ⟨0, fun _ _ => rfl⟩⟩

def RWs (w : World) (ys : List D) (cs : List Value) : Prop := ys.length = cs.length ∧ ∀ (j : Nat) y v, ys[j]? = some y → cs[j]? = some v → RW w y v

theorem RWs.append {w : World} {ys zs : List D} {cs es : List Value} (h : RWs w ys cs) (h' : RWs w zs es) : RWs w (ys ++ zs) (cs ++ es) := by
  refine ⟨by simp [h.1, h'.1], fun j y v hy hv => ?_⟩
  by_cases hj : j < ys.length
  · rw [List.getElem?_append_left hj] at hy
    rw [List.getElem?_append_left (by have := h.1; omega)] at hv
    exact h.2 j y v hy hv
  · rw [List.getElem?_append_right (by omega)] at hy
    rw [List.getElem?_append_right (by have := h.1; omega), ← h.1] at hv
    exact h'.2 _ y v hy hv

theorem RWs.one {w : World} {y : D} {v : Value} (h : RW w y v) : RWs w [y] [v] := ⟨rfl, fun j y' v' hy hv => by
  cases j with
  | zero => cases hy; cases hv; exact h
  | succ j => simp at hy⟩

theorem RWs.rep {w : World} : ∀ {ys : List D} {cs : List Value}, RWs w ys cs → RepL (K0 w) ys cs := fun {ys cs} h =>
  RepL.of_get h.1 fun i d v hd hv => (h.2 i d v hd hv).rep

def pk (P : Program) (t : TypeId) (ys : List D) : D := match P.underlying t with
  | some (.struct _) | some (.array _ _) => .agg ys
  | _ => ys.headD .any

def HasC (P : Program) : Nat → TypeId → List D → Prop
  | 0, _, _ => False
  | n + 1, t, ys => match P.underlying t with
    | some .bool => ∃ b, ys = [.bool b]
    | some (.int k) => ∃ i, ys = [.int k i] ∧ (Lit.int k i).wf = true
    | some .string => ∃ s : ByteArray, ys = [.str s] ∧ s.size ≤ mostLen
    | some (.slice e) => ∃ xs : List (List D), ys = [.sl .none (xs.map (pk P e))] ∧ xs.length ≤ mostLen ∧ ∀ x ∈ xs, HasC P n e x
    | some (.struct fs) => ∃ zs : List (List D), zs.length = fs.size ∧ (∀ (i : Nat) (f : Field) (z : List D), fs[i]? = some f → zs[i]? = some z → HasC P n f.type z) ∧ ys = zs.flatten
    | some (.array m e) => ∃ zs : List (List D), zs.length = m ∧ (∀ z ∈ zs, HasC P n e z) ∧ ys = zs.flatten
    | _ => False

def okT (P : Program) (T : List TypeId) (t : TypeId) : Bool := match P.underlying t with
  | some .bool | some (.int _) | some .string => true
  | some (.slice e) => T.contains e && decide (0 < P.cellsOf e)
  | some (.struct fs) => fs.toList.all (fun f => T.contains f.type) && (fs.toList.map (·.offset) == (List.range fs.toList.length).map fun i => ((fs.toList.take i).map fun f => P.cellsOf f.type).sum) && (P.cellsOf t == (fs.toList.map fun f => P.cellsOf f.type).sum)
  | some (.array m e) => T.contains e && (P.cellsOf t == m * P.cellsOf e)
  | _ => false

mutual
def D.bulk : D → Nat
  | .str s => s.size + 1
  | .sl _ xs => bulkL xs + 1
  | .agg cs => bulkL cs
  | _ => 1
def bulkL : List D → Nat
  | [] => 0
  | d :: r => d.bulk + bulkL r
end

theorem bulkL_append (a b : List D) : bulkL (a ++ b) = bulkL a + bulkL b := by
  induction a with
  | nil => simp [bulkL]
  | cons x a ih => simp only [List.cons_append, bulkL, ih]; omega

mutual
def ub {H : Type} : DataW H → Nat
  | .lit (.string bytes) => bytes.length + 1
  | .lit _ => 1
  | .nil => 1
  | .ptr d => ub d + 1
  | .slice elems spare => ubs elems + ubs spare + 1
  | .agg parts => ubs parts + 1
  | .iface _ d => ub d + 1
  | .map entries => ube entries + 1
  | .held _ => 1
def ubs {H : Type} : List (DataW H) → Nat
  | [] => 0
  | d :: r => ub d + ubs r
def ube {H : Type} : List (Lit × DataW H) → Nat
  | [] => 0
  | x :: r => ubn x + ube r
def ubn {H : Type} : Lit × DataW H → Nat
  | (.string bytes, d) => bytes.length + ub d + 1
  | (_, d) => ub d + 1
end

theorem ubs_range {α H : Type} (f : α → DataW H) : ∀ (l : List α) (g : Nat → D), (∀ i a, l[i]? = some a → (g i).bulk ≤ ub (f a)) → bulkL ((List.range l.length).map g) ≤ ubs (l.map f)
  | [], g, _ => by simp [bulkL, ubs]
  | a :: l, g, h => by
    simp only [List.length_cons, List.range_succ_eq_map, List.map_cons, List.map_map, bulkL, ubs]
    have h0 := h 0 a rfl
    have ih := ubs_range f l (g ∘ Nat.succ) (fun i b hb => h (i + 1) b (by simpa using hb))
    omega

theorem ub_pos {H : Type} (d : DataW H) : 1 ≤ ub d := by
  cases d with
  | lit l => cases l <;> simp [ub]
  | _ => simp [ub]
theorem ubs_length {H : Type} : ∀ l : List (DataW H), l.length ≤ ubs l
  | [] => by simp [ubs]
  | d :: l => by have := ubs_length l; have := ub_pos d; simp only [List.length_cons, ubs]; omega
theorem ubs_get {H : Type} : ∀ {l : List (DataW H)} {i : Nat} {d : DataW H}, l[i]? = some d → ub d ≤ ubs l
  | [], i, d, h => by simp at h
  | e :: l, 0, d, h => by cases h; simp only [ubs]; omega
  | e :: l, i + 1, d, h => by have := ubs_get (l := l) (i := i) (by simpa using h); simp only [ubs]; omega

theorem HasC.cells {P : Program} {n : Nat} {t : TypeId} {ys : List D} (h : HasC P n t ys) : (pk P t ys).cells = ys := by
  cases n with
  | zero => exact h.elim
  | succ n =>
    simp only [HasC] at h
    unfold pk
    split at h <;> rename_i hu <;> simp only [hu]
    · obtain ⟨b, rfl⟩ := h; rfl
    · obtain ⟨b, rfl, _⟩ := h; rfl
    · obtain ⟨b, rfl, _⟩ := h; rfl
    · obtain ⟨b, rfl, _⟩ := h; rfl
    · rfl
    · rfl
    · exact h.elim

theorem HasC.bulk {P : Program} {n : Nat} {t : TypeId} {ys : List D} (h : HasC P n t ys) : (pk P t ys).bulk = bulkL ys := by
  cases n with
  | zero => exact h.elim
  | succ n =>
    simp only [HasC] at h
    unfold pk
    split at h <;> rename_i hu <;> simp only [hu]
    · obtain ⟨b, rfl⟩ := h; simp [bulkL]
    · obtain ⟨b, rfl, _⟩ := h; simp [bulkL]
    · obtain ⟨b, rfl, _⟩ := h; simp [bulkL]
    · obtain ⟨b, rfl, _⟩ := h; simp [bulkL]
    · simp [D.bulk]
    · simp [D.bulk]
    · exact h.elim

section
variable {H : Type} {enc : TypeId × Value → H} {P : Program} {w : World} {base : Nat} {T : List TypeId}

theorem parts_cells {n : Nat} (IH : ∀ (t : TypeId) (cs : List Value) (x : DataW H × List MemPlace), t ∈ T → DataW.trod enc P w base (fun _ => true) true n t cs = some x → ub x.1 ≤ mostLen → ∃ ys, HasC P n t ys ∧ RWs w ys cs ∧ bulkL ys ≤ ub x.1) :
    ∀ (l : List TypeId) (cs : List Value) (xs : List (DataW H × List MemPlace)), (∀ t ∈ l, t ∈ T) → xs.length = l.length → cs.length = (l.map P.cellsOf).sum →
    (∀ (i : Nat) t, l[i]? = some t → DataW.trod enc P w base (fun _ => true) true n t ((cs.drop (((l.take i).map P.cellsOf).sum)).take (P.cellsOf t)) = xs[i]?) → ubs (xs.map (·.1)) ≤ mostLen →
    ∃ zs : List (List D), zs.length = l.length ∧ (∀ (i : Nat) t z, l[i]? = some t → zs[i]? = some z → HasC P n t z) ∧ RWs w zs.flatten cs ∧ bulkL zs.flatten ≤ ubs (xs.map (·.1))
  | [], cs, xs, _, hx, hc, _, _ => ⟨[], rfl, fun i t z h => by simp at h, by
      simp only [List.map_nil, List.sum_nil, List.length_eq_zero_iff] at hc
      subst hc
      exact ⟨rfl, fun j y v h => by simp at h⟩, by simp [bulkL]⟩
  | t :: l, cs, [], _, hx, _, _, _ => by simp at hx
  | t :: l, cs, x :: xs, hm, hx, hc, h, hbk => by
    simp only [List.map_cons, ubs] at hbk
    have h0 := h 0 t rfl
    simp only [List.take_zero, List.map_nil, List.sum_nil, List.drop_zero, List.getElem?_cons_zero] at h0
    obtain ⟨ys, a1, a2, a3⟩ := IH t _ x (hm t (by simp)) h0 (by omega)
    simp only [List.map_cons, List.sum_cons] at hc
    obtain ⟨zs, b1, b2, b3, b4⟩ := parts_cells IH l (cs.drop (P.cellsOf t)) xs (fun t ht => hm t (by simp [ht])) (by simpa using hx) (by simp; omega) (fun i u hu => by
      have := h (i + 1) u (by simpa using hu)
      simpa [List.drop_drop] using this) (by omega)
    refine ⟨ys :: zs, by simp [b1], fun i u z hu hz => ?_, ?_, ?_⟩
    · cases i with
      | zero => cases hu; cases hz; exact a1
      | succ i => exact b2 i u z (by simpa using hu) (by simpa using hz)
    · have := a2.append b3
      rw [List.take_append_drop] at this
      simpa using this
    · simp only [List.flatten_cons, bulkL_append, List.map_cons, ubs]
      omega

theorem cells?_get {a : Addr} {k : Nat} {cs : List Value} (h : w.cells? base a k = some cs) : cs.length = k ∧ ∀ j, j < k → w.cell? (a.add j) = cs[j]? := by
  unfold World.cells? at h
  split at h
  · exact ⟨by simpa using mapM_some_length h, fun j hj => mapM_some_get h j j (by simp [hj])⟩
  · cases h

theorem cell_add {a : Addr} {j : Nat} {v : Value} (h : w.cell? (a.add j) = some v) : w.cell? ⟨a.block, a.off + j, none⟩ = some v ∧ (j = 0 → a.spot = none) := by
  unfold Addr.add at h
  split at h
  · rename_i hj
    subst hj
    have : a.spot = none := by
      unfold World.cell? at h
      split at h
      · cases hs : a.spot with
        | none => rfl
        | some x => simp [hs] at h
      · cases h
    refine ⟨?_, fun _ => this⟩
    rw [← h]
    cases a
    simp only at this
    subst this
    rfl
  · rename_i hj
    refine ⟨?_, fun h => absurd h hj⟩
    exact h

theorem trod_cells (hT : T.all (okT P T) = true) : ∀ (n : Nat) (t : TypeId) (cs : List Value) (x : DataW H × List MemPlace), t ∈ T → DataW.trod enc P w base (fun _ => true) true n t cs = some x → ub x.1 ≤ mostLen → ∃ ys, HasC P n t ys ∧ RWs w ys cs ∧ bulkL ys ≤ ub x.1
  | 0, t, cs, x, _, h, _ => by simp [DataW.trod] at h
  | n + 1, t, cs, x, ht, h, hbk => by
    have hok := List.all_eq_true.1 hT t ht
    simp only [HasC]
    unfold okT at hok
    split at hok <;> rename_i hu
    · obtain ⟨b, rfl, rfl⟩ := DataW.trod_bool hu h
      try simp only [hu]
      exact ⟨_, ⟨b, rfl⟩, RWs.one (.bool b), by simp [bulkL, D.bulk, ub]⟩
    · obtain ⟨i, rfl, rfl, hw⟩ := DataW.trod_int hu h
      try simp only [hu]
      exact ⟨_, ⟨i, rfl, hw⟩, RWs.one (.int _ i), by simp [bulkL, D.bulk, ub]⟩
    · obtain ⟨s, rfl, rfl, hs⟩ := DataW.trod_string hu h
      try simp only [hu]
      simp only [ub, Array.length_toList] at hbk
      have hs' : s.size ≤ mostLen := by have : s.size = s.data.size := rfl; omega
      refine ⟨_, ⟨s, rfl, hs'⟩, RWs.one (.str s hs'), ?_⟩
      simp only [bulkL, D.bulk, ub, Array.length_toList]
      exact Nat.le_refl _
    · rename_i e
      simp only [Bool.and_eq_true, List.contains_iff_mem, decide_eq_true_eq] at hok
      try simp only [hu]
      rcases DataW.trod_slice hu h with ⟨rfl, rfl⟩ | ⟨a, len, cap, elems, rest, m, hm, rfl, rfl, hba, hlc, hcm, hel, hget, hsp, _⟩
      · exact ⟨_, ⟨[], rfl, by simp, fun x hx => by simp at hx⟩, RWs.one .nil, by simp [bulkL, D.bulk, ub]⟩
      · cases hm
        simp only [ub] at hbk
        have hlen := ubs_length (elems.map (·.1))
        simp only [List.length_map] at hlen
        have key : ∀ i, ∃ p : List D × List Value, i < len → w.cells? base (a.add (i * P.cellsOf e)) (P.cellsOf e) = some p.2 ∧ HasC P n e p.1 ∧ RWs w p.1 p.2 ∧ ∀ y, elems[i]? = some y → bulkL p.1 ≤ ub y.1 := fun i => by
          by_cases hi : i < len
          · have h1 := hget i hi
            have h2 : elems[i]? = some elems[i] := List.getElem?_eq_getElem (by omega)
            rw [h2] at h1
            obtain ⟨cs', h3, h4⟩ := Option.bind_eq_some_iff.1 h1
            obtain ⟨ys, b1, b2, b3⟩ := trod_cells hT n e cs' _ hok.1 h4 (by have := ubs_get (l := elems.map (·.1)) (i := i) (d := elems[i].1) (by rw [List.getElem?_map, h2]; rfl); omega)
            exact ⟨(ys, cs'), fun _ => ⟨h3, b1, b2, fun y hy => by rw [h2] at hy; cases hy; exact b3⟩⟩
          · exact ⟨([], []), fun h => absurd h hi⟩
        obtain ⟨F, hF⟩ := Classical.axiomOfChoice key
        refine ⟨_, ⟨(List.range len).map fun i => (F i).1, rfl, by simp; omega, fun x hx => ?_⟩, RWs.one (.sl (sz := P.cellsOf e) (fun i j => ((F i).2).getD j undef) (by simp) hlc (by omega) (fun i x hx => ?_) (fun i x j y hx hy => ?_) (fun i x j y hx hy => ?_)), ?_⟩
        · simp only [List.mem_map, List.mem_range] at hx
          obtain ⟨i, hi, rfl⟩ := hx
          exact (hF i hi).2.1
        · have hi : i < len := by have := (List.getElem?_eq_some_iff.1 hx).1; simpa using this
          simp only [List.map_map, List.getElem?_map, List.getElem?_range hi, Option.map_some, Option.some.injEq, Function.comp] at hx
          subst hx
          obtain ⟨c1, c2, c3, c4⟩ := hF i hi
          obtain ⟨d1, d2⟩ := cells?_get c1
          have h0 : (F i).2[0]? = some ((F i).2)[0] := List.getElem?_eq_getElem (by omega)
          have h1 := d2 0 hok.2
          rw [h0] at h1
          refine ⟨?_, by rw [c2.cells, c3.1, d1]⟩
          have h2 := (cell_add h1).2 rfl
          unfold Addr.add at h2
          split at h2
          · exact h2
          · rename_i hne
            have hlen0 : 0 < len := by omega
            obtain ⟨e1, e2, e3, e4⟩ := hF 0 hlen0
            obtain ⟨g1, g2⟩ := cells?_get e1
            have h5 : (F 0).2[0]? = some ((F 0).2)[0] := List.getElem?_eq_getElem (by omega)
            have h6 := g2 0 hok.2
            rw [h5] at h6
            have h7 := (cell_add h6).2 rfl
            simpa [Addr.add] using h7
        · have hi : i < len := by have := (List.getElem?_eq_some_iff.1 hx).1; simpa using this
          simp only [List.map_map, List.getElem?_map, List.getElem?_range hi, Option.map_some, Option.some.injEq, Function.comp] at hx
          subst hx
          obtain ⟨c1, c2, c3, c4⟩ := hF i hi
          obtain ⟨d1, d2⟩ := cells?_get c1
          rw [c2.cells] at hy
          have hj : j < (F i).2.length := by have := (List.getElem?_eq_some_iff.1 hy).1; have := c3.1; omega
          have h0 : (F i).2[j]? = some ((F i).2)[j] := List.getElem?_eq_getElem hj
          have h1 := d2 j (by omega)
          rw [h0] at h1
          have h2 := (cell_add h1).1
          have e1 : (a.add (i * P.cellsOf e)).block = a.block := by unfold Addr.add; split <;> rfl
          have e2 : (a.add (i * P.cellsOf e)).off = a.off + i * P.cellsOf e := by
            unfold Addr.add; split
            · rename_i hz; simp [hz]
            · rfl
          rw [e1, e2] at h2
          rw [h2]
          simp [List.getD, h0]
        · have hi : i < len := by have := (List.getElem?_eq_some_iff.1 hx).1; simpa using this
          simp only [List.map_map, List.getElem?_map, List.getElem?_range hi, Option.map_some, Option.some.injEq, Function.comp] at hx
          subst hx
          obtain ⟨c1, c2, c3, c4⟩ := hF i hi
          rw [c2.cells] at hy
          have hj : j < (F i).2.length := by have := (List.getElem?_eq_some_iff.1 hy).1; have := c3.1; omega
          have h0 : (F i).2[j]? = some ((F i).2)[j] := List.getElem?_eq_getElem hj
          refine c3.2 j y _ hy ?_
          simp [List.getD, h0]
        · simp only [bulkL, D.bulk, ub, List.map_map]
          have := ubs_range (fun y : DataW H × List MemPlace => y.1) elems (fun i => pk P e (F i).1) (fun i y hy => by
            have hi : i < len := by have := (List.getElem?_eq_some_iff.1 hy).1; omega
            obtain ⟨c1, c2, c3, c4⟩ := hF i hi
            rw [c2.bulk]
            exact c4 y hy)
          rw [hel] at this
          have e : (pk P e ∘ fun i => (F i).1) = fun i => pk P e (F i).1 := rfl
          rw [e]
          omega
    · rename_i fs
      simp only [Bool.and_eq_true, List.all_eq_true, List.contains_iff_mem, beq_iff_eq] at hok
      obtain ⟨⟨k1, k2⟩, k3⟩ := hok
      try simp only [hu]
      obtain ⟨xs, m, hm, rfl, hcs, hxs, hget⟩ := DataW.trod_struct hu h
      cases hm
      obtain ⟨zs, z1, z2, z3, z4⟩ := parts_cells (n := n) (fun t cs x ht h hb => trod_cells hT n t cs x ht h hb) (fs.toList.map (·.type)) cs xs (fun t ht => by
        simp only [List.mem_map] at ht
        obtain ⟨f, hf, rfl⟩ := ht
        exact k1 f hf) (by simp [hxs]) (by rw [hcs, k3, List.map_map]; rfl) (fun i u hu' => by
          rw [List.getElem?_map] at hu'
          obtain ⟨f, hf, rfl⟩ := Option.map_eq_some_iff.1 hu'
          have hf' : fs[i]? = some f := by simpa using hf
          have := hget i f hf'
          have ho : (fs.toList.map (·.offset))[i]? = some f.offset := by rw [List.getElem?_map, hf]; rfl
          rw [k2, List.getElem?_map] at ho
          have hi : i < fs.toList.length := (List.getElem?_eq_some_iff.1 hf).1
          rw [List.getElem?_range hi] at ho
          simp only [Option.map_some, Option.some.injEq] at ho
          rw [← this, ← ho, List.map_take, List.map_take, List.map_map]
          rfl) (by simp only [ub] at hbk; omega)
      refine ⟨_, ⟨zs, by simpa using z1, fun i f z hf hz => z2 i f.type z (by rw [List.getElem?_map]; rw [show fs.toList[i]? = some f by simpa using hf]; rfl) hz, rfl⟩, z3, ?_⟩
      simp only [ub]
      omega
    · rename_i m e
      simp only [Bool.and_eq_true, List.contains_iff_mem, beq_iff_eq] at hok
      obtain ⟨k1, k3⟩ := hok
      try simp only [hu]
      obtain ⟨xs, m', hm, rfl, hcs, hxs, hget⟩ := DataW.trod_array hu h
      cases hm
      obtain ⟨zs, z1, z2, z3, z4⟩ := parts_cells (n := n) (fun t cs x ht h hb => trod_cells hT n t cs x ht h hb) (List.replicate m e) cs xs (fun t ht => by
        rw [List.eq_of_mem_replicate ht]; exact k1) (by simp [hxs]) (by rw [hcs, k3]; simp) (fun i u hu' => by
          have hi : i < m := by have := (List.getElem?_eq_some_iff.1 hu').1; simpa using this
          rw [List.getElem?_replicate, if_pos hi] at hu'
          cases hu'
          have := hget i hi
          rw [← this, List.take_replicate]
          simp [Nat.min_eq_left (Nat.le_of_lt hi)]) (by simp only [ub] at hbk; omega)
      refine ⟨_, ⟨zs, by simpa using z1, fun z hz => ?_, rfl⟩, z3, ?_⟩
      · obtain ⟨i, hi⟩ := List.getElem?_of_mem hz
        have hlt : i < m := by have := (List.getElem?_eq_some_iff.1 hi).1; simp at z1; omega
        exact z2 i e z (by rw [List.getElem?_replicate, if_pos hlt]) hi
      · simp only [ub]
        omega
    · cases hok
end

end Go.Proofs.YtpblgfgcoamgmaaGreatV
namespace Go.Proofs.YtpblgfgcoamgmaaGreatV
open Go Go.ChangeShapes Go.RowKit

section
variable {H : Type} {enc : TypeId × Value → H} {P : Program} {w : World} {T : List TypeId}

def HasD (P : Program) (t : TypeId) (d : D) : Prop := ∃ n ys, HasC P n t ys ∧ d = pk P t ys

theorem value_rep {base : Nat} {n : Nat} {t : TypeId} {v : Value} {ys : List D} (h : HasC P n t ys) (hr : RWs w ys v.cells.toList) (hok : Value.okWide P w .any base t v) : Rep (K0 w) (pk P t ys) v := by
  cases n with
  | zero => exact h.elim
  | succ n =>
    simp only [HasC] at h
    unfold Value.okWide at hok
    unfold pk
    have one : ∀ y, ys = [y] → (∀ a, v ≠ .agg a) → Rep (K0 w) (ys.headD .any) v := fun y hy hv => by
      subst hy
      have : v.cells.toList = [v] := by cases v <;> first | rfl | exact absurd rfl (hv _)
      rw [this] at hr
      exact (hr.2 0 y v rfl rfl).rep
    have na : ∀ t, Cell.okWide P w .any base t v → (∀ fs, P.underlying t ≠ some (.struct fs)) → (∀ a, v ≠ .agg a) := fun t hc _ a hv => by
      subst hv
      unfold Cell.okWide at hc
      unfold Cell.ok at hc
      split at hc <;> simp_all
    split at h <;> rename_i hu <;> simp only [hu] at hok ⊢
    · obtain ⟨b, rfl⟩ := h; exact one _ rfl (na t hok (by simp [hu]))
    · obtain ⟨b, rfl, _⟩ := h; exact one _ rfl (na t hok (by simp [hu]))
    · obtain ⟨b, rfl, _⟩ := h; exact one _ rfl (na t hok (by simp [hu]))
    · obtain ⟨b, rfl, _⟩ := h; exact one _ rfl (na t hok (by simp [hu]))
    · obtain ⟨cs, rfl, _⟩ := hok
      have := Rep.agg hr.rep
      simpa [Value.cells] using this
    · obtain ⟨cs, rfl, _⟩ := hok
      have := Rep.agg hr.rep
      simpa [Value.cells] using this
    · exact h.elim

inductive HasDs (P : Program) : List TypeId → List D → Prop
  | nil : HasDs P [] []
  | cons {t : TypeId} {d : D} {ts : List TypeId} {ds : List D} (h : HasD P t d) (r : HasDs P ts ds) : HasDs P (t :: ts) (d :: ds)

theorem args_rep {base : Nat} (hT : T.all (okT P T) = true) : ∀ {ts : List TypeId} {vs : List Value} {ds : List (DataW H)} {ps : List MemPlace}, (∀ t ∈ ts, t ∈ T) → DataW.TrodAll enc P w 0 (fun _ => true) true ts vs ds ps →
    (∀ (j : Nat) t v, ts[j]? = some t → vs[j]? = some v → Value.okWide P w .any base t v) → ubs ds ≤ mostLen → ∃ das, HasDs P ts das ∧ RepL (K0 w) das vs ∧ bulkL das ≤ ubs ds
  | [], vs, ds, ps, _, h, _, _ => by
    obtain ⟨rfl, rfl, rfl⟩ := trodAll_nil h
    exact ⟨[], .nil, .nil, by simp [bulkL]⟩
  | t :: ts, vs, ds, ps, hm, h, hok, hbk => by
    obtain ⟨v, vs1, d, ds1, a, b, rfl, rfl, rfl, ⟨fuel, h1⟩, h2⟩ := trodAll_cons h
    simp only [ubs] at hbk ⊢
    obtain ⟨ys, c1, c2, c3⟩ := trod_cells hT fuel t _ _ (hm t (by simp)) h1 (by simp only; omega)
    obtain ⟨das, e1, e2, e3⟩ := args_rep hT (fun t ht => hm t (by simp [ht])) h2 (fun j t v ht hv => hok (j + 1) t v (by simpa using ht) (by simpa using hv)) (by omega)
    refine ⟨pk P t ys :: das, .cons ⟨fuel, ys, c1, rfl⟩ e1, .cons (value_rep c1 c2 (hok 0 t v rfl rfl)) e2, ?_⟩
    simp only [bulkL, c1.bulk]
    simp only at c3
    omega

theorem law_calls {G : Heap} {f : FuncId} {fn : Func} {c : Code} {das : List D} {args : Array Value} (hf : P.funcs[f]? = some fn) (hb : fn.body = some c) (hname : (fn.name == "runtime.NumGoroutine") = false)
    (hG : ∀ g cs, G g = some cs → ∀ (o : Nat) d, cs[o]? = some d → (K0 w).cells g o d)
    (h : VC P G f das Heap.nil [] fun o _ _ => o = .ret (.bool true)) (ha : RepL (K0 w) das args.toList) :
    Calls P f args w fun e w' => e = .returned (.bool true) ∧ Below w.heap.size w w' := by
  rcases h (K0 w) w args.toList (K0.rel hG) ha with ⟨_, h2⟩ | ⟨v, w1, h1, _⟩
  · refine h2.mono fun e w' hb => ?_
    obtain ⟨K', o, β', ω', q1, rfl, q3, q4⟩ := hb
    cases e with
    | returned v =>
      cases q1
      refine ⟨rfl, q4.os, q4.tape, q4.output, q4.size, fun k hk => (q4.keep k hk ?_).1⟩
      rintro (h | ⟨t, _, h, _⟩)
      · exact h rfl
      · exact absurd h List.not_mem_nil
    | panicked _ => exact q1.elim
    | outgrown => exact q1.elim
  · exfalso
    simp only [beq_eq_false_iff_ne, ne_eq] at hname
    have : (callFunc f args.toList.toArray).run P w = .ok (.enter f args.toList.toArray) w := by simp [callFunc, program, Sem.run, hf, hname, hb]
    rw [this] at h1
    cases h1

theorem args_stay (hl : laidOutB P = true) {W W' : World} (hb : Below W.heap.size W W') {sp : Nat → Bool} : ∀ {ts : List TypeId} {vs : List Value} {ds : List (DataW H)} {ps : List MemPlace}, (∀ t ∈ ts, P.readableRec t = true ∧ t < P.types.size) →
    DataW.TrodAll enc P W 0 (fun _ => true) true ts vs ds ps → (∀ x ∈ ps, x.block < W.heap.size) → (∀ x ∈ ps, sp x.block = true) → DataW.TrodAll enc P W' 0 sp true ts vs ds ps
  | [], vs, ds, ps, _, h, _, _ => by
    obtain ⟨rfl, rfl, rfl⟩ := trodAll_nil h
    exact rfl
  | t :: ts, vs, ds, ps, hr, h, hlt, hsp => by
    obtain ⟨v, vs1, d, ds1, a, b, rfl, rfl, rfl, h1, h2⟩ := trodAll_cons h
    obtain ⟨r1, r2⟩ := hr t (by simp)
    exact ⟨a, b, WideElems.Trod_stays hl r1 r2 h1 (fun x hx => hb.same (hlt x (by simp [hx]))) (fun x hx => hsp x (by simp [hx])),
      args_stay hl hb (fun t ht => hr t (by simp [ht])) h2 (fun x hx => hlt x (by simp [hx])) (fun x hx => hsp x (by simp [hx])), rfl⟩

theorem post_law {f : Func} {s : ChangeSpec} {apart fresh handsOn again : Bool} {W W' : World} {args : Array Value} {ds gs : List (DataW H)} {before : List MemPlace} {tb : TypeId}
    (hl : laidOutB P = true) (hr : ∀ t ∈ f.params.toList, P.readableRec t = true ∧ t < P.types.size)
    (hW : DataW.Whole enc P f.params.toList s.vars apart W args.toList ds gs before) (hb : Below W.heap.size W W')
    (hv : s.vars = []) (hres : f.resultTypes = #[tb]) (htb : P.underlying tb = some .bool) (hs : (s.fn H (ds ++ gs)).results = [.lit (.bool true)]) (hsa : (s.fn H (ds ++ gs)).args = ds) (hsv : (s.fn H (ds ++ gs)).vars = []) :
    s.post enc P f apart fresh handsOn again W args (.bool true) W' := by
  have hlt := hW.lt
  have hW' := hW
  obtain ⟨p, q, hA, hV, hpq, hz, hn⟩ := hW
  rw [hv] at hV
  obtain ⟨rfl, rfl⟩ := trodVars_none hV
  simp only [List.append_nil] at hpq
  subst hpq
  have hargs : ∀ sp : Nat → Bool, (∀ p ∈ before, sp p.block = true) → DataW.TrodAll enc P W' 0 sp true f.params.toList args.toList ds before := fun sp hsp => args_stay hl hb hr hA hlt hsp
  have hrs : ∀ (b : Nat) (sp : Nat → Bool) (hd : Bool), DataW.TrodAll enc P W' b sp hd f.resultTypes.toList ((Value.bool true).resultList f.resultTypes.size) [.lit (.bool true)] [] := fun b sp hd => by
    rw [hres]
    exact trodAll_mk1 (shut_bool htb true)
  have hold : ∀ p ∈ before, (fun b => decide (b < W.heap.size)) p.block = true := fun p hp => by simpa using hlt p hp
  refine ⟨ds, [], before, [], before, [], hW', by rw [hs]; exact hrs _ _ _, by rw [hsa]; exact hargs _ hold, by rw [hv, hsv]; exact rfl, World.keptBut_mono (fun p hp => ⟨hp, ?_⟩) (hb.frame (· ∈ before)), fun _ => ?_⟩
  · exact .inr (.inl hp)
  · refine ⟨ok_one hres rfl (okWide_bool_mk htb true), [.lit (.bool true)] ++ ds, [], before, ⟨before, [], ?_, by rw [hv]; exact rfl, by simp, ?_, hn⟩, ?_⟩
    · have := trodAll_append (hargs (fun _ => true) fun _ _ => rfl) (hrs 0 (fun _ => true) true)
      simpa using this
    · intro b off hp
      rw [hb.frozen (hlt _ hp)]
      exact hz b off hp
    · intro p hp _
      exact hp
end

end Go.Proofs.YtpblgfgcoamgmaaGreatV
namespace Go.Proofs.YtpblgfgcoamgmaaGreatV
open Go Go.ChangeShapes Go.RowKit

section
variable {P : Program} {n : Nat} {t e : TypeId} {ys : List D}

theorem HasC.bool (hu : P.underlying t = some .bool) (h : HasC P n t ys) : ∃ b, ys = [.bool b] := by
  cases n with
  | zero => exact h.elim
  | succ n => simpa only [HasC, hu] using h
theorem HasC.str (hu : P.underlying t = some .string) (h : HasC P n t ys) : ∃ s : ByteArray, ys = [.str s] := by
  cases n with
  | zero => exact h.elim
  | succ n =>
    simp only [HasC, hu] at h
    obtain ⟨s, h, _⟩ := h
    exact ⟨s, h⟩
theorem HasC.i64 (hu : P.underlying t = some (.int .i64)) (h : HasC P n t ys) : ∃ i : Int, ys = [.int .i64 i] ∧ -9223372036854775808 ≤ i ∧ i < 9223372036854775808 := by
  cases n with
  | zero => exact h.elim
  | succ n =>
    simp only [HasC, hu] at h
    obtain ⟨i, h, hw⟩ := h
    have hx : -9223372036854775808 ≤ i ∧ i ≤ 9223372036854775807 := by simpa [Lit.wf, IntKind.min, IntKind.max, IntKind.signed, IntKind.bits] using hw
    exact ⟨i, h, by omega⟩
theorem HasC.u64 (hu : P.underlying t = some (.int .u64)) (h : HasC P n t ys) : ∃ i : Nat, ys = [.int .u64 i] ∧ i < 18446744073709551616 := by
  cases n with
  | zero => exact h.elim
  | succ n =>
    simp only [HasC, hu] at h
    obtain ⟨i, h, hw⟩ := h
    have hx : 0 ≤ i ∧ i ≤ 18446744073709551615 := by simpa [Lit.wf, IntKind.min, IntKind.max, IntKind.signed, IntKind.bits] using hw
    exact ⟨i.toNat, by rw [h, Int.toNat_of_nonneg hx.1], by omega⟩
theorem HasC.u8 (hu : P.underlying t = some (.int .u8)) (h : HasC P n t ys) : ∃ i : Nat, ys = [.int .u8 i] ∧ i < 256 := by
  cases n with
  | zero => exact h.elim
  | succ n =>
    simp only [HasC, hu] at h
    obtain ⟨i, h, hw⟩ := h
    have hx : 0 ≤ i ∧ i ≤ 255 := by simpa [Lit.wf, IntKind.min, IntKind.max, IntKind.signed, IntKind.bits] using hw
    exact ⟨i.toNat, by rw [h, Int.toNat_of_nonneg hx.1], by omega⟩

theorem list_of {α β : Type} {f : α → β} {Q : α → Prop} : ∀ (xs : List β), (∀ x ∈ xs, ∃ a, x = f a ∧ Q a) → ∃ az : List α, xs = az.map f ∧ ∀ a ∈ az, Q a
  | [], _ => ⟨[], rfl, fun a h => by simp at h⟩
  | x :: xs, h => by
    obtain ⟨a, h1, h2⟩ := h x (by simp)
    obtain ⟨az, h3, h4⟩ := list_of xs fun y hy => h y (by simp [hy])
    exact ⟨a :: az, by rw [h1, h3]; rfl, fun b hb => by
      rcases List.mem_cons.1 hb with rfl | hb
      · exact h2
      · exact h4 b hb⟩

theorem HasC.slice {α : Type} {f : α → List D} {Q : α → Prop} (hu : P.underlying t = some (.slice e)) (h : HasC P n t ys) (hx : ∀ m x, m + 1 = n → HasC P m e x → ∃ a, x = f a ∧ Q a) :
    ∃ az : List α, ys = [.sl .none (az.map fun a => pk P e (f a))] ∧ ∀ a ∈ az, Q a := by
  cases n with
  | zero => exact h.elim
  | succ n =>
    simp only [HasC, hu] at h
    obtain ⟨xs, rfl, _, h2⟩ := h
    obtain ⟨az, rfl, h4⟩ := list_of xs fun x h => hx n x rfl (h2 x h)
    exact ⟨az, by rw [List.map_map]; rfl, h4⟩

def HasFs (P : Program) (n : Nat) : List TypeId → List D → Prop
  | [], ys => ys = []
  | t :: ts, ys => ∃ z r, HasC P n t z ∧ HasFs P n ts r ∧ ys = z ++ r

theorem hasFs_of : ∀ (ts : List TypeId) (zs : List (List D)), zs.length = ts.length → (∀ (i : Nat) t z, ts[i]? = some t → zs[i]? = some z → HasC P n t z) → HasFs P n ts zs.flatten
  | [], [], _, _ => rfl
  | t :: ts, z :: zs, hl, h => ⟨z, zs.flatten, h 0 t z rfl rfl, hasFs_of ts zs (by simpa using hl) (fun i t z ht hz => h (i + 1) t z (by simpa using ht) (by simpa using hz)), by simp⟩
  | [], _ :: _, hl, _ => by simp at hl
  | _ :: _, [], hl, _ => by simp at hl

theorem HasC.struct {fs : Array Field} (hu : P.underlying t = some (.struct fs)) (h : HasC P n t ys) : ∃ m, n = m + 1 ∧ HasFs P m (fs.toList.map (·.type)) ys := by
  cases n with
  | zero => exact h.elim
  | succ n =>
    simp only [HasC, hu] at h
    obtain ⟨zs, h1, h2, rfl⟩ := h
    refine ⟨n, rfl, hasFs_of _ zs (by simpa using h1) fun i t z ht hz => ?_⟩
    rw [List.getElem?_map] at ht
    obtain ⟨f, hf, rfl⟩ := Option.map_eq_some_iff.1 ht
    exact h2 i f z (by simpa using hf) hz

theorem HasC.array {m : Nat} (hu : P.underlying t = some (.array m e)) (h : HasC P n t ys) : ∃ k, n = k + 1 ∧ HasFs P k (List.replicate m e) ys := by
  cases n with
  | zero => exact h.elim
  | succ n =>
    simp only [HasC, hu] at h
    obtain ⟨zs, h1, h2, rfl⟩ := h
    refine ⟨n, rfl, hasFs_of _ zs (by simpa using h1) fun i t z ht hz => ?_⟩
    have : t = e := List.eq_of_mem_replicate (List.mem_of_getElem? ht)
    exact this ▸ h2 z (List.mem_of_getElem? hz)

theorem pk_agg {fs : Array Field} (hu : P.underlying t = some (.struct fs)) (ys : List D) : pk P t ys = .agg ys := by simp only [pk, hu]
theorem pk_int {k : IntKind} (hu : P.underlying t = some (.int k)) (y : D) : pk P t [y] = y := by simp only [pk, hu, List.headD_cons]
theorem pk_slice (hu : P.underlying t = some (.slice e)) (y : D) : pk P t [y] = y := by simp only [pk, hu, List.headD_cons]

theorem hasDs_nil {ds : List D} (h : HasDs P [] ds) : ds = [] := by cases h; rfl
theorem hasDs_cons {ts : List TypeId} {ds : List D} (h : HasDs P (t :: ts) ds) : ∃ d r, HasD P t d ∧ HasDs P ts r ∧ ds = d :: r := by cases h with | cons h r => exact ⟨_, _, h, r, rfl⟩

theorem bulk_mem : ∀ {l : List D} {d : D}, d ∈ l → d.bulk ≤ bulkL l
  | x :: l, d, h => by
    simp only [bulkL]
    rcases List.mem_cons.1 h with rfl | h
    · omega
    · have := bulk_mem h; omega
end

theorem law_row {H : Type} {enc : TypeId × Value → H} {P : Program} {T : List TypeId} {f : FuncId} {fn : Func} {c : Code} {s : ChangeSpec} {apart fresh handsOn again : Bool} {tb : TypeId} {B : Nat} (hT : T.all (okT P T) = true) (hl : laidOutB P = true)
    (hts : fn.params.toList.all (fun t => T.contains t && P.readableRec t && decide (t < P.types.size)) = true)
    (hf : P.funcs[f]? = some fn) (hb : fn.body = some c) (hname : (fn.name == "runtime.NumGoroutine") = false) (hv : s.vars = []) (hres : fn.resultTypes = #[tb]) (htb : P.underlying tb = some .bool)
    (hs : ∀ (ds : List (DataW H)), ds.length = fn.params.toList.length → (s.fn H ds).results = [.lit (.bool true)] ∧ (s.fn H ds).args = ds ∧ (s.fn H ds).vars = [])
    (hB : B ≤ mostLen) (hc : ∀ das, HasDs P fn.params.toList das → bulkL das ≤ B → VC P Heap.nil f das Heap.nil [] fun o _ _ => o = .ret (.bool true))
    (W : World) (base : Nat) (args : Array Value) (ds gs : List (DataW H)) (before : List MemPlace)
    (hval : ∀ (j : Nat) t v, fn.params[j]? = some t → args[j]? = some v → Value.okWide P W .any base t v)
    (hW : DataW.Whole enc P fn.params.toList s.vars apart W args.toList ds gs before) (hk : ubs (ds ++ gs) ≤ B) :
    Calls P f args W fun e W' => ∃ v, e = .returned v ∧ s.post enc P fn apart fresh handsOn again W args v W' := by
  have hW' := hW
  obtain ⟨p, q, hA, hV, hpq, hz, hn⟩ := hW
  rw [hv] at hV
  obtain ⟨rfl, rfl⟩ := trodVars_none hV
  simp only [List.append_nil] at hk
  simp only [List.all_eq_true, Bool.and_eq_true, List.contains_iff_mem, decide_eq_true_eq] at hts
  obtain ⟨das, e1, e2, e3⟩ := args_rep (T := T) hT (fun t ht => (hts t ht).1.1) hA (fun j t v ht hv => hval j t v (by simpa using ht) (by simpa using hv)) (by omega)
  have hlen : ds.length = fn.params.toList.length := by
    have : ∀ {ts : List TypeId} {vs : List Value} {ds : List (DataW H)} {ps : List MemPlace}, DataW.TrodAll enc P W 0 (fun _ => true) true ts vs ds ps → ds.length = ts.length := fun {ts} => by
      induction ts with
      | nil => intro vs ds ps h; obtain ⟨rfl, rfl, rfl⟩ := trodAll_nil h; rfl
      | cons t ts ih => intro vs ds ps h; obtain ⟨v, vs1, d, ds1, a, b, rfl, rfl, rfl, h1, h2⟩ := trodAll_cons h; simp [ih h2]
    exact this hA
  obtain ⟨s1, s2, s3⟩ := hs ds hlen
  refine (law_calls (G := Heap.nil) hf hb hname (fun g cs h => (nomatch h : False).elim) (hc das e1 (by omega)) e2).mono fun e W' ⟨he, hb'⟩ => ?_
  exact ⟨_, he, post_law hl (fun t ht => ⟨(hts t ht).1.2, (hts t ht).2⟩) hW' hb' hv hres htb (by simpa using s1) (by simpa using s2) (by simpa using s3)⟩

end Go.Proofs.YtpblgfgcoamgmaaGreatV
namespace Go.Proofs.YtpblgfgcoamgmaaGreatV
open Go Go.ChangeShapes Go.RowKit

end Go.Proofs.YtpblgfgcoamgmaaGreatV
namespace Go.Proofs.YtpblgfgcoamgmaaGreatS
open Go Go.Proofs.YtpblgfgcoamgmaaGreatV

variable {G : Heap}
attribute [local irreducible] VN VC VX VQ

def iD (k : Int) : D := .int .i64 k
theorem iD_at {l : List Int} {j : Nat} (h : j < l.length) : (l.map iD).getD j .any = .int .i64 (l.getD j 0) := by
  simp [List.getD, h, iD]
structure En where
  pre : List D
  rows : Int
  mid : List D
  su : Sm
  del : D
  hpre : pre.length = 33
  hmid : mid.length = 3
  hone : pre.all D.one = true ∧ mid.all D.one = true ∧ del.one = true
def En.cells (e : En) : List D := e.pre ++ .int .i64 e.rows :: (e.mid ++ [.int .i64 e.su.rows, .sl .none (e.su.l.map Bd.d), e.del])
def En.d (e : En) : D := .agg e.cells
theorem En.length (e : En) : e.cells.length = 40 := by simp [En.cells, e.hpre, e.hmid]
theorem En.one (e : En) : e.cells.all D.one = true := by
  obtain ⟨h1, h2, h3⟩ := e.hone
  simp only [En.cells, List.all_append, List.all_cons, List.all_nil, h1, h2, h3]
  rfl
theorem En.take (e : En) : e.cells.take 40 = e.cells := List.take_of_length_le (by rw [e.length]; omega)
theorem En.sum (e : En) : (e.cells.drop 37).take 2 = e.su.cells := by
  have h : e.cells = (e.pre ++ .int .i64 e.rows :: e.mid) ++ (e.su.cells ++ [e.del]) := by simp [En.cells, Sm.cells]
  have l : (e.pre ++ D.int .i64 e.rows :: e.mid).length = 37 := by simp [e.hpre, e.hmid]
  rw [h, ← l, List.drop_left]
  rfl
structure Pl where
  read : List Int
  skip : List Int
  req : Int
  bytes : Int
deriving DecidableEq
def Pl.cells (p : Pl) : List D := [.sl .none (p.read.map iD), .sl .none (p.skip.map iD), .int .i64 p.req, .int .i64 p.bytes]
end Go.Proofs.YtpblgfgcoamgmaaGreatS
set_option maxRecDepth 100000
namespace Go.Proofs.YtpblgfgcoamgmaaGreatS
open Go Go.Proofs.YtpblgfgcoamgmaaGreatV Go.Proofs.YtpblgfgcoamgmaaGreat

theorem laid : laidOutB Tryz.prog = true := by kernel_rfl
theorem own : ownKnob Tryz.prog.godebug = none := by kernel_rfl

mutual
theorem ub_eq {H : Type} : ∀ d : DataW H, Rows.uptoBulk d = ub d
  | .lit (.string b) => by simp only [Rows.uptoBulk, ub]
  | .lit (.bool b) => by simp only [Rows.uptoBulk, ub]
  | .lit (.int k b) => by simp only [Rows.uptoBulk, ub]
  | .lit (.float k b) => by simp only [Rows.uptoBulk, ub]
  | .lit .nil => by simp only [Rows.uptoBulk, ub]
  | .nil => by simp only [Rows.uptoBulk, ub]
  | .ptr d => by simp only [Rows.uptoBulk, ub, ub_eq d]
  | .slice a b => by simp only [Rows.uptoBulk, ub, ubs_eq a, ubs_eq b]
  | .agg a => by simp only [Rows.uptoBulk, ub, ubs_eq a]
  | .iface n d => by simp only [Rows.uptoBulk, ub, ub_eq d]
  | .map a => by simp only [Rows.uptoBulk, ub, ube_eq a]
  | .held x => by simp only [Rows.uptoBulk, ub]
theorem ubs_eq {H : Type} : ∀ l : List (DataW H), Rows.uptoBulkAll l = ubs l
  | [] => by simp only [Rows.uptoBulkAll, ubs]
  | d :: l => by simp only [Rows.uptoBulkAll, ubs, ub_eq d, ubs_eq l]
theorem ube_eq {H : Type} : ∀ l : List (Lit × DataW H), Rows.uptoBulkEntries l = ube l
  | [] => by simp only [Rows.uptoBulkEntries, ube]
  | x :: l => by simp only [Rows.uptoBulkEntries, ube, ubn_eq x, ube_eq l]
theorem ubn_eq {H : Type} : ∀ x : Lit × DataW H, Rows.uptoBulkEntry x = ubn x
  | (.string b, d) => by simp only [Rows.uptoBulkEntry, ubn, ub_eq d]
  | (.bool b, d) => by simp only [Rows.uptoBulkEntry, ubn, ub_eq d]
  | (.int k b, d) => by simp only [Rows.uptoBulkEntry, ubn, ub_eq d]
  | (.float k b, d) => by simp only [Rows.uptoBulkEntry, ubn, ub_eq d]
  | (.nil, d) => by simp only [Rows.uptoBulkEntry, ubn, ub_eq d]
end

theorem small_of {H : Type} {l : List (DataW H)} (h : Rows.uptoSmall H l = true) : ubs l ≤ 1048576 := by
  rw [← ubs_eq]
  exact of_decide_eq_true h


theorem bulk_len {α : Type} (f : α → D) (hf : ∀ a, 1 ≤ (f a).bulk) : ∀ l : List α, l.length ≤ bulkL (l.map f)
  | [] => by simp
  | a :: l => by
    have h1 := hf a
    have h2 := bulk_len f hf l
    simp only [List.map_cons, bulkL, List.length_cons]; omega

theorem vlC {n : Nat} {ys : List D} (h : HasC Tryz.prog n 81 ys) : ∃ v : Vl, ys = v.cells ∧ I64 v.n := by
  obtain ⟨m, rfl, hf⟩ := h.struct Tryz.underlying81
  obtain ⟨z1, r1, h1, ⟨z2, r2, h2, ⟨z3, r3, h3, hr, rfl⟩, rfl⟩, rfl⟩ := hf
  cases hr
  obtain ⟨b, rfl⟩ := h1.bool Tryz.underlying4
  obtain ⟨i, rfl, hi⟩ := h2.i64 Tryz.underlying2
  obtain ⟨s, rfl⟩ := h3.str Tryz.underlying9
  exact ⟨⟨b, i, s⟩, rfl, hi⟩
inductive Pr.I : Pr → Prop where
  | mk (p : Pr) : I64 p.op → I64 p.id → I64 p.lo → I64 p.hi → (∀ v ∈ p.set, I64 v.n) → (∀ k ∈ p.kids, Pr.I k) → Pr.I p
theorem prC : ∀ (n : Nat) {ys : List D}, HasC Tryz.prog n 40 ys → ∃ p : Pr, ys = p.cells ∧ p.I
  | n, ys, h => by
    obtain ⟨m, rfl, hf⟩ := h.struct Tryz.underlying40
    obtain ⟨z1, r1, h1, ⟨z2, r2, h2, ⟨z3, r3, h3, ⟨z4, r4, h4, ⟨z5, r5, h5, ⟨z6, r6, h6, ⟨z7, r7, h7, hr, rfl⟩, rfl⟩, rfl⟩, rfl⟩, rfl⟩, rfl⟩, rfl⟩ := hf
    cases hr
    obtain ⟨a, rfl, ha⟩ := h1.i64 Tryz.underlying3
    obtain ⟨b, rfl, hb⟩ := h2.i64 Tryz.underlying3
    obtain ⟨c, rfl, hc⟩ := h3.i64 Tryz.underlying2
    obtain ⟨d, rfl, hd⟩ := h4.i64 Tryz.underlying2
    obtain ⟨s, rfl, hs⟩ := h5.slice (f := Vl.cells) (Q := fun v => I64 v.n) Tryz.underlying37 fun m x _ hx => vlC hx
    obtain ⟨t, rfl⟩ := h6.str Tryz.underlying9
    obtain ⟨l, rfl, hl⟩ := h7.slice (f := Pr.cells) (Q := Pr.I) Tryz.underlying38 fun k x hk hx => prC k hx
    have e1 : (s.map fun a => pk Tryz.prog 81 a.cells) = s.map Vl.d := List.map_congr_left fun a _ => pk_agg Tryz.underlying81 _
    have e2 : (l.map fun a => pk Tryz.prog 40 a.cells) = l.map Pr.d := List.map_congr_left fun a _ => (pk_agg Tryz.underlying40 _).trans a.d_eq.symm
    rw [e1, e2]
    exact ⟨.mk a b c d s t l, rfl, .mk _ ha hb hc hd hs hl⟩
termination_by n => n
theorem Pr.bulk_pos (p : Pr) : 1 ≤ p.d.bulk := by rw [p.d_eq]; simp [Pr.cells, D.bulk, bulkL]
theorem Pr.lim_of : ∀ (n : Nat) (p : Pr), SizeOf.sizeOf p ≤ n → p.d.bulk ≤ 1048576 → p.Lim
  | 0, p, h, _ => by cases p; simp at h
  | n + 1, p, h, hb => by
    have h1 := bulk_len Pr.d Pr.bulk_pos p.kids
    have e := p.d_eq
    have hk : bulkL (p.kids.map Pr.d) ≤ p.d.bulk := by rw [e]; simp only [Pr.cells, D.bulk, bulkL]; omega
    refine .mk p (by omega) fun k hkm => ?_
    have h2 := bulk_mem (List.mem_map_of_mem (f := Pr.d) hkm)
    exact Pr.lim_of n k (Nat.le_of_lt_succ (Nat.lt_of_lt_of_le (Pr.kid_lt hkm) h)) (by omega)
end Go.Proofs.YtpblgfgcoamgmaaGreatS
set_option maxRecDepth 100000
namespace Go.Proofs.YtpblgfgcoamgmaaGreatS
open Go Go.Proofs.YtpblgfgcoamgmaaGreatV

theorem Pr.I.parts {p : Pr} (h : p.I) : I64 p.op ∧ I64 p.id ∧ I64 p.lo ∧ I64 p.hi ∧ (∀ v ∈ p.set, I64 v.n) ∧ ∀ k ∈ p.kids, Pr.I k := by
  cases h with | mk _ h1 h2 h3 h4 h5 h6 => exact ⟨h1, h2, h3, h4, h5, h6⟩
theorem PI_subs : ∀ (n : Nat) (p : Pr), SizeOf.sizeOf p ≤ n → p.I → ∀ q ∈ subs p, PI q
  | 0, p, h, _ => by cases p; simp at h
  | n + 1, p, h, hp => by
    obtain ⟨h1, h2, h3, h4, h5, h6⟩ := hp.parts
    intro q hq
    rw [subs_eq] at hq
    rcases List.mem_cons.1 hq with rfl | hq
    · exact ⟨h2, h3, h4, h5⟩
    · rw [subsL_flat] at hq
      obtain ⟨k, hk, hqk⟩ := List.mem_flatMap.1 hq
      exact PI_subs n k (Nat.le_of_lt_succ (Nat.lt_of_lt_of_le (Pr.kid_lt hk) h)) (h6 k hk) q hqk
end Go.Proofs.YtpblgfgcoamgmaaGreatS
set_option maxRecDepth 100000
namespace Go.Proofs.YtpblgfgcoamgmaaGreatS
open Go Go.Proofs.YtpblgfgcoamgmaaGreatV

theorem bs_bulk : ∀ l : List Nat, bulkL (bs l) = l.length
  | [] => rfl
  | a :: l => by
    have := bs_bulk l
    simp only [bs, List.map_cons, bulkL, D.bulk, List.length_cons] at this ⊢
    omega
theorem bytesO {d : D} (h : HasD Tryz.prog 62 d) : ∃ l, d = .sl .none (bs l) ∧ Byt l ∧ l.length ≤ d.bulk := by
  obtain ⟨n, ys, h, rfl⟩ := h
  obtain ⟨l, rfl, hb⟩ := h.slice (f := fun i : Nat => [.int .u8 i]) (Q := fun i => i < 256) Tryz.underlying62 fun m x _ hx => hx.u8 Tryz.underlying5
  have e : (l.map fun (i : Nat) => pk Tryz.prog 5 [.int .u8 (i : Int)]) = bs l := List.map_congr_left fun i _ => pk_int Tryz.underlying5 _
  rw [e, pk_slice Tryz.underlying62]
  refine ⟨l, rfl, hb, ?_⟩
  simp only [D.bulk, bs_bulk]; omega
theorem u8O {d : D} (h : HasD Tryz.prog 5 d) : ∃ n : Nat, d = .int .u8 n ∧ n < 256 := by
  obtain ⟨m, ys, h, rfl⟩ := h
  obtain ⟨i, rfl, hx⟩ := h.u8 Tryz.underlying5
  rw [pk_int Tryz.underlying5]
  exact ⟨i, rfl, hx⟩
end Go.Proofs.YtpblgfgcoamgmaaGreatS
namespace Go.Proofs.YtpblgfgcoamgmaaGreatS
open Go Go.Proofs.YtpblgfgcoamgmaaGreatV

variable {G : Heap}
attribute [local irreducible] VN VC VX VQ VY VW VTA VT0

structure BareP (p : Pr) : Prop where
  id : p.id = (usedP p).id
  lo : p.lo = (usedP p).lo
  hi : p.hi = (usedP p).hi
  text : p.text = (usedP p).text
  set : p.set.length = (usedP p).set.length
  kids : p.kids.length = (usedP p).kids.length
theorem bareP_iff (p : Pr) : BareP p ↔ (p.id = (usedP p).id ∧ p.lo = (usedP p).lo ∧ p.hi = (usedP p).hi ∧ p.text = (usedP p).text ∧ p.set.length = (usedP p).set.length ∧ p.kids.length = (usedP p).kids.length) :=
  ⟨fun ⟨a, b, c, d, e, f⟩ => ⟨a, b, c, d, e, f⟩, fun ⟨a, b, c, d, e, f⟩ => ⟨a, b, c, d, e, f⟩⟩
instance (p : Pr) : Decidable (BareP p) := decidable_of_iff _ (bareP_iff p).symm
end Go.Proofs.YtpblgfgcoamgmaaGreatS
namespace Go.Proofs.YtpblgfgcoamgmaaGreatS
open Go Go.Proofs.YtpblgfgcoamgmaaGreatV

variable {G : Heap}
attribute [local irreducible] VN VC VX VQ VY VW VTA VT0

theorem rTy_ok (t : Int) : VN P G 168 [.int .i64 t] (.bool (isTy t)) := by
  unfold VN
  refine VC.ofs (fun | 99999999 => [(0, [0, 2])] | _ => []) [2] mixed Tryz.func168 rfl rfl rfl rfl (by decide +kernel) (by simp) ?_
  simp only [go_sem, reduceIte, Nat.reduceEqDiff, Nat.reduceAdd, Nat.reduceSub, Nat.reduceMul, Nat.reduceLT, Nat.reduceLeDiff, Nat.reducePow, Int.reduceToNat, Int.reduceLT, Int.reduceLE, Int.reduceEq, Int.reduceNe, Int.reduceAdd, Int.reduceSub, Int.reduceMul, Int.reduceNeg]
  exact finK_drop ⟨by simp [isTy, D.er, D.er1], rfl, rfl⟩
def typR (fs : List Fd) (id : Int) : Int := (typeOf fs id).getD 0
theorem atomOk_typR (fs : List Fd) (q : Pr) : atomOk fs q = (!isAt q.op || fitsF q (typR fs q.id)) := by
  unfold atomOk typR
  cases typeOf fs q.id with
  | none => simp [fitsF, isTy]
  | some t => rfl
theorem incF_iff : ∀ l : List Vl, incF l = true ↔ ∀ i a b, l[i]? = some a → l[i + 1]? = some b → cmpV a b < 0
  | [] => by simp [incF]
  | [x] => by simp [incF]
  | x :: y :: l => by
    rw [incF, Bool.and_eq_true, incF_iff (y :: l), decide_eq_true_iff]
    constructor
    · rintro ⟨h1, h2⟩ i a b ha hb
      cases i with
      | zero => simp at ha hb; subst ha; subst hb; exact h1
      | succ i => exact h2 i a b (by simpa using ha) (by simpa using hb)
    · intro h
      exact ⟨h 0 x y rfl rfl, fun i a b ha hb => h (i + 1) a b (by simpa using ha) (by simpa using hb)⟩
end Go.Proofs.YtpblgfgcoamgmaaGreatS
namespace Go.Proofs.YtpblgfgcoamgmaaGreatS
open Go Go.Proofs.YtpblgfgcoamgmaaGreatV

theorem cmpV_le {a b : Vl} (h : a.null = b.null) : cmpV a b ≤ 0 ↔ (a.n < b.n ∨ a.n = b.n ∧ ¬ b.s.data.toList < a.s.data.toList) := by
  have h1 := cmpS_le a.s b.s
  simp only [cmpV, h, ne_eq, not_true_eq_false, if_false, cmpN]
  by_cases g : a.n < b.n
  · simp [g]
  · by_cases g2 : b.n < a.n
    · simp [g, g2]; omega
    · have e : a.n = b.n := by omega
      simp [e, h1]
theorem cmpV_eq {a b : Vl} (h : a.null = b.null) (h1 : cmpV a b ≤ 0) (h2 : 0 ≤ cmpV a b) : a = b := by
  rw [cmpV_le h] at h1
  rw [cmpV_anti, cmpV_le h.symm] at h2
  have e : a.n = b.n := by omega
  have e1 : ¬ b.s.data.toList < a.s.data.toList := by rcases h1 with g | g; omega; exact g.2
  have e2 : ¬ a.s.data.toList < b.s.data.toList := by rcases h2 with g | g; omega; exact g.2
  have e3 : a.s.data.toList = b.s.data.toList := by
    have k := compareBytes_lt a.s.data.toList b.s.data.toList
    refine k.2.2.1 ?_
    have k1 := mt k.1.1 e2
    have k2 := mt k.2.1.1 e1
    omega
  obtain ⟨an, ai, as_⟩ := a
  obtain ⟨bn, bi, bs_⟩ := b
  simp only at h e e3
  have e4 : as_ = bs_ := ByteArray.ext (Array.toList_inj.1 e3)
  subst h e e4; rfl

def has (t : Tr) (k : Int) : Bool := if k = 1 then t.y else if k = 0 then t.n else t.u
end Go.Proofs.YtpblgfgcoamgmaaGreatS
namespace Go.Proofs.YtpblgfgcoamgmaaGreatS
open Go Go.Proofs.YtpblgfgcoamgmaaGreatV

variable {G : Heap}
attribute [local irreducible] VN VC VX VQ VY VW VTA VT0

structure VOk (t : Int) (w : Vl) : Prop where
  ok : valOk w t = true
  n : I64' w.n
def isVo (t : Int) (d : D) : Prop := ∃ w : Vl, d = .agg w.cells ∧ VOk t w
theorem VOk.nul {t : Int} (h : isTy t = true) : VOk t Vl.nul := ⟨by rw [valOk_nul]; exact h, I64'_0⟩
theorem and1 (x : Int) (h : I64' x) : bop .and .i64 x 1 = 0 ∨ bop .and .i64 x 1 = 1 := by
  have h1 : (BitVec.ofInt 64 x &&& BitVec.ofInt 64 1).toNat = 0 ∨ (BitVec.ofInt 64 x &&& BitVec.ofInt 64 1).toNat = 1 := by
    have h2 : (BitVec.ofInt 64 (1 : Int)).toNat = 2 ^ 1 - 1 := by decide
    rw [BitVec.toNat_and, h2, Nat.and_two_pow_sub_one_eq_mod]
    omega
  show IntKind.i64.wrap ((BitVec.ofInt 64 x &&& BitVec.ofInt 64 1).toNat : Int) = 0 ∨ IntKind.i64.wrap ((BitVec.ofInt 64 x &&& BitVec.ofInt 64 1).toNat : Int) = 1
  rcases h1 with h1 | h1 <;> rw [h1]
  · exact .inl (wrap_i64 (by omega) (by omega))
  · exact .inr (wrap_i64 (by omega) (by omega))
theorem i32_range (x : Int) : -2147483648 ≤ IntKind.i32.wrap x ∧ IntKind.i32.wrap x ≤ 2147483647 := by
  have h : IntKind.i32.signed = true := rfl
  have hb : IntKind.i32.bits = 32 := rfl
  simp only [IntKind.wrap, h, Bool.true_and, hb]
  have e1 : (2 : Int) ^ 32 = 4294967296 := by decide
  have e2 : (2 : Int) ^ (32 - 1) = 2147483648 := by decide
  simp only [e1, e2, decide_eq_true_eq]
  split <;> omega
set_option maxHeartbeats 2000000 in
theorem Fit5_ok (v : Vl) (t : Int) (ht : isTy t = true) (hi : I64' v.n) : VX P G 169 [.agg v.cells, .int .i64 t] (isVo t) := by
  obtain ⟨vn, vi, vs⟩ := v
  simp only [Vl.cells]
  unfold VX
  refine VC.ofc (fun | 99999999 => [(0, [0, 1, 2, 4, 6, 8, 9, 15, 22, 28])] | _ => []) [.cell 4 81] mixed Tryz.func169 rfl rfl rfl rfl (by decide +kernel) (by simp) ?_
  have h5 : t = 1 ∨ t = 2 ∨ t = 3 ∨ t = 4 ∨ t = 5 := by simp [isTy] at ht; omega
  cases vn
  · rcases h5 with rfl | rfl | rfl | rfl | rfl
    all_goals simp only [go_sem, reduceIte, Nat.reduceEqDiff, Nat.reduceAdd, Nat.reduceSub, Nat.reduceMul, Nat.reduceLT, Nat.reduceLeDiff, Nat.reducePow, Int.reduceToNat, Int.reduceLT, Int.reduceLE, Int.reduceEq, Int.reduceNe, Int.reduceAdd, Int.reduceSub, Int.reduceMul, Int.reduceNeg]
    all_goals intro b0
    all_goals refine new_1 fun b1 h1 h2 => ?_
    all_goals try simp only [go_sem, reduceIte, Nat.reduceEqDiff, Nat.reduceAdd, Nat.reduceSub, Nat.reduceMul, Nat.reduceLT, Nat.reduceLeDiff, Nat.reducePow, Int.reduceToNat, Int.reduceLT, Int.reduceLE, Int.reduceEq, Int.reduceNe, Int.reduceAdd, Int.reduceSub, Int.reduceMul, Int.reduceNeg, h1, h2]
    · obtain a | a := and1 vi hi
      all_goals
        rw [a]
        exact finK_drop ⟨_, ⟨⟨false, _, ByteArray.empty⟩, rfl, ⟨by decide +kernel, by constructor <;> decide⟩⟩, rfl, rfl, rfl⟩
    · obtain ⟨a1, a2⟩ := i32_range vi
      rw [wrap_i64 (by omega) (by omega)]
      exact finK_drop ⟨_, ⟨⟨false, IntKind.i32.wrap vi, ByteArray.empty⟩, rfl, ⟨by simp [valOk, isTy, limT]; omega, ⟨by dsimp only; omega, by dsimp only; omega⟩⟩⟩, rfl, rfl, rfl⟩
    · obtain ⟨a1, a2⟩ := hi
      dsimp only at a1 a2
      exact finK_drop ⟨_, ⟨⟨false, vi, ByteArray.empty⟩, rfl, ⟨by simp [valOk, isTy, limT]; omega, ⟨a1, a2⟩⟩⟩, rfl, rfl, rfl⟩
    · refine ⟨⟨by split <;> omega, by split <;> omega⟩, finK_drop ⟨_, ⟨⟨false, 0, vs.extract 0 ((if (200 : Int) < (vs.size : Nat) then (200 : Int) else (vs.size : Nat)).toNat)⟩, rfl, ⟨?_, I64'_0⟩⟩, rfl, rfl, rfl⟩⟩
      simp [valOk, isTy]
      split <;> omega
    · have a1 := Int.tmod_lt_of_pos vi (show (0 : Int) < 1000001 by omega)
      have a2 : -1000001 < vi.tmod 1000001 := Int.lt_tmod_of_pos vi (show (0 : Int) < 1000001 by omega)
      exact finK_drop ⟨_, ⟨⟨false, vi.tmod 1000001, ByteArray.empty⟩, rfl, ⟨by simp [valOk, isTy, limT]; omega, ⟨by dsimp only; omega, by dsimp only; omega⟩⟩⟩, rfl, rfl, rfl⟩
  · simp only [go_sem, reduceIte, Nat.reduceEqDiff, Nat.reduceAdd, Nat.reduceSub, Nat.reduceMul, Nat.reduceLT, Nat.reduceLeDiff, Nat.reducePow, Int.reduceToNat, Int.reduceLT, Int.reduceLE, Int.reduceEq, Int.reduceNe, Int.reduceAdd, Int.reduceSub, Int.reduceMul, Int.reduceNeg]
    intro b0
    refine new_1 fun b1 h1 h2 => ?_
    try simp only [go_sem, reduceIte, Nat.reduceEqDiff, Nat.reduceAdd, Nat.reduceSub, Nat.reduceMul, Nat.reduceLT, Nat.reduceLeDiff, Nat.reducePow, Int.reduceToNat, Int.reduceLT, Int.reduceLE, Int.reduceEq, Int.reduceNe, Int.reduceAdd, Int.reduceSub, Int.reduceMul, Int.reduceNeg, h1, h2]
    exact finK_drop ⟨_, ⟨Vl.nul, rfl, .nul ht⟩, rfl, rfl, rfl⟩
theorem Made5_ok (v : Vl) (t : Int) (ht : isTy t = true) (hi : I64' v.n) : VX P G 152 [.agg v.cells, .int .i64 t] (isVo t) := by
  have hty := rTy_ok (G := G) t
  have hf := Fit5_ok (G := G) v t ht hi
  simp only [Vl.cells] at hf ⊢
  rw [ht] at hty
  unfold VX
  refine VC.ofc (fun | 99999999 => [(0, [0, 1, 2, 4, 7])] | _ => []) [.cell 4 81] mixed Tryz.func152 rfl rfl rfl rfl (by decide +kernel) (by simp) ?_
  simp only [go_sem, reduceIte, Nat.reduceEqDiff, Nat.reduceAdd, Nat.reduceSub, Nat.reduceMul, Nat.reduceLT, Nat.reduceLeDiff, Nat.reducePow, Int.reduceToNat, Int.reduceLT, Int.reduceLE, Int.reduceEq, Int.reduceNe, Int.reduceAdd, Int.reduceSub, Int.reduceMul, Int.reduceNeg]
  intro b0
  refine new_1 fun b1 h1 h2 => ?_
  try simp only [go_sem, reduceIte, Nat.reduceEqDiff, Nat.reduceAdd, Nat.reduceSub, Nat.reduceMul, Nat.reduceLT, Nat.reduceLeDiff, Nat.reducePow, Int.reduceToNat, Int.reduceLT, Int.reduceLE, Int.reduceEq, Int.reduceNe, Int.reduceAdd, Int.reduceSub, Int.reduceMul, Int.reduceNeg, h1, h2]
  refine cK_vn hty ?_
  try simp only [go_sem, reduceIte, Nat.reduceEqDiff, Nat.reduceAdd, Nat.reduceSub, Nat.reduceMul, Nat.reduceLT, Nat.reduceLeDiff, Nat.reducePow, Int.reduceToNat, Int.reduceLT, Int.reduceLE, Int.reduceEq, Int.reduceNe, Int.reduceAdd, Int.reduceSub, Int.reduceMul, Int.reduceNeg, h1, h2]
  refine cK_vx hf ?_
  rintro _ ⟨w, rfl, hw⟩
  try simp only [go_sem, reduceIte, Nat.reduceEqDiff, Nat.reduceAdd, Nat.reduceSub, Nat.reduceMul, Nat.reduceLT, Nat.reduceLeDiff, Nat.reducePow, Int.reduceToNat, Int.reduceLT, Int.reduceLE, Int.reduceEq, Int.reduceNe, Int.reduceAdd, Int.reduceSub, Int.reduceMul, Int.reduceNeg, h1, h2, Vl.cells]
  exact finK_drop ⟨_, ⟨w, rfl, hw⟩, rfl, rfl, rfl⟩
structure SetOk (t : Int) (l : List Vl) : Prop where
  inc : incF l = true
  ok : ∀ v ∈ l, valOk v t = true ∧ v.null = false ∧ I64' v.n
theorem SetOk.nil {t : Int} : SetOk t [] := ⟨rfl, fun v hv => by cases hv⟩
theorem SetOk.put {t : Int} {l : List Vl} {k : Nat} {v : Vl} (h : SetOk t l) (hk : k ≤ l.length) (hv : valOk v t = true ∧ v.null = false ∧ I64' v.n) (h1 : ∀ a, 0 < k → l[k - 1]? = some a → cmpV a v < 0) (h2 : ∀ b, l[k]? = some b → ¬ cmpV b v < 0 ∧ b ≠ v) : SetOk t (l.take k ++ v :: l.drop k) := by
  have hl := (incF_iff l).1 h.inc
  refine ⟨(incF_iff _).2 fun i a b ha hb => ?_, fun x hx => ?_⟩
  · by_cases c1 : i + 1 < k
    · rw [List.getElem?_append_left (by rw [List.length_take]; omega), List.getElem?_take, if_pos (by omega)] at ha hb
      exact hl i a b ha hb
    by_cases c2 : i + 1 = k
    · rw [List.getElem?_append_left (by rw [List.length_take]; omega), List.getElem?_take, if_pos (by omega)] at ha
      rw [List.getElem?_append_right (by rw [List.length_take]; omega), List.length_take, show i + 1 - min k l.length = 0 by omega] at hb
      simp only [List.getElem?_cons_zero, Option.some.injEq] at hb
      subst hb
      exact h1 a (by omega) (by rw [← c2]; exact ha)
    by_cases c3 : i = k
    · rw [List.getElem?_append_right (by rw [List.length_take]; omega), List.length_take] at ha hb
      rw [show i - min k l.length = 0 by omega] at ha
      rw [show i + 1 - min k l.length = 0 + 1 by omega, List.getElem?_cons_succ, List.getElem?_drop] at hb
      simp only [List.getElem?_cons_zero, Option.some.injEq] at ha
      subst ha
      obtain ⟨g1, g2⟩ := h2 b (by simpa using hb)
      have hbn := (h.ok b (List.mem_of_getElem? hb)).2.1
      by_cases g3 : cmpV v b < 0
      · exact g3
      · have a1 : cmpV v b ≤ 0 := (cmpV_anti b v).1 (by omega)
        exact absurd (cmpV_eq (by rw [hv.2.1, hbn]) a1 (by omega)) (Ne.symm g2)
    · rw [List.getElem?_append_right (by rw [List.length_take]; omega), List.length_take] at ha hb
      rw [show i - min k l.length = (i - k - 1) + 1 by omega, List.getElem?_cons_succ, List.getElem?_drop] at ha
      rw [show i + 1 - min k l.length = (i - k - 1 + 1) + 1 by omega, List.getElem?_cons_succ, List.getElem?_drop] at hb
      exact hl _ a b ha (by rw [show k + (i - k - 1) + 1 = k + (i - k - 1 + 1) by omega]; exact hb)
  · rcases List.mem_append.1 hx with hx | hx
    · exact h.ok x (List.mem_of_mem_take hx)
    · rcases List.mem_cons.1 hx with rfl | hx
      · exact hv
      · exact h.ok x (List.mem_of_mem_drop hx)
def isSet (t : Int) (d : D) : Prop := ∃ m : List Vl, d = .sl .none (m.map Vl.d) ∧ m.length ≤ 16 ∧ SetOk t m
end Go.Proofs.YtpblgfgcoamgmaaGreatS
