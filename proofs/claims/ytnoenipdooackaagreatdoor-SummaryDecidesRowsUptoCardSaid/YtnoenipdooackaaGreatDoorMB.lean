
import Derived.Test.YtnoenipdooackaaGreatDoorMA
set_option linter.unusedVariables false
set_option linter.unusedSimpArgs false
namespace Go.Proofs.YtnoenipdooackaaGreatDoorS
open Go Go.Proofs.YtnoenipdooackaaGreatDoorV

variable {G : Heap}
attribute [local irreducible] VN VC VX VQ

set_option maxHeartbeats 8000000 in
theorem join_ok (fs : List Fd) (nx : Int) (c : Ch) (h : SOk fs nx) : VX P G 71 [.agg [.sl .none (fs.map fdD), .int .i64 nx], .agg c.cells] isS := by
  have z := h.len
  have hlo := h.lo
  have hhi := h.hi
  have hlm : (fs.map fdD).length = fs.length := List.length_map ..
  have hf := Field_ok (G := G) fs nx c.id (by omega)
  have hg := Field_ok (G := G) fs nx c.wit (by omega)
  cases hff : findFd fs c.id <;> cases hgg : findFd fs c.wit
  all_goals rw [hff] at hf
  all_goals rw [hgg] at hg
  all_goals simp only [orF, Option.getD_none, Option.getD_some, Option.isSome_none, Option.isSome_some, fdC, Fd.zero] at hf hg
  all_goals simp only [Ch.cells]
  all_goals unfold VX
  all_goals refine VC.ofc (fun | 16 => [(0, []), (1, []), (2, []), (3, []), (4, []), (5, []), (7, [6]), (6, []), (8, []), (9, []), (10, [])] | 99999999 => [(0, [0, 1, 2, 3, 4, 5, 6, 7, 8, 9, 10, 37, 46, 52, 57, 71, 75])] | _ => []) [.cell 4 34, .tmp 5] mixed Tryz.func71 rfl rfl rfl rfl (by decide +kernel) (by simp) ?_
  all_goals simp only [go_sem, reduceIte, Nat.reduceEqDiff, Nat.reduceAdd, Nat.reduceSub, Nat.reduceMul, Nat.reduceLT, Nat.reduceLeDiff, Nat.reducePow, Int.reduceToNat, Int.reduceLT, Int.reduceLE, Int.reduceEq, Int.reduceNe, Int.reduceAdd, Int.reduceSub, Int.reduceMul, Int.reduceNeg]
  all_goals intro b0
  all_goals refine new_1 fun b1 h1 h2 => ?_
  all_goals refine new_2 fun b2 h3 h4 h5 => ?_
  all_goals try simp only [go_sem, reduceIte, Nat.reduceEqDiff, Nat.reduceAdd, Nat.reduceSub, Nat.reduceMul, Nat.reduceLT, Nat.reduceLeDiff, Nat.reducePow, Int.reduceToNat, Int.reduceLT, Int.reduceLE, Int.reduceEq, Int.reduceNe, Int.reduceAdd, Int.reduceSub, Int.reduceMul, Int.reduceNeg, h1, h2, h3, h4, h5]
  all_goals refine cK_vn hf ?_
  all_goals try simp only [go_sem, reduceIte, Nat.reduceEqDiff, Nat.reduceAdd, Nat.reduceSub, Nat.reduceMul, Nat.reduceLT, Nat.reduceLeDiff, Nat.reducePow, Int.reduceToNat, Int.reduceLT, Int.reduceLE, Int.reduceEq, Int.reduceNe, Int.reduceAdd, Int.reduceSub, Int.reduceMul, Int.reduceNeg, h1, h2, h3, h4, h5]
  all_goals refine new_any fun b3 h6 => ?_
  all_goals simp only [set_none] at h6
  all_goals try simp only [go_sem, reduceIte, Nat.reduceEqDiff, Nat.reduceAdd, Nat.reduceSub, Nat.reduceMul, Nat.reduceLT, Nat.reduceLeDiff, Nat.reducePow, Int.reduceToNat, Int.reduceLT, Int.reduceLE, Int.reduceEq, Int.reduceNe, Int.reduceAdd, Int.reduceSub, Int.reduceMul, Int.reduceNeg, h1, h2, h3, h4, h5, h6]
  all_goals refine cK_vn hg ?_
  all_goals try simp only [go_sem, reduceIte, Nat.reduceEqDiff, Nat.reduceAdd, Nat.reduceSub, Nat.reduceMul, Nat.reduceLT, Nat.reduceLeDiff, Nat.reducePow, Int.reduceToNat, Int.reduceLT, Int.reduceLE, Int.reduceEq, Int.reduceNe, Int.reduceAdd, Int.reduceSub, Int.reduceMul, Int.reduceNeg, h1, h2, h3, h4, h5, h6]
  all_goals refine new_any fun b4 h7 => ?_
  all_goals simp only [set_none] at h7
  case' none.none => repeat' (first | simp only [go_sem, reduceIte, Nat.reduceEqDiff, Nat.reduceAdd, Nat.reduceSub, Nat.reduceMul, Nat.reduceLT, Nat.reduceLeDiff, Nat.reducePow, Int.reduceToNat, Int.reduceLT, Int.reduceLE, Int.reduceEq, Int.reduceNe, Int.reduceAdd, Int.reduceSub, Int.reduceMul, Int.reduceNeg, h1, h2, h3, h4, h5, h6, h7] | fail)
  case' none.some => repeat' (first | simp only [go_sem, reduceIte, Nat.reduceEqDiff, Nat.reduceAdd, Nat.reduceSub, Nat.reduceMul, Nat.reduceLT, Nat.reduceLeDiff, Nat.reducePow, Int.reduceToNat, Int.reduceLT, Int.reduceLE, Int.reduceEq, Int.reduceNe, Int.reduceAdd, Int.reduceSub, Int.reduceMul, Int.reduceNeg, h1, h2, h3, h4, h5, h6, h7] | fail)
  case' some.none => repeat' (first | simp only [go_sem, reduceIte, Nat.reduceEqDiff, Nat.reduceAdd, Nat.reduceSub, Nat.reduceMul, Nat.reduceLT, Nat.reduceLeDiff, Nat.reducePow, Int.reduceToNat, Int.reduceLT, Int.reduceLE, Int.reduceEq, Int.reduceNe, Int.reduceAdd, Int.reduceSub, Int.reduceMul, Int.reduceNeg, h1, h2, h3, h4, h5, h6, h7] | fail)
  all_goals first | exact finK_drop ⟨_, ⟨[], 0, _, rfl, fun h => (by simp at h)⟩, rfl, rfl, rfl⟩ | skip
  rename_i f g
  have hl : (withoutF fs f.id g.id).length < fs.length := by rw [(findFd_some hff).2]; exact without_less hff
  have hs := sep_ok (G := G) c.sep
  have ta := taken_ok (G := G) fs nx ⟨0, c.name, 4, f.parent⟩ f.id g.id (by omega)
  have ho := without_ok (G := G) fs nx f.id g.id (by omega)
  have hso := h.without f.id g.id
  generalize withoutF fs f.id g.id = ws at hl ho hso
  have p1 := plus_ok (G := G) ws nx ⟨0, c.name, 4, f.parent⟩ (by omega) (by omega)
  have fin : nx < 1073741824 → SOk (plusF ws nx ⟨0, c.name, 4, f.parent⟩) (nx + 1) := fun q2 => hso.plus _ (by omega) (by omega)
  simp only [fdC] at ta p1
  repeat' (first | simp only [go_sem, reduceIte, Nat.reduceEqDiff, Nat.reduceAdd, Nat.reduceSub, Nat.reduceMul, Nat.reduceLT, Nat.reduceLeDiff, Nat.reducePow, Int.reduceToNat, Int.reduceLT, Int.reduceLE, Int.reduceEq, Int.reduceNe, Int.reduceAdd, Int.reduceSub, Int.reduceMul, Int.reduceNeg, h1, h2, h3, h4, h5, h6, h7] | refine cd_dec (fun _ => ?_) (fun _ => ?_) | (refine cK_vx hs ?_; rintro _ ⟨bb, rfl⟩; cases bb) | fail)
  all_goals first | exact finK_drop ⟨_, ⟨[], 0, _, rfl, fun h => (by simp at h)⟩, rfl, rfl, rfl⟩ | skip
  refine new_any fun b5 h8 => ?_
  simp only [set_none] at h8
  repeat' (first | simp only [go_sem, reduceIte, Nat.reduceEqDiff, Nat.reduceAdd, Nat.reduceSub, Nat.reduceMul, Nat.reduceLT, Nat.reduceLeDiff, Nat.reducePow, Int.reduceToNat, Int.reduceLT, Int.reduceLE, Int.reduceEq, Int.reduceNe, Int.reduceAdd, Int.reduceSub, Int.reduceMul, Int.reduceNeg, h1, h2, h3, h4, h5, h6, h7, h8] | refine cd_dec (fun _ => ?_) (fun _ => ?_) | (refine cK_vx ta ?_; rintro _ ⟨bb, rfl⟩; cases bb) | refine cK_vn ho ?_ | refine cK_vn p1 ?_ | refine cE_vn ho ?_ | refine cE_vn p1 ?_ | fail)
  all_goals first | exact finK_drop ⟨_, ⟨[], 0, _, rfl, fun h => (by simp at h)⟩, rfl, rfl, rfl⟩ | skip
  refine ⟨(show ¬ rdAdd _ _ _ _ _ from by simp [rdAdd, h1, h2, h3, h4, h5, h6, h7, h8]), ?_⟩
  exact finK_drop ⟨_, ⟨_, _, _, rfl, fun _ => fin (by omega)⟩, rfl, rfl, rfl⟩
end Go.Proofs.YtnoenipdooackaaGreatDoorS
namespace Go.Proofs.YtnoenipdooackaaGreatDoorS
open Go Go.Proofs.YtnoenipdooackaaGreatDoorV

variable {G : Heap}
attribute [local irreducible] VN VC VX VQ

set_option maxHeartbeats 4000000 in
theorem Apply_ok (fs : List Fd) (nx : Int) (c : Ch) (h : SOk fs nx) : VX P G 46 [.agg [.sl .none (fs.map fdD), .int .i64 nx], .agg c.cells] isS := by
  have ha := add_ok (G := G) fs nx c h
  have hb := one_ok (G := G) fs nx c h
  have hc := split_ok (G := G) fs nx c h
  have hd := join_ok (G := G) fs nx c h
  simp only [Ch.cells] at ha hb hc hd ⊢
  unfold VX
  refine VC.ofc (fun | 99999999 => [(0, [0, 1, 2, 3, 4, 5, 7, 8, 15, 25, 32])] | _ => []) [.cell 4 34, .tmp 5] mixed Tryz.func46 rfl rfl rfl rfl (by decide +kernel) (by simp) ?_
  simp only [go_sem, reduceIte, Nat.reduceEqDiff, Nat.reduceAdd, Nat.reduceSub, Nat.reduceMul, Nat.reduceLT, Nat.reduceLeDiff, Nat.reducePow, Int.reduceToNat, Int.reduceLT, Int.reduceLE, Int.reduceEq, Int.reduceNe, Int.reduceAdd, Int.reduceSub, Int.reduceMul, Int.reduceNeg]
  intro b0
  refine new_1 fun b1 h1 h2 => ?_
  refine new_2 fun b2 h3 h4 h5 => ?_
  repeat' (first | simp only [go_sem, reduceIte, Nat.reduceEqDiff, Nat.reduceAdd, Nat.reduceSub, Nat.reduceMul, Nat.reduceLT, Nat.reduceLeDiff, Nat.reducePow, Int.reduceToNat, Int.reduceLT, Int.reduceLE, Int.reduceEq, Int.reduceNe, Int.reduceAdd, Int.reduceSub, Int.reduceMul, Int.reduceNeg, h1, h2, h3, h4, h5] | refine cd_dec (fun _ => ?_) (fun _ => ?_) | (refine cK_vx ha ?_; rintro _ ⟨ws, m, e, rfl, he⟩) | (refine cK_vx hb ?_; rintro _ ⟨ws, m, e, rfl, he⟩) | (refine cK_vx hc ?_; rintro _ ⟨ws, m, e, rfl, he⟩) | (refine cK_vx hd ?_; rintro _ ⟨ws, m, e, rfl, he⟩) | fail)
  all_goals first | exact finK_drop ⟨_, ⟨[], 0, 1, rfl, fun h => (by simp at h)⟩, rfl, rfl, rfl⟩ | exact finK_drop ⟨_, ⟨_, _, _, rfl, by assumption⟩, rfl, rfl, rfl⟩
def Ch.d (c : Ch) : D := .agg c.cells
theorem Ch_at {l : List Ch} {j : Nat} (h : j < l.length) : ∃ c, l[j]? = some c ∧ (l.map Ch.d).getD j .any = .agg [.int .i64 c.kind, .int .i64 c.id, .int .i64 c.wit, .str c.name, .str c.other, .int .i64 c.type, .int .i64 c.parent, .str c.sep] := at_map h
def isA (d : D) : Prop := ∃ fs nx i e, d = .tup [.agg [.sl .none (fs.map fdD), .int .i64 nx], .int .i64 i, .int .i64 e] ∧ SOk fs nx
set_option maxHeartbeats 4000000 in
theorem After_ok (l : List Ch) : VX P G 22 [.sl .none (l.map Ch.d)] isA := by
  have hn := New_ok (G := G)
  simp only [scD] at hn
  unfold VX
  refine VC.small fun hsm => ?_
  have z := hsm (.sl .none (l.map Ch.d)) (List.mem_cons_self ..)
  simp only [Small, mostLen, List.length_map] at z
  clear hsm
  refine VC.ofc (fun | 5 => [(0, []), (1, []), (2, []), (3, []), (4, []), (5, [9]), (6, []), (7, []), (8, []), (9, []), (10, []), (11, [])] | 99999999 => [(0, [0, 2, 3, 4, 5, 6, 7, 8, 13, 26])] | _ => []) [.cell 2 34, .tmp 3, .tmp 4] mixed Tryz.func22 rfl rfl rfl rfl (by decide +kernel) (by simp) ?_
  simp only [go_sem, reduceIte, Nat.reduceEqDiff, Nat.reduceAdd, Nat.reduceSub, Nat.reduceMul, Nat.reduceLT, Nat.reduceLeDiff, Nat.reducePow, Int.reduceToNat, Int.reduceLT, Int.reduceLE, Int.reduceEq, Int.reduceNe, Int.reduceAdd, Int.reduceSub, Int.reduceMul, Int.reduceNeg]
  intro b0
  refine cK_vn hn ?_
  try simp only [go_sem, reduceIte, Nat.reduceEqDiff, Nat.reduceAdd, Nat.reduceSub, Nat.reduceMul, Nat.reduceLT, Nat.reduceLeDiff, Nat.reducePow, Int.reduceToNat, Int.reduceLT, Int.reduceLE, Int.reduceEq, Int.reduceNe, Int.reduceAdd, Int.reduceSub, Int.reduceMul, Int.reduceNeg, hn]
  refine new_1 fun b1 h1 h2 => ?_
  try simp only [go_sem, reduceIte, Nat.reduceEqDiff, Nat.reduceAdd, Nat.reduceSub, Nat.reduceMul, Nat.reduceLT, Nat.reduceLeDiff, Nat.reducePow, Int.reduceToNat, Int.reduceLT, Int.reduceLE, Int.reduceEq, Int.reduceNe, Int.reduceAdd, Int.reduceSub, Int.reduceMul, Int.reduceNeg, h1, h2]
  generalize hβ : Heap.set _ b1 _ = β0
  have e0 : β0 b0 = some [.sl .full [], .int .i64 0] := by rw [← hβ]; simp [Heap.set, h1, h2]
  have e1 : β0 b1 = some [.sl .none ((([] : List Fd)).map fdD), .int .i64 1] := by rw [← hβ]; simp [Heap.set]
  clear hβ
  refine vwq_loop (fun v => ∃ (j : Nat) (fs : List Fd) (nx : Int), j ≤ l.length ∧ SOk fs nx ∧ v.σ 0 = .sl .none (l.map Ch.d) ∧ v.σ 2 = .pb b0 0 ∧ v.σ 5 = .pb b1 0 ∧ v.σ 6 = .int .i64 j ∧ v.β b0 = some [.sl .full [], .int .i64 0] ∧ v.β b1 = some [.sl .none (fs.map fdD), .int .i64 nx] ∧ v.ω = []) (fun v => l.length - (ival (v.σ 6)).toNat) ⟨0, [], 1, by omega, SOk.new, rfl, rfl, rfl, rfl, e0, e1, rfl⟩ ?_
  clear e0 e1 β0
  rintro σ β ω ⟨j, fs, nx, j1, h, q0, q2, q5, q6, e0, e1, rfl⟩
  dsimp only at q0 q2 q5 q6 e0 e1
  try simp only [go_sem, reduceIte, Nat.reduceEqDiff, Nat.reduceAdd, Nat.reduceSub, Nat.reduceMul, Nat.reduceLT, Nat.reduceLeDiff, Nat.reducePow, Int.reduceToNat, Int.reduceLT, Int.reduceLE, Int.reduceEq, Int.reduceNe, Int.reduceAdd, Int.reduceSub, Int.reduceMul, Int.reduceNeg, q0, q2, q5, q6, e0, e1]
  refine cd_dec (fun g => ?_) (fun g => ?_)
  · obtain ⟨c, hx, ex⟩ := Ch_at (l := l) (j := j) (by rw [List.length_map] at g; omega)
    have g1 := eq_true g
    rw [List.length_map] at g
    have wj := wrap_i64 (x := (j : Int) + 1) (by omega) (by omega)
    have c1 : ((0 : Int) ≤ j) = True := eq_true (by omega)
    have ha := Apply_ok (G := G) fs nx c h
    simp only [Ch.cells] at ha
    try simp only [go_sem, reduceIte, Nat.reduceEqDiff, Nat.reduceAdd, Nat.reduceSub, Nat.reduceMul, Nat.reduceLT, Nat.reduceLeDiff, Nat.reducePow, Int.reduceToNat, Int.reduceLT, Int.reduceLE, Int.reduceEq, Int.reduceNe, Int.reduceAdd, Int.reduceSub, Int.reduceMul, Int.reduceNeg, q0, q2, q5, q6, e0, e1, ex, g1, c1]
    refine cE_vx ha ⟨_, [], 0, 1, rfl, fun h => (by simp at h)⟩ ?_
    rintro _ ⟨ws, m, e, rfl, he⟩
    try simp only [go_sem, reduceIte, Nat.reduceEqDiff, Nat.reduceAdd, Nat.reduceSub, Nat.reduceMul, Nat.reduceLT, Nat.reduceLeDiff, Nat.reducePow, Int.reduceToNat, Int.reduceLT, Int.reduceLE, Int.reduceEq, Int.reduceNe, Int.reduceAdd, Int.reduceSub, Int.reduceMul, Int.reduceNeg, q0, q2, q5, q6, e0, e1, ex, g1, c1]
    refine new_any fun b3 hb => ?_
    have m0 := box_ne hb e0
    have m1 := box_ne hb e1
    try simp only [go_sem, reduceIte, Nat.reduceEqDiff, Nat.reduceAdd, Nat.reduceSub, Nat.reduceMul, Nat.reduceLT, Nat.reduceLeDiff, Nat.reducePow, Int.reduceToNat, Int.reduceLT, Int.reduceLE, Int.reduceEq, Int.reduceNe, Int.reduceAdd, Int.reduceSub, Int.reduceMul, Int.reduceNeg, q0, q2, q5, q6, e0, e1, m0, m1]
    refine cd_dec (fun k => ?_) (fun k => ?_)
    · try simp only [go_sem, reduceIte, Nat.reduceEqDiff, Nat.reduceAdd, Nat.reduceSub, Nat.reduceMul, Nat.reduceLT, Nat.reduceLeDiff, Nat.reducePow, Int.reduceToNat, Int.reduceLT, Int.reduceLE, Int.reduceEq, Int.reduceNe, Int.reduceAdd, Int.reduceSub, Int.reduceMul, Int.reduceNeg, q0, q2, q5, q6, e0, e1, m0, m1]
      exact finK_drop ⟨_, ⟨_, _, _, _, rfl, h⟩, rfl, rfl, rfl⟩
    · try simp only [go_sem, reduceIte, Nat.reduceEqDiff, Nat.reduceAdd, Nat.reduceSub, Nat.reduceMul, Nat.reduceLT, Nat.reduceLeDiff, Nat.reducePow, Int.reduceToNat, Int.reduceLT, Int.reduceLE, Int.reduceEq, Int.reduceNe, Int.reduceAdd, Int.reduceSub, Int.reduceMul, Int.reduceNeg, q0, q2, q5, q6, e0, e1, m0, m1, wj]
      exact ⟨⟨j + 1, ws, m, by omega, he (by omega), rfl, by simp [Heap.set, e0, e1, m0, m1, h1, h2]⟩, by omega⟩
  · try simp only [go_sem, reduceIte, Nat.reduceEqDiff, Nat.reduceAdd, Nat.reduceSub, Nat.reduceMul, Nat.reduceLT, Nat.reduceLeDiff, Nat.reducePow, Int.reduceToNat, Int.reduceLT, Int.reduceLE, Int.reduceEq, Int.reduceNe, Int.reduceAdd, Int.reduceSub, Int.reduceMul, Int.reduceNeg, q0, q2, q5, q6, e0, e1]
    exact finK_drop ⟨_, ⟨_, _, _, _, rfl, h⟩, rfl, rfl, rfl⟩
def isT (d : D) : Prop := ∃ s, d = .str s
theorem name_ok (s : ByteArray) : VX P G 73 [.str s] isT := by
  have hn := Name_ok (G := G) s
  unfold VX
  refine VC.ofs (fun | 99999999 => [(0, [0, 2, 3, 11])] | _ => []) [2] mixed Tryz.func73 rfl rfl rfl rfl (by decide +kernel) (by simp) ?_
  simp only [go_sem, reduceIte, Nat.reduceEqDiff, Nat.reduceAdd, Nat.reduceSub, Nat.reduceMul, Nat.reduceLT, Nat.reduceLeDiff, Nat.reducePow, Int.reduceToNat, Int.reduceLT, Int.reduceLE, Int.reduceEq, Int.reduceNe, Int.reduceAdd, Int.reduceSub, Int.reduceMul, Int.reduceNeg]
  refine cK_vx hn ?_
  rintro _ ⟨bb, rfl⟩
  obtain ⟨r, hr, hrl⟩ : ∃ r : Nat, ((s.size : Nat) : Int).tmod 6 = r ∧ r < 6 := ⟨s.size % 6, by rw [Int.tmod_eq_emod_of_nonneg (by omega)]; omega, by omega⟩
  have c1 : ((r : Int) < 6) = True := eq_true (by omega)
  have c2 : ((0 : Int) ≤ r) = True := eq_true (by omega)
  cases bb
  all_goals repeat' (first | simp only [go_sem, reduceIte, Nat.reduceEqDiff, Nat.reduceAdd, Nat.reduceSub, Nat.reduceMul, Nat.reduceLT, Nat.reduceLeDiff, Nat.reducePow, Int.reduceToNat, Int.reduceLT, Int.reduceLE, Int.reduceEq, Int.reduceNe, Int.reduceAdd, Int.reduceSub, Int.reduceMul, Int.reduceNeg, hr, c1, c2] | refine cd_dec (fun _ => ?_) (fun _ => ?_) | fail)
  all_goals first
    | exact finK_drop ⟨_, ⟨s, rfl⟩, rfl, rfl, rfl⟩
    | (obtain h | h | h | h | h | h : r = 0 ∨ r = 1 ∨ r = 2 ∨ r = 3 ∨ r = 4 ∨ r = 5 := by omega
       all_goals subst h; exact ⟨rfl, Nat.zero_lt_one, finK_drop ⟨_, ⟨_, rfl⟩, rfl, rfl, rfl⟩⟩)
theorem Change_ok (fs : List Fd) (nx : Int) (c : Ch) (z : fs.length ≤ 1048576) : VX P G 47 [.agg [.sl .none (fs.map fdD), .int .i64 nx], .agg c.cells] (fun d => ∃ c' : Ch, d = .agg c'.cells) := by
  have hm := mod_ok (G := G)
  have hn := name_ok (G := G)
  have hs := sep_ok (G := G) c.sep
  have hg := fun i => group_ok (G := G) fs nx i z
  simp only [Ch.cells]
  unfold VX
  refine VC.ofc (fun | 1 => [(0, []), (1, []), (4, []), (5, [2]), (6, []), (7, [2]), (10, []), (11, [2, 8]), (12, []), (13, [2, 8]), (16, []), (17, [2, 8, 14]), (19, []), (20, [2, 8, 14, 18]), (22, []), (23, [2, 8, 14, 18, 21]), (26, []), (27, [2, 8, 14, 18, 21, 24]), (28, []), (29, [2, 8, 14, 18, 21, 24]), (31, []), (32, [2, 8, 14, 18, 21, 24, 30]), (2, [34]), (3, []), (8, [34]), (9, []), (14, [34]), (15, []), (18, [34]), (21, [34]), (24, [34]), (25, []), (30, [34]), (33, []), (34, []), (35, [])] | 99999999 => [(0, [0, 1, 2, 3, 4, 5, 43, 49])] | _ => []) [.cell 4 101] mixed Tryz.func47 rfl rfl rfl rfl (by decide +kernel) (by simp) ?_
  simp only [go_sem, reduceIte, Nat.reduceEqDiff, Nat.reduceAdd, Nat.reduceSub, Nat.reduceMul, Nat.reduceLT, Nat.reduceLeDiff, Nat.reducePow, Int.reduceToNat, Int.reduceLT, Int.reduceLE, Int.reduceEq, Int.reduceNe, Int.reduceAdd, Int.reduceSub, Int.reduceMul, Int.reduceNeg]
  intro b0
  refine new_1 fun b1 h1 h2 => ?_
  refine new_2 fun b2 h3 h4 h5 => ?_
  repeat' (first | simp only [go_sem, reduceIte, Nat.reduceEqDiff, Nat.reduceAdd, Nat.reduceSub, Nat.reduceMul, Nat.reduceLT, Nat.reduceLeDiff, Nat.reducePow, Int.reduceToNat, Int.reduceLT, Int.reduceLE, Int.reduceEq, Int.reduceNe, Int.reduceAdd, Int.reduceSub, Int.reduceMul, Int.reduceNeg, h1, h2, h3, h4, h5] | (refine cK_vx (hm _ _) ?_; rintro _ ⟨k, rfl⟩) | (refine cE_vx (hm _ _) ⟨_, 0, rfl⟩ ?_; rintro _ ⟨k, rfl⟩) | (refine cK_vx (hn _) ?_; rintro _ ⟨t, rfl⟩) | (refine cE_vx (hn _) ⟨_, ByteArray.empty, rfl⟩ ?_; rintro _ ⟨t, rfl⟩) | fail)
  refine new_any fun b3 h6 => ?_
  simp only [set_none] at h6
  refine ⟨(show ¬ rdAdd _ _ _ _ _ from by simp [rdAdd, h1, h2, h3, h4, h5, h6]), ?_⟩
  repeat' (first | simp only [go_sem, reduceIte, Nat.reduceEqDiff, Nat.reduceAdd, Nat.reduceSub, Nat.reduceMul, Nat.reduceLT, Nat.reduceLeDiff, Nat.reducePow, Int.reduceToNat, Int.reduceLT, Int.reduceLE, Int.reduceEq, Int.reduceNe, Int.reduceAdd, Int.reduceSub, Int.reduceMul, Int.reduceNeg, h1, h2, h3, h4, h5, h6] | (refine cK_vx hs ?_; rintro _ ⟨bb, rfl⟩; cases bb) | (refine cK_vx (hg _) ?_; rintro _ ⟨bb, rfl⟩; cases bb) | fail)
  all_goals exact finK_drop ⟨_, ⟨⟨_, _, _, _, _, _, _, _⟩, rfl⟩, rfl, rfl, rfl⟩
theorem Ch_cells8 (l : List Ch) : ∀ x ∈ l.map Ch.d, x.cells.length = 8 := fun x hx => by
  obtain ⟨y, _, rfl⟩ := List.mem_map.1 hx; rfl
set_option maxHeartbeats 4000000 in
theorem Made_ok (l : List Ch) (n : Nat) (hn : n ≤ 1048576) : VX P G 23 [.sl .none (l.map Ch.d), .int .i64 n] (fun d => ∃ m : List Ch, d = .sl .none (m.map Ch.d)) := by
  have hw := New_ok (G := G)
  simp only [scD] at hw
  unfold VX
  refine VC.small fun hsm => ?_
  have z := hsm (.sl .none (l.map Ch.d)) (List.mem_cons_self ..)
  simp only [Small, mostLen, List.length_map] at z
  clear hsm
  refine VC.ofs (fun | 6 => [(0, []), (1, []), (2, []), (3, []), (4, []), (5, [6]), (6, []), (7, [])] | 99999999 => [(0, [0, 1, 4, 5, 6, 7, 8, 9, 10, 21, 37])] | _ => []) [4] mixed Tryz.func23 rfl rfl rfl rfl (by decide +kernel) (by simp) ?_
  simp only [go_sem, reduceIte, Nat.reduceEqDiff, Nat.reduceAdd, Nat.reduceSub, Nat.reduceMul, Nat.reduceLT, Nat.reduceLeDiff, Nat.reducePow, Int.reduceToNat, Int.reduceLT, Int.reduceLE, Int.reduceEq, Int.reduceNe, Int.reduceAdd, Int.reduceSub, Int.reduceMul, Int.reduceNeg]
  refine cK_vn hw ?_
  simp only [go_sem, reduceIte, Nat.reduceEqDiff, Nat.reduceAdd, Nat.reduceSub, Nat.reduceMul, Nat.reduceLT, Nat.reduceLeDiff, Nat.reducePow, Int.reduceToNat, Int.reduceLT, Int.reduceLE, Int.reduceEq, Int.reduceNe, Int.reduceAdd, Int.reduceSub, Int.reduceMul, Int.reduceNeg]
  intro b0
  generalize hβ : Heap.set _ b0 _ = β0
  have e0 : β0 b0 = some [.sl .none (([] : List Fd).map fdD), .int .i64 1] := by rw [← hβ]; simp [Heap.set]
  clear hβ
  refine vwq_loop (fun v => ∃ (j : Nat) (fs : List Fd) (nx : Int) (m : List Ch) (tk : Tk), j ≤ l.length ∧ m.length ≤ j ∧ j ≤ n ∧ SOk fs nx ∧ TW 8 tk v.ω ∧ v.σ 0 = .sl .none (l.map Ch.d) ∧ v.σ 1 = .int .i64 n ∧ v.σ 5 = .pb b0 0 ∧ v.σ 6 = .sl tk (m.map Ch.d) ∧ v.σ 7 = .int .i64 j ∧ v.β b0 = some [.sl .none (fs.map fdD), .int .i64 nx]) (fun v => l.length - (ival (v.σ 7)).toNat) ⟨0, [], 1, [], .full, by omega, by simp, by omega, SOk.new, TW.full 8, rfl, rfl, rfl, rfl, rfl, e0⟩ ?_
  clear e0 β0
  rintro σ β ω ⟨j, fs, nx, m, tk, j1, j2, j3, h, hw, q0, q1, q5, q6, q7, e0⟩
  dsimp only at hw q0 q1 q5 q6 q7 e0
  have ho := hw.ok
  have hg := hw.gone
  try simp only [go_sem, reduceIte, Nat.reduceEqDiff, Nat.reduceAdd, Nat.reduceSub, Nat.reduceMul, Nat.reduceLT, Nat.reduceLeDiff, Nat.reducePow, Int.reduceToNat, Int.reduceLT, Int.reduceLE, Int.reduceEq, Int.reduceNe, Int.reduceAdd, Int.reduceSub, Int.reduceMul, Int.reduceNeg, q0, q1, q5, q6, q7, e0]
  refine cd_dec (fun g => ?_) (fun g => ?_)
  · obtain ⟨g, g'⟩ := g
    obtain ⟨c, hx, ex⟩ := Ch_at (l := l) (j := j) (by rw [List.length_map] at g; omega)
    have g1 := eq_true g
    rw [List.length_map] at g
    have wj := wrap_i64 (x := (j : Int) + 1) (by omega) (by omega)
    have c1 : ((0 : Int) ≤ j) = True := eq_true (by omega)
    have hc := Change_ok (G := G) fs nx c (by have := h.len; omega)
    simp only [Ch.cells] at hc
    try simp only [go_sem, reduceIte, Nat.reduceEqDiff, Nat.reduceAdd, Nat.reduceSub, Nat.reduceMul, Nat.reduceLT, Nat.reduceLeDiff, Nat.reducePow, Int.reduceToNat, Int.reduceLT, Int.reduceLE, Int.reduceEq, Int.reduceNe, Int.reduceAdd, Int.reduceSub, Int.reduceMul, Int.reduceNeg, q0, q1, q5, q6, q7, e0, ex, g1, c1]
    refine cE_vx hc ⟨_, c, rfl⟩ ?_
    rintro _ ⟨c', rfl⟩
    have ha := Apply_ok (G := G) fs nx c' h
    simp only [Ch.cells] at ha
    try simp only [go_sem, reduceIte, Nat.reduceEqDiff, Nat.reduceAdd, Nat.reduceSub, Nat.reduceMul, Nat.reduceLT, Nat.reduceLeDiff, Nat.reducePow, Int.reduceToNat, Int.reduceLT, Int.reduceLE, Int.reduceEq, Int.reduceNe, Int.reduceAdd, Int.reduceSub, Int.reduceMul, Int.reduceNeg, q0, q1, q5, q6, q7, e0, ex, g1, c1, Ch.cells]
    refine new_any fun b3 hb => ?_
    have m0 := box_ne hb e0
    try simp only [go_sem, reduceIte, Nat.reduceEqDiff, Nat.reduceAdd, Nat.reduceSub, Nat.reduceMul, Nat.reduceLT, Nat.reduceLeDiff, Nat.reducePow, Int.reduceToNat, Int.reduceLT, Int.reduceLE, Int.reduceEq, Int.reduceNe, Int.reduceAdd, Int.reduceSub, Int.reduceMul, Int.reduceNeg, q0, q1, q5, q6, q7, e0, m0]
    refine cK_vx ha ?_
    rintro _ ⟨ws, mx, e, rfl, he⟩
    try simp only [go_sem, reduceIte, Nat.reduceEqDiff, Nat.reduceAdd, Nat.reduceSub, Nat.reduceMul, Nat.reduceLT, Nat.reduceLeDiff, Nat.reducePow, Int.reduceToNat, Int.reduceLT, Int.reduceLE, Int.reduceEq, Int.reduceNe, Int.reduceAdd, Int.reduceSub, Int.reduceMul, Int.reduceNeg, q0, q1, q5, q6, q7, e0, m0]
    refine new_any fun b4 hb => ?_
    simp only [set_none] at hb
    have p0 := box_ne hb.2.2 e0
    try simp only [go_sem, reduceIte, Nat.reduceEqDiff, Nat.reduceAdd, Nat.reduceSub, Nat.reduceMul, Nat.reduceLT, Nat.reduceLeDiff, Nat.reducePow, Int.reduceToNat, Int.reduceLT, Int.reduceLE, Int.reduceEq, Int.reduceNe, Int.reduceAdd, Int.reduceSub, Int.reduceMul, Int.reduceNeg, q0, q1, q5, q6, q7, e0, m0, p0, hb]
    refine cd_dec (fun k => ?_) (fun k => ?_)
    · try simp only [go_sem, reduceIte, Nat.reduceEqDiff, Nat.reduceAdd, Nat.reduceSub, Nat.reduceMul, Nat.reduceLT, Nat.reduceLeDiff, Nat.reducePow, Int.reduceToNat, Int.reduceLT, Int.reduceLE, Int.reduceEq, Int.reduceNe, Int.reduceAdd, Int.reduceSub, Int.reduceMul, Int.reduceNeg, q0, q1, q5, q6, q7, e0, m0, p0, hb, ho, hg, wj]
      refine ⟨Ch_cells8 _, by rw [List.length_map]; omega, fun t' _ => ⟨⟨j + 1, ws, mx, m ++ [c'], .live t' 8, by omega, by simp; omega, by omega, he k, TW.live 8 t', ?_⟩, by omega⟩⟩
      simp [Heap.set, e0, m0, p0, hb, Ch.d, Ch.cells]
    · try simp only [go_sem, reduceIte, Nat.reduceEqDiff, Nat.reduceAdd, Nat.reduceSub, Nat.reduceMul, Nat.reduceLT, Nat.reduceLeDiff, Nat.reducePow, Int.reduceToNat, Int.reduceLT, Int.reduceLE, Int.reduceEq, Int.reduceNe, Int.reduceAdd, Int.reduceSub, Int.reduceMul, Int.reduceNeg, q0, q1, q5, q6, q7, e0, m0, p0, hb, wj]
      refine ⟨⟨j + 1, fs, nx, m, tk, by omega, by omega, by omega, h, hw, ?_⟩, by omega⟩
      simp [Heap.set, e0, m0, p0]
  · try simp only [go_sem, reduceIte, Nat.reduceEqDiff, Nat.reduceAdd, Nat.reduceSub, Nat.reduceMul, Nat.reduceLT, Nat.reduceLeDiff, Nat.reducePow, Int.reduceToNat, Int.reduceLT, Int.reduceLE, Int.reduceEq, Int.reduceNe, Int.reduceAdd, Int.reduceSub, Int.reduceMul, Int.reduceNeg, q0, q1, q5, q6, q7, e0]
    exact finK_drop ⟨_, ⟨m, rfl⟩, rfl, rfl, rfl⟩
end Go.Proofs.YtnoenipdooackaaGreatDoorS
namespace Go.Proofs.YtnoenipdooackaaGreatDoorS
open Go Go.Proofs.YtnoenipdooackaaGreatDoorV

variable {G : Heap}
attribute [local irreducible] VN VC VX VQ

/-- What a made value keeps. -/
def Vl.Ok (v : Vl) : Prop := I64 v.n ∧ v.s.size ≤ 200
def isV (d : D) : Prop := ∃ v : Vl, d = .agg v.cells ∧ v.Ok
theorem I64_wrap (x : Int) : I64 (IntKind.i64.wrap x) := by
  have h1 := Int.emod_nonneg x (b := 18446744073709551616) (by omega)
  have h2 := Int.emod_lt_of_pos x (b := 18446744073709551616) (by omega)
  by_cases h : x % 18446744073709551616 ≥ 9223372036854775808
  · have e : IntKind.i64.wrap x = x % 18446744073709551616 - 18446744073709551616 := by
      simp only [IntKind.wrap, IntKind.signed, IntKind.bits]
      exact if_pos (by simpa using h)
    rw [e]; exact ⟨by omega, by omega⟩
  · have e : IntKind.i64.wrap x = x % 18446744073709551616 := by
      simp only [IntKind.wrap, IntKind.signed, IntKind.bits]
      exact if_neg (by simpa using h)
    rw [e]; exact ⟨by omega, by omega⟩
theorem Ok_empty {b : Bool} {n : Int} (h : I64 n) : (⟨b, n, ByteArray.empty⟩ : Vl).Ok := ⟨h, by show ByteArray.empty.size ≤ 200; decide⟩
set_option maxHeartbeats 2000000 in
theorem Fit05_ok (v : Vl) (t : Int) (hi : I64 v.n) : VX P G 95 [.agg v.cells, .int .i64 t] isV := by
  obtain ⟨vn, vi, vs⟩ := v
  simp only [Vl.cells]
  unfold VX
  refine VC.ofc (fun | 99999999 => [(0, [0, 1, 2, 4, 6, 8, 9, 15, 22, 28])] | _ => []) [.cell 4 60] mixed Tryz.func95 rfl rfl rfl rfl (by decide +kernel) (by simp) ?_
  cases vn
  all_goals simp only [go_sem, reduceIte, Nat.reduceEqDiff, Nat.reduceAdd, Nat.reduceSub, Nat.reduceMul, Nat.reduceLT, Nat.reduceLeDiff, Nat.reducePow, Int.reduceToNat, Int.reduceLT, Int.reduceLE, Int.reduceEq, Int.reduceNe, Int.reduceAdd, Int.reduceSub, Int.reduceMul, Int.reduceNeg]
  all_goals intro b0
  all_goals refine new_1 fun b1 h1 h2 => ?_
  all_goals repeat' (first | simp only [go_sem, reduceIte, Nat.reduceEqDiff, Nat.reduceAdd, Nat.reduceSub, Nat.reduceMul, Nat.reduceLT, Nat.reduceLeDiff, Nat.reducePow, Int.reduceToNat, Int.reduceLT, Int.reduceLE, Int.reduceEq, Int.reduceNe, Int.reduceAdd, Int.reduceSub, Int.reduceMul, Int.reduceNeg, h1, h2] | refine cd_dec (fun _ => ?_) (fun _ => ?_) | fail)
  · exact finK_drop ⟨_, ⟨⟨_, _, _⟩, rfl, Ok_empty (I64_wrap _)⟩, rfl, rfl, rfl⟩
  · exact finK_drop ⟨_, ⟨⟨_, _, _⟩, rfl, Ok_empty (I64_wrap _)⟩, rfl, rfl, rfl⟩
  · refine finK_drop ⟨_, ⟨⟨_, _, _⟩, rfl, Ok_empty ?_⟩, rfl, rfl, rfl⟩
    have h1 := Int.tmod_lt_of_pos vi (show (0 : Int) < 1000001 by omega)
    have h2 : -1000001 < vi.tmod 1000001 := Int.lt_tmod_of_pos vi (show (0 : Int) < 1000001 by omega)
    show I64 (vi.tmod 1000001)
    exact ⟨by omega, by omega⟩
  · refine ⟨?_, finK_drop ⟨_, ⟨⟨_, _, _⟩, rfl, ⟨by simp [I64], ?_⟩⟩, rfl, rfl, rfl⟩⟩
    · split <;> omega
    · show (vs.extract 0 _).size ≤ 200
      rw [ByteArray.size_extract]
      split <;> omega
  · exact finK_drop ⟨_, ⟨⟨_, _, _⟩, rfl, Ok_empty hi⟩, rfl, rfl, rfl⟩
  · exact finK_drop ⟨_, ⟨⟨_, _, _⟩, rfl, Ok_empty (by simp [I64])⟩, rfl, rfl, rfl⟩
theorem Made05_ok (v : Vl) (t : Int) (hi : I64 v.n) : VX P G 76 [.agg v.cells, .int .i64 t] isV := by
  have ht := Type_ok (G := G) t
  have hf := Fit05_ok (G := G) v t hi
  simp only [Vl.cells] at hf ⊢
  generalize decide (1 ≤ t ∧ t ≤ 5) = q at ht
  unfold VX
  refine VC.ofc (fun | 99999999 => [(0, [0, 1, 2, 4, 7])] | _ => []) [.cell 4 60] mixed Tryz.func76 rfl rfl rfl rfl (by decide +kernel) (by simp) ?_
  simp only [go_sem, reduceIte, Nat.reduceEqDiff, Nat.reduceAdd, Nat.reduceSub, Nat.reduceMul, Nat.reduceLT, Nat.reduceLeDiff, Nat.reducePow, Int.reduceToNat, Int.reduceLT, Int.reduceLE, Int.reduceEq, Int.reduceNe, Int.reduceAdd, Int.reduceSub, Int.reduceMul, Int.reduceNeg]
  intro b0
  refine new_1 fun b1 h1 h2 => ?_
  try simp only [go_sem, reduceIte, Nat.reduceEqDiff, Nat.reduceAdd, Nat.reduceSub, Nat.reduceMul, Nat.reduceLT, Nat.reduceLeDiff, Nat.reducePow, Int.reduceToNat, Int.reduceLT, Int.reduceLE, Int.reduceEq, Int.reduceNe, Int.reduceAdd, Int.reduceSub, Int.reduceMul, Int.reduceNeg, h1, h2]
  refine cK_vn ht ?_
  cases q
  all_goals try simp only [go_sem, reduceIte, Nat.reduceEqDiff, Nat.reduceAdd, Nat.reduceSub, Nat.reduceMul, Nat.reduceLT, Nat.reduceLeDiff, Nat.reducePow, Int.reduceToNat, Int.reduceLT, Int.reduceLE, Int.reduceEq, Int.reduceNe, Int.reduceAdd, Int.reduceSub, Int.reduceMul, Int.reduceNeg, h1, h2]
  · exact finK_drop ⟨_, ⟨⟨_, _, _⟩, rfl, Ok_empty (by simp [I64])⟩, rfl, rfl, rfl⟩
  · refine cK_vx hf ?_
    rintro _ ⟨w, rfl, hw⟩
    try simp only [go_sem, reduceIte, Nat.reduceEqDiff, Nat.reduceAdd, Nat.reduceSub, Nat.reduceMul, Nat.reduceLT, Nat.reduceLeDiff, Nat.reducePow, Int.reduceToNat, Int.reduceLT, Int.reduceLE, Int.reduceEq, Int.reduceNe, Int.reduceAdd, Int.reduceSub, Int.reduceMul, Int.reduceNeg, h1, h2, Vl.cells]
    exact finK_drop ⟨_, ⟨w, rfl, hw⟩, rfl, rfl, rfl⟩
theorem Cl_cells4 (l : List Cl) : ∀ x ∈ l.map clD, x.cells.length = 4 := fun x hx => by
  obtain ⟨y, _, rfl⟩ := List.mem_map.1 hx; rfl
def RwOk (r : Rw) : Prop := ∀ c ∈ r, c.2.null = false ∧ c.2.Ok
set_option maxHeartbeats 4000000 in
theorem Row_ok (fs : List Fd) (nx : Int) (l : List Vl) (z : fs.length ≤ 64) (hi : ∀ v ∈ l, I64 v.n) : VX P G 48 [.agg [.sl .none (fs.map fdD), .int .i64 nx], .sl .none (l.map Vl.d)] (fun d => ∃ r : Rw, d = .agg [.sl .none (r.map clD)] ∧ RwOk r) := by
  unfold VX
  refine VC.ofc (fun | 7 => [(0, []), (1, []), (2, []), (3, []), (4, []), (5, []), (6, [7]), (7, []), (8, [])] | 99999999 => [(0, [0, 1, 2, 4, 5, 6, 7, 8, 20, 37, 47])] | _ => []) [.cell 4 54] mixed Tryz.func48 rfl rfl rfl rfl (by decide +kernel) (by simp) ?_
  simp only [go_sem, reduceIte, Nat.reduceEqDiff, Nat.reduceAdd, Nat.reduceSub, Nat.reduceMul, Nat.reduceLT, Nat.reduceLeDiff, Nat.reducePow, Int.reduceToNat, Int.reduceLT, Int.reduceLE, Int.reduceEq, Int.reduceNe, Int.reduceAdd, Int.reduceSub, Int.reduceMul, Int.reduceNeg]
  intro b0
  refine new_1 fun b1 h1 h2 => ?_
  refine new_2 fun b2 h3 h4 h5 => ?_
  try simp only [go_sem, reduceIte, Nat.reduceEqDiff, Nat.reduceAdd, Nat.reduceSub, Nat.reduceMul, Nat.reduceLT, Nat.reduceLeDiff, Nat.reducePow, Int.reduceToNat, Int.reduceLT, Int.reduceLE, Int.reduceEq, Int.reduceNe, Int.reduceAdd, Int.reduceSub, Int.reduceMul, Int.reduceNeg, h1, h2, h3, h4, h5]
  generalize hβ : Heap.set _ b2 _ = β0
  have e0 : β0 b0 = some [.sl .none (fs.map fdD), .int .i64 nx] := by rw [← hβ]; simp [Heap.set, h1, h2, h3, h4, h5]
  have e1 : β0 b1 = some [.sl .full []] := by rw [← hβ]; simp [Heap.set, h1, h2, h3, h4, h5]
  have e2 : β0 b2 = some [.sl .full []] := by rw [← hβ]; simp [Heap.set]
  clear hβ
  refine vwq_loop (fun v => ∃ (j : Nat) (r : Rw) (tk : Tk), j ≤ fs.length ∧ r.length ≤ j ∧ RwOk r ∧ TW 4 tk v.ω ∧ v.σ 1 = .sl .none (l.map Vl.d) ∧ v.σ 2 = .pb b0 0 ∧ v.σ 4 = .pb b1 0 ∧ v.σ 5 = .pb b2 0 ∧ v.σ 6 = .int .i64 j ∧ v.β b0 = some [.sl .none (fs.map fdD), .int .i64 nx] ∧ v.β b1 = some [.sl .full []] ∧ v.β b2 = some [.sl tk (r.map clD)]) (fun v => fs.length - (ival (v.σ 6)).toNat) ⟨0, [], .full, by omega, by simp, by simp [RwOk], TW.full 4, rfl, rfl, rfl, rfl, rfl, e0, e1, e2⟩ ?_
  clear e0 e1 e2 β0
  rintro σ β ω ⟨j, r, tk, j1, j2, hr, hw, q1, q2, q4, q5, q6, e0, e1, e2⟩
  dsimp only at hw q1 q2 q4 q5 q6 e0 e1 e2
  have ho := hw.ok
  have hg := hw.gone
  try simp only [go_sem, reduceIte, Nat.reduceEqDiff, Nat.reduceAdd, Nat.reduceSub, Nat.reduceMul, Nat.reduceLT, Nat.reduceLeDiff, Nat.reducePow, Int.reduceToNat, Int.reduceLT, Int.reduceLE, Int.reduceEq, Int.reduceNe, Int.reduceAdd, Int.reduceSub, Int.reduceMul, Int.reduceNeg, q1, q2, q4, q5, q6, e0, e1, e2]
  refine cd_dec (fun g => ?_) (fun g => ?_)
  · obtain ⟨g, g'⟩ := g
    obtain ⟨x, hx, ex⟩ := Fd_at (l := fs) (j := j) (by rw [List.length_map] at g; omega)
    obtain ⟨v, hv, ev⟩ := Vl_at (l := l) (j := j) g'
    have g1 := eq_true g
    have g2 := eq_true g'
    rw [List.length_map] at g
    have wj := wrap_i64 (x := (j : Int) + 1) (by omega) (by omega)
    have c1 : ((0 : Int) ≤ j) = True := eq_true (by omega)
    have hc := Made05_ok (G := G) v x.type (hi v (List.mem_of_getElem? hv))
    simp only [Vl.cells] at hc
    try simp only [go_sem, reduceIte, Nat.reduceEqDiff, Nat.reduceAdd, Nat.reduceSub, Nat.reduceMul, Nat.reduceLT, Nat.reduceLeDiff, Nat.reducePow, Int.reduceToNat, Int.reduceLT, Int.reduceLE, Int.reduceEq, Int.reduceNe, Int.reduceAdd, Int.reduceSub, Int.reduceMul, Int.reduceNeg, q1, q2, q4, q5, q6, e0, e1, e2, ex, ev, g1, g2, c1]
    refine new_any fun b3 hb => ?_
    have m0 := box_ne hb e0
    have m1 := box_ne hb e1
    have m2 := box_ne hb e2
    by_cases k6 : x.type = 6
    · try simp only [go_sem, reduceIte, Nat.reduceEqDiff, Nat.reduceAdd, Nat.reduceSub, Nat.reduceMul, Nat.reduceLT, Nat.reduceLeDiff, Nat.reducePow, Int.reduceToNat, Int.reduceLT, Int.reduceLE, Int.reduceEq, Int.reduceNe, Int.reduceAdd, Int.reduceSub, Int.reduceMul, Int.reduceNeg, q1, q2, q4, q5, q6, e0, e1, e2, ex, ev, g1, g2, c1, m0, m1, m2, k6, wj]
      refine ⟨⟨j + 1, r, tk, by omega, by omega, hr, hw, ?_⟩, by omega⟩
      simp [Heap.set, e0, e1, e2, m0, m1, m2]
    cases hvn : v.null
    case neg.true =>
      try simp only [go_sem, reduceIte, Nat.reduceEqDiff, Nat.reduceAdd, Nat.reduceSub, Nat.reduceMul, Nat.reduceLT, Nat.reduceLeDiff, Nat.reducePow, Int.reduceToNat, Int.reduceLT, Int.reduceLE, Int.reduceEq, Int.reduceNe, Int.reduceAdd, Int.reduceSub, Int.reduceMul, Int.reduceNeg, q1, q2, q4, q5, q6, e0, e1, e2, ex, ev, g1, g2, c1, m0, m1, m2, k6, hvn, wj]
      refine ⟨⟨j + 1, r, tk, by omega, by omega, hr, hw, ?_⟩, by omega⟩
      simp [Heap.set, e0, e1, e2, m0, m1, m2]
    rw [hvn] at hc
    try simp only [go_sem, reduceIte, Nat.reduceEqDiff, Nat.reduceAdd, Nat.reduceSub, Nat.reduceMul, Nat.reduceLT, Nat.reduceLeDiff, Nat.reducePow, Int.reduceToNat, Int.reduceLT, Int.reduceLE, Int.reduceEq, Int.reduceNe, Int.reduceAdd, Int.reduceSub, Int.reduceMul, Int.reduceNeg, q1, q2, q4, q5, q6, e0, e1, e2, ex, ev, g1, g2, c1, m0, m1, m2, k6, hvn]
    refine cE_vx hc ⟨_, Vl.nul, rfl, Ok_empty (by simp [I64])⟩ ?_
    rintro _ ⟨w, rfl, hwo⟩
    try simp only [go_sem, reduceIte, Nat.reduceEqDiff, Nat.reduceAdd, Nat.reduceSub, Nat.reduceMul, Nat.reduceLT, Nat.reduceLeDiff, Nat.reducePow, Int.reduceToNat, Int.reduceLT, Int.reduceLE, Int.reduceEq, Int.reduceNe, Int.reduceAdd, Int.reduceSub, Int.reduceMul, Int.reduceNeg, q1, q2, q4, q5, q6, e0, e1, e2, m0, m1, m2, Vl.cells]
    refine new_any fun b4 hb => ?_
    simp only [set_none] at hb
    have p0 := box_ne hb.2.2 e0
    have p1 := box_ne hb.2.2 e1
    have p2 := box_ne hb.2.2 e2
    cases hwn : w.null
    all_goals try simp only [go_sem, reduceIte, Nat.reduceEqDiff, Nat.reduceAdd, Nat.reduceSub, Nat.reduceMul, Nat.reduceLT, Nat.reduceLeDiff, Nat.reducePow, Int.reduceToNat, Int.reduceLT, Int.reduceLE, Int.reduceEq, Int.reduceNe, Int.reduceAdd, Int.reduceSub, Int.reduceMul, Int.reduceNeg, q1, q2, q4, q5, q6, e0, e1, e2, m0, m1, m2, p0, p1, p2, hb, hwn, ho, hg, wj]
    · refine ⟨Cl_cells4 _, by rw [List.length_map]; omega, fun t' _ => ⟨⟨j + 1, r ++ [(x.id, w)], .live t' 4, by omega, by simp; omega, ?_, TW.live 4 t', ?_⟩, by omega⟩⟩
      · intro c hc
        rcases List.mem_append.1 hc with hc | hc
        · exact hr c hc
        · simp at hc; subst hc; exact ⟨hwn, hwo⟩
      · simp [Heap.set, e0, e1, e2, m0, m1, m2, p0, p1, p2, hb, clD, hwn, h1, h2, h3, h4, h5]
    · refine ⟨⟨j + 1, r, tk, by omega, by omega, hr, hw, ?_⟩, by omega⟩
      simp [Heap.set, e0, e1, e2, m0, m1, m2, p0, p1, p2]
  · try simp only [go_sem, reduceIte, Nat.reduceEqDiff, Nat.reduceAdd, Nat.reduceSub, Nat.reduceMul, Nat.reduceLT, Nat.reduceLeDiff, Nat.reducePow, Int.reduceToNat, Int.reduceLT, Int.reduceLE, Int.reduceEq, Int.reduceNe, Int.reduceAdd, Int.reduceSub, Int.reduceMul, Int.reduceNeg, q1, q2, q4, q5, q6, e0, e1, e2]
    exact finK_drop ⟨_, ⟨r, rfl, hr⟩, rfl, rfl, rfl⟩
end Go.Proofs.YtnoenipdooackaaGreatDoorS
namespace Go.Proofs.YtnoenipdooackaaGreatDoorS
open Go Go.Proofs.YtnoenipdooackaaGreatDoorV

variable {G : Heap}
attribute [local irreducible] VN VC VX VQ

def vsD (l : List Vl) : D := .sl .none (l.map Vl.d)
theorem vs_at {l : List (List Vl)} {j : Nat} (h : j < l.length) : ∃ x, l[j]? = some x ∧ (l.map vsD).getD j .any = .sl .none (x.map Vl.d) := at_map h
theorem Rw_cells1 (l : List Rw) : ∀ x ∈ l.map rwD, x.cells.length = 1 := fun x hx => by
  obtain ⟨y, _, rfl⟩ := List.mem_map.1 hx; rfl
def isR (n : Nat) (d : D) : Prop := ∃ L : List Rw, d = .sl .none (L.map rwD) ∧ L.length ≤ n ∧ ∀ r ∈ L, RwOk r
set_option maxHeartbeats 4000000 in
theorem Rows_ok (fs : List Fd) (nx : Int) (raw : List (List Vl)) (n : Nat) (z : fs.length ≤ 64) (zn : n ≤ 1048576) (hi : ∀ l ∈ raw, ∀ v ∈ l, I64 v.n) : VX P G 24 [.agg [.sl .none (fs.map fdD), .int .i64 nx], .sl .none (raw.map vsD), .int .i64 n] (isR n) := by
  unfold VX
  refine VC.ofs (fun | 5 => [(0, []), (1, []), (2, []), (3, []), (4, []), (5, []), (6, []), (7, []), (8, []), (9, [])] | 99999999 => [(0, [0, 1, 2, 3, 6, 7, 8, 18])] | _ => []) [6] mixed Tryz.func24 rfl rfl rfl rfl (by decide +kernel) (by simp) ?_
  simp only [go_sem, reduceIte, Nat.reduceEqDiff, Nat.reduceAdd, Nat.reduceSub, Nat.reduceMul, Nat.reduceLT, Nat.reduceLeDiff, Nat.reducePow, Int.reduceToNat, Int.reduceLT, Int.reduceLE, Int.reduceEq, Int.reduceNe, Int.reduceAdd, Int.reduceSub, Int.reduceMul, Int.reduceNeg]
  intro b0
  generalize hβ : Heap.set Heap.nil b0 _ = β0
  have e0 : β0 b0 = some [.sl .none (fs.map fdD), .int .i64 nx] := by rw [← hβ]; simp only [Heap.set, if_true]
  clear hβ
  refine vwq_loop (fun v => ∃ (j : Nat) (L : List Rw) (tk : Tk), j ≤ raw.length ∧ j ≤ n ∧ L.length ≤ j ∧ (∀ r ∈ L, RwOk r) ∧ TW 1 tk v.ω ∧ v.σ 1 = .sl .none (raw.map vsD) ∧ v.σ 2 = .int .i64 n ∧ v.σ 3 = .pb b0 0 ∧ v.σ 7 = .sl tk (L.map rwD) ∧ v.σ 8 = .int .i64 j ∧ v.β = β0) (fun v => raw.length - (ival (v.σ 8)).toNat) ⟨0, [], .full, by omega, by omega, by simp, by simp, TW.full 1, rfl, rfl, rfl, rfl, rfl, rfl⟩ ?_
  rintro σ β ω ⟨j, L, tk, j1, j2, j3, hr, hw, q1, q2, q3, q7, q8, rfl⟩
  dsimp only at hw q1 q2 q3 q7 q8 e0
  have ho := hw.ok
  have hg := hw.gone
  try simp only [go_sem, reduceIte, Nat.reduceEqDiff, Nat.reduceAdd, Nat.reduceSub, Nat.reduceMul, Nat.reduceLT, Nat.reduceLeDiff, Nat.reducePow, Int.reduceToNat, Int.reduceLT, Int.reduceLE, Int.reduceEq, Int.reduceNe, Int.reduceAdd, Int.reduceSub, Int.reduceMul, Int.reduceNeg, q1, q2, q3, q7, q8, e0]
  refine cd_dec (fun g => ?_) (fun g => ?_)
  · obtain ⟨g, g'⟩ := g
    obtain ⟨x, hx, ex⟩ := vs_at (l := raw) (j := j) (by rw [List.length_map] at g; omega)
    have g1 := eq_true g
    rw [List.length_map] at g
    have wj := wrap_i64 (x := (j : Int) + 1) (by omega) (by omega)
    have c1 : ((0 : Int) ≤ j) = True := eq_true (by omega)
    have hc := Row_ok (G := G) fs nx x z (hi x (List.mem_of_getElem? hx))
    try simp only [go_sem, reduceIte, Nat.reduceEqDiff, Nat.reduceAdd, Nat.reduceSub, Nat.reduceMul, Nat.reduceLT, Nat.reduceLeDiff, Nat.reducePow, Int.reduceToNat, Int.reduceLT, Int.reduceLE, Int.reduceEq, Int.reduceNe, Int.reduceAdd, Int.reduceSub, Int.reduceMul, Int.reduceNeg, q1, q2, q3, q7, q8, e0, ex, g1, c1]
    refine cE_vx hc ⟨_, [], rfl, by simp [RwOk]⟩ ?_
    rintro _ ⟨w, rfl, hwo⟩
    try simp only [go_sem, reduceIte, Nat.reduceEqDiff, Nat.reduceAdd, Nat.reduceSub, Nat.reduceMul, Nat.reduceLT, Nat.reduceLeDiff, Nat.reducePow, Int.reduceToNat, Int.reduceLT, Int.reduceLE, Int.reduceEq, Int.reduceNe, Int.reduceAdd, Int.reduceSub, Int.reduceMul, Int.reduceNeg, q1, q2, q3, q7, q8, e0, ho, hg, wj]
    refine ⟨Rw_cells1 _, by rw [List.length_map]; omega, fun t' _ => ⟨⟨j + 1, L ++ [w], .live t' 1, by omega, by omega, by simp; omega, ?_, TW.live 1 t', ?_⟩, by omega⟩⟩
    · intro c hc
      rcases List.mem_append.1 hc with hc | hc
      · exact hr c hc
      · simp at hc; subst hc; exact hwo
    · simp [rwD]
  · try simp only [go_sem, reduceIte, Nat.reduceEqDiff, Nat.reduceAdd, Nat.reduceSub, Nat.reduceMul, Nat.reduceLT, Nat.reduceLeDiff, Nat.reducePow, Int.reduceToNat, Int.reduceLT, Int.reduceLE, Int.reduceEq, Int.reduceNe, Int.reduceAdd, Int.reduceSub, Int.reduceMul, Int.reduceNeg, q1, q2, q3, q7, q8, e0]
    exact finK_drop ⟨_, ⟨L, rfl, by omega, hr⟩, rfl, rfl, rfl⟩
structure Tb where
  l : List Ch
  v : List (List Vl)
def Tb.cells (t : Tb) : List D := [.sl .none (t.l.map Ch.d), .sl .none (t.v.map vsD)]
def isM (d : D) : Prop := ∃ (fs : List Fd) (nx : Int) (L : List Rw), d = .tup [.agg [.sl .none (fs.map fdD), .int .i64 nx], .sl .none (L.map rwD)] ∧ SOk fs nx ∧ L.length ≤ 40 ∧ ∀ r ∈ L, RwOk r
set_option maxHeartbeats 4000000 in
theorem made_ok (t : Tb) (hi : ∀ l ∈ t.v, ∀ v ∈ l, I64 v.n) : VX P G 6 [.agg t.cells] isM := by
  have hm := Made_ok (G := G) t.l 20 (by omega)
  simp only [Tb.cells]
  unfold VX
  refine VC.ofc (fun | 2 => [(0, [4]), (1, []), (2, []), (3, []), (4, []), (5, []), (6, [])] | 99999999 => [(0, [0, 1, 2, 3, 4])] | _ => []) [.cell 2 34, .tmp 3] mixed Tryz.func6 rfl rfl rfl rfl (by decide +kernel) (by simp) ?_
  simp only [go_sem, reduceIte, Nat.reduceEqDiff, Nat.reduceAdd, Nat.reduceSub, Nat.reduceMul, Nat.reduceLT, Nat.reduceLeDiff, Nat.reducePow, Int.reduceToNat, Int.reduceLT, Int.reduceLE, Int.reduceEq, Int.reduceNe, Int.reduceAdd, Int.reduceSub, Int.reduceMul, Int.reduceNeg]
  intro b0
  refine new_1 fun b1 h1 h2 => ?_
  try simp only [go_sem, reduceIte, Nat.reduceEqDiff, Nat.reduceAdd, Nat.reduceSub, Nat.reduceMul, Nat.reduceLT, Nat.reduceLeDiff, Nat.reducePow, Int.reduceToNat, Int.reduceLT, Int.reduceLE, Int.reduceEq, Int.reduceNe, Int.reduceAdd, Int.reduceSub, Int.reduceMul, Int.reduceNeg, h1, h2]
  refine cK_vx hm ?_
  rintro _ ⟨m, rfl⟩
  try simp only [go_sem, reduceIte, Nat.reduceEqDiff, Nat.reduceAdd, Nat.reduceSub, Nat.reduceMul, Nat.reduceLT, Nat.reduceLeDiff, Nat.reducePow, Int.reduceToNat, Int.reduceLT, Int.reduceLE, Int.reduceEq, Int.reduceNe, Int.reduceAdd, Int.reduceSub, Int.reduceMul, Int.reduceNeg, h1, h2]
  refine cK_vx (After_ok m) ?_
  rintro _ ⟨fs, nx, i, e, rfl, hs⟩
  have hr := Rows_ok (G := G) fs nx t.v 40 hs.len (by omega) hi
  try simp only [go_sem, reduceIte, Nat.reduceEqDiff, Nat.reduceAdd, Nat.reduceSub, Nat.reduceMul, Nat.reduceLT, Nat.reduceLeDiff, Nat.reducePow, Int.reduceToNat, Int.reduceLT, Int.reduceLE, Int.reduceEq, Int.reduceNe, Int.reduceAdd, Int.reduceSub, Int.reduceMul, Int.reduceNeg, h1, h2]
  refine new_2 fun b2 h3 h4 h5 => ?_
  try simp only [go_sem, reduceIte, Nat.reduceEqDiff, Nat.reduceAdd, Nat.reduceSub, Nat.reduceMul, Nat.reduceLT, Nat.reduceLeDiff, Nat.reducePow, Int.reduceToNat, Int.reduceLT, Int.reduceLE, Int.reduceEq, Int.reduceNe, Int.reduceAdd, Int.reduceSub, Int.reduceMul, Int.reduceNeg, h1, h2, h3, h4, h5]
  refine cE_vx hr ⟨_, [], rfl, by simp, by simp⟩ ?_
  rintro _ ⟨L, rfl, hL, hR⟩
  try simp only [go_sem, reduceIte, Nat.reduceEqDiff, Nat.reduceAdd, Nat.reduceSub, Nat.reduceMul, Nat.reduceLT, Nat.reduceLeDiff, Nat.reducePow, Int.reduceToNat, Int.reduceLT, Int.reduceLE, Int.reduceEq, Int.reduceNe, Int.reduceAdd, Int.reduceSub, Int.reduceMul, Int.reduceNeg, h1, h2, h3, h4, h5]
  refine ⟨(show ¬ rdAdd _ _ _ _ _ from by simp [rdAdd, h1, h2, h3, h4, h5]), ?_⟩
  exact finK_drop ⟨_, ⟨fs, nx, L, rfl, hs, hL, hR⟩, rfl, rfl, rfl⟩
end Go.Proofs.YtnoenipdooackaaGreatDoorS
