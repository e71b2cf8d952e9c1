import Derived.Test.YtgkfcgfobckaaaaP3
import Derived.Test.YtgkfcgfobckaaaaP5
import Derived.Test.YtgkfcgfobckaaaaE2
set_option linter.unusedVariables false
set_option linter.unusedSimpArgs false
namespace Go.Proofs.YtgkfcgfobckaaaaS
open Go Go.Proofs.YtgkfcgfobckaaaaV

variable {G : Heap}
attribute [local irreducible] VN VC VX VQ

def L3 : List En := [litE 1 5, litE 4 9, litE 20 30]
def l3D : D := .sl .full [.agg (litE 1 5).cells, .agg (litE 4 9).cells, .agg (litE 20 30).cells]
def btC (lo hi : Int) : List D := [.int .i64 1, .int .i64 1, .int .i64 lo, .int .i64 hi, .sl .none [], .str ByteArray.empty, .sl .none []]
def zpC : List D := [.int .i64 0, .int .i64 0, .int .i64 0, .int .i64 0, .sl .none [], .str ByteArray.empty, .sl .none []]
theorem L3_len : L3.length ≤ 60 := by decide
theorem L3_ok : ∀ e ∈ L3, e.su.l.length ≤ 100 := fun e he => by
  simp only [L3, List.mem_cons, List.not_mem_nil, or_false] at he
  rcases he with rfl | rfl | rfl <;> decide
theorem er_l3 : l3D.er = .sl .none (L3.map En.d) := rfl
theorem sScan : VN P G 14 [l3D, .agg (btC 5 6)] (.agg [.sl .none [.int .i64 0, .int .i64 1], .sl .none [.int .i64 2], .int .i64 2, .int .i64 304]) := by
  refine VN.er ?_
  have h := Scan_ok (G := G) L3 (btwL 1 5 6) L3_len L3_ok (Lim0 rfl)
  rw [show plF L3 (keepF L3 (btwL 1 5 6)) L3.length = ⟨[0, 1], [2], 2, 304⟩ from by decide +kernel] at h
  exact h
theorem sKeep : VN P G 17 [l3D, .agg (btC 25 25)] (.sl .none [.bool false, .bool false, .bool true]) := by
  refine VN.er ?_
  have h := Keep_ok (G := G) L3 (btwL 1 25 25) L3_len (Lim0 rfl)
  rw [show keepF L3 (btwL 1 25 25) = [false, false, true] from by decide +kernel] at h
  exact h
theorem sBest1 : VN P G 25 [l3D, .sl .full [.agg zpC, .agg (btC 5 6), .agg (btC 10 19)]] (.tup [.int .i64 2, .agg [.sl .none [], .sl .none [.int .i64 0, .int .i64 1, .int .i64 2], .int .i64 0, .int .i64 0]]) := by
  refine VN.er ?_
  have h := Best_ok (G := G) L3 [truL, btwL 1 5 6, btwL 1 10 19] L3_len L3_ok (fun p hp => by
    simp only [List.mem_cons, List.not_mem_nil, or_false] at hp
    rcases hp with rfl | rfl | rfl <;> exact Lim0 rfl) (by decide)
  rw [show bestF L3 [truL, btwL 1 5 6, btwL 1 10 19] [truL, btwL 1 5 6, btwL 1 10 19].length = (2, ⟨[], [0, 1, 2], 0, 0⟩) from by decide +kernel] at h
  simp only [List.map_cons, List.map_nil, Pr.d_eq] at h
  exact h
theorem sBest2 : VN P G 25 [l3D, .sl .full []] (.tup [.int .i64 (-1), .agg [.sl .none [], .sl .none [], .int .i64 0, .int .i64 0]]) := by
  refine VN.er ?_
  have h := Best_ok (G := G) L3 [] L3_len L3_ok (fun p hp => by cases hp) (by decide)
  exact h
theorem sCost : VN P G 11 [.agg (litE 1 5).cells] (.int .i64 144) := by
  have h := Cost_ok (G := G) (litE 1 5) (by decide)
  rw [show costF (litE 1 5) = 144 from by decide +kernel] at h
  exact h
theorem sNeedA : VN P G 21 [.agg [.int .i64 4, .int .i64 2, .int .i64 0, .int .i64 0, .sl .full [], .str ByteArray.empty, .sl .full [], .sl .full [], .int .i64 2, .int .i64 7, .int .i64 0, .sl .full []]] (.sl .none [.int .i64 2, .int .i64 7]) :=
  VN.er (NeededA_ok (G := G) 4 2 7 (by decide) (by decide))
theorem sNeedB : VN P G 21 [.agg [.int .i64 0, .int .i64 0, .int .i64 0, .int .i64 0, .sl .full [], .str ByteArray.empty, .sl .full [], .sl .full [], .int .i64 3, .int .i64 2, .int .i64 3, .sl .full []]] (.sl .none [.int .i64 2, .int .i64 3]) :=
  VN.er (NeededB_ok (G := G) 2 3 (by decide))
theorem sSame (t1 t2 t3 t4 : Tk) (a : Pl) (r1 r2 s1 s2 : List D) (e1 : r1 = a.read.map iD) (e2 : s1 = a.skip.map iD) (e3 : r2 = a.read.map iD) (e4 : s2 = a.skip.map iD) : VN P G 13 [.agg [.sl t1 r1, .sl t2 s1, .int .i64 a.req, .int .i64 a.bytes], .agg [.sl t3 r2, .sl t4 s2, .int .i64 a.req, .int .i64 a.bytes]] (.bool true) := by
  subst e1 e2 e3 e4
  have := SameP_ok (G := G) t1 t2 t3 t4 a a
  rw [decide_eq_true rfl] at this
  exact this
theorem sBools (t1 t2 : Tk) : VN P G 16 [.sl t1 [.bool false, .bool false, .bool true], .sl t2 [.bool false, .bool false, .bool true]] (.bool true) := by
  have := Bools_ok (G := G) t1 t2 [false, false, true] [false, false, true]
  rw [decide_eq_true rfl] at this
  exact this
theorem sInts (t1 t2 : Tk) (x y : Int) : VN P G 20 [.sl t1 [.int .i64 x, .int .i64 y], .sl t2 [.int .i64 x, .int .i64 y]] (.bool true) := by
  have := Ints_ok (G := G) t1 t2 [x, y] [x, y]
  rw [decide_eq_true rfl] at this
  exact this
theorem sanity_ok : VN P G 8 [] (.bool true) := by
  unfold VN
  refine VC.ofs (fun | 99999999 => [(0, [0, 1, 2, 3, 4, 5, 6, 7, 8])] | _ => []) [0] mixed Try.func8 rfl rfl rfl rfl (by decide +kernel) (by simp) ?_
  have hE1 := entry_ok (G := G) 1 5 (by decide) (by decide)
  have hE2 := entry_ok (G := G) 4 9 (by decide) (by decide)
  have hE3 := entry_ok (G := G) 20 30 (by decide) (by decide)
  have hB1 := mkbetween_ok (G := G) 5 6
  have hB2 := mkbetween_ok (G := G) 10 19
  have hB3 := mkbetween_ok (G := G) 25 25
  have hs := sScan (G := G)
  have hk := sKeep (G := G)
  have hb1 := sBest1 (G := G)
  have hb2 := sBest2 (G := G)
  have hc := sCost (G := G)
  have hna := sNeedA (G := G)
  have hnb := sNeedB (G := G)
  have x1 := (litE 1 5).length
  have x2 := (litE 4 9).length
  have x3 := (litE 20 30).length
  have y1 := (litE 1 5).take
  have y2 := (litE 4 9).take
  have y3 := (litE 20 30).take
  have z1 := (litE 1 5).one
  have z2 := (litE 4 9).one
  have z3 := (litE 20 30).one
  have w1 : (litE 1 5).cells.map D.er1 = (litE 1 5).cells := rfl
  have w2 : (litE 4 9).cells.map D.er1 = (litE 4 9).cells := rfl
  have w3 : (litE 20 30).cells.map D.er1 = (litE 20 30).cells := rfl
  have r1 := (litE 1 5).obj
  simp only [l3D, btC, zpC] at hs hk hb1 hb2
  generalize (litE 1 5).cells = E1 at *
  generalize (litE 4 9).cells = E2 at *
  generalize (litE 20 30).cells = E3 at *
  simp only [go_sem, reduceIte, Nat.reduceEqDiff, Nat.reduceAdd, Nat.reduceSub, Nat.reduceMul, Nat.reduceLT, Nat.reduceLeDiff, Nat.reducePow, Int.reduceToNat, Int.reduceLT, Int.reduceLE, Int.reduceEq, Int.reduceNe, Int.reduceAdd, Int.reduceSub, Int.reduceMul, Int.reduceNeg]
  refine cK_vn hE1 ?_
  try simp only [go_sem, reduceIte, Nat.reduceEqDiff, Nat.reduceAdd, Nat.reduceSub, Nat.reduceMul, Nat.reduceLT, Nat.reduceLeDiff, Nat.reducePow, Int.reduceToNat, Int.reduceLT, Int.reduceLE, Int.reduceEq, Int.reduceNe, Int.reduceAdd, Int.reduceSub, Int.reduceMul, Int.reduceNeg, x1, x2, x3, y1, y2, y3, z1, z2, z3, w1, w2, w3, r1]
  refine cK_vn hE2 ?_
  try simp only [go_sem, reduceIte, Nat.reduceEqDiff, Nat.reduceAdd, Nat.reduceSub, Nat.reduceMul, Nat.reduceLT, Nat.reduceLeDiff, Nat.reducePow, Int.reduceToNat, Int.reduceLT, Int.reduceLE, Int.reduceEq, Int.reduceNe, Int.reduceAdd, Int.reduceSub, Int.reduceMul, Int.reduceNeg, x1, x2, x3, y1, y2, y3, z1, z2, z3, w1, w2, w3, r1]
  refine cK_vn hE3 ?_
  try simp only [go_sem, reduceIte, Nat.reduceEqDiff, Nat.reduceAdd, Nat.reduceSub, Nat.reduceMul, Nat.reduceLT, Nat.reduceLeDiff, Nat.reducePow, Int.reduceToNat, Int.reduceLT, Int.reduceLE, Int.reduceEq, Int.reduceNe, Int.reduceAdd, Int.reduceSub, Int.reduceMul, Int.reduceNeg, x1, x2, x3, y1, y2, y3, z1, z2, z3, w1, w2, w3, r1]
  refine cK_vn hB1 ?_
  try simp only [go_sem, reduceIte, Nat.reduceEqDiff, Nat.reduceAdd, Nat.reduceSub, Nat.reduceMul, Nat.reduceLT, Nat.reduceLeDiff, Nat.reducePow, Int.reduceToNat, Int.reduceLT, Int.reduceLE, Int.reduceEq, Int.reduceNe, Int.reduceAdd, Int.reduceSub, Int.reduceMul, Int.reduceNeg, x1, x2, x3, y1, y2, y3, z1, z2, z3, w1, w2, w3, r1]
  refine cK_vn hs ?_
  try simp only [go_sem, reduceIte, Nat.reduceEqDiff, Nat.reduceAdd, Nat.reduceSub, Nat.reduceMul, Nat.reduceLT, Nat.reduceLeDiff, Nat.reducePow, Int.reduceToNat, Int.reduceLT, Int.reduceLE, Int.reduceEq, Int.reduceNe, Int.reduceAdd, Int.reduceSub, Int.reduceMul, Int.reduceNeg, x1, x2, x3, y1, y2, y3, z1, z2, z3, w1, w2, w3, r1]
  intro b2
  have e2 : ((Heap.nil.set b2 [.sl .full [], .sl .full [], .int .i64 0, .int .i64 0]).set b2 [.sl .none [.int .i64 0, .int .i64 1], .sl .none [.int .i64 2], .int .i64 2, .int .i64 304]) b2 = some [.sl .none [.int .i64 0, .int .i64 1], .sl .none [.int .i64 2], .int .i64 2, .int .i64 304] := by simp [Heap.set]
  generalize Heap.set _ b2 _ = β2 at *
  refine cK_vn hB1 ?_
  try simp only [go_sem, reduceIte, Nat.reduceEqDiff, Nat.reduceAdd, Nat.reduceSub, Nat.reduceMul, Nat.reduceLT, Nat.reduceLeDiff, Nat.reducePow, Int.reduceToNat, Int.reduceLT, Int.reduceLE, Int.reduceEq, Int.reduceNe, Int.reduceAdd, Int.reduceSub, Int.reduceMul, Int.reduceNeg, x1, x2, x3, y1, y2, y3, z1, z2, z3, w1, w2, w3, r1]
  refine cK_vn hB2 ?_
  try simp only [go_sem, reduceIte, Nat.reduceEqDiff, Nat.reduceAdd, Nat.reduceSub, Nat.reduceMul, Nat.reduceLT, Nat.reduceLeDiff, Nat.reducePow, Int.reduceToNat, Int.reduceLT, Int.reduceLE, Int.reduceEq, Int.reduceNe, Int.reduceAdd, Int.reduceSub, Int.reduceMul, Int.reduceNeg, x1, x2, x3, y1, y2, y3, z1, z2, z3, w1, w2, w3, r1]
  refine cK_vn hb1 ?_
  try simp only [go_sem, reduceIte, Nat.reduceEqDiff, Nat.reduceAdd, Nat.reduceSub, Nat.reduceMul, Nat.reduceLT, Nat.reduceLeDiff, Nat.reducePow, Int.reduceToNat, Int.reduceLT, Int.reduceLE, Int.reduceEq, Int.reduceNe, Int.reduceAdd, Int.reduceSub, Int.reduceMul, Int.reduceNeg, x1, x2, x3, y1, y2, y3, z1, z2, z3, w1, w2, w3, r1]
  refine new_any fun b4 h4 => ?_
  have m24 := box_ne h4 e2
  generalize hβ : Heap.set _ b4 _ = β4
  have f4 : β4 b4 = some [.sl .none [], .sl .none [.int .i64 0, .int .i64 1, .int .i64 2], .int .i64 0, .int .i64 0] := by rw [← hβ]; simp [Heap.set]
  have f2 : β4 b2 = some [.sl .none [.int .i64 0, .int .i64 1], .sl .none [.int .i64 2], .int .i64 2, .int .i64 304] := by rw [← hβ]; simp [Heap.set, m24, e2]
  clear hβ e2 h4
  refine cK_vn hb2 ?_
  try simp only [go_sem, reduceIte, Nat.reduceEqDiff, Nat.reduceAdd, Nat.reduceSub, Nat.reduceMul, Nat.reduceLT, Nat.reduceLeDiff, Nat.reducePow, Int.reduceToNat, Int.reduceLT, Int.reduceLE, Int.reduceEq, Int.reduceNe, Int.reduceAdd, Int.reduceSub, Int.reduceMul, Int.reduceNeg, x1, x2, x3, y1, y2, y3, z1, z2, z3, w1, w2, w3, r1]
  refine new_any fun b6 h6 => ?_
  have m26 := box_ne h6 f2
  have m46 := box_ne h6 f4
  try simp only [go_sem, reduceIte, Nat.reduceEqDiff, Nat.reduceAdd, Nat.reduceSub, Nat.reduceMul, Nat.reduceLT, Nat.reduceLeDiff, Nat.reducePow, Int.reduceToNat, Int.reduceLT, Int.reduceLE, Int.reduceEq, Int.reduceNe, Int.reduceAdd, Int.reduceSub, Int.reduceMul, Int.reduceNeg, x1, x2, x3, y1, y2, y3, z1, z2, z3, w1, w2, w3, r1]
  refine new_any fun b7 h7 => ?_
  simp only [set_none] at h7
  have m27 := box_ne h7.2.2 f2
  have m47 := box_ne h7.2.2 f4
  have m67 := h7.1
  try simp only [go_sem, reduceIte, Nat.reduceEqDiff, Nat.reduceAdd, Nat.reduceSub, Nat.reduceMul, Nat.reduceLT, Nat.reduceLeDiff, Nat.reducePow, Int.reduceToNat, Int.reduceLT, Int.reduceLE, Int.reduceEq, Int.reduceNe, Int.reduceAdd, Int.reduceSub, Int.reduceMul, Int.reduceNeg, x1, x2, x3, y1, y2, y3, z1, z2, z3, w1, w2, w3, r1]
  refine new_any fun b8 h8 => ?_
  simp only [set_none] at h8
  have m28 := box_ne h8.2.2.2.2 f2
  have m48 := box_ne h8.2.2.2.2 f4
  have m68 := h8.2.2.1
  have m78 := h8.1
  generalize hβ : Heap.set _ b8 _ = β8
  have k2 : β8 b2 = some [.sl .none [.int .i64 0, .int .i64 1], .sl .none [.int .i64 2], .int .i64 2, .int .i64 304] := by rw [← hβ]; simp [Heap.set, m28, m27, m26, f2]
  have k4 : β8 b4 = some [.sl .none [], .sl .none [.int .i64 0, .int .i64 1, .int .i64 2], .int .i64 0, .int .i64 0] := by rw [← hβ]; simp [Heap.set, m48, m47, m46, f4]
  have k6 : β8 b6 = some [.sl .none [], .sl .none [], .int .i64 0, .int .i64 0] := by rw [← hβ]; simp [Heap.set, m68, m67]
  have k7 : β8 b7 = some [.int .i64 4, .int .i64 2, .int .i64 0, .int .i64 0, .sl .full [], .str ByteArray.empty, .sl .full [], .sl .full [], .int .i64 2, .int .i64 7, .int .i64 0, .sl .full []] := by rw [← hβ]; simp [Heap.set, m78]
  obtain ⟨t1, t2, k8⟩ : ∃ t1 t2, β8 b8 = some [.sl t1 [], .sl t2 [.int .i64 0, .int .i64 1, .int .i64 2], .int .i64 0, .int .i64 0] := ⟨_, _, by rw [← hβ]; simp only [Heap.set, if_true]; rfl⟩
  clear hβ f2 f4 h6 h7 h8
  refine cK_vn hc ?_
  try simp only [go_sem, reduceIte, Nat.reduceEqDiff, Nat.reduceAdd, Nat.reduceSub, Nat.reduceMul, Nat.reduceLT, Nat.reduceLeDiff, Nat.reducePow, Int.reduceToNat, Int.reduceLT, Int.reduceLE, Int.reduceEq, Int.reduceNe, Int.reduceAdd, Int.reduceSub, Int.reduceMul, Int.reduceNeg, x1, x2, x3, y1, y2, y3, z1, z2, z3, w1, w2, w3, r1, k2, k4, k6, k7, k8, decide_true]
  refine cK_vn (sSame _ _ _ _ ⟨[0, 1], [2], 2, 304⟩ _ _ _ _ rfl rfl rfl rfl) ?_
  try simp only [go_sem, reduceIte, Nat.reduceEqDiff, Nat.reduceAdd, Nat.reduceSub, Nat.reduceMul, Nat.reduceLT, Nat.reduceLeDiff, Nat.reducePow, Int.reduceToNat, Int.reduceLT, Int.reduceLE, Int.reduceEq, Int.reduceNe, Int.reduceAdd, Int.reduceSub, Int.reduceMul, Int.reduceNeg, x1, x2, x3, y1, y2, y3, z1, z2, z3, w1, w2, w3, r1, k2, k4, k6, k7, k8, decide_true]
  refine cK_vn hB3 ?_
  try simp only [go_sem, reduceIte, Nat.reduceEqDiff, Nat.reduceAdd, Nat.reduceSub, Nat.reduceMul, Nat.reduceLT, Nat.reduceLeDiff, Nat.reducePow, Int.reduceToNat, Int.reduceLT, Int.reduceLE, Int.reduceEq, Int.reduceNe, Int.reduceAdd, Int.reduceSub, Int.reduceMul, Int.reduceNeg, x1, x2, x3, y1, y2, y3, z1, z2, z3, w1, w2, w3, r1, k2, k4, k6, k7, k8, decide_true]
  refine cK_vn hk ?_
  try simp only [go_sem, reduceIte, Nat.reduceEqDiff, Nat.reduceAdd, Nat.reduceSub, Nat.reduceMul, Nat.reduceLT, Nat.reduceLeDiff, Nat.reducePow, Int.reduceToNat, Int.reduceLT, Int.reduceLE, Int.reduceEq, Int.reduceNe, Int.reduceAdd, Int.reduceSub, Int.reduceMul, Int.reduceNeg, x1, x2, x3, y1, y2, y3, z1, z2, z3, w1, w2, w3, r1, k2, k4, k6, k7, k8, decide_true]
  refine cK_vn (sBools _ _) ?_
  try simp only [go_sem, reduceIte, Nat.reduceEqDiff, Nat.reduceAdd, Nat.reduceSub, Nat.reduceMul, Nat.reduceLT, Nat.reduceLeDiff, Nat.reducePow, Int.reduceToNat, Int.reduceLT, Int.reduceLE, Int.reduceEq, Int.reduceNe, Int.reduceAdd, Int.reduceSub, Int.reduceMul, Int.reduceNeg, x1, x2, x3, y1, y2, y3, z1, z2, z3, w1, w2, w3, r1, k2, k4, k6, k7, k8, decide_true]
  refine cK_vn (sSame _ _ _ _ ⟨[], [0, 1, 2], 0, 0⟩ _ _ _ _ rfl rfl rfl rfl) ?_
  try simp only [go_sem, reduceIte, Nat.reduceEqDiff, Nat.reduceAdd, Nat.reduceSub, Nat.reduceMul, Nat.reduceLT, Nat.reduceLeDiff, Nat.reducePow, Int.reduceToNat, Int.reduceLT, Int.reduceLE, Int.reduceEq, Int.reduceNe, Int.reduceAdd, Int.reduceSub, Int.reduceMul, Int.reduceNeg, x1, x2, x3, y1, y2, y3, z1, z2, z3, w1, w2, w3, r1, k2, k4, k6, k7, k8, decide_true]
  refine cK_vn (sSame _ _ _ _ ⟨[], [], 0, 0⟩ _ _ _ _ rfl rfl rfl rfl) ?_
  try simp only [go_sem, reduceIte, Nat.reduceEqDiff, Nat.reduceAdd, Nat.reduceSub, Nat.reduceMul, Nat.reduceLT, Nat.reduceLeDiff, Nat.reducePow, Int.reduceToNat, Int.reduceLT, Int.reduceLE, Int.reduceEq, Int.reduceNe, Int.reduceAdd, Int.reduceSub, Int.reduceMul, Int.reduceNeg, x1, x2, x3, y1, y2, y3, z1, z2, z3, w1, w2, w3, r1, k2, k4, k6, k7, k8, decide_true]
  refine cK_vn hna ?_
  try simp only [go_sem, reduceIte, Nat.reduceEqDiff, Nat.reduceAdd, Nat.reduceSub, Nat.reduceMul, Nat.reduceLT, Nat.reduceLeDiff, Nat.reducePow, Int.reduceToNat, Int.reduceLT, Int.reduceLE, Int.reduceEq, Int.reduceNe, Int.reduceAdd, Int.reduceSub, Int.reduceMul, Int.reduceNeg, x1, x2, x3, y1, y2, y3, z1, z2, z3, w1, w2, w3, r1, k2, k4, k6, k7, k8, decide_true]
  refine cK_vn (sInts _ _ 2 7) ?_
  try simp only [go_sem, reduceIte, Nat.reduceEqDiff, Nat.reduceAdd, Nat.reduceSub, Nat.reduceMul, Nat.reduceLT, Nat.reduceLeDiff, Nat.reducePow, Int.reduceToNat, Int.reduceLT, Int.reduceLE, Int.reduceEq, Int.reduceNe, Int.reduceAdd, Int.reduceSub, Int.reduceMul, Int.reduceNeg, x1, x2, x3, y1, y2, y3, z1, z2, z3, w1, w2, w3, r1, k2, k4, k6, k7, k8, decide_true]
  refine cK_vn hnb ?_
  try simp only [go_sem, reduceIte, Nat.reduceEqDiff, Nat.reduceAdd, Nat.reduceSub, Nat.reduceMul, Nat.reduceLT, Nat.reduceLeDiff, Nat.reducePow, Int.reduceToNat, Int.reduceLT, Int.reduceLE, Int.reduceEq, Int.reduceNe, Int.reduceAdd, Int.reduceSub, Int.reduceMul, Int.reduceNeg, x1, x2, x3, y1, y2, y3, z1, z2, z3, w1, w2, w3, r1, k2, k4, k6, k7, k8, decide_true]
  refine cK_vn (sInts _ _ 2 3) ?_
  try simp only [go_sem, reduceIte, Nat.reduceEqDiff, Nat.reduceAdd, Nat.reduceSub, Nat.reduceMul, Nat.reduceLT, Nat.reduceLeDiff, Nat.reducePow, Int.reduceToNat, Int.reduceLT, Int.reduceLE, Int.reduceEq, Int.reduceNe, Int.reduceAdd, Int.reduceSub, Int.reduceMul, Int.reduceNeg, x1, x2, x3, y1, y2, y3, z1, z2, z3, w1, w2, w3, r1, k2, k4, k6, k7, k8, decide_true]
  exact finK_drop ⟨rfl, rfl, rfl⟩
end Go.Proofs.YtgkfcgfobckaaaaS
