import Derived.Test.YtnoenipdooackaaDoorGB
import Derived.Test.YtnoenipdooackaaDoorD5
set_option linter.unusedVariables false
set_option linter.unusedSimpArgs false
namespace Go.Proofs.YtnoenipdooackaaDoorS
open Go Go.Proofs.YtnoenipdooackaaDoorV

variable {G : Heap}
attribute [local irreducible] VN VC VX VQ VT0

theorem rw_er (l : List Rw) : (l.map rwD).map D.er = l.map rwD := by
  rw [List.map_map]; exact List.map_congr_left fun b _ => rfl
set_option maxHeartbeats 8000000 in
theorem merges_ok (hG : G 0 = some nullC) (t : Tb) (v0 v1 : List (List Vl)) (ht : ∀ l ∈ t.v, ∀ v ∈ l, I64 v.n) (i0 : ∀ l ∈ v0, ∀ v ∈ l, I64 v.n) (i1 : ∀ l ∈ v1, ∀ v ∈ l, I64 v.n) : VN P G 7 [.agg t.cells, .agg [.sl .none (v0.map vsD), .sl .none (v1.map vsD)]] (.bool true) := by
  have s0 := sanity_ok (G := G) hG
  have md := made_ok (G := G) t ht
  simp only [Tb.cells] at md ⊢
  unfold VN
  refine VC.ofs (fun | 3 => [(0, []), (1, []), (2, []), (4, [3]), (5, []), (6, [3]), (3, []), (7, []), (8, []), (9, [])] | 7 => [(0, []), (1, []), (3, [2]), (4, []), (6, [2, 5]), (7, []), (2, [9, 10, 11]), (5, [9, 10, 11]), (8, [9, 10, 11]), (9, []), (10, []), (11, []), (12, []), (13, []), (14, [])] | 8 => [(0, []), (1, []), (3, [2]), (2, [5]), (4, [5]), (5, []), (6, [])] | 9 => [(0, [3]), (1, []), (2, []), (3, [5]), (4, [5]), (5, []), (6, [])] | 10 => [(0, [3]), (1, []), (2, []), (3, []), (4, []), (5, []), (6, []), (7, []), (8, []), (9, []), (10, []), (11, []), (12, []), (13, [])] | 99999999 => [(0, [0, 1, 2, 3, 4, 5, 6, 7, 8, 9, 10, 11, 12, 13, 14, 15])] | _ => []) [4] mixed Tryd.func7 rfl rfl rfl rfl (by decide +kernel) (by simp) ?_
  simp only [go_sem, reduceIte, Nat.reduceEqDiff, Nat.reduceAdd, Nat.reduceSub, Nat.reduceMul, Nat.reduceLT, Nat.reduceLeDiff, Nat.reducePow, Int.reduceToNat, Int.reduceLT, Int.reduceLE, Int.reduceEq, Int.reduceNe, Int.reduceAdd, Int.reduceSub, Int.reduceMul, Int.reduceNeg]
  intro b0
  refine new_1 fun b1 h1 h2 => ?_
  try simp only [go_sem, reduceIte, Nat.reduceEqDiff, Nat.reduceAdd, Nat.reduceSub, Nat.reduceMul, Nat.reduceLT, Nat.reduceLeDiff, Nat.reducePow, Int.reduceToNat, Int.reduceLT, Int.reduceLE, Int.reduceEq, Int.reduceNe, Int.reduceAdd, Int.reduceSub, Int.reduceMul, Int.reduceNeg, h1, h2]
  refine cK_vn s0 ?_
  try simp only [go_sem, reduceIte, Nat.reduceEqDiff, Nat.reduceAdd, Nat.reduceSub, Nat.reduceMul, Nat.reduceLT, Nat.reduceLeDiff, Nat.reducePow, Int.reduceToNat, Int.reduceLT, Int.reduceLE, Int.reduceEq, Int.reduceNe, Int.reduceAdd, Int.reduceSub, Int.reduceMul, Int.reduceNeg, h1, h2]
  refine cK_vx md ?_
  rintro _ ⟨fs, nx, L, rfl, hs, hL, hR⟩
  have zf := hs.len
  have r0 := Rows_ok (G := G) fs nx v0 40 zf (by omega) i0
  have r1 := Rows_ok (G := G) fs nx v1 40 zf (by omega) i1
  try simp only [go_sem, reduceIte, Nat.reduceEqDiff, Nat.reduceAdd, Nat.reduceSub, Nat.reduceMul, Nat.reduceLT, Nat.reduceLeDiff, Nat.reducePow, Int.reduceToNat, Int.reduceLT, Int.reduceLE, Int.reduceEq, Int.reduceNe, Int.reduceAdd, Int.reduceSub, Int.reduceMul, Int.reduceNeg, h1, h2]
  refine new_2 fun b2 h3 h4 h5 => ?_
  try simp only [go_sem, reduceIte, Nat.reduceEqDiff, Nat.reduceAdd, Nat.reduceSub, Nat.reduceMul, Nat.reduceLT, Nat.reduceLeDiff, Nat.reducePow, Int.reduceToNat, Int.reduceLT, Int.reduceLE, Int.reduceEq, Int.reduceNe, Int.reduceAdd, Int.reduceSub, Int.reduceMul, Int.reduceNeg, h1, h2, h3, h4, h5]
  refine cE_vx r0 ⟨_, [], rfl, by simp, by simp⟩ ?_
  rintro _ ⟨X, rfl, hX, _⟩
  try simp only [go_sem, reduceIte, Nat.reduceEqDiff, Nat.reduceAdd, Nat.reduceSub, Nat.reduceMul, Nat.reduceLT, Nat.reduceLeDiff, Nat.reducePow, Int.reduceToNat, Int.reduceLT, Int.reduceLE, Int.reduceEq, Int.reduceNe, Int.reduceAdd, Int.reduceSub, Int.reduceMul, Int.reduceNeg, h1, h2, h3, h4, h5]
  refine cE_vx r1 ⟨_, [], rfl, by simp, by simp⟩ ?_
  rintro _ ⟨Y, rfl, hY, _⟩
  have oL := Of_ok (G := G) hG fs nx L (by omega) (by omega)
  have oX := Of_ok (G := G) hG fs nx X (by omega) (by omega)
  have oY := Of_ok (G := G) hG fs nx Y (by omega) (by omega)
  have oA := Of_ok (G := G) hG fs nx (L ++ X ++ Y) (by omega) (by simp only [List.length_append]; omega)
  have bL := Bnd.of (L := L) zf
  have bX := Bnd.of (L := X) zf
  have bY := Bnd.of (L := Y) zf
  have e1 : mrgF (mrgF (ofF (leavesF fs) L) (ofF (leavesF fs) X)) (ofF (leavesF fs) Y) = ofF (leavesF fs) (L ++ X ++ Y) := by rw [of_append, of_append]
  have e2 := mrgF_assoc bL.1 bX.1 bY.1
  generalize ofF (leavesF fs) (L ++ X ++ Y) = W at oA e1
  generalize ofF (leavesF fs) L = A at oL bL e1 e2
  generalize ofF (leavesF fs) X = B at oX bX e1 e2
  generalize ofF (leavesF fs) Y = C at oY bY e1 e2
  have m1 := Merge_bnd (G := G) bL bX (by omega)
  have m2 := Merge_bnd (G := G) (bL.mrg bX) bY (by omega)
  have m3 := Merge_bnd (G := G) bX bY (by omega)
  have m4 := Merge_bnd (G := G) bL (bX.mrg bY) (by omega)
  rw [← e2] at m4
  rw [e1] at m2 m4
  have sa : VN P G 23 [.agg W.cells, .agg W.cells] (.bool true) := by
    have h := refSame_ok (G := G) W W
    rw [show smSame W W = true from by simp [smSame]] at h
    exact h
  clear e1 e2
  generalize mrgF A B = M at m1 m2
  generalize mrgF B C = N at m3 m4
  rw [List.map_append, List.map_append] at oA
  have oA' : ∀ tk, VN P G 25 [.agg [.sl .none (fs.map fdD), .int .i64 nx], .sl tk (L.map rwD ++ X.map rwD ++ Y.map rwD)] (.agg W.cells) := fun tk => VN.er oA
  simp only [Sm.cells] at oL oX oY oA' m1 m2 m3 m4 sa
  try simp only [go_sem, reduceIte, Nat.reduceEqDiff, Nat.reduceAdd, Nat.reduceSub, Nat.reduceMul, Nat.reduceLT, Nat.reduceLeDiff, Nat.reducePow, Int.reduceToNat, Int.reduceLT, Int.reduceLE, Int.reduceEq, Int.reduceNe, Int.reduceAdd, Int.reduceSub, Int.reduceMul, Int.reduceNeg, h1, h2, h3, h4, h5, rw_er]
  have rc : ∀ (l : List Rw), ∀ d ∈ l.map rwD, d.cells.length = 1 ∧ d.solid = true := fun l d hd => by obtain ⟨y, _, rfl⟩ := List.mem_map.1 hd; exact ⟨rfl, rfl⟩
  refine ⟨rc L, by simp only [List.length_map]; omega, fun t1 => ?_⟩
  refine ⟨rc X, Rw_cells1 _, by simp only [List.length_map]; omega, fun t2 _ => ?_⟩
  try simp only [go_sem, reduceIte, Nat.reduceEqDiff, Nat.reduceAdd, Nat.reduceSub, Nat.reduceMul, Nat.reduceLT, Nat.reduceLeDiff, Nat.reducePow, Int.reduceToNat, Int.reduceLT, Int.reduceLE, Int.reduceEq, Int.reduceNe, Int.reduceAdd, Int.reduceSub, Int.reduceMul, Int.reduceNeg, h1, h2, h3, h4, h5, rw_er]
  refine ⟨rc Y, by rw [← List.map_append]; exact Rw_cells1 _, by simp only [List.length_append, List.length_map]; omega, fun t3 _ => ?_⟩
  try simp only [go_sem, reduceIte, Nat.reduceEqDiff, Nat.reduceAdd, Nat.reduceSub, Nat.reduceMul, Nat.reduceLT, Nat.reduceLeDiff, Nat.reducePow, Int.reduceToNat, Int.reduceLT, Int.reduceLE, Int.reduceEq, Int.reduceNe, Int.reduceAdd, Int.reduceSub, Int.reduceMul, Int.reduceNeg, h1, h2, h3, h4, h5, rw_er]
  repeat' (first | simp only [go_sem, reduceIte, Nat.reduceEqDiff, Nat.reduceAdd, Nat.reduceSub, Nat.reduceMul, Nat.reduceLT, Nat.reduceLeDiff, Nat.reducePow, Int.reduceToNat, Int.reduceLT, Int.reduceLE, Int.reduceEq, Int.reduceNe, Int.reduceAdd, Int.reduceSub, Int.reduceMul, Int.reduceNeg, h1, h2, h3, h4, h5, rw_er] | refine cE_vn oL ?_ | refine cE_vn oX ?_ | refine cE_vn oY ?_ | refine cK_vn oL ?_ | refine cK_vn oX ?_ | refine cK_vn oY ?_ | fail)
  refine new_any fun b3 h6 => ?_
  simp only [set_none] at h6
  refine new_any fun b4 h7 => ?_
  simp only [set_none] at h7
  refine new_any fun b5 h8 => ?_
  simp only [set_none] at h8
  try simp only [go_sem, reduceIte, Nat.reduceEqDiff, Nat.reduceAdd, Nat.reduceSub, Nat.reduceMul, Nat.reduceLT, Nat.reduceLeDiff, Nat.reducePow, Int.reduceToNat, Int.reduceLT, Int.reduceLE, Int.reduceEq, Int.reduceNe, Int.reduceAdd, Int.reduceSub, Int.reduceMul, Int.reduceNeg, h1, h2, h3, h4, h5, h6, h7, h8]
  refine ⟨by simp [rdAdd, h1, h2, h3, h4, h5, h6, h7, h8], by simp [rdAdd, h1, h2, h3, h4, h5, h6, h7, h8], by simp [rdAdd, h1, h2, h3, h4, h5, h6, h7, h8], ?_⟩
  generalize hβ : Heap.set _ b5 _ = β0
  have e2 : β0 b2 = some [.sl .none (fs.map fdD), .int .i64 nx] := by rw [← hβ]; simp [Heap.set, h1, h2, h3, h4, h5, h6, h7, h8]
  have e3 : β0 b3 = some [.int .i64 A.rows, .sl .none (A.l.map Bd.d)] := by rw [← hβ]; simp [Heap.set, h1, h2, h3, h4, h5, h6, h7, h8]
  have e4 : β0 b4 = some [.int .i64 B.rows, .sl .none (B.l.map Bd.d)] := by rw [← hβ]; simp [Heap.set, h1, h2, h3, h4, h5, h6, h7, h8]
  have e5 : β0 b5 = some [.int .i64 C.rows, .sl .none (C.l.map Bd.d)] := by rw [← hβ]; simp [Heap.set]
  clear hβ h1 h2 h3 h4 h5 h6 h7 h8
  refine cE_vn m1 ?_
  try simp only [go_sem, reduceIte, Nat.reduceEqDiff, Nat.reduceAdd, Nat.reduceSub, Nat.reduceMul, Nat.reduceLT, Nat.reduceLeDiff, Nat.reducePow, Int.reduceToNat, Int.reduceLT, Int.reduceLE, Int.reduceEq, Int.reduceNe, Int.reduceAdd, Int.reduceSub, Int.reduceMul, Int.reduceNeg, e2, e3, e4, e5]
  refine cE_vn m2 ?_
  try simp only [go_sem, reduceIte, Nat.reduceEqDiff, Nat.reduceAdd, Nat.reduceSub, Nat.reduceMul, Nat.reduceLT, Nat.reduceLeDiff, Nat.reducePow, Int.reduceToNat, Int.reduceLT, Int.reduceLE, Int.reduceEq, Int.reduceNe, Int.reduceAdd, Int.reduceSub, Int.reduceMul, Int.reduceNeg, e2, e3, e4, e5]
  refine new_any fun b6 hb => ?_
  have p2 := box_ne hb e2
  have p3 := box_ne hb e3
  have p4 := box_ne hb e4
  have p5 := box_ne hb e5
  try simp only [go_sem, reduceIte, Nat.reduceEqDiff, Nat.reduceAdd, Nat.reduceSub, Nat.reduceMul, Nat.reduceLT, Nat.reduceLeDiff, Nat.reducePow, Int.reduceToNat, Int.reduceLT, Int.reduceLE, Int.reduceEq, Int.reduceNe, Int.reduceAdd, Int.reduceSub, Int.reduceMul, Int.reduceNeg, e2, e3, e4, e5, p2, p3, p4, p5]
  repeat' (first | simp only [go_sem, reduceIte, Nat.reduceEqDiff, Nat.reduceAdd, Nat.reduceSub, Nat.reduceMul, Nat.reduceLT, Nat.reduceLeDiff, Nat.reducePow, Int.reduceToNat, Int.reduceLT, Int.reduceLE, Int.reduceEq, Int.reduceNe, Int.reduceAdd, Int.reduceSub, Int.reduceMul, Int.reduceNeg, e2, e3, e4, e5, p2, p3, p4, p5] | refine cE_vn m3 ?_ | refine cE_vn m4 ?_ | (refine ⟨(show ¬ rdAdd _ _ _ _ _ from by simp [rdAdd, p2, p3, p4, p5]), ?_⟩) | fail)
  refine new_any fun b7 hc => ?_
  simp only [set_none] at hc
  have r2 := box_ne hc.2.2 e2
  have r3 := box_ne hc.2.2 e3
  have r4 := box_ne hc.2.2 e4
  have r5 := box_ne hc.2.2 e5
  repeat' (first | simp only [go_sem, reduceIte, Nat.reduceEqDiff, Nat.reduceAdd, Nat.reduceSub, Nat.reduceMul, Nat.reduceLT, Nat.reduceLeDiff, Nat.reducePow, Int.reduceToNat, Int.reduceLT, Int.reduceLE, Int.reduceEq, Int.reduceNe, Int.reduceAdd, Int.reduceSub, Int.reduceMul, Int.reduceNeg, e2, e3, e4, e5, p2, p3, p4, p5, r2, r3, r4, r5, hc] | refine cE_vn (oA' _) ?_ | refine cE_vn sa ?_ | (refine ⟨(show ¬ rdAdd _ _ _ _ _ from by simp [rdAdd, p2, p3, p4, p5, r2, r3, r4, r5, hc]), ?_⟩) | fail)
  exact finK_drop ⟨rfl, rfl, rfl⟩
end Go.Proofs.YtnoenipdooackaaDoorS
