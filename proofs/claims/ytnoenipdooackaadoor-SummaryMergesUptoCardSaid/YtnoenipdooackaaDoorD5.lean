import Derived.Test.YtnoenipdooackaaDoorGB
import Derived.Test.YtnoenipdooackaaDoorD4
import Derived.Test.YtnoenipdooackaaDoorMB
set_option linter.unusedVariables false
set_option linter.unusedSimpArgs false
namespace Go.Proofs.YtnoenipdooackaaDoorS
open Go Go.Proofs.YtnoenipdooackaaDoorV

variable {G : Heap}
attribute [local irreducible] VN VC VX VQ VT0

theorem made_any : ∃ d, isM d := ⟨_, [], 1, [], rfl, SOk.new, by simp, by simp⟩
theorem leaves_len {fs : List Fd} (h : fs.length ≤ 64) : (leavesF fs).length ≤ 64 := Nat.le_trans (leavesF_len fs) h
theorem Bnd.of {fs : List Fd} {L : List Rw} (h : fs.length ≤ 64) : Bnd L.length (ofF (leavesF fs) L) :=
  ⟨by simp only [ofF]; omega, by simp only [ofF]; omega, by simp only [ofF, List.length_map]; exact leaves_len h, fun x hx => of_nulls hx⟩
set_option maxHeartbeats 8000000 in
theorem covers_ok (hG : G 0 = some nullC) (t : Tb) (u : Sm) (ht : ∀ l ∈ t.v, ∀ v ∈ l, I64 v.n) (hi : ∀ x ∈ u.l, x.I) : VN P G 6 [.agg t.cells, .agg u.cells] (.bool true) := by
  have s0 := sanity_ok (G := G) hG
  have l0 := Light_ok (G := G) u
  have md := made_ok (G := G) t ht
  have f0 := Form_ok (G := G) u
  have bw := Bnd.form hi
  have fw := (formF_ok hi).1
  have nw : ∀ y ∈ (formF u).l, 0 ≤ y.nulls ∧ y.nulls ≤ (formF u).rows := fun y hy => by
    simp only [formedF, Bool.and_eq_true, decide_eq_true_eq] at fw
    have := okL_mem _ _ _ fw.2 y hy
    simp only [bdOk, Bool.and_eq_true, decide_eq_true_eq] at this
    omega
  clear fw
  generalize formF u = W at f0 bw nw
  simp only [Sm.d, Sm.cells, Tb.cells] at l0 md f0 ⊢
  unfold VN
  refine VC.ofs (fun | 5 => [(0, []), (1, []), (3, [2]), (2, [5, 6]), (4, [5, 6]), (5, []), (6, []), (7, []), (8, [])] | 6 => [(0, []), (1, []), (3, [2]), (4, [2]), (2, [6, 7]), (5, [6, 7]), (6, []), (7, []), (8, []), (9, [])] | 10 => [(0, []), (1, []), (2, []), (3, []), (4, []), (5, []), (6, []), (7, []), (8, []), (9, []), (10, []), (11, []), (12, []), (13, []), (14, []), (15, []), (16, []), (17, []), (18, []), (19, []), (20, []), (21, []), (22, []), (23, []), (24, [])] | 99999999 => [(0, [0, 1, 2, 3, 4, 5, 6, 7, 8, 9, 10, 11, 12, 16, 37, 64])] | _ => []) [4] mixed Tryd.func6 rfl rfl rfl rfl (by decide +kernel) (by simp) ?_
  simp only [go_sem, reduceIte, Nat.reduceEqDiff, Nat.reduceAdd, Nat.reduceSub, Nat.reduceMul, Nat.reduceLT, Nat.reduceLeDiff, Nat.reducePow, Int.reduceToNat, Int.reduceLT, Int.reduceLE, Int.reduceEq, Int.reduceNe, Int.reduceAdd, Int.reduceSub, Int.reduceMul, Int.reduceNeg]
  intro b0
  refine new_1 fun b1 h1 h2 => ?_
  try simp only [go_sem, reduceIte, Nat.reduceEqDiff, Nat.reduceAdd, Nat.reduceSub, Nat.reduceMul, Nat.reduceLT, Nat.reduceLeDiff, Nat.reducePow, Int.reduceToNat, Int.reduceLT, Int.reduceLE, Int.reduceEq, Int.reduceNe, Int.reduceAdd, Int.reduceSub, Int.reduceMul, Int.reduceNeg, h1, h2]
  refine cK_vn s0 ?_
  try simp only [go_sem, reduceIte, Nat.reduceEqDiff, Nat.reduceAdd, Nat.reduceSub, Nat.reduceMul, Nat.reduceLT, Nat.reduceLeDiff, Nat.reducePow, Int.reduceToNat, Int.reduceLT, Int.reduceLE, Int.reduceEq, Int.reduceNe, Int.reduceAdd, Int.reduceSub, Int.reduceMul, Int.reduceNeg, h1, h2]
  refine cK_vx l0 ?_
  rintro _ ⟨lt, rfl⟩
  cases lt
  · try simp only [go_sem, reduceIte, Nat.reduceEqDiff, Nat.reduceAdd, Nat.reduceSub, Nat.reduceMul, Nat.reduceLT, Nat.reduceLeDiff, Nat.reducePow, Int.reduceToNat, Int.reduceLT, Int.reduceLE, Int.reduceEq, Int.reduceNe, Int.reduceAdd, Int.reduceSub, Int.reduceMul, Int.reduceNeg, h1, h2]
    exact finK_drop ⟨rfl, rfl, rfl⟩
  try simp only [go_sem, reduceIte, Nat.reduceEqDiff, Nat.reduceAdd, Nat.reduceSub, Nat.reduceMul, Nat.reduceLT, Nat.reduceLeDiff, Nat.reducePow, Int.reduceToNat, Int.reduceLT, Int.reduceLE, Int.reduceEq, Int.reduceNe, Int.reduceAdd, Int.reduceSub, Int.reduceMul, Int.reduceNeg, h1, h2]
  refine cK_vx md ?_
  rintro _ ⟨fs, nx, L, rfl, hs, hL, hR⟩
  have zf := hs.len
  have of := Of_ok (G := G) hG fs nx L (by omega) (by omega)
  have ba := Bnd.of (L := L) zf
  have hc0 : ∀ r ∈ L, coversF (ofF (leavesF fs) L) r = true := fun r hr => of_covers hr
  have ra : (ofF (leavesF fs) L).rows = L.length := rfl
  generalize ofF (leavesF fs) L = A at of ba hc0 ra
  have hc1 : ∀ r ∈ L, coversF (mrgF A W) r = true ∧ coversF (mrgF W A) r = true := fun r hr => mrg_covers (hc0 r hr) bw.1 nw
  have m1 := Merge_bnd (G := G) ba bw (by omega)
  have m2 := Merge_bnd (G := G) bw ba (by omega)
  have rx := mrg_rows A W
  have wb1 := bw.1
  have wb2 := bw.2.1
  generalize mrgF A W = X at m1 hc1 rx
  generalize mrgF W A = Y at m2 hc1
  simp only [Sm.cells] at of m1 m2
  try simp only [go_sem, reduceIte, Nat.reduceEqDiff, Nat.reduceAdd, Nat.reduceSub, Nat.reduceMul, Nat.reduceLT, Nat.reduceLeDiff, Nat.reducePow, Int.reduceToNat, Int.reduceLT, Int.reduceLE, Int.reduceEq, Int.reduceNe, Int.reduceAdd, Int.reduceSub, Int.reduceMul, Int.reduceNeg, h1, h2]
  refine new_2 fun b2 h3 h4 h5 => ?_
  try simp only [go_sem, reduceIte, Nat.reduceEqDiff, Nat.reduceAdd, Nat.reduceSub, Nat.reduceMul, Nat.reduceLT, Nat.reduceLeDiff, Nat.reducePow, Int.reduceToNat, Int.reduceLT, Int.reduceLE, Int.reduceEq, Int.reduceNe, Int.reduceAdd, Int.reduceSub, Int.reduceMul, Int.reduceNeg, h1, h2, h3, h4, h5]
  refine cE_vn of ?_
  try simp only [go_sem, reduceIte, Nat.reduceEqDiff, Nat.reduceAdd, Nat.reduceSub, Nat.reduceMul, Nat.reduceLT, Nat.reduceLeDiff, Nat.reducePow, Int.reduceToNat, Int.reduceLT, Int.reduceLE, Int.reduceEq, Int.reduceNe, Int.reduceAdd, Int.reduceSub, Int.reduceMul, Int.reduceNeg, h1, h2, h3, h4, h5]
  refine cE_vn f0 ?_
  try simp only [go_sem, reduceIte, Nat.reduceEqDiff, Nat.reduceAdd, Nat.reduceSub, Nat.reduceMul, Nat.reduceLT, Nat.reduceLeDiff, Nat.reducePow, Int.reduceToNat, Int.reduceLT, Int.reduceLE, Int.reduceEq, Int.reduceNe, Int.reduceAdd, Int.reduceSub, Int.reduceMul, Int.reduceNeg, h1, h2, h3, h4, h5]
  refine new_any fun b3 h6 => ?_
  simp only [set_none] at h6
  refine new_any fun b4 h7 => ?_
  simp only [set_none] at h7
  try simp only [go_sem, reduceIte, Nat.reduceEqDiff, Nat.reduceAdd, Nat.reduceSub, Nat.reduceMul, Nat.reduceLT, Nat.reduceLeDiff, Nat.reducePow, Int.reduceToNat, Int.reduceLT, Int.reduceLE, Int.reduceEq, Int.reduceNe, Int.reduceAdd, Int.reduceSub, Int.reduceMul, Int.reduceNeg, h1, h2, h3, h4, h5, h6, h7]
  generalize hβ : Heap.set _ b4 _ = β0
  have e3 : β0 b3 = some [.int .i64 A.rows, .sl .none (A.l.map Bd.d)] := by rw [← hβ]; simp [Heap.set, h1, h2, h3, h4, h5, h6, h7]
  have e4 : β0 b4 = some [.int .i64 W.rows, .sl .none (W.l.map Bd.d)] := by rw [← hβ]; simp [Heap.set]
  refine ⟨by simp [rdAdd, h1, h2, h3, h4, h5, h6, h7], by simp [rdAdd, h1, h2, h3, h4, h5, h6, h7], ?_⟩
  clear hβ h1 h2 h3 h4 h5 h6 h7
  refine cE_vn m1 ?_
  try simp only [go_sem, reduceIte, Nat.reduceEqDiff, Nat.reduceAdd, Nat.reduceSub, Nat.reduceMul, Nat.reduceLT, Nat.reduceLeDiff, Nat.reducePow, Int.reduceToNat, Int.reduceLT, Int.reduceLE, Int.reduceEq, Int.reduceNe, Int.reduceAdd, Int.reduceSub, Int.reduceMul, Int.reduceNeg, e3, e4]
  refine cE_vn m2 ?_
  try simp only [go_sem, reduceIte, Nat.reduceEqDiff, Nat.reduceAdd, Nat.reduceSub, Nat.reduceMul, Nat.reduceLT, Nat.reduceLeDiff, Nat.reducePow, Int.reduceToNat, Int.reduceLT, Int.reduceLE, Int.reduceEq, Int.reduceNe, Int.reduceAdd, Int.reduceSub, Int.reduceMul, Int.reduceNeg, e3, e4]
  refine new_any fun b5 hb => ?_
  have p3 := box_ne hb e3
  have p4 := box_ne hb e4
  refine new_any fun b6 hc => ?_
  simp only [set_none] at hc
  have r3 := box_ne hc.2 e3
  have r4 := box_ne hc.2 e4
  have r5 := hc.1
  try simp only [go_sem, reduceIte, Nat.reduceEqDiff, Nat.reduceAdd, Nat.reduceSub, Nat.reduceMul, Nat.reduceLT, Nat.reduceLeDiff, Nat.reducePow, Int.reduceToNat, Int.reduceLT, Int.reduceLE, Int.reduceEq, Int.reduceNe, Int.reduceAdd, Int.reduceSub, Int.reduceMul, Int.reduceNeg, e3, e4, p3, p4, r3, r4, r5]
  refine ⟨by simp [rdAdd, p3, p4], by simp [rdAdd, r3, r4], ?_⟩
  generalize hβ : Heap.set _ b6 _ = β1
  have k3 : β1 b3 = some [.int .i64 A.rows, .sl .none (A.l.map Bd.d)] := by rw [← hβ]; simp [Heap.set, e3, e4, p3, p4, r3, r4, r5]
  have k4 : β1 b4 = some [.int .i64 W.rows, .sl .none (W.l.map Bd.d)] := by rw [← hβ]; simp [Heap.set, e3, e4, p3, p4, r3, r4, r5]
  have k5 : β1 b5 = some [.int .i64 X.rows, .sl .none (X.l.map Bd.d)] := by rw [← hβ]; simp [Heap.set, e3, e4, p3, p4, r3, r4, r5]
  have k6 : β1 b6 = some [.int .i64 Y.rows, .sl .none (Y.l.map Bd.d)] := by rw [← hβ]; simp [Heap.set]
  clear hβ e3 e4 p3 p4 r3 r4 r5 hb hc β0
  have wr := wrap_i64 (x := A.rows + W.rows) (by omega) (by omega)
  have wr' := wr
  rw [ra] at wr'
  have q1 : (A.rows = L.length) = True := eq_true ra
  have q2 : (X.rows = A.rows + W.rows) = True := eq_true rx
  refine vwq_loop (fun v => ∃ (j : Nat), j ≤ L.length ∧ v.σ 5 = .bool true ∧ v.σ 7 = .sl .none (L.map rwD) ∧ v.σ 8 = .pb b3 0 ∧ v.σ 9 = .pb b4 0 ∧ v.σ 10 = .pb b5 0 ∧ v.σ 11 = .pb b6 0 ∧ v.σ 12 = .int .i64 j ∧ v.β = β1 ∧ v.ω = []) (fun v => L.length - (ival (v.σ 12)).toNat) ⟨0, by omega, rfl, rfl, rfl, rfl, rfl, rfl, rfl, rfl, rfl⟩ ?_
  rintro σ β ω ⟨j, j1, t5, t7, t8, t9, t10, t11, t12, rfl, rfl⟩
  dsimp only at t5 t7 t8 t9 t10 t11 t12 k3 k4 k5 k6
  have hlr : ((L.map rwD).length : Int) = L.length := by rw [List.length_map]
  try simp only [go_sem, reduceIte, Nat.reduceEqDiff, Nat.reduceAdd, Nat.reduceSub, Nat.reduceMul, Nat.reduceLT, Nat.reduceLeDiff, Nat.reducePow, Int.reduceToNat, Int.reduceLT, Int.reduceLE, Int.reduceEq, Int.reduceNe, Int.reduceAdd, Int.reduceSub, Int.reduceMul, Int.reduceNeg, t5, t7, t8, t9, t10, t11, t12, k3, k4, k5, k6, hlr]
  refine cd_dec (fun g => ?_) (fun g => ?_)
  · obtain ⟨r, hr, er⟩ := Rw_at (l := L) (j := j) (by omega)
    have hm := List.mem_of_getElem? hr
    have cv0 := Covers_ok (G := G) hG A r
    have cv1 := Covers_ok (G := G) hG X r
    have cv2 := Covers_ok (G := G) hG Y r
    rw [hc0 r hm] at cv0
    rw [(hc1 r hm).1] at cv1
    rw [(hc1 r hm).2] at cv2
    simp only [Sm.cells] at cv0 cv1 cv2
    have wj := wrap_i64 (x := (j : Int) + 1) (by omega) (by omega)
    have c1 : ((0 : Int) ≤ j) = True := eq_true (by omega)
    have c2 : ((j : Int) < L.length) = True := eq_true g
    repeat' (first | simp only [go_sem, reduceIte, Nat.reduceEqDiff, Nat.reduceAdd, Nat.reduceSub, Nat.reduceMul, Nat.reduceLT, Nat.reduceLeDiff, Nat.reducePow, Int.reduceToNat, Int.reduceLT, Int.reduceLE, Int.reduceEq, Int.reduceNe, Int.reduceAdd, Int.reduceSub, Int.reduceMul, Int.reduceNeg, t5, t7, t8, t9, t10, t11, t12, k3, k4, k5, k6, hlr, er, c1, c2, wj] | refine cE_vn cv0 ?_ | refine cE_vn cv1 ?_ | refine cE_vn cv2 ?_ | refine cK_vn cv0 ?_ | refine cK_vn cv1 ?_ | refine cK_vn cv2 ?_ | fail)
    exact ⟨⟨j + 1, by omega, rfl⟩, by omega⟩
  · repeat' (first | simp only [go_sem, reduceIte, Nat.reduceEqDiff, Nat.reduceAdd, Nat.reduceSub, Nat.reduceMul, Nat.reduceLT, Nat.reduceLeDiff, Nat.reducePow, Int.reduceToNat, Int.reduceLT, Int.reduceLE, Int.reduceEq, Int.reduceNe, Int.reduceAdd, Int.reduceSub, Int.reduceMul, Int.reduceNeg, t5, t7, t8, t9, t10, t11, t12, k3, k4, k5, k6, hlr, wr', ra, rx] | fail)
    exact finK_drop ⟨rfl, rfl, rfl⟩
end Go.Proofs.YtnoenipdooackaaDoorS
