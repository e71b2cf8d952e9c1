/-
  Programs (fenlandref27): the readers of numbers, texts and predicates.
  Conditions: the bytes are at most 1099511627776.
-/
import Derived.Test.YtpblgfgcoamgmaaT5
set_option linter.unusedVariables false
set_option linter.unusedSimpArgs false
namespace Go.Proofs.YtpblgfgcoamgmaaS
open Go Go.Proofs.YtpblgfgcoamgmaaV

variable {G : Heap}
attribute [local irreducible] VN VC VX VQ VY VW VTA VT0 VPP

theorem gSig_ok (b : List Nat) (s : Sc) (hb : Byt b) : VP P G 24 (fun p => [.pb p 0]) (scC .none b s) (.int .i64 (nxS b s).1) (scC .none b (nxS b s).2) := by
  have hr := refReadS_ok (G := G) .none b s.1 hb
  simp only [scC, triS] at hr ⊢
  intro p
  refine VC.ofs (fun | 3 => [(0, []), (1, []), (2, []), (3, []), (4, []), (5, []), (6, []), (7, []), (8, []), (9, []), (10, []), (11, []), (12, []), (13, []), (14, []), (15, [])] | 99999999 => [(0, [0, 2, 3, 4, 5, 10])] | _ => []) [2] mixed Try.func24 rfl rfl rfl rfl (by decide +kernel) (by simp) ?_
  by_cases k : s.2 = 0
  · simp only [go_sem, reduceIte, Nat.reduceEqDiff, Nat.reduceAdd, Nat.reduceSub, Nat.reduceMul, Nat.reduceLT, Nat.reduceLeDiff, Nat.reducePow, Int.reduceToNat, Int.reduceLT, Int.reduceLE, Int.reduceEq, Int.reduceNe, Int.reduceAdd, Int.reduceSub, Int.reduceMul, Int.reduceNeg, k, ne_eq]
    refine cE_vn hr ?_
    simp only [go_sem, reduceIte, Nat.reduceEqDiff, Nat.reduceAdd, Nat.reduceSub, Nat.reduceMul, Nat.reduceLT, Nat.reduceLeDiff, Nat.reducePow, Int.reduceToNat, Int.reduceLT, Int.reduceLE, Int.reduceEq, Int.reduceNe, Int.reduceAdd, Int.reduceSub, Int.reduceMul, Int.reduceNeg, k]
    refine finK_var (b := p) (x := scC .none b (nxS b s).2) (by simp [Heap.set, nxS, k, scC]) ⟨?_, rfl, rfl⟩
    simp [nxS, k, D.er, D.er1]
  · simp only [go_sem, reduceIte, Nat.reduceEqDiff, Nat.reduceAdd, Nat.reduceSub, Nat.reduceMul, Nat.reduceLT, Nat.reduceLeDiff, Nat.reducePow, Int.reduceToNat, Int.reduceLT, Int.reduceLE, Int.reduceEq, Int.reduceNe, Int.reduceAdd, Int.reduceSub, Int.reduceMul, Int.reduceNeg, k, ne_eq]
    refine finK_var (b := p) (x := scC .none b (nxS b s).2) (by simp [Heap.set, nxS, k, scC]) ⟨?_, rfl, rfl⟩
    simp [nxS, k, D.er, D.er1]
def gNum (b : List Nat) (lim : Nat) (s : Sc) : Nat × Sc :=
  let n := nxU b s
  let s2 := failS n.2 2 (decide (lim < n.1))
  if s2.2 = 0 then (n.1, s2) else (0, s2)
def gId (b : List Nat) (least : Int) (s : Sc) : Nat × Sc := ((gNum b 1073741824 s).1, failS (gNum b 1073741824 s).2 5 (decide (((gNum b 1073741824 s).1 : Int) ≤ least)))
theorem gNum_ok (b : List Nat) (lim : Nat) (hl : lim ≤ 1073741824) (s : Sc) (hb : Byt b) : VP P G 21 (fun p => [.pb p 0, .int .i64 lim]) (scC .none b s) (.int .i64 (gNum b lim s).1) (scC .none b (gNum b lim s).2) := by
  have hr := refReadU_ok (G := G) .none b s.1 hb
  have hv := (readU_spec b s.1 hb).val
  intro p
  by_cases k : s.2 = 0
  · have hF : nxU b s = ((readU b s.1).1, (((readU b s.1).2.1 : Int), ((readU b s.1).2.2 : Int))) := by simp [nxU, k]
    unfold gNum
    rw [hF]
    dsimp only
    simp only [scC, tri] at hr ⊢
    generalize readU b s.1 = r at hr hv ⊢
    have hm : (lim : Int) % 18446744073709551616 = lim := by omega
    refine VC.ofs (fun | 3 => [(0, []), (1, []), (2, []), (3, []), (4, []), (5, []), (6, []), (7, []), (8, []), (9, []), (10, []), (11, []), (12, []), (13, []), (14, []), (15, [])] | 99999999 => [(0, [0, 1, 4, 5, 6, 7, 12, 41, 49])] | _ => []) [4] mixed Try.func21 rfl rfl rfl rfl (by decide +kernel) (by simp) ?_
    simp only [go_sem, reduceIte, Nat.reduceEqDiff, Nat.reduceAdd, Nat.reduceSub, Nat.reduceMul, Nat.reduceLT, Nat.reduceLeDiff, Nat.reducePow, Int.reduceToNat, Int.reduceLT, Int.reduceLE, Int.reduceEq, Int.reduceNe, Int.reduceAdd, Int.reduceSub, Int.reduceMul, Int.reduceNeg, k, ne_eq]
    refine cE_vn hr ?_
    by_cases ke : (r.2.2 : Int) = 0
    · by_cases hlt : lim < r.1
      · have h1 : ((lim : Int) < r.1) = True := eq_true (by omega)
        have h2 : failS ((r.2.1 : Int), (r.2.2 : Int)) 2 (decide (lim < r.1)) = ((r.2.1 : Int), 2) := by simp [failS, ke, hlt]
        rw [h2]
        simp only [go_sem, reduceIte, Nat.reduceEqDiff, Nat.reduceAdd, Nat.reduceSub, Nat.reduceMul, Nat.reduceLT, Nat.reduceLeDiff, Nat.reducePow, Int.reduceToNat, Int.reduceLT, Int.reduceLE, Int.reduceEq, Int.reduceNe, Int.reduceAdd, Int.reduceSub, Int.reduceMul, Int.reduceNeg, ke, hm, h1]
        exact finK_var (hit_set rfl) ⟨rfl, rfl, rfl⟩
      · have h1 : ((lim : Int) < r.1) = False := eq_false (by omega)
        have h2 : failS ((r.2.1 : Int), (r.2.2 : Int)) 2 (decide (lim < r.1)) = ((r.2.1 : Int), 0) := by simp [failS, hlt]; omega
        have e : IntKind.wrap .i64 (r.1 : Int) = r.1 := wrap_i64 (by omega) (by omega)
        rw [h2]
        simp only [go_sem, reduceIte, Nat.reduceEqDiff, Nat.reduceAdd, Nat.reduceSub, Nat.reduceMul, Nat.reduceLT, Nat.reduceLeDiff, Nat.reducePow, Int.reduceToNat, Int.reduceLT, Int.reduceLE, Int.reduceEq, Int.reduceNe, Int.reduceAdd, Int.reduceSub, Int.reduceMul, Int.reduceNeg, ke, hm, h1, e]
        exact finK_var (hit_set rfl) ⟨rfl, rfl, rfl⟩
    · have h2 : failS ((r.2.1 : Int), (r.2.2 : Int)) 2 (decide (lim < r.1)) = ((r.2.1 : Int), (r.2.2 : Int)) := by simp only [failS]; rw [if_neg (fun h => ke h.1)]
      rw [h2]
      simp only [go_sem, reduceIte, Nat.reduceEqDiff, Nat.reduceAdd, Nat.reduceSub, Nat.reduceMul, Nat.reduceLT, Nat.reduceLeDiff, Nat.reducePow, Int.reduceToNat, Int.reduceLT, Int.reduceLE, Int.reduceEq, Int.reduceNe, Int.reduceAdd, Int.reduceSub, Int.reduceMul, Int.reduceNeg, ke, ne_eq]
      exact finK_var (hit_set rfl) ⟨rfl, rfl, rfl⟩
  · have hF : nxU b s = (0, s) := by simp [nxU, k]
    unfold gNum
    rw [hF]
    have h2 : failS s 2 (decide (lim < 0)) = s := by simp [failS]
    dsimp only
    rw [h2, if_neg k]
    refine VC.ofs (fun | 3 => [(0, []), (1, []), (2, []), (3, []), (4, []), (5, []), (6, []), (7, []), (8, []), (9, []), (10, []), (11, []), (12, []), (13, []), (14, []), (15, [])] | 99999999 => [(0, [0, 1, 4, 5, 6, 7, 12, 41, 49])] | _ => []) [4] mixed Try.func21 rfl rfl rfl rfl (by decide +kernel) (by simp) ?_
    simp only [go_sem, reduceIte, Nat.reduceEqDiff, Nat.reduceAdd, Nat.reduceSub, Nat.reduceMul, Nat.reduceLT, Nat.reduceLeDiff, Nat.reducePow, Int.reduceToNat, Int.reduceLT, Int.reduceLE, Int.reduceEq, Int.reduceNe, Int.reduceAdd, Int.reduceSub, Int.reduceMul, Int.reduceNeg, scC, k, ne_eq]
    refine finK_var (b := p) (x := scC .none b s) (by simp [Heap.set, scC]) ⟨?_, rfl, rfl⟩
    simp [D.er, D.er1]
theorem gId_ok (b : List Nat) (least : Int) (s : Sc) (hb : Byt b) : VP P G 23 (fun p => [.pb p 0, .int .i64 least]) (scC .none b s) (.int .i64 (gId b least s).1) (scC .none b (gId b least s).2) := by
  have hr := gNum_ok (G := G) b 1073741824 (by omega) s hb
  unfold gId
  generalize gNum b 1073741824 s = n at hr ⊢
  intro p
  refine VC.ofs (fun | 99999999 => [(0, [0, 1, 4, 5, 17])] | _ => []) [4] mixed Try.func23 rfl rfl rfl rfl (by decide +kernel) (by simp) ?_
  try simp only [go_sem, reduceIte, Nat.reduceEqDiff, Nat.reduceAdd, Nat.reduceSub, Nat.reduceMul, Nat.reduceLT, Nat.reduceLeDiff, Nat.reducePow, Int.reduceToNat, Int.reduceLT, Int.reduceLE, Int.reduceEq, Int.reduceNe, Int.reduceAdd, Int.reduceSub, Int.reduceMul, Int.reduceNeg, ]
  refine cK_vp hr (hit_set rfl) ?_
  by_cases ke : n.2.2 = 0
  · by_cases hlt : (n.1 : Int) ≤ least
    · have h1 := eq_true hlt
      have h2 : failS n.2 5 (decide ((n.1 : Int) ≤ least)) = (n.2.1, 5) := by simp [failS, ke, hlt]
      rw [h2]
      try simp only [go_sem, reduceIte, Nat.reduceEqDiff, Nat.reduceAdd, Nat.reduceSub, Nat.reduceMul, Nat.reduceLT, Nat.reduceLeDiff, Nat.reducePow, Int.reduceToNat, Int.reduceLT, Int.reduceLE, Int.reduceEq, Int.reduceNe, Int.reduceAdd, Int.reduceSub, Int.reduceMul, Int.reduceNeg, scC, ke, h1]
      exact finK_var (hit_set rfl) ⟨rfl, rfl, rfl⟩
    · have h1 := eq_false hlt
      have h2 : failS n.2 5 (decide ((n.1 : Int) ≤ least)) = n.2 := by simp [failS, hlt]
      rw [h2]
      try simp only [go_sem, reduceIte, Nat.reduceEqDiff, Nat.reduceAdd, Nat.reduceSub, Nat.reduceMul, Nat.reduceLT, Nat.reduceLeDiff, Nat.reducePow, Int.reduceToNat, Int.reduceLT, Int.reduceLE, Int.reduceEq, Int.reduceNe, Int.reduceAdd, Int.reduceSub, Int.reduceMul, Int.reduceNeg, scC, ke, h1]
      exact finK_var (hit_set rfl) ⟨rfl, rfl, rfl⟩
  · have h2 : failS n.2 5 (decide ((n.1 : Int) ≤ least)) = n.2 := by simp only [failS]; rw [if_neg (fun h => ke h.1)]
    rw [h2]
    try simp only [go_sem, reduceIte, Nat.reduceEqDiff, Nat.reduceAdd, Nat.reduceSub, Nat.reduceMul, Nat.reduceLT, Nat.reduceLeDiff, Nat.reducePow, Int.reduceToNat, Int.reduceLT, Int.reduceLE, Int.reduceEq, Int.reduceNe, Int.reduceAdd, Int.reduceSub, Int.reduceMul, Int.reduceNeg, scC, ke]
    exact finK_var (hit_set rfl) ⟨rfl, rfl, rfl⟩
theorem gTxt_ok (b : List Nat) (s : Sc) (hb : Byt b) (hbl : b.length ≤ 1099511627776) : VP P G 45 (fun p => [.pb p 0]) (scC .none b s) (.str (txtF b s).1) (scC .none b (txtF b s).2) := by
  have hr := refReadText_ok (G := G) .none b s.1 hb (by omega)
  intro p
  by_cases k : s.2 = 0
  · have hF : nxT b s = (strN ((b.drop (spanF b s.1).1).take ((spanF b s.1).2.1 - (spanF b s.1).1)), (((spanF b s.1).2.1 : Int), ((spanF b s.1).2.2 : Int))) := by simp [nxT, k]
    unfold txtF
    rw [hF]
    dsimp only
    simp only [scC, triT] at hr ⊢
    generalize strN ((b.drop (spanF b s.1).1).take ((spanF b s.1).2.1 - (spanF b s.1).1)) = t at hr ⊢
    generalize spanF b s.1 = r at hr ⊢
    refine VC.ofs (fun | 3 => [(0, []), (1, []), (2, []), (3, []), (4, []), (5, []), (6, []), (7, []), (8, []), (9, []), (10, []), (11, []), (12, []), (13, []), (14, []), (15, [])] | 99999999 => [(0, [0, 2, 3, 4, 5, 10, 38])] | _ => []) [2] mixed Try.func45 rfl rfl rfl rfl (by decide +kernel) (by simp) ?_
    simp only [go_sem, reduceIte, Nat.reduceEqDiff, Nat.reduceAdd, Nat.reduceSub, Nat.reduceMul, Nat.reduceLT, Nat.reduceLeDiff, Nat.reducePow, Int.reduceToNat, Int.reduceLT, Int.reduceLE, Int.reduceEq, Int.reduceNe, Int.reduceAdd, Int.reduceSub, Int.reduceMul, Int.reduceNeg, k, ne_eq]
    refine cE_vn hr ?_
    by_cases ke : (r.2.2 : Int) = 0
    · by_cases hlt : 200 < (t.size : Int)
      · have h1 := eq_true hlt
        have h2 : failS ((r.2.1 : Int), (r.2.2 : Int)) 2 (decide (200 < (t.size : Int))) = ((r.2.1 : Int), 2) := by simp only [failS]; rw [if_pos ⟨ke, by simp only [hlt, decide_true]⟩]
        rw [h2]
        simp only [go_sem, reduceIte, Nat.reduceEqDiff, Nat.reduceAdd, Nat.reduceSub, Nat.reduceMul, Nat.reduceLT, Nat.reduceLeDiff, Nat.reducePow, Int.reduceToNat, Int.reduceLT, Int.reduceLE, Int.reduceEq, Int.reduceNe, Int.reduceAdd, Int.reduceSub, Int.reduceMul, Int.reduceNeg, ke, h1]
        exact finK_var (hit_set rfl) ⟨rfl, rfl, rfl⟩
      · have h1 := eq_false hlt
        have h2 : failS ((r.2.1 : Int), (r.2.2 : Int)) 2 (decide (200 < (t.size : Int))) = ((r.2.1 : Int), 0) := by simp only [failS]; rw [if_neg (fun h => hlt (of_decide_eq_true h.2)), ke]
        rw [h2]
        simp only [go_sem, reduceIte, Nat.reduceEqDiff, Nat.reduceAdd, Nat.reduceSub, Nat.reduceMul, Nat.reduceLT, Nat.reduceLeDiff, Nat.reducePow, Int.reduceToNat, Int.reduceLT, Int.reduceLE, Int.reduceEq, Int.reduceNe, Int.reduceAdd, Int.reduceSub, Int.reduceMul, Int.reduceNeg, ke, h1]
        exact finK_var (hit_set rfl) ⟨rfl, rfl, rfl⟩
    · have h2 : failS ((r.2.1 : Int), (r.2.2 : Int)) 2 (decide (200 < (t.size : Int))) = ((r.2.1 : Int), (r.2.2 : Int)) := by simp only [failS]; rw [if_neg (fun h => ke h.1)]
      rw [h2]
      simp only [go_sem, reduceIte, Nat.reduceEqDiff, Nat.reduceAdd, Nat.reduceSub, Nat.reduceMul, Nat.reduceLT, Nat.reduceLeDiff, Nat.reducePow, Int.reduceToNat, Int.reduceLT, Int.reduceLE, Int.reduceEq, Int.reduceNe, Int.reduceAdd, Int.reduceSub, Int.reduceMul, Int.reduceNeg, ke]
      exact finK_var (hit_set rfl) ⟨rfl, rfl, rfl⟩
  · have hF : nxT b s = (ByteArray.empty, s) := by simp [nxT, k]
    unfold txtF
    rw [hF]
    have h2 : failS s 2 (decide (200 < (ByteArray.empty.size : Int))) = s := by simp only [failS]; rw [if_neg (fun h => k h.1)]
    dsimp only
    rw [h2]
    refine VC.ofs (fun | 3 => [(0, []), (1, []), (2, []), (3, []), (4, []), (5, []), (6, []), (7, []), (8, []), (9, []), (10, []), (11, []), (12, []), (13, []), (14, []), (15, [])] | 99999999 => [(0, [0, 2, 3, 4, 5, 10, 38])] | _ => []) [2] mixed Try.func45 rfl rfl rfl rfl (by decide +kernel) (by simp) ?_
    simp only [go_sem, reduceIte, Nat.reduceEqDiff, Nat.reduceAdd, Nat.reduceSub, Nat.reduceMul, Nat.reduceLT, Nat.reduceLeDiff, Nat.reducePow, Int.reduceToNat, Int.reduceLT, Int.reduceLE, Int.reduceEq, Int.reduceNe, Int.reduceAdd, Int.reduceSub, Int.reduceMul, Int.reduceNeg, scC, k, ne_eq]
    exact finK_var (hit_set rfl) ⟨rfl, rfl, rfl⟩
end Go.Proofs.YtpblgfgcoamgmaaS
