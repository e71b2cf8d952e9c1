/-
  Programs (fenlandref27): the reader of predicates.
  Conditions: the bytes are at most 1099511627776.
-/
import Derived.Test.YtpblgfgcoamgmaaT7
import Derived.Test.YtpblgfgcoamgmaaQP
set_option linter.unusedVariables false
set_option linter.unusedSimpArgs false
namespace Go.Proofs.YtpblgfgcoamgmaaS
open Go Go.Proofs.YtpblgfgcoamgmaaV

variable {G : Heap}
attribute [local irreducible] VN VC VX VQ VY VW VTA VT0 VPP VP

def gPred (b : List Nat) (s : Sc) : Pr × Sc := if s.2 = 0 then pDecF b s.1 else (Pr.nul, s)
theorem gPred_ok (b : List Nat) (s : Sc) (hb : Byt b) (hbl : b.length ≤ 1099511627776) : VP P G 20 (fun p => [.pb p 0]) (scC .none b s) (.agg (gPred b s).1.cells) (scC .none b (gPred b s).2) := by
  have hr := rDecode_ok (G := G) b s.1 hb hbl
  unfold VP
  intro p
  show VC _ _ _ _ _ _ (vpQ p (.agg (gPred b s).1.cells) (scC .none b (gPred b s).2))
  refine VC.ofc (fun | 3 => [(0, []), (1, []), (2, []), (3, []), (4, []), (5, []), (6, []), (7, []), (8, [13]), (9, []), (10, []), (11, []), (12, []), (13, []), (14, []), (15, []), (16, [])] | 99999999 => [(0, [0, 2, 3, 4, 5, 10])] | _ => []) [.cell 2 27] mixed Try.func20 rfl rfl rfl rfl (by decide +kernel) (by simp) ?_
  generalize hβ : Heap.set Heap.nil p (scC .none b s) = β0
  have ep : β0 p = some (scC .none b s) := hit_set hβ
  clear hβ
  have N := trivial
  have ep0 := ep
  try simp only [go_sem, reduceIte, Nat.reduceEqDiff, Nat.reduceAdd, Nat.reduceSub, Nat.reduceMul, Nat.reduceLT, Nat.reduceLeDiff, Nat.reducePow, Int.reduceToNat, Int.reduceLT, Int.reduceLE, Int.reduceEq, Int.reduceNe, Int.reduceAdd, Int.reduceSub, Int.reduceMul, Int.reduceNeg, ]
  refine new_any fun b2 hb2 => ?_
  have N := And.intro N (box_ne hb2 ep)
  generalize hβ_ : Heap.set _ b2 _ = β_
  have e2 := hit_set hβ_
  have ep := keep_new hβ_ hb2 ep
  clear hβ_ hb2
  by_cases k : s.2 = 0
  · have hF : gPred b s = pDecF b s.1 := if_pos k
    rw [hF]
    generalize pDecF b s.1 = r at hr ⊢
    try simp only [go_sem, reduceIte, Nat.reduceEqDiff, Nat.reduceAdd, Nat.reduceSub, Nat.reduceMul, Nat.reduceLT, Nat.reduceLeDiff, Nat.reducePow, Int.reduceToNat, Int.reduceLT, Int.reduceLE, Int.reduceEq, Int.reduceNe, Int.reduceAdd, Int.reduceSub, Int.reduceMul, Int.reduceNeg, N, ep0, ep, e2, scC, k, ne_eq]
    refine cE_vn hr ?_
    try simp only [go_sem, reduceIte, Nat.reduceEqDiff, Nat.reduceAdd, Nat.reduceSub, Nat.reduceMul, Nat.reduceLT, Nat.reduceLeDiff, Nat.reducePow, Int.reduceToNat, Int.reduceLT, Int.reduceLE, Int.reduceEq, Int.reduceNe, Int.reduceAdd, Int.reduceSub, Int.reduceMul, Int.reduceNeg, N, ep, e2, scC, k]
    refine new_any fun b3 hb3 => ?_
    have N := And.intro N (box_ne hb3 ep)
    have N := And.intro N (box_ne hb3 e2)
    try simp only [go_sem, reduceIte, Nat.reduceEqDiff, Nat.reduceAdd, Nat.reduceSub, Nat.reduceMul, Nat.reduceLT, Nat.reduceLeDiff, Nat.reducePow, Int.reduceToNat, Int.reduceLT, Int.reduceLE, Int.reduceEq, Int.reduceNe, Int.reduceAdd, Int.reduceSub, Int.reduceMul, Int.reduceNeg, N, ep, e2, scC, k]
    refine vpQ_ok ?_ ?_
    · simp [D.er, D.er1, Pr_er]
    · simp [Heap.set, N, scC]
  · have hF : gPred b s = (Pr.nul, s) := if_neg k
    rw [hF]
    try simp only [go_sem, reduceIte, Nat.reduceEqDiff, Nat.reduceAdd, Nat.reduceSub, Nat.reduceMul, Nat.reduceLT, Nat.reduceLeDiff, Nat.reducePow, Int.reduceToNat, Int.reduceLT, Int.reduceLE, Int.reduceEq, Int.reduceNe, Int.reduceAdd, Int.reduceSub, Int.reduceMul, Int.reduceNeg, N, ep0, ep, e2, scC, k, ne_eq]
    exact vpQ_ok (by rfl) (by simp [Heap.set, N, ep, scC])
end Go.Proofs.YtpblgfgcoamgmaaS
