/-
  Programs: the law ProgramDecodeMatchesReference.
  Conditions: the bytes are at most 1099511627776.
-/
import Derived.Test.YtpblgfgcoamgmaaTB
import Derived.Test.YtpblgfgcoamgmaaTL
set_option linter.unusedVariables false
set_option linter.unusedSimpArgs false
namespace Go.Proofs.YtpblgfgcoamgmaaS
open Go Go.Proofs.YtpblgfgcoamgmaaV

variable {G : Heap}
attribute [local irreducible] VN VC VX VQ VY VW VTA VT0 VPP VP

set_option maxHeartbeats 4000000 in
theorem decode27_ok (b : List Nat) (hb : Byt b) (hl : b.length ≤ 1099511627776) : VN P G 3 [.sl .none (bs b)] (.bool true) := by
  have hs := law27_sanity_ok (G := G)
  obtain ⟨m, hm⟩ : ∃ m, b.take (if (500 : Int) < b.length then (500 : Int) else b.length).toNat = m := ⟨_, rfl⟩
  have hbm : Byt m := by rw [← hm]; exact hb.take _
  have hlm : m.length ≤ 1099511627776 := by rw [← hm, List.length_take]; omega
  have h1 := pgDecode_ok (G := G) .none m hbm hlm
  have h2 := gDecode_ok (G := G) m hbm hlm
  rw [gDec_eq] at h2
  have h3 := Same27_ok (G := G) (pgDecF m).1
  generalize pgDecF m = r at h1 h2 h3
  rw [Pg.cells16] at h1 h2 h3
  unfold VN
  refine VC.ofs (fun | 99999999 => [(0, [0, 2, 3, 4, 5, 6, 7, 8])] | _ => []) [2] mixed Try.func3 rfl rfl rfl rfl (by decide +kernel) (by simp) ?_
  have el : (bs b).length = b.length := bs_length b
  simp only [go_sem, reduceIte, Nat.reduceEqDiff, Nat.reduceAdd, Nat.reduceSub, Nat.reduceMul, Nat.reduceLT, Nat.reduceLeDiff, Nat.reducePow, Int.reduceToNat, Int.reduceLT, Int.reduceLE, Int.reduceEq, Int.reduceNe, Int.reduceAdd, Int.reduceSub, Int.reduceMul, Int.reduceNeg]
  first | refine cK_vn hs ?_ | refine cE_vn hs ?_
  try simp only [go_sem, reduceIte, Nat.reduceEqDiff, Nat.reduceAdd, Nat.reduceSub, Nat.reduceMul, Nat.reduceLT, Nat.reduceLeDiff, Nat.reducePow, Int.reduceToNat, Int.reduceLT, Int.reduceLE, Int.reduceEq, Int.reduceNe, Int.reduceAdd, Int.reduceSub, Int.reduceMul, Int.reduceNeg, el, bs_take]
  rw [hm]
  refine ⟨⟨by split <;> omega, by split <;> omega⟩, ?_⟩
  first | refine cK_vn h1 ?_ | refine cE_vn h1 ?_
  unfold Pg.c16
  try simp only [go_sem, reduceIte, Nat.reduceEqDiff, Nat.reduceAdd, Nat.reduceSub, Nat.reduceMul, Nat.reduceLT, Nat.reduceLeDiff, Nat.reducePow, Int.reduceToNat, Int.reduceLT, Int.reduceLE, Int.reduceEq, Int.reduceNe, Int.reduceAdd, Int.reduceSub, Int.reduceMul, Int.reduceNeg, el]
  intro b5
  generalize hβ : Heap.set _ b5 _ = β0
  have e5 := hit_set hβ
  clear hβ
  have N := trivial
  try simp only [go_sem, reduceIte, Nat.reduceEqDiff, Nat.reduceAdd, Nat.reduceSub, Nat.reduceMul, Nat.reduceLT, Nat.reduceLeDiff, Nat.reducePow, Int.reduceToNat, Int.reduceLT, Int.reduceLE, Int.reduceEq, Int.reduceNe, Int.reduceAdd, Int.reduceSub, Int.reduceMul, Int.reduceNeg, e5]
  first | refine cK_vn h2 ?_ | refine cE_vn h2 ?_
  unfold Pg.c16
  try simp only [go_sem, reduceIte, Nat.reduceEqDiff, Nat.reduceAdd, Nat.reduceSub, Nat.reduceMul, Nat.reduceLT, Nat.reduceLeDiff, Nat.reducePow, Int.reduceToNat, Int.reduceLT, Int.reduceLE, Int.reduceEq, Int.reduceNe, Int.reduceAdd, Int.reduceSub, Int.reduceMul, Int.reduceNeg, e5]
  refine new_any fun b7 hb7 => ?_
  have N := And.intro N (box_ne hb7 e5)
  generalize hβ_ : Heap.set _ b7 _ = β_
  have e7 := hit_set hβ_
  have e5 := keep_new hβ_ hb7 e5
  clear hβ_ hb7
  try simp only [go_sem, reduceIte, Nat.reduceEqDiff, Nat.reduceAdd, Nat.reduceSub, Nat.reduceMul, Nat.reduceLT, Nat.reduceLeDiff, Nat.reducePow, Int.reduceToNat, Int.reduceLT, Int.reduceLE, Int.reduceEq, Int.reduceNe, Int.reduceAdd, Int.reduceSub, Int.reduceMul, Int.reduceNeg, N, e5, e7]
  unfold Pg.c16 at h3
  first | refine cK_vn h3 ?_ | refine cE_vn h3 ?_
  try simp only [go_sem, reduceIte, Nat.reduceEqDiff, Nat.reduceAdd, Nat.reduceSub, Nat.reduceMul, Nat.reduceLT, Nat.reduceLeDiff, Nat.reducePow, Int.reduceToNat, Int.reduceLT, Int.reduceLE, Int.reduceEq, Int.reduceNe, Int.reduceAdd, Int.reduceSub, Int.reduceMul, Int.reduceNeg, N, e5, e7, decide_true]
  exact finK_drop ⟨rfl, rfl, rfl⟩
end Go.Proofs.YtpblgfgcoamgmaaS
