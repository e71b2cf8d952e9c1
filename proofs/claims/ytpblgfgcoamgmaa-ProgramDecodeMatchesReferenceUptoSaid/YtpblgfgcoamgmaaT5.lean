/-
  Programs (package program): Decode.
  Conditions: the bytes are at most 1099511627776.
-/
import Derived.Test.YtpblgfgcoamgmaaT4
set_option linter.unusedVariables false
set_option linter.unusedSimpArgs false
namespace Go.Proofs.YtpblgfgcoamgmaaS
open Go Go.Proofs.YtpblgfgcoamgmaaV

variable {G : Heap}
attribute [local irreducible] VN VC VX VQ VY VW VTA VT0 VPP

abbrev Pg := Pr × Pr × List Rw × List Gu
def Pg.cells (g : Pg) : List D := g.1.cells ++ g.2.1.cells ++ [.sl .none (g.2.2.1.map rwD), .sl .none (g.2.2.2.map guD)]
def Pg.nul : Pg := (Pr.nul, Pr.nul, [], [])
def pgDecF (b : List Nat) : Pg × Int :=
  let r := rP b 0
  if r.2.2 ≠ 0 then (Pg.nul, r.2.2) else
  let m := rP b r.2.1
  if m.2.2 ≠ 0 then (Pg.nul, m.2.2) else
  let i := rowsF b m.2.1
  if i.2.2 ≠ 0 then (Pg.nul, i.2.2) else
  let g := gdsF b i.2.1
  if g.2.2 ≠ 0 then (Pg.nul, g.2.2) else
  if g.2.1 ≠ b.length then (Pg.nul, 5) else ((r.1, m.1, i.1, g.1), 0)
theorem und_any {P : Program} {t : TypeId} (h : (match P.underlying t with | some (.interface _) => true | _ => false) = true) : ∃ ms, P.underlying t = some (.interface ms) := by
  split at h
  · rename_i ms e; exact ⟨ms, e⟩
  · cases h
theorem pgDecode_ok (tk : Tk) (b : List Nat) (hb : Byt b) (hbl : b.length ≤ 1099511627776) : VN P G 5 [.sl tk (bs b)] (.tup [.agg (pgDecF b).1.cells, .int .i64 (pgDecF b).2]) := by
  have hr := preadP_ok (G := G) tk b 0 hb hbl
  unfold VRd at hr
  unfold pgDecF
  generalize rP b 0 = r at hr ⊢
  unfold VN
  refine VC.defers (fun | 99999999 => [(0, [0, 2, 3, 4, 31])] | _ => []) (fun | 2 => [(0, []), (1, []), (2, []), (3, []), (4, [])] | 99999999 => [(0, [0, 1, 2, 5])] | _ => []) [.cell 2 31, .cell 3 32] mixed Try.func5 rfl rfl rfl Try.func12 rfl rfl rfl (by decide +kernel) (by decide +kernel) (by simp) ?_
  try simp only [go_sem, reduceIte, Nat.reduceEqDiff, Nat.reduceAdd, Nat.reduceSub, Nat.reduceMul, Nat.reduceLT, Nat.reduceLeDiff, Nat.reducePow, Int.reduceToNat, Int.reduceLT, Int.reduceLE, Int.reduceEq, Int.reduceNe, Int.reduceAdd, Int.reduceSub, Int.reduceMul, Int.reduceNeg, ]
  intro b2
  generalize hβ : Heap.set Heap.nil b2 _ = β0
  have e2 := hit_set hβ
  clear hβ
  have N := trivial
  refine new_any fun b3 hb3 => ?_
  have N := And.intro N (box_ne hb3 e2)
  generalize hβ_ : Heap.set _ b3 _ = β_
  have e3 := hit_set hβ_
  have e2 := keep_new hβ_ hb3 e2
  clear hβ_ hb3
  try simp only [go_sem, reduceIte, Nat.reduceEqDiff, Nat.reduceAdd, Nat.reduceSub, Nat.reduceMul, Nat.reduceLT, Nat.reduceLeDiff, Nat.reducePow, Int.reduceToNat, Int.reduceLT, Int.reduceLE, Int.reduceEq, Int.reduceNe, Int.reduceAdd, Int.reduceSub, Int.reduceMul, Int.reduceNeg, N, e2, e3]
  refine new_any fun b4 hb4 => ?_
  have N := And.intro N (box_ne hb4 e2)
  have N := And.intro N (box_ne hb4 e3)
  generalize hβ_ : Heap.set _ b4 _ = β_
  have e4 := hit_set hβ_
  have e2 := keep_new hβ_ hb4 e2
  have e3 := keep_new hβ_ hb4 e3
  clear hβ_ hb4
  try simp only [go_sem, reduceIte, Nat.reduceEqDiff, Nat.reduceAdd, Nat.reduceSub, Nat.reduceMul, Nat.reduceLT, Nat.reduceLeDiff, Nat.reducePow, Int.reduceToNat, Int.reduceLT, Int.reduceLE, Int.reduceEq, Int.reduceNe, Int.reduceAdd, Int.reduceSub, Int.reduceMul, Int.reduceNeg, N, e2, e3, e4]
  refine cK_pp hr e4 ?_
  generalize hβ_ : Heap.set _ b4 _ = β_
  have e2 := keep_ne hβ_ (by simp [N]) e2
  have e3 := keep_ne hβ_ (by simp [N]) e3
  have e4 := hit_set hβ_
  clear hβ_
  by_cases k : r.2.2 = 0
  rotate_left
  · rw [rdO_pan k]
    simp only [ne_eq, k, not_false_eq_true, if_true]
    try simp only [go_sem, reduceIte, Nat.reduceEqDiff, Nat.reduceAdd, Nat.reduceSub, Nat.reduceMul, Nat.reduceLT, Nat.reduceLeDiff, Nat.reducePow, Int.reduceToNat, Int.reduceLT, Int.reduceLE, Int.reduceEq, Int.reduceNe, Int.reduceAdd, Int.reduceSub, Int.reduceMul, Int.reduceNeg, errD, N, e2, e3]
    exact ⟨und_any (by decide +kernel), finK_drop ⟨rfl, rfl, rfl⟩⟩
  rw [rdO_ret k]
  simp only [ne_eq, k, not_true_eq_false, if_false]
  have hm := preadP_ok (G := G) tk b r.2.1 hb hbl
  unfold VRd at hm
  obtain ⟨r0, r1, r2⟩ := r
  dsimp only at k e4 hm ⊢
  generalize rP b r1 = m at hm ⊢
  simp only [Pr.cells]
  try simp only [go_sem, reduceIte, Nat.reduceEqDiff, Nat.reduceAdd, Nat.reduceSub, Nat.reduceMul, Nat.reduceLT, Nat.reduceLeDiff, Nat.reducePow, Int.reduceToNat, Int.reduceLT, Int.reduceLE, Int.reduceEq, Int.reduceNe, Int.reduceAdd, Int.reduceSub, Int.reduceMul, Int.reduceNeg, N, e2, e3, e4]
  generalize hβ_ : Heap.set _ b2 _ = β_
  have e3 := keep_ne hβ_ (by simp [N]) e3
  have e4 := keep_ne hβ_ (by simp [N]) e4
  have e2 := hit_set hβ_
  clear hβ_
  refine cK_pp hm e4 ?_
  generalize hβ_ : Heap.set _ b4 _ = β_
  have e2 := keep_ne hβ_ (by simp [N]) e2
  have e3 := keep_ne hβ_ (by simp [N]) e3
  have e4 := hit_set hβ_
  clear hβ_
  by_cases k : m.2.2 = 0
  rotate_left
  · rw [rdO_pan k]
    simp only [k, not_false_eq_true, if_true]
    try simp only [go_sem, reduceIte, Nat.reduceEqDiff, Nat.reduceAdd, Nat.reduceSub, Nat.reduceMul, Nat.reduceLT, Nat.reduceLeDiff, Nat.reducePow, Int.reduceToNat, Int.reduceLT, Int.reduceLE, Int.reduceEq, Int.reduceNe, Int.reduceAdd, Int.reduceSub, Int.reduceMul, Int.reduceNeg, errD, N, e2, e3]
    exact ⟨und_any (by decide +kernel), finK_drop ⟨rfl, rfl, rfl⟩⟩
  rw [rdO_ret k]
  simp only [k, not_true_eq_false, if_false]
  have hi := prows_ok (G := G) tk b m.2.1 hb
  obtain ⟨m0, m1, m2⟩ := m
  dsimp only at k e4 hi ⊢
  generalize rowsF b m1 = i at hi ⊢
  simp only [Pr.cells]
  try simp only [go_sem, reduceIte, Nat.reduceEqDiff, Nat.reduceAdd, Nat.reduceSub, Nat.reduceMul, Nat.reduceLT, Nat.reduceLeDiff, Nat.reducePow, Int.reduceToNat, Int.reduceLT, Int.reduceLE, Int.reduceEq, Int.reduceNe, Int.reduceAdd, Int.reduceSub, Int.reduceMul, Int.reduceNeg, N, e2, e3, e4]
  generalize hβ_ : Heap.set _ b2 _ = β_
  have e3 := keep_ne hβ_ (by simp [N]) e3
  have e4 := keep_ne hβ_ (by simp [N]) e4
  have e2 := hit_set hβ_
  clear hβ_
  try simp only [go_sem, reduceIte, Nat.reduceEqDiff, Nat.reduceAdd, Nat.reduceSub, Nat.reduceMul, Nat.reduceLT, Nat.reduceLeDiff, Nat.reducePow, Int.reduceToNat, Int.reduceLT, Int.reduceLE, Int.reduceEq, Int.reduceNe, Int.reduceAdd, Int.reduceSub, Int.reduceMul, Int.reduceNeg, N, e2, e3, e4]
  refine cK_pp hi e4 ?_
  generalize hβ_ : Heap.set _ b4 _ = β_
  have e2 := keep_ne hβ_ (by simp [N]) e2
  have e3 := keep_ne hβ_ (by simp [N]) e3
  have e4 := hit_set hβ_
  clear hβ_
  by_cases k : i.2.2 = 0
  rotate_left
  · rw [rdO_pan k]
    simp only [k, not_false_eq_true, if_true]
    try simp only [go_sem, reduceIte, Nat.reduceEqDiff, Nat.reduceAdd, Nat.reduceSub, Nat.reduceMul, Nat.reduceLT, Nat.reduceLeDiff, Nat.reducePow, Int.reduceToNat, Int.reduceLT, Int.reduceLE, Int.reduceEq, Int.reduceNe, Int.reduceAdd, Int.reduceSub, Int.reduceMul, Int.reduceNeg, errD, N, e2, e3]
    exact ⟨und_any (by decide +kernel), finK_drop ⟨rfl, rfl, rfl⟩⟩
  rw [rdO_ret k]
  simp only [k, not_true_eq_false, if_false]
  have hg := pguards_ok (G := G) tk b i.2.1 hb hbl
  generalize gdsF b i.2.1 = g at hg ⊢
  try simp only [go_sem, reduceIte, Nat.reduceEqDiff, Nat.reduceAdd, Nat.reduceSub, Nat.reduceMul, Nat.reduceLT, Nat.reduceLeDiff, Nat.reducePow, Int.reduceToNat, Int.reduceLT, Int.reduceLE, Int.reduceEq, Int.reduceNe, Int.reduceAdd, Int.reduceSub, Int.reduceMul, Int.reduceNeg, N, e2, e3, e4]
  generalize hβ_ : Heap.set _ b2 _ = β_
  have e3 := keep_ne hβ_ (by simp [N]) e3
  have e4 := keep_ne hβ_ (by simp [N]) e4
  have e2 := hit_set hβ_
  clear hβ_
  try simp only [go_sem, reduceIte, Nat.reduceEqDiff, Nat.reduceAdd, Nat.reduceSub, Nat.reduceMul, Nat.reduceLT, Nat.reduceLeDiff, Nat.reducePow, Int.reduceToNat, Int.reduceLT, Int.reduceLE, Int.reduceEq, Int.reduceNe, Int.reduceAdd, Int.reduceSub, Int.reduceMul, Int.reduceNeg, N, e2, e3, e4]
  refine cK_pp hg e4 ?_
  generalize hβ_ : Heap.set _ b4 _ = β_
  have e2 := keep_ne hβ_ (by simp [N]) e2
  have e3 := keep_ne hβ_ (by simp [N]) e3
  have e4 := hit_set hβ_
  clear hβ_
  by_cases k : g.2.2 = 0
  rotate_left
  · rw [rdO_pan k]
    simp only [k, not_false_eq_true, if_true]
    try simp only [go_sem, reduceIte, Nat.reduceEqDiff, Nat.reduceAdd, Nat.reduceSub, Nat.reduceMul, Nat.reduceLT, Nat.reduceLeDiff, Nat.reducePow, Int.reduceToNat, Int.reduceLT, Int.reduceLE, Int.reduceEq, Int.reduceNe, Int.reduceAdd, Int.reduceSub, Int.reduceMul, Int.reduceNeg, errD, N, e2, e3]
    exact ⟨und_any (by decide +kernel), finK_drop ⟨rfl, rfl, rfl⟩⟩
  rw [rdO_ret k]
  simp only [k, not_true_eq_false, if_false]
  try simp only [go_sem, reduceIte, Nat.reduceEqDiff, Nat.reduceAdd, Nat.reduceSub, Nat.reduceMul, Nat.reduceLT, Nat.reduceLeDiff, Nat.reducePow, Int.reduceToNat, Int.reduceLT, Int.reduceLE, Int.reduceEq, Int.reduceNe, Int.reduceAdd, Int.reduceSub, Int.reduceMul, Int.reduceNeg, N, e2, e3, e4]
  generalize hβ_ : Heap.set _ b2 _ = β_
  have e3 := keep_ne hβ_ (by simp [N]) e3
  have e4 := keep_ne hβ_ (by simp [N]) e4
  have e2 := hit_set hβ_
  clear hβ_
  try simp only [go_sem, reduceIte, Nat.reduceEqDiff, Nat.reduceAdd, Nat.reduceSub, Nat.reduceMul, Nat.reduceLT, Nat.reduceLeDiff, Nat.reducePow, Int.reduceToNat, Int.reduceLT, Int.reduceLE, Int.reduceEq, Int.reduceNe, Int.reduceAdd, Int.reduceSub, Int.reduceMul, Int.reduceNeg, N, e2, e3, e4, rkC, bs_length]
  refine cd_dec (fun h => ?_) (fun h => ?_)
  · have h' : ¬ g.2.1 = (b.length : Int) := h
    simp only [h', not_false_eq_true, if_true]
    try simp only [go_sem, reduceIte, Nat.reduceEqDiff, Nat.reduceAdd, Nat.reduceSub, Nat.reduceMul, Nat.reduceLT, Nat.reduceLeDiff, Nat.reducePow, Int.reduceToNat, Int.reduceLT, Int.reduceLE, Int.reduceEq, Int.reduceNe, Int.reduceAdd, Int.reduceSub, Int.reduceMul, Int.reduceNeg, ]
    refine cK_np (pfail_ok 5) ?_
    try simp only [go_sem, reduceIte, Nat.reduceEqDiff, Nat.reduceAdd, Nat.reduceSub, Nat.reduceMul, Nat.reduceLT, Nat.reduceLeDiff, Nat.reducePow, Int.reduceToNat, Int.reduceLT, Int.reduceLE, Int.reduceEq, Int.reduceNe, Int.reduceAdd, Int.reduceSub, Int.reduceMul, Int.reduceNeg, errD, N, e2, e3]
    exact ⟨und_any (by decide +kernel), finK_drop ⟨rfl, rfl, rfl⟩⟩
  · have h' : g.2.1 = (b.length : Int) := Decidable.not_not.1 h
    simp only [h', not_true_eq_false, if_false]
    try simp only [go_sem, reduceIte, Nat.reduceEqDiff, Nat.reduceAdd, Nat.reduceSub, Nat.reduceMul, Nat.reduceLT, Nat.reduceLeDiff, Nat.reducePow, Int.reduceToNat, Int.reduceLT, Int.reduceLE, Int.reduceEq, Int.reduceNe, Int.reduceAdd, Int.reduceSub, Int.reduceMul, Int.reduceNeg, N, e2, e3]
    exact ⟨und_any (by decide +kernel), finK_drop ⟨by simp [D.er, D.er1, Pg.cells, Pr.cells], rfl, rfl⟩⟩
end Go.Proofs.YtpblgfgcoamgmaaS
