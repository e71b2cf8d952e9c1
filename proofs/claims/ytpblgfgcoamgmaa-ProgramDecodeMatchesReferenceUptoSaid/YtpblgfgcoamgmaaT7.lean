/-
  Programs (fenlandref27): the reader of rows.
  Conditions: the bytes are at most 1099511627776.
-/
import Derived.Test.YtpblgfgcoamgmaaT6
set_option linter.unusedVariables false
set_option linter.unusedSimpArgs false
namespace Go.Proofs.YtpblgfgcoamgmaaS
open Go Go.Proofs.YtpblgfgcoamgmaaV

variable {G : Heap}
attribute [local irreducible] VN VC VX VQ VY VW VTA VT0 VPP VP

def gCells (b : List Nat) : Nat → Rw → Int → Sc → Rw × Sc
  | 0, l, _, s => (l, s)
  | n + 1, l, last, s => if s.2 = 0 then
      gCells b n (l ++ [(((gId b last s).1 : Int), ⟨false, (nxS b (gId b last s).2).1, (txtF b (nxS b (gId b last s).2).2).1⟩)]) (gId b last s).1 (txtF b (nxS b (gId b last s).2).2).2
    else (l, s)
def gRow (b : List Nat) (s : Sc) : Rw × Sc := gCells b (gNum b 64 s).1 [] 0 (gNum b 64 s).2
theorem gNum_le {b : List Nat} {lim : Nat} {s : Sc} : (gNum b lim s).1 ≤ lim := by
  unfold gNum
  dsimp only
  split
  · rename_i h
    unfold failS at h
    split at h
    · cases h
    · rename_i g
      refine Nat.le_of_not_lt fun h' => g ⟨h, by simp [h']⟩
  · exact Nat.zero_le _
/-- What follows when a variable's address was handed over. -/
def vpQ (p : Nat) (d : D) (x : List D) (o : Out) (β : Heap) (ω : List Nat) : Prop := o = .ret d ∧ β = Heap.nil.set p x ∧ ω = []
theorem vpQ_ok {p : Nat} {d d' : D} {x : List D} {β : Heap} {ω : List Nat} (hd : d'.er = d) (hp : β p = some x) : finK (vpQ p d x) d' β ω :=
  finK_var hp (show _ ∧ _ from ⟨by rw [hd], rfl, rfl⟩)
theorem gRow_ok (b : List Nat) (s : Sc) (hb : Byt b) (hbl : b.length ≤ 1099511627776) : VP P G 22 (fun p => [.pb p 0]) (scC .none b s) (rwD (gRow b s).1) (scC .none b (gRow b s).2) := by
  have hn := gNum_ok (G := G) b 64 (by omega) s hb
  have h64 := gNum_le (b := b) (lim := 64) (s := s)
  obtain ⟨V, hV⟩ : ∃ V, gRow b s = V := ⟨_, rfl⟩
  rw [hV]
  unfold gRow at hV
  generalize gNum b 64 s = n at hn h64 hV
  unfold VP
  intro p
  show VC _ _ _ _ _ _ (vpQ p (rwD V.1) (scC .none b V.2))
  refine VC.ofc (fun | 99999999 => [(0, [0, 2, 3, 4, 5, 6, 7, 8, 21])] | _ => []) [.cell 2 43] mixed Try.func22 rfl rfl rfl rfl (by decide +kernel) (by simp) ?_
  generalize hβ : Heap.set Heap.nil p (scC .none b s) = β0
  have ep : β0 p = some (scC .none b s) := hit_set hβ
  clear hβ
  have N := trivial
  try simp only [go_sem, reduceIte, Nat.reduceEqDiff, Nat.reduceAdd, Nat.reduceSub, Nat.reduceMul, Nat.reduceLT, Nat.reduceLeDiff, Nat.reducePow, Int.reduceToNat, Int.reduceLT, Int.reduceLE, Int.reduceEq, Int.reduceNe, Int.reduceAdd, Int.reduceSub, Int.reduceMul, Int.reduceNeg, ]
  refine new_any fun b2 hb2 => ?_
  have N := And.intro N (box_ne hb2 ep)
  generalize hβ_ : Heap.set _ b2 _ = β_
  have e2 := hit_set hβ_
  have ep := keep_new hβ_ hb2 ep
  clear hβ_ hb2
  try simp only [go_sem, reduceIte, Nat.reduceEqDiff, Nat.reduceAdd, Nat.reduceSub, Nat.reduceMul, Nat.reduceLT, Nat.reduceLeDiff, Nat.reducePow, Int.reduceToNat, Int.reduceLT, Int.reduceLE, Int.reduceEq, Int.reduceNe, Int.reduceAdd, Int.reduceSub, Int.reduceMul, Int.reduceNeg, N, ep, e2]
  refine new_any fun b3 hb3 => ?_
  have N := And.intro N (box_ne hb3 ep)
  have N := And.intro N (box_ne hb3 e2)
  generalize hβ_ : Heap.set _ b3 _ = β_
  have e3 := hit_set hβ_
  have ep := keep_new hβ_ hb3 ep
  have e2 := keep_new hβ_ hb3 e2
  clear hβ_ hb3
  try simp only [go_sem, reduceIte, Nat.reduceEqDiff, Nat.reduceAdd, Nat.reduceSub, Nat.reduceMul, Nat.reduceLT, Nat.reduceLeDiff, Nat.reducePow, Int.reduceToNat, Int.reduceLT, Int.reduceLE, Int.reduceEq, Int.reduceNe, Int.reduceAdd, Int.reduceSub, Int.reduceMul, Int.reduceNeg, N, ep, e2, e3]
  refine cK_vp hn ep ?_
  generalize hβ_ : Heap.set _ p _ = β_
  have e2 := keep_ne hβ_ (by simp [N]) e2
  have e3 := keep_ne hβ_ (by simp [N]) e3
  have ep := hit_set hβ_
  clear hβ_
  try simp only [go_sem, reduceIte, Nat.reduceEqDiff, Nat.reduceAdd, Nat.reduceSub, Nat.reduceMul, Nat.reduceLT, Nat.reduceLeDiff, Nat.reducePow, Int.reduceToNat, Int.reduceLT, Int.reduceLE, Int.reduceEq, Int.reduceNe, Int.reduceAdd, Int.reduceSub, Int.reduceMul, Int.reduceNeg, N, ep, e2, e3]
  refine vwq_loop (fun v => ∃ (j : Nat) (l : Rw) (last : Int) (c : Sc) (t : Tk), j ≤ n.1 ∧ l.length = j ∧ gCells b (n.1 - j) l last c = V ∧ TW 4 t v.ω ∧ v.β p = some (scC .none b c) ∧ v.β b3 = some [.sl t (l.map clD)] ∧ v.β b2 = some [.sl .full []] ∧ v.σ 0 = .pb p 0 ∧ v.σ 2 = .pb b2 0 ∧ v.σ 3 = .pb b3 0 ∧ v.σ 4 = .int .i64 n.1 ∧ v.σ 5 = .int .i64 last ∧ v.σ 6 = .int .i64 j) (fun v => n.1 - (ival (v.σ 6)).toNat) ⟨0, [], 0, _, .full, by omega, rfl, hV, TW.full 4, ep, e3, e2, rfl, rfl, rfl, rfl, rfl, rfl⟩ ?_
  clear hV ep e2 e3
  rintro σ β ω ⟨j, l, last, c, t, hj, hl, hV, hw, ep, e3, e2, q0, q2, q3, q4, q5, q6⟩
  dsimp only at hw ep e3 e2 q0 q2 q3 q4 q5 q6
  have hto := hw.ok
  have htg := hw.gone
  by_cases g : j < n.1 ∧ c.2 = 0
  · have g1 : ((j : Int) < n.1) = True := eq_true (by omega)
    have g2 := g.2
    have wj := wrap_i64 (x := (j : Int) + 1) (by omega) (by omega)
    obtain ⟨n', hn'⟩ : ∃ n', n.1 - j = n' + 1 := ⟨n.1 - j - 1, by omega⟩
    rw [hn', gCells, if_pos g.2] at hV
    have hi := gId_ok (G := G) b last c hb
    generalize gId b last c = i at hi hV
    have hx := gSig_ok (G := G) b i.2 hb
    generalize nxS b i.2 = x at hx hV
    have ht := gTxt_ok (G := G) b x.2 hb hbl
    generalize txtF b x.2 = y at ht hV
    try simp only [go_sem, reduceIte, Nat.reduceEqDiff, Nat.reduceAdd, Nat.reduceSub, Nat.reduceMul, Nat.reduceLT, Nat.reduceLeDiff, Nat.reducePow, Int.reduceToNat, Int.reduceLT, Int.reduceLE, Int.reduceEq, Int.reduceNe, Int.reduceAdd, Int.reduceSub, Int.reduceMul, Int.reduceNeg, q0, q2, q3, q4, q5, q6, g1, ep, scC, g2]
    refine cK_vp hi ep ?_
    generalize hβ_ : Heap.set _ p _ = β_
    have e2 := keep_ne hβ_ (by simp [N]) e2
    have e3 := keep_ne hβ_ (by simp [N]) e3
    have ep := hit_set hβ_
    clear hβ_
    try simp only [go_sem, reduceIte, Nat.reduceEqDiff, Nat.reduceAdd, Nat.reduceSub, Nat.reduceMul, Nat.reduceLT, Nat.reduceLeDiff, Nat.reducePow, Int.reduceToNat, Int.reduceLT, Int.reduceLE, Int.reduceEq, Int.reduceNe, Int.reduceAdd, Int.reduceSub, Int.reduceMul, Int.reduceNeg, N, q0, q2, q3, q4, q5, q6]
    refine cK_vp hx ep ?_
    generalize hβ_ : Heap.set _ p _ = β_
    have e2 := keep_ne hβ_ (by simp [N]) e2
    have e3 := keep_ne hβ_ (by simp [N]) e3
    have ep := hit_set hβ_
    clear hβ_
    try simp only [go_sem, reduceIte, Nat.reduceEqDiff, Nat.reduceAdd, Nat.reduceSub, Nat.reduceMul, Nat.reduceLT, Nat.reduceLeDiff, Nat.reducePow, Int.reduceToNat, Int.reduceLT, Int.reduceLE, Int.reduceEq, Int.reduceNe, Int.reduceAdd, Int.reduceSub, Int.reduceMul, Int.reduceNeg, N, q0, q2, q3, q4, q5, q6]
    refine cK_vp ht ep ?_
    generalize hβ_ : Heap.set _ p _ = β_
    have e2 := keep_ne hβ_ (by simp [N]) e2
    have e3 := keep_ne hβ_ (by simp [N]) e3
    have ep := hit_set hβ_
    clear hβ_
    try simp only [go_sem, reduceIte, Nat.reduceEqDiff, Nat.reduceAdd, Nat.reduceSub, Nat.reduceMul, Nat.reduceLT, Nat.reduceLeDiff, Nat.reducePow, Int.reduceToNat, Int.reduceLT, Int.reduceLE, Int.reduceEq, Int.reduceNe, Int.reduceAdd, Int.reduceSub, Int.reduceMul, Int.reduceNeg, N, q0, q2, q3, q4, q5, q6, e3, hto, htg, wj]
    refine ⟨fun z hz => ?_, by simp only [List.length_map]; omega, fun t' _ => ⟨⟨j + 1, l ++ [((i.1 : Int), ⟨false, x.1, y.1⟩)], i.1, y.2, .live t' 4, by omega, by simp [hl], ?_, TW.live 4 t', ?_⟩, by omega⟩⟩
    · obtain ⟨z, _, rfl⟩ := List.mem_map.1 hz
      rfl
    · rw [show n.1 - (j + 1) = n' by omega]; exact hV
    · simp [Heap.set, N, ep, e2, clD, scC]
  · have hz : V = (l, c) := by
      rw [← hV]
      by_cases h1 : j < n.1
      · obtain ⟨n', hn'⟩ : ∃ n', n.1 - j = n' + 1 := ⟨n.1 - j - 1, by omega⟩
        rw [hn', gCells, if_neg (fun h => g ⟨h1, h⟩)]
      · rw [show n.1 - j = 0 by omega, gCells]
    subst hz
    by_cases h1 : j < n.1
    · have g1 : ((j : Int) < n.1) = True := eq_true (by omega)
      have g2 : ¬ c.2 = 0 := fun h => g ⟨h1, h⟩
      try simp only [go_sem, reduceIte, Nat.reduceEqDiff, Nat.reduceAdd, Nat.reduceSub, Nat.reduceMul, Nat.reduceLT, Nat.reduceLeDiff, Nat.reducePow, Int.reduceToNat, Int.reduceLT, Int.reduceLE, Int.reduceEq, Int.reduceNe, Int.reduceAdd, Int.reduceSub, Int.reduceMul, Int.reduceNeg, q0, q2, q3, q4, q5, q6, g1, ep, scC, g2, e3, e2]
      exact vpQ_ok (by simp [D.er, D.er1, rwD]) (by simp [Heap.set, N, ep, scC])
    · have g1 : ((j : Int) < n.1) = False := eq_false (by omega)
      try simp only [go_sem, reduceIte, Nat.reduceEqDiff, Nat.reduceAdd, Nat.reduceSub, Nat.reduceMul, Nat.reduceLT, Nat.reduceLeDiff, Nat.reducePow, Int.reduceToNat, Int.reduceLT, Int.reduceLE, Int.reduceEq, Int.reduceNe, Int.reduceAdd, Int.reduceSub, Int.reduceMul, Int.reduceNeg, q0, q2, q3, q4, q5, q6, g1, ep, e3, e2]
      exact vpQ_ok (by simp [D.er, D.er1, rwD]) (by simp [Heap.set, N, ep])
end Go.Proofs.YtpblgfgcoamgmaaS
