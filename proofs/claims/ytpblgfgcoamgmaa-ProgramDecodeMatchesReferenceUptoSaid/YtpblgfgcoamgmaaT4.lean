/-
  Programs (package program): the readers of guards.
  Conditions: the bytes are at most 1099511627776.
-/
import Derived.Test.YtpblgfgcoamgmaaT3
set_option linter.unusedVariables false
set_option linter.unusedSimpArgs false
namespace Go.Proofs.YtpblgfgcoamgmaaS
open Go Go.Proofs.YtpblgfgcoamgmaaV

variable {G : Heap}
attribute [local irreducible] VN VC VX VQ VY VW VTA VT0 VPP

abbrev Gu := Pr × Int × Int × Int
def guD (g : Gu) : D := .agg (g.1.cells ++ [.int .i64 g.2.1, .int .i64 g.2.2.1, .int .i64 g.2.2.2])
def Gu.nul : Gu := (Pr.nul, 0, 0, 0)
def gdF (b : List Nat) (p : Int) : Gu × Int × Int :=
  let r := rP b p
  if r.2.2 ≠ 0 then (Gu.nul, r.2.1, r.2.2) else
  let c := idF b 0 r.2.1
  if c.2.2 ≠ 0 then (Gu.nul, c.2.1, c.2.2) else
  let x := rS b c.2.1
  if x.2.2 ≠ 0 then (Gu.nul, x.2.1, x.2.2) else
  let y := rS b x.2.1
  if y.2.2 ≠ 0 then (Gu.nul, y.2.1, y.2.2) else ((r.1, (c.1 : Int), x.1, y.1), y.2.1, 0)
theorem pguard_ok (tk : Tk) (b : List Nat) (p : Int) (hb : Byt b) (hbl : b.length ≤ 1099511627776) : VRd P G 18 [] tk b p (guD (gdF b p).1) (gdF b p).2.1 (gdF b p).2.2 := by
  have hr := preadP_ok (G := G) tk b p hb hbl
  unfold VRd at hr ⊢
  unfold gdF
  generalize rP b p = r at hr ⊢
  unfold VPP
  intro q
  show VC _ _ _ _ _ _ (r1Q q tk b (guD _) _ _)
  refine VC.ofc (fun | 99999999 => [(0, [0, 2, 3])] | _ => []) [.cell 2 52] mixed Try.func18 rfl rfl rfl rfl (by decide +kernel) (by simp) ?_
  generalize hβ : Heap.set Heap.nil q (rkC tk b p) = β0
  have eq : β0 q = some (rkC tk b p) := hit_set hβ
  clear hβ
  have N := trivial
  try simp only [go_sem, reduceIte, Nat.reduceEqDiff, Nat.reduceAdd, Nat.reduceSub, Nat.reduceMul, Nat.reduceLT, Nat.reduceLeDiff, Nat.reducePow, Int.reduceToNat, Int.reduceLT, Int.reduceLE, Int.reduceEq, Int.reduceNe, Int.reduceAdd, Int.reduceSub, Int.reduceMul, Int.reduceNeg, ]
  refine new_any fun b2 hb2 => ?_
  have N := And.intro N (box_ne hb2 eq)
  generalize hβ_ : Heap.set _ b2 _ = β_
  have e2 := hit_set hβ_
  have eq := keep_new hβ_ hb2 eq
  clear hβ_ hb2
  try simp only [go_sem, reduceIte, Nat.reduceEqDiff, Nat.reduceAdd, Nat.reduceSub, Nat.reduceMul, Nat.reduceLT, Nat.reduceLeDiff, Nat.reducePow, Int.reduceToNat, Int.reduceLT, Int.reduceLE, Int.reduceEq, Int.reduceNe, Int.reduceAdd, Int.reduceSub, Int.reduceMul, Int.reduceNeg, N, eq, e2]
  refine new_any fun b3 hb3 => ?_
  have N := And.intro N (box_ne hb3 eq)
  have N := And.intro N (box_ne hb3 e2)
  generalize hβ_ : Heap.set _ b3 _ = β_
  have e3 := hit_set hβ_
  have eq := keep_new hβ_ hb3 eq
  have e2 := keep_new hβ_ hb3 e2
  clear hβ_ hb3
  try simp only [go_sem, reduceIte, Nat.reduceEqDiff, Nat.reduceAdd, Nat.reduceSub, Nat.reduceMul, Nat.reduceLT, Nat.reduceLeDiff, Nat.reducePow, Int.reduceToNat, Int.reduceLT, Int.reduceLE, Int.reduceEq, Int.reduceNe, Int.reduceAdd, Int.reduceSub, Int.reduceMul, Int.reduceNeg, N, eq, e2, e3]
  refine cK_pp hr eq ?_
  generalize hβ_ : Heap.set _ q _ = β_
  have e2 := keep_ne hβ_ (by simp [N]) e2
  have e3 := keep_ne hβ_ (by simp [N]) e3
  have eq := hit_set hβ_
  clear hβ_
  by_cases k : r.2.2 = 0
  rotate_left
  · rw [rdO_pan k]
    simp only [ne_eq, k, not_false_eq_true, if_true]
    try simp only [go_sem, reduceIte, Nat.reduceEqDiff, Nat.reduceAdd, Nat.reduceSub, Nat.reduceMul, Nat.reduceLT, Nat.reduceLeDiff, Nat.reducePow, Int.reduceToNat, Int.reduceLT, Int.reduceLE, Int.reduceEq, Int.reduceNe, Int.reduceAdd, Int.reduceSub, Int.reduceMul, Int.reduceNeg, ]
    exact r1Q_bad k eq
  rw [rdO_ret k]
  simp only [ne_eq, k, not_true_eq_false, if_false]
  have hc := pid_ok (G := G) tk b r.2.1 hb 0
  unfold VRd at hc
  generalize idF b 0 r.2.1 = c at hc ⊢
  obtain ⟨r0, r1, r2⟩ := r
  dsimp only at k eq hc ⊢
  simp only [Pr.cells]
  try simp only [go_sem, reduceIte, Nat.reduceEqDiff, Nat.reduceAdd, Nat.reduceSub, Nat.reduceMul, Nat.reduceLT, Nat.reduceLeDiff, Nat.reducePow, Int.reduceToNat, Int.reduceLT, Int.reduceLE, Int.reduceEq, Int.reduceNe, Int.reduceAdd, Int.reduceSub, Int.reduceMul, Int.reduceNeg, N, eq, e2, e3]
  generalize hβ_ : Heap.set _ b3 _ = β_
  have eq := keep_ne hβ_ (by simp [N]) eq
  have e2 := keep_ne hβ_ (by simp [N]) e2
  have e3 := hit_set hβ_
  clear hβ_
  refine cK_pp hc eq ?_
  generalize hβ_ : Heap.set _ q _ = β_
  have e2 := keep_ne hβ_ (by simp [N]) e2
  have e3 := keep_ne hβ_ (by simp [N]) e3
  have eq := hit_set hβ_
  clear hβ_
  by_cases k : c.2.2 = 0
  rotate_left
  · rw [rdO_pan k]
    simp only [k, not_false_eq_true, if_true]
    try simp only [go_sem, reduceIte, Nat.reduceEqDiff, Nat.reduceAdd, Nat.reduceSub, Nat.reduceMul, Nat.reduceLT, Nat.reduceLeDiff, Nat.reducePow, Int.reduceToNat, Int.reduceLT, Int.reduceLE, Int.reduceEq, Int.reduceNe, Int.reduceAdd, Int.reduceSub, Int.reduceMul, Int.reduceNeg, ]
    exact r1Q_bad k eq
  rw [rdO_ret k]
  simp only [k, not_true_eq_false, if_false]
  have hx := preadS_ok (G := G) tk b c.2.1 hb
  unfold VRd at hx
  generalize rS b c.2.1 = x at hx ⊢
  try simp only [go_sem, reduceIte, Nat.reduceEqDiff, Nat.reduceAdd, Nat.reduceSub, Nat.reduceMul, Nat.reduceLT, Nat.reduceLeDiff, Nat.reducePow, Int.reduceToNat, Int.reduceLT, Int.reduceLE, Int.reduceEq, Int.reduceNe, Int.reduceAdd, Int.reduceSub, Int.reduceMul, Int.reduceNeg, N, eq, e2, e3]
  generalize hβ_ : Heap.set _ b3 _ = β_
  have eq := keep_ne hβ_ (by simp [N]) eq
  have e2 := keep_ne hβ_ (by simp [N]) e2
  have e3 := hit_set hβ_
  clear hβ_
  refine cK_pp hx eq ?_
  generalize hβ_ : Heap.set _ q _ = β_
  have e2 := keep_ne hβ_ (by simp [N]) e2
  have e3 := keep_ne hβ_ (by simp [N]) e3
  have eq := hit_set hβ_
  clear hβ_
  by_cases k : x.2.2 = 0
  rotate_left
  · rw [rdO_pan k]
    simp only [k, not_false_eq_true, if_true]
    try simp only [go_sem, reduceIte, Nat.reduceEqDiff, Nat.reduceAdd, Nat.reduceSub, Nat.reduceMul, Nat.reduceLT, Nat.reduceLeDiff, Nat.reducePow, Int.reduceToNat, Int.reduceLT, Int.reduceLE, Int.reduceEq, Int.reduceNe, Int.reduceAdd, Int.reduceSub, Int.reduceMul, Int.reduceNeg, ]
    exact r1Q_bad k eq
  rw [rdO_ret k]
  simp only [k, not_true_eq_false, if_false]
  have hy := preadS_ok (G := G) tk b x.2.1 hb
  unfold VRd at hy
  generalize rS b x.2.1 = y at hy ⊢
  try simp only [go_sem, reduceIte, Nat.reduceEqDiff, Nat.reduceAdd, Nat.reduceSub, Nat.reduceMul, Nat.reduceLT, Nat.reduceLeDiff, Nat.reducePow, Int.reduceToNat, Int.reduceLT, Int.reduceLE, Int.reduceEq, Int.reduceNe, Int.reduceAdd, Int.reduceSub, Int.reduceMul, Int.reduceNeg, N, eq, e2, e3]
  generalize hβ_ : Heap.set _ b3 _ = β_
  have eq := keep_ne hβ_ (by simp [N]) eq
  have e2 := keep_ne hβ_ (by simp [N]) e2
  have e3 := hit_set hβ_
  clear hβ_
  refine cK_pp hy eq ?_
  generalize hβ_ : Heap.set _ q _ = β_
  have e2 := keep_ne hβ_ (by simp [N]) e2
  have e3 := keep_ne hβ_ (by simp [N]) e3
  have eq := hit_set hβ_
  clear hβ_
  by_cases k : y.2.2 = 0
  rotate_left
  · rw [rdO_pan k]
    simp only [k, not_false_eq_true, if_true]
    try simp only [go_sem, reduceIte, Nat.reduceEqDiff, Nat.reduceAdd, Nat.reduceSub, Nat.reduceMul, Nat.reduceLT, Nat.reduceLeDiff, Nat.reducePow, Int.reduceToNat, Int.reduceLT, Int.reduceLE, Int.reduceEq, Int.reduceNe, Int.reduceAdd, Int.reduceSub, Int.reduceMul, Int.reduceNeg, ]
    exact r1Q_bad k eq
  rw [rdO_ret k]
  simp only [k, not_true_eq_false, if_false]
  try simp only [go_sem, reduceIte, Nat.reduceEqDiff, Nat.reduceAdd, Nat.reduceSub, Nat.reduceMul, Nat.reduceLT, Nat.reduceLeDiff, Nat.reducePow, Int.reduceToNat, Int.reduceLT, Int.reduceLE, Int.reduceEq, Int.reduceNe, Int.reduceAdd, Int.reduceSub, Int.reduceMul, Int.reduceNeg, N, eq, e2, e3]
  generalize hβ_ : Heap.set _ b3 _ = β_
  have eq := keep_ne hβ_ (by simp [N]) eq
  have e2 := keep_ne hβ_ (by simp [N]) e2
  have e3 := hit_set hβ_
  clear hβ_
  try simp only [go_sem, reduceIte, Nat.reduceEqDiff, Nat.reduceAdd, Nat.reduceSub, Nat.reduceMul, Nat.reduceLT, Nat.reduceLeDiff, Nat.reducePow, Int.reduceToNat, Int.reduceLT, Int.reduceLE, Int.reduceEq, Int.reduceNe, Int.reduceAdd, Int.reduceSub, Int.reduceMul, Int.reduceNeg, N, eq, e2, e3]
  generalize hβ_ : Heap.set _ b2 _ = β_
  have eq := keep_ne hβ_ (by simp [N]) eq
  have e2 := hit_set hβ_
  clear hβ_
  exact r1Q_ok rfl (by simp [D.er, guD, Pr.cells, D.er1]) eq
def gdsF (b : List Nat) (p : Int) : List Gu × Int × Int :=
  if (numF b 16 p).2.2 = 0 then listF (gdF b) (numF b 16 p).1 [] (numF b 16 p).2.1 else ([], (numF b 16 p).2.1, (numF b 16 p).2.2)
theorem pguards_ok (tk : Tk) (b : List Nat) (p : Int) (hb : Byt b) (hbl : b.length ≤ 1099511627776) : VPP P G 17 (fun q => [.pb q 0, .int .i64 16, .clo (.func 18) [.pb q 0] []]) (rkC tk b p) (rdO (.sl .none ((gdsF b p).1.map guD)) (gdsF b p).2.2) (rkC tk b (gdsF b p).2.1) := by
  have hi := pnumber_ok (G := G) tk b p hb 16 (by omega)
  unfold VRd at hi
  have hle := numF_le (b := b) (lim := 16) (p := p)
  obtain ⟨V, hV⟩ : ∃ V, gdsF b p = V := ⟨_, rfl⟩
  rw [hV]
  unfold gdsF at hV
  generalize numF b 16 p = i at hi hle hV
  unfold VPP
  intro q
  show VC _ _ _ _ _ _ (r1Q q tk b (.sl .none (V.1.map guD)) V.2.1 V.2.2)
  refine VC.ofs (fun | 99999999 => [(0, [0, 1, 2, 6, 7, 10, 11, 12])] | _ => []) [6] mixed Try.func17 rfl rfl rfl rfl (by decide +kernel) (by simp) ?_
  generalize hβ : Heap.set Heap.nil q (rkC tk b p) = β0
  have eq : β0 q = some (rkC tk b p) := hit_set hβ
  clear hβ
  try simp only [go_sem, reduceIte, Nat.reduceEqDiff, Nat.reduceAdd, Nat.reduceSub, Nat.reduceMul, Nat.reduceLT, Nat.reduceLeDiff, Nat.reducePow, Int.reduceToNat, Int.reduceLT, Int.reduceLE, Int.reduceEq, Int.reduceNe, Int.reduceAdd, Int.reduceSub, Int.reduceMul, Int.reduceNeg, ]
  refine cK_pp hi eq ?_
  generalize hβ_ : Heap.set _ q _ = β_
  have eq := hit_set hβ_
  clear hβ_
  by_cases k : i.2.2 = 0
  rotate_left
  · rw [rdO_pan k]
    rw [if_neg k] at hV
    subst hV
    try simp only [go_sem, reduceIte, Nat.reduceEqDiff, Nat.reduceAdd, Nat.reduceSub, Nat.reduceMul, Nat.reduceLT, Nat.reduceLeDiff, Nat.reducePow, Int.reduceToNat, Int.reduceLT, Int.reduceLE, Int.reduceEq, Int.reduceNe, Int.reduceAdd, Int.reduceSub, Int.reduceMul, Int.reduceNeg, ]
    exact r1Q_bad k eq
  rw [rdO_ret k]
  rw [if_pos k] at hV
  have hle := hle k
  try simp only [go_sem, reduceIte, Nat.reduceEqDiff, Nat.reduceAdd, Nat.reduceSub, Nat.reduceMul, Nat.reduceLT, Nat.reduceLeDiff, Nat.reducePow, Int.reduceToNat, Int.reduceLT, Int.reduceLE, Int.reduceEq, Int.reduceNe, Int.reduceAdd, Int.reduceSub, Int.reduceMul, Int.reduceNeg, ]
  refine vwq_loop (fun v => ∃ (j : Nat) (l : List Gu) (s : Int) (t : Tk), j ≤ i.1 ∧ l.length = j ∧ listF (gdF b) (i.1 - j) l s = V ∧ TW 10 t v.ω ∧ v.β q = some (rkC tk b s) ∧ v.σ 2 = .clo (.func 18) [.pb q 0] [] ∧ v.σ 7 = .sl t (l.map guD) ∧ v.σ 10 = .int .i64 i.1 ∧ v.σ 11 = .int .i64 j) (fun v => i.1 - (ival (v.σ 11)).toNat) ⟨0, [], _, .full, by omega, rfl, hV, TW.full 10, eq, rfl, rfl, rfl, rfl⟩ ?_
  clear hV eq
  rintro σ β ω ⟨j, l, s, t, hj, hl, hV, hw, eq, q2, q7, q10, q11⟩
  dsimp only at hw eq q2 q7 q10 q11
  have hto := hw.ok
  have htg := hw.gone
  try simp only [go_sem, reduceIte, Nat.reduceEqDiff, Nat.reduceAdd, Nat.reduceSub, Nat.reduceMul, Nat.reduceLT, Nat.reduceLeDiff, Nat.reducePow, Int.reduceToNat, Int.reduceLT, Int.reduceLE, Int.reduceEq, Int.reduceNe, Int.reduceAdd, Int.reduceSub, Int.reduceMul, Int.reduceNeg, q2, q7, q10, q11]
  refine cd_dec (fun g => ?_) (fun g => ?_)
  · have wj := wrap_i64 (x := (j : Int) + 1) (by omega) (by omega)
    obtain ⟨n', hn'⟩ : ∃ n', i.1 - j = n' + 1 := ⟨i.1 - j - 1, by omega⟩
    rw [hn', listF] at hV
    try simp only [go_sem, reduceIte, Nat.reduceEqDiff, Nat.reduceAdd, Nat.reduceSub, Nat.reduceMul, Nat.reduceLT, Nat.reduceLeDiff, Nat.reducePow, Int.reduceToNat, Int.reduceLT, Int.reduceLE, Int.reduceEq, Int.reduceNe, Int.reduceAdd, Int.reduceSub, Int.reduceMul, Int.reduceNeg, q2, q7, q10, q11]
    have hc := pguard_ok (G := G) tk b s hb hbl
    unfold VRd at hc
    generalize gdF b s = c at hV hc
    unfold VPP at hc
    refine cK_frp (hc q) (Part.var eq) (fun r β1 ω1 β' ω' hΦ hP _ hω => ?_) (fun r β1 ω1 β' ω' hΦ hP => ?_)
    · obtain ⟨hr, rfl, rfl⟩ := hΦ
      by_cases ke : c.2.2 = 0
      rotate_left
      · rw [rdO_pan ke] at hr; cases hr
      rw [if_pos ke] at hV
      rw [rdO_ret ke] at hr
      cases hr
      have eq' : β' q = some (rkC tk b c.2.1) := hP.1 _ _ (hit_set rfl)
      have e9 : ω' = ω := by rw [hω]; simp [joinT]
      subst e9
      try simp only [go_sem, reduceIte, Nat.reduceEqDiff, Nat.reduceAdd, Nat.reduceSub, Nat.reduceMul, Nat.reduceLT, Nat.reduceLeDiff, Nat.reducePow, Int.reduceToNat, Int.reduceLT, Int.reduceLE, Int.reduceEq, Int.reduceNe, Int.reduceAdd, Int.reduceSub, Int.reduceMul, Int.reduceNeg, q2, q7, q10, q11, hto, htg, wj]
      refine ⟨⟨trivial, rfl, rfl⟩, ⟨rfl, rfl⟩, fun x hx => ?_, by simp only [List.length_map]; omega, fun t' _ => ⟨⟨j + 1, l ++ [c.1], c.2.1, .live t' 10, by omega, by simp [hl], ?_, TW.live 10 t', eq', ?_⟩, by omega⟩⟩
      · obtain ⟨y, _, rfl⟩ := List.mem_map.1 hx
        rfl
      · rw [show i.1 - (j + 1) = n' by omega]; exact hV
      · exact ⟨by rw [List.map_append]; rfl, rfl⟩
    · obtain ⟨hr, rfl, rfl⟩ := hΦ
      by_cases ke : c.2.2 = 0
      · rw [rdO_ret ke] at hr; cases hr
      rw [if_neg ke] at hV
      rw [rdO_pan ke] at hr
      cases hr
      subst hV
      try simp only [go_sem, reduceIte, Nat.reduceEqDiff, Nat.reduceAdd, Nat.reduceSub, Nat.reduceMul, Nat.reduceLT, Nat.reduceLeDiff, Nat.reducePow, Int.reduceToNat, Int.reduceLT, Int.reduceLE, Int.reduceEq, Int.reduceNe, Int.reduceAdd, Int.reduceSub, Int.reduceMul, Int.reduceNeg, ]
      exact r1Q_bad ke (hP.1 _ _ (hit_set rfl))
  · try simp only [go_sem, reduceIte, Nat.reduceEqDiff, Nat.reduceAdd, Nat.reduceSub, Nat.reduceMul, Nat.reduceLT, Nat.reduceLeDiff, Nat.reducePow, Int.reduceToNat, Int.reduceLT, Int.reduceLE, Int.reduceEq, Int.reduceNe, Int.reduceAdd, Int.reduceSub, Int.reduceMul, Int.reduceNeg, q2, q7, q10, q11]
    obtain rfl : j = i.1 := by omega
    rw [Nat.sub_self, listF] at hV
    subst hV
    exact r1Q_ok rfl (by simp [D.er, D.er1]) eq
end Go.Proofs.YtpblgfgcoamgmaaS
