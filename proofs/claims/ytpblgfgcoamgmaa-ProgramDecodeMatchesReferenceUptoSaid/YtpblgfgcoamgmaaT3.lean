/-
  Programs (package program): the readers of rows, guards and lists of them.
  Conditions: the bytes are at most 1099511627776.
-/
import Derived.Test.YtpblgfgcoamgmaaT2
set_option linter.unusedVariables false
set_option linter.unusedSimpArgs false
namespace Go.Proofs.YtpblgfgcoamgmaaS
open Go Go.Proofs.YtpblgfgcoamgmaaV

variable {G : Heap}
attribute [local irreducible] VN VC VX VQ VY VW VTA VT0 VPP

/-- What reading comes to, with the memory of a reader. -/
def r1Q (q : Nat) (tk : Tk) (b : List Nat) (d : D) (p e : Int) (o : Out) (β : Heap) (ω : List Nat) : Prop := o = rdO d e ∧ β = Heap.nil.set q (rkC tk b p) ∧ ω = []
theorem r1Q_bad {q : Nat} {tk : Tk} {b : List Nat} {d : D} {p e : Int} {β : Heap} {ω : List Nat} (he : ¬ e = 0) (hq : β q = some (rkC tk b p)) : finP (r1Q q tk b d p e) (errD e) β ω :=
  finP_var hq (show _ ∧ _ from ⟨(rdO_pan he).symm, rfl, rfl⟩)
theorem r1Q_ok {q : Nat} {tk : Tk} {b : List Nat} {d d' : D} {p e : Int} {β : Heap} {ω : List Nat} (he : e = 0) (hd : d'.er = d) (hq : β q = some (rkC tk b p)) : finK (r1Q q tk b d p e) d' β ω :=
  finK_var hq (show _ ∧ _ from ⟨by rw [rdO_ret he, hd], rfl, rfl⟩)
def rowF (b : List Nat) (p : Int) : Rw × Int × Int := ((cellsF b (0, p)).1, (cellsF b (0, p)).2.1.2, (cellsF b (0, p)).2.2)
theorem prow_ok (tk : Tk) (b : List Nat) (p : Int) (hb : Byt b) : VRd P G 16 [] tk b p (rwD (rowF b p).1) (rowF b p).2.1 (rowF b p).2.2 := by
  have hc := fun q br bp h1 h2 h3 => cells_ok (G := G) tk b hb 0 p (q := q) (br := br) (bp := bp) h1 h2 h3
  unfold VRd rowF
  dsimp only
  generalize cellsF b (0, p) = c at hc ⊢
  unfold VPP
  intro q
  refine VC.ofc (fun | 99999999 => [(0, [0, 1, 2, 3])] | _ => []) [.cell 2 43] mixed Try.func16 rfl rfl rfl rfl (by decide +kernel) (by simp) ?_
  generalize hβ : Heap.set Heap.nil q (rkC tk b p) = β0
  have eq : β0 q = some (rkC tk b p) := hit_set hβ
  clear hβ
  have N := trivial
  try simp only [go_sem, reduceIte, Nat.reduceEqDiff, Nat.reduceAdd, Nat.reduceSub, Nat.reduceMul, Nat.reduceLT, Nat.reduceLeDiff, Nat.reducePow, Int.reduceToNat, Int.reduceLT, Int.reduceLE, Int.reduceEq, Int.reduceNe, Int.reduceAdd, Int.reduceSub, Int.reduceMul, Int.reduceNeg, ]
  refine new_any fun b1 hb1 => ?_
  have N := And.intro N (box_ne hb1 eq)
  generalize hβ_ : Heap.set _ b1 _ = β_
  have e1 := hit_set hβ_
  have eq := keep_new hβ_ hb1 eq
  clear hβ_ hb1
  try simp only [go_sem, reduceIte, Nat.reduceEqDiff, Nat.reduceAdd, Nat.reduceSub, Nat.reduceMul, Nat.reduceLT, Nat.reduceLeDiff, Nat.reducePow, Int.reduceToNat, Int.reduceLT, Int.reduceLE, Int.reduceEq, Int.reduceNe, Int.reduceAdd, Int.reduceSub, Int.reduceMul, Int.reduceNeg, N, eq, e1]
  refine new_any fun b2 hb2 => ?_
  have N := And.intro N (box_ne hb2 eq)
  have N := And.intro N (box_ne hb2 e1)
  generalize hβ_ : Heap.set _ b2 _ = β_
  have e2 := hit_set hβ_
  have eq := keep_new hβ_ hb2 eq
  have e1 := keep_new hβ_ hb2 e1
  clear hβ_ hb2
  try simp only [go_sem, reduceIte, Nat.reduceEqDiff, Nat.reduceAdd, Nat.reduceSub, Nat.reduceMul, Nat.reduceLT, Nat.reduceLeDiff, Nat.reducePow, Int.reduceToNat, Int.reduceLT, Int.reduceLE, Int.reduceEq, Int.reduceNe, Int.reduceAdd, Int.reduceSub, Int.reduceMul, Int.reduceNeg, N, eq, e1, e2]
  refine new_any fun b3 hb3 => ?_
  have N := And.intro N (box_ne hb3 eq)
  have N := And.intro N (box_ne hb3 e1)
  have N := And.intro N (box_ne hb3 e2)
  generalize hβ_ : Heap.set _ b3 _ = β_
  have e3 := hit_set hβ_
  have eq := keep_new hβ_ hb3 eq
  have e1 := keep_new hβ_ hb3 e1
  have e2 := keep_new hβ_ hb3 e2
  clear hβ_ hb3
  try simp only [go_sem, reduceIte, Nat.reduceEqDiff, Nat.reduceAdd, Nat.reduceSub, Nat.reduceMul, Nat.reduceLT, Nat.reduceLeDiff, Nat.reducePow, Int.reduceToNat, Int.reduceLT, Int.reduceLE, Int.reduceEq, Int.reduceNe, Int.reduceAdd, Int.reduceSub, Int.reduceMul, Int.reduceNeg, N, eq, e1, e2, e3]
  refine cK_frp (hc q b1 b3 (by simp [N]) (by simp [N]) (by simp [N])) (H3_part eq e1 e3) (fun r β1 ω1 β' ω' hΦ hP hk hω => ?_) (fun r β1 ω1 β' ω' hΦ hP => ?_)
  · obtain ⟨rfl, hΦ⟩ := hΦ
    by_cases ke : c.2.2 = 0
    rotate_left
    · rw [if_neg ke] at hΦ; cases hΦ.1
    rw [if_pos ke] at hΦ
    obtain ⟨hr, rfl⟩ := hΦ
    cases hr
    obtain ⟨eq', e1', e3'⟩ := H3_get (by simp [N]) (by simp [N]) (by simp [N]) hP
    have e2' := hk b2 _ e2 (by simp [H3, Heap.set, N]; rfl)
    try simp only [go_sem, reduceIte, Nat.reduceEqDiff, Nat.reduceAdd, Nat.reduceSub, Nat.reduceMul, Nat.reduceLT, Nat.reduceLeDiff, Nat.reducePow, Int.reduceToNat, Int.reduceLT, Int.reduceLE, Int.reduceEq, Int.reduceNe, Int.reduceAdd, Int.reduceSub, Int.reduceMul, Int.reduceNeg, N, e1', e2']
    refine finK_var (b := q) (x := rkC tk b c.2.1.2) (by simp [Heap.set, N, eq']) ⟨?_, rfl, rfl⟩
    rw [rdO_ret ke]
    rfl
  · obtain ⟨rfl, hΦ⟩ := hΦ
    by_cases ke : c.2.2 = 0
    · rw [if_pos ke] at hΦ; cases hΦ.1
    rw [if_neg ke] at hΦ
    obtain ⟨hr, rfl⟩ := hΦ
    cases hr
    try simp only [go_sem, reduceIte, Nat.reduceEqDiff, Nat.reduceAdd, Nat.reduceSub, Nat.reduceMul, Nat.reduceLT, Nat.reduceLeDiff, Nat.reducePow, Int.reduceToNat, Int.reduceLT, Int.reduceLE, Int.reduceEq, Int.reduceNe, Int.reduceAdd, Int.reduceSub, Int.reduceMul, Int.reduceNeg, ]
    refine finP_var (b := q) (cs := rkC tk b c.2.1.2) (hP.1 _ _ (by simp [Heap.set])) ⟨?_, rfl, rfl⟩
    rw [rdO_pan ke]
def rowsF (b : List Nat) (p : Int) : List Rw × Int × Int :=
  if (numF b 4096 p).2.2 = 0 then listF (rowF b) (numF b 4096 p).1 [] (numF b 4096 p).2.1 else ([], (numF b 4096 p).2.1, (numF b 4096 p).2.2)
theorem prows_ok (tk : Tk) (b : List Nat) (p : Int) (hb : Byt b) : VPP P G 15 (fun q => [.pb q 0, .int .i64 4096, .clo (.func 16) [.pb q 0] []]) (rkC tk b p) (rdO (.sl .none ((rowsF b p).1.map rwD)) (rowsF b p).2.2) (rkC tk b (rowsF b p).2.1) := by
  have hi := pnumber_ok (G := G) tk b p hb 4096 (by omega)
  unfold VRd at hi
  have hle := numF_le (b := b) (lim := 4096) (p := p)
  obtain ⟨V, hV⟩ : ∃ V, rowsF b p = V := ⟨_, rfl⟩
  rw [hV]
  unfold rowsF at hV
  generalize numF b 4096 p = i at hi hle hV
  unfold VPP
  intro q
  show VC _ _ _ _ _ _ (r1Q q tk b (.sl .none (V.1.map rwD)) V.2.1 V.2.2)
  refine VC.ofs (fun | 99999999 => [(0, [0, 1, 2, 6, 7, 10, 11, 12])] | _ => []) [6] mixed Try.func15 rfl rfl rfl rfl (by decide +kernel) (by simp) ?_
  generalize hβ : Heap.set Heap.nil q (rkC tk b p) = β0
  have eq : β0 q = some (rkC tk b p) := hit_set hβ
  clear hβ
  try simp only [go_sem, reduceIte, Nat.reduceEqDiff, Nat.reduceAdd, Nat.reduceSub, Nat.reduceMul, Nat.reduceLT, Nat.reduceLeDiff, Nat.reducePow, Int.reduceToNat, Int.reduceLT, Int.reduceLE, Int.reduceEq, Int.reduceNe, Int.reduceAdd, Int.reduceSub, Int.reduceMul, Int.reduceNeg, ]
  refine cK_pp hi eq ?_
  generalize hβ_ : Heap.set _ q _ = β_
  have eq := hit_set hβ_
  clear hβ_
  by_cases k : i.2.2 = 0
  rotate_left
  · rw [rdO_pan k]
    rw [if_neg k] at hV
    subst hV
    try simp only [go_sem, reduceIte, Nat.reduceEqDiff, Nat.reduceAdd, Nat.reduceSub, Nat.reduceMul, Nat.reduceLT, Nat.reduceLeDiff, Nat.reducePow, Int.reduceToNat, Int.reduceLT, Int.reduceLE, Int.reduceEq, Int.reduceNe, Int.reduceAdd, Int.reduceSub, Int.reduceMul, Int.reduceNeg, ]
    exact r1Q_bad k eq
  rw [rdO_ret k]
  rw [if_pos k] at hV
  have hle := hle k
  try simp only [go_sem, reduceIte, Nat.reduceEqDiff, Nat.reduceAdd, Nat.reduceSub, Nat.reduceMul, Nat.reduceLT, Nat.reduceLeDiff, Nat.reducePow, Int.reduceToNat, Int.reduceLT, Int.reduceLE, Int.reduceEq, Int.reduceNe, Int.reduceAdd, Int.reduceSub, Int.reduceMul, Int.reduceNeg, ]
  refine vwq_loop (fun v => ∃ (j : Nat) (l : List Rw) (s : Int) (t : Tk), j ≤ i.1 ∧ l.length = j ∧ listF (rowF b) (i.1 - j) l s = V ∧ TW 1 t v.ω ∧ v.β q = some (rkC tk b s) ∧ v.σ 2 = .clo (.func 16) [.pb q 0] [] ∧ v.σ 7 = .sl t (l.map rwD) ∧ v.σ 10 = .int .i64 i.1 ∧ v.σ 11 = .int .i64 j) (fun v => i.1 - (ival (v.σ 11)).toNat) ⟨0, [], _, .full, by omega, rfl, hV, TW.full 1, eq, rfl, rfl, rfl, rfl⟩ ?_
  clear hV eq
  rintro σ β ω ⟨j, l, s, t, hj, hl, hV, hw, eq, q2, q7, q10, q11⟩
  dsimp only at hw eq q2 q7 q10 q11
  have hto := hw.ok
  have htg := hw.gone
  try simp only [go_sem, reduceIte, Nat.reduceEqDiff, Nat.reduceAdd, Nat.reduceSub, Nat.reduceMul, Nat.reduceLT, Nat.reduceLeDiff, Nat.reducePow, Int.reduceToNat, Int.reduceLT, Int.reduceLE, Int.reduceEq, Int.reduceNe, Int.reduceAdd, Int.reduceSub, Int.reduceMul, Int.reduceNeg, q2, q7, q10, q11]
  refine cd_dec (fun g => ?_) (fun g => ?_)
  · have wj := wrap_i64 (x := (j : Int) + 1) (by omega) (by omega)
    obtain ⟨n', hn'⟩ : ∃ n', i.1 - j = n' + 1 := ⟨i.1 - j - 1, by omega⟩
    rw [hn', listF] at hV
    try simp only [go_sem, reduceIte, Nat.reduceEqDiff, Nat.reduceAdd, Nat.reduceSub, Nat.reduceMul, Nat.reduceLT, Nat.reduceLeDiff, Nat.reducePow, Int.reduceToNat, Int.reduceLT, Int.reduceLE, Int.reduceEq, Int.reduceNe, Int.reduceAdd, Int.reduceSub, Int.reduceMul, Int.reduceNeg, q2, q7, q10, q11]
    have hc := prow_ok (G := G) tk b s hb
    unfold VRd at hc
    generalize rowF b s = c at hV hc
    unfold VPP at hc
    refine cK_frp (hc q) (Part.var eq) (fun r β1 ω1 β' ω' hΦ hP _ hω => ?_) (fun r β1 ω1 β' ω' hΦ hP => ?_)
    · obtain ⟨hr, rfl, rfl⟩ := hΦ
      by_cases ke : c.2.2 = 0
      rotate_left
      · rw [rdO_pan ke] at hr; cases hr
      rw [if_pos ke] at hV
      rw [rdO_ret ke] at hr
      cases hr
      have eq' : β' q = some (rkC tk b c.2.1) := hP.1 _ _ (hit_set rfl)
      have e9 : ω' = ω := by rw [hω]; simp [joinT]
      subst e9
      try simp only [go_sem, reduceIte, Nat.reduceEqDiff, Nat.reduceAdd, Nat.reduceSub, Nat.reduceMul, Nat.reduceLT, Nat.reduceLeDiff, Nat.reducePow, Int.reduceToNat, Int.reduceLT, Int.reduceLE, Int.reduceEq, Int.reduceNe, Int.reduceAdd, Int.reduceSub, Int.reduceMul, Int.reduceNeg, q2, q7, q10, q11, hto, htg, wj]
      refine ⟨⟨trivial, rfl, rfl⟩, ⟨rfl, rfl⟩, fun x hx => ?_, by simp only [List.length_map]; omega, fun t' _ => ⟨⟨j + 1, l ++ [c.1], c.2.1, .live t' 1, by omega, by simp [hl], ?_, TW.live 1 t', eq', ?_⟩, by omega⟩⟩
      · obtain ⟨y, _, rfl⟩ := List.mem_map.1 hx
        rfl
      · rw [show i.1 - (j + 1) = n' by omega]; exact hV
      · exact ⟨by rw [List.map_append]; rfl, rfl⟩
    · obtain ⟨hr, rfl, rfl⟩ := hΦ
      by_cases ke : c.2.2 = 0
      · rw [rdO_ret ke] at hr; cases hr
      rw [if_neg ke] at hV
      rw [rdO_pan ke] at hr
      cases hr
      subst hV
      try simp only [go_sem, reduceIte, Nat.reduceEqDiff, Nat.reduceAdd, Nat.reduceSub, Nat.reduceMul, Nat.reduceLT, Nat.reduceLeDiff, Nat.reducePow, Int.reduceToNat, Int.reduceLT, Int.reduceLE, Int.reduceEq, Int.reduceNe, Int.reduceAdd, Int.reduceSub, Int.reduceMul, Int.reduceNeg, ]
      exact r1Q_bad ke (hP.1 _ _ (hit_set rfl))
  · try simp only [go_sem, reduceIte, Nat.reduceEqDiff, Nat.reduceAdd, Nat.reduceSub, Nat.reduceMul, Nat.reduceLT, Nat.reduceLeDiff, Nat.reducePow, Int.reduceToNat, Int.reduceLT, Int.reduceLE, Int.reduceEq, Int.reduceNe, Int.reduceAdd, Int.reduceSub, Int.reduceMul, Int.reduceNeg, q2, q7, q10, q11]
    obtain rfl : j = i.1 := by omega
    rw [Nat.sub_self, listF] at hV
    subst hV
    exact r1Q_ok rfl (by simp [D.er, D.er1]) eq
end Go.Proofs.YtpblgfgcoamgmaaS
