/-
  Programs (package program): the readers of rows.
  Conditions: the bytes are at most 281474976710656.
-/
import Derived.Test.YtpblgfgcoamgmaaT1
set_option linter.unusedVariables false
set_option linter.unusedSimpArgs false
namespace Go.Proofs.YtpblgfgcoamgmaaS
open Go Go.Proofs.YtpblgfgcoamgmaaV

variable {G : Heap}
attribute [local irreducible] VN VC VX VQ VY VW VTA VT0 VPP

/-- The memory of a row's reader: the reader, the variable that holds its address, the number before. -/
def H3 (q br bp : Nat) (tk : Tk) (b : List Nat) (p prev : Int) : Heap := ((Heap.nil.set q (rkC tk b p)).set br [.pb q 0]).set bp [.int .i64 prev]
/-- A cell: what is read, where the reader stands behind, the error. -/
def cellF (b : List Nat) (prev p : Int) : Cl × Int × Int :=
  let i := idF b prev p
  if i.2.2 ≠ 0 then ((0, Vl.zero), i.2.1, i.2.2) else
  let n := rS b i.2.1
  if n.2.2 ≠ 0 then ((0, Vl.zero), n.2.1, n.2.2) else
  let t := rT b n.2.1
  if t.2.2 ≠ 0 then ((0, Vl.zero), t.2.1, t.2.2) else
  if 200 < (t.1.size : Int) then ((0, Vl.zero), t.2.1, 2) else (((i.1 : Int), ⟨false, n.1, t.1⟩), t.2.1, 0)
/-- What reading comes to, with the memory of a row's reader. -/
def r3Q (q br bp : Nat) (tk : Tk) (b : List Nat) (d : D) (prev p e : Int) (o : Out) (β : Heap) (ω : List Nat) : Prop :=
  ω = [] ∧ if e = 0 then o = .ret d ∧ β = H3 q br bp tk b p prev else o = .pan (errD e) ∧ β = Heap.nil.set q (rkC tk b p)
theorem r3Q_bad {q br bp : Nat} {tk : Tk} {b : List Nat} {d : D} {prev p e : Int} {β : Heap} {ω : List Nat} (he : ¬ e = 0) (hq : β q = some (rkC tk b p)) : finP (r3Q q br bp tk b d prev p e) (errD e) β ω :=
  finP_var hq ⟨rfl, by rw [if_neg he]; exact ⟨rfl, rfl⟩⟩
theorem r3Q_ok {q br bp : Nat} {tk : Tk} {b : List Nat} {d d' : D} {prev p e : Int} {β : Heap} {ω : List Nat} (he : e = 0) (hd : d'.er = d) (hq : β q = some (rkC tk b p)) (hr : β br = some [.pb q 0]) (hp : β bp = some [.int .i64 prev]) : finK (r3Q q br bp tk b d prev p e) d' β ω := by
  refine ⟨d, H3 q br bp tk b p prev, [], hd ▸ Wk.er d', fun b' cs h => ?_, fun _ h => (List.not_mem_nil h).elim, rfl, by rw [if_pos he]; exact ⟨rfl, rfl⟩⟩
  unfold H3 Heap.set at h
  split at h
  · rename_i e1; subst e1; cases h; exact hp
  · split at h
    · rename_i e1; subst e1; cases h; exact hr
    · split at h
      · rename_i e1; subst e1; cases h; exact hq
      · cases h
theorem cell_ok (tk : Tk) (b : List Nat) (hb : Byt b) (prev p : Int) {q br bp : Nat} (h1 : q ≠ br) (h2 : q ≠ bp) (h3 : br ≠ bp) :
    VC P G 37 [.pb br 0, .pb bp 0] (H3 q br bp tk b p prev) [] (r3Q q br bp tk b (clD (cellF b prev p).1) (cellF b prev p).1.1 (cellF b prev p).2.1 (cellF b prev p).2.2) := by
  have hi := pid_ok (G := G) tk b p hb prev
  unfold VRd at hi
  unfold cellF
  generalize idF b prev p = i at hi ⊢
  refine VC.ofc (fun | 99999999 => [(0, [0, 1, 2, 3, 21])] | _ => []) [.cell 2 40] mixed Try.func37 rfl rfl rfl rfl (by decide +kernel) (by simp) ?_
  have eq : H3 q br bp tk b p prev q = some (rkC tk b p) := by simp [H3, Heap.set, h1, h2]
  have er : H3 q br bp tk b p prev br = some [.pb q 0] := by simp [H3, Heap.set, h3]
  have ep : H3 q br bp tk b p prev bp = some [.int .i64 prev] := by simp [H3, Heap.set]
  generalize hH : H3 q br bp tk b p prev = β0 at eq er ep ⊢
  have N : q ≠ br ∧ br ≠ q ∧ q ≠ bp ∧ bp ≠ q ∧ br ≠ bp ∧ bp ≠ br := ⟨h1, h1.symm, h2, h2.symm, h3, h3.symm⟩
  have eq0 := eq
  have er0 := er
  have ep0 := ep
  try simp only [go_sem, reduceIte, Nat.reduceEqDiff, Nat.reduceAdd, Nat.reduceSub, Nat.reduceMul, Nat.reduceLT, Nat.reduceLeDiff, Nat.reducePow, Int.reduceToNat, Int.reduceLT, Int.reduceLE, Int.reduceEq, Int.reduceNe, Int.reduceAdd, Int.reduceSub, Int.reduceMul, Int.reduceNeg, ]
  refine new_any fun b2 hb2 => ?_
  have N := And.intro N (box_ne hb2 eq)
  have N := And.intro N (box_ne hb2 er)
  have N := And.intro N (box_ne hb2 ep)
  generalize hβ_ : Heap.set _ b2 _ = β_
  have e2 := hit_set hβ_
  have eq := keep_new hβ_ hb2 eq
  have er := keep_new hβ_ hb2 er
  have ep := keep_new hβ_ hb2 ep
  clear hβ_ hb2
  try simp only [go_sem, reduceIte, Nat.reduceEqDiff, Nat.reduceAdd, Nat.reduceSub, Nat.reduceMul, Nat.reduceLT, Nat.reduceLeDiff, Nat.reducePow, Int.reduceToNat, Int.reduceLT, Int.reduceLE, Int.reduceEq, Int.reduceNe, Int.reduceAdd, Int.reduceSub, Int.reduceMul, Int.reduceNeg, N, eq0, er0, ep0, eq, er, ep]
  refine cK_pp hi eq ?_
  generalize hβ_ : Heap.set _ q _ = β_
  have er := keep_ne hβ_ (by simp [N]) er
  have ep := keep_ne hβ_ (by simp [N]) ep
  have e2 := keep_ne hβ_ (by simp [N]) e2
  have eq := hit_set hβ_
  clear hβ_
  by_cases k : i.2.2 = 0
  rotate_left
  · rw [rdO_pan k]
    simp only [ne_eq, k, not_false_eq_true, if_true]
    try simp only [go_sem, reduceIte, Nat.reduceEqDiff, Nat.reduceAdd, Nat.reduceSub, Nat.reduceMul, Nat.reduceLT, Nat.reduceLeDiff, Nat.reducePow, Int.reduceToNat, Int.reduceLT, Int.reduceLE, Int.reduceEq, Int.reduceNe, Int.reduceAdd, Int.reduceSub, Int.reduceMul, Int.reduceNeg, ]
    exact r3Q_bad k eq
  rw [rdO_ret k]
  simp only [ne_eq, k, not_true_eq_false, if_false]
  have hn := preadS_ok (G := G) tk b i.2.1 hb
  unfold VRd at hn
  generalize rS b i.2.1 = n at hn ⊢
  try simp only [go_sem, reduceIte, Nat.reduceEqDiff, Nat.reduceAdd, Nat.reduceSub, Nat.reduceMul, Nat.reduceLT, Nat.reduceLeDiff, Nat.reducePow, Int.reduceToNat, Int.reduceLT, Int.reduceLE, Int.reduceEq, Int.reduceNe, Int.reduceAdd, Int.reduceSub, Int.reduceMul, Int.reduceNeg, N, er, ep, eq]
  generalize hβ_ : Heap.set _ bp _ = β_
  have er := keep_ne hβ_ (by simp [N]) er
  have eq := keep_ne hβ_ (by simp [N]) eq
  have e2 := keep_ne hβ_ (by simp [N]) e2
  have ep := hit_set hβ_
  clear hβ_
  try simp only [go_sem, reduceIte, Nat.reduceEqDiff, Nat.reduceAdd, Nat.reduceSub, Nat.reduceMul, Nat.reduceLT, Nat.reduceLeDiff, Nat.reducePow, Int.reduceToNat, Int.reduceLT, Int.reduceLE, Int.reduceEq, Int.reduceNe, Int.reduceAdd, Int.reduceSub, Int.reduceMul, Int.reduceNeg, N, er, ep, eq]
  refine new_any fun b3 hb3 => ?_
  have N := And.intro N (box_ne hb3 eq)
  have N := And.intro N (box_ne hb3 er)
  have N := And.intro N (box_ne hb3 ep)
  have N := And.intro N (box_ne hb3 e2)
  generalize hβ_ : Heap.set _ b3 _ = β_
  have e3 := hit_set hβ_
  have eq := keep_new hβ_ hb3 eq
  have er := keep_new hβ_ hb3 er
  have ep := keep_new hβ_ hb3 ep
  have e2 := keep_new hβ_ hb3 e2
  clear hβ_ hb3
  try simp only [go_sem, reduceIte, Nat.reduceEqDiff, Nat.reduceAdd, Nat.reduceSub, Nat.reduceMul, Nat.reduceLT, Nat.reduceLeDiff, Nat.reducePow, Int.reduceToNat, Int.reduceLT, Int.reduceLE, Int.reduceEq, Int.reduceNe, Int.reduceAdd, Int.reduceSub, Int.reduceMul, Int.reduceNeg, N, er, ep, eq]
  refine cK_pp hn eq ?_
  generalize hβ_ : Heap.set _ q _ = β_
  have er := keep_ne hβ_ (by simp [N]) er
  have ep := keep_ne hβ_ (by simp [N]) ep
  have e2 := keep_ne hβ_ (by simp [N]) e2
  have e3 := keep_ne hβ_ (by simp [N]) e3
  have eq := hit_set hβ_
  clear hβ_
  by_cases k : n.2.2 = 0
  rotate_left
  · rw [rdO_pan k]
    simp only [k, not_false_eq_true, if_true]
    try simp only [go_sem, reduceIte, Nat.reduceEqDiff, Nat.reduceAdd, Nat.reduceSub, Nat.reduceMul, Nat.reduceLT, Nat.reduceLeDiff, Nat.reducePow, Int.reduceToNat, Int.reduceLT, Int.reduceLE, Int.reduceEq, Int.reduceNe, Int.reduceAdd, Int.reduceSub, Int.reduceMul, Int.reduceNeg, ]
    exact r3Q_bad k eq
  rw [rdO_ret k]
  simp only [k, not_true_eq_false, if_false]
  have ht := preadT_ok (G := G) tk b n.2.1 hb
  unfold VRd at ht
  generalize rT b n.2.1 = t at ht ⊢
  try simp only [go_sem, reduceIte, Nat.reduceEqDiff, Nat.reduceAdd, Nat.reduceSub, Nat.reduceMul, Nat.reduceLT, Nat.reduceLeDiff, Nat.reducePow, Int.reduceToNat, Int.reduceLT, Int.reduceLE, Int.reduceEq, Int.reduceNe, Int.reduceAdd, Int.reduceSub, Int.reduceMul, Int.reduceNeg, N, er, ep, eq, e3]
  generalize hβ_ : Heap.set _ b3 _ = β_
  have eq := keep_ne hβ_ (by simp [N]) eq
  have er := keep_ne hβ_ (by simp [N]) er
  have ep := keep_ne hβ_ (by simp [N]) ep
  have e2 := keep_ne hβ_ (by simp [N]) e2
  have e3 := hit_set hβ_
  clear hβ_
  refine cK_pp ht eq ?_
  generalize hβ_ : Heap.set _ q _ = β_
  have er := keep_ne hβ_ (by simp [N]) er
  have ep := keep_ne hβ_ (by simp [N]) ep
  have e2 := keep_ne hβ_ (by simp [N]) e2
  have e3 := keep_ne hβ_ (by simp [N]) e3
  have eq := hit_set hβ_
  clear hβ_
  by_cases k : t.2.2 = 0
  rotate_left
  · rw [rdO_pan k]
    simp only [k, not_false_eq_true, if_true]
    try simp only [go_sem, reduceIte, Nat.reduceEqDiff, Nat.reduceAdd, Nat.reduceSub, Nat.reduceMul, Nat.reduceLT, Nat.reduceLeDiff, Nat.reducePow, Int.reduceToNat, Int.reduceLT, Int.reduceLE, Int.reduceEq, Int.reduceNe, Int.reduceAdd, Int.reduceSub, Int.reduceMul, Int.reduceNeg, ]
    exact r3Q_bad k eq
  rw [rdO_ret k]
  simp only [k, not_true_eq_false, if_false]
  try simp only [go_sem, reduceIte, Nat.reduceEqDiff, Nat.reduceAdd, Nat.reduceSub, Nat.reduceMul, Nat.reduceLT, Nat.reduceLeDiff, Nat.reducePow, Int.reduceToNat, Int.reduceLT, Int.reduceLE, Int.reduceEq, Int.reduceNe, Int.reduceAdd, Int.reduceSub, Int.reduceMul, Int.reduceNeg, N, er, ep, eq, e3]
  generalize hβ_ : Heap.set _ b3 _ = β_
  have eq := keep_ne hβ_ (by simp [N]) eq
  have er := keep_ne hβ_ (by simp [N]) er
  have ep := keep_ne hβ_ (by simp [N]) ep
  have e2 := keep_ne hβ_ (by simp [N]) e2
  have e3 := hit_set hβ_
  clear hβ_
  try simp only [go_sem, reduceIte, Nat.reduceEqDiff, Nat.reduceAdd, Nat.reduceSub, Nat.reduceMul, Nat.reduceLT, Nat.reduceLeDiff, Nat.reducePow, Int.reduceToNat, Int.reduceLT, Int.reduceLE, Int.reduceEq, Int.reduceNe, Int.reduceAdd, Int.reduceSub, Int.reduceMul, Int.reduceNeg, N, er, ep, eq, e3]
  refine cd_dec (fun h => ?_) (fun h => ?_)
  · simp only [h, if_true]
    try simp only [go_sem, reduceIte, Nat.reduceEqDiff, Nat.reduceAdd, Nat.reduceSub, Nat.reduceMul, Nat.reduceLT, Nat.reduceLeDiff, Nat.reducePow, Int.reduceToNat, Int.reduceLT, Int.reduceLE, Int.reduceEq, Int.reduceNe, Int.reduceAdd, Int.reduceSub, Int.reduceMul, Int.reduceNeg, ]
    refine cK_np (pfail_ok 2) ?_
    try simp only [go_sem, reduceIte, Nat.reduceEqDiff, Nat.reduceAdd, Nat.reduceSub, Nat.reduceMul, Nat.reduceLT, Nat.reduceLeDiff, Nat.reducePow, Int.reduceToNat, Int.reduceLT, Int.reduceLE, Int.reduceEq, Int.reduceNe, Int.reduceAdd, Int.reduceSub, Int.reduceMul, Int.reduceNeg, ]
    exact r3Q_bad (by decide) eq
  · simp only [h, if_false]
    try simp only [go_sem, reduceIte, Nat.reduceEqDiff, Nat.reduceAdd, Nat.reduceSub, Nat.reduceMul, Nat.reduceLT, Nat.reduceLeDiff, Nat.reducePow, Int.reduceToNat, Int.reduceLT, Int.reduceLE, Int.reduceEq, Int.reduceNe, Int.reduceAdd, Int.reduceSub, Int.reduceMul, Int.reduceNeg, N, er, ep, eq, e2, e3]
    generalize hβ_ : Heap.set _ b2 _ = β_
    have eq := keep_ne hβ_ (by simp [N]) eq
    have er := keep_ne hβ_ (by simp [N]) er
    have ep := keep_ne hβ_ (by simp [N]) ep
    have e2 := hit_set hβ_
    clear hβ_
    exact r3Q_ok rfl rfl eq er ep
/-! ### Lists -/
/-- A list: el reads one element; it stops at the first error. -/
def listF {α σ : Type} (el : σ → α × σ × Int) : Nat → List α → σ → List α × σ × Int
  | 0, l, s => (l, s, 0)
  | n + 1, l, s => if (el s).2.2 = 0 then listF el n (l ++ [(el s).1]) (el s).2.1 else (l, (el s).2.1, (el s).2.2)
section
variable {β0 : Heap} {ω0 : List Nat} {Φ0 : Out → Heap → List Nat → Prop} {args : List D} {d : D} {β : Heap} {ω : List Nat} {ops : Array Oper} {rest : List Oper} {Q : VE → St → Prop} {dst : Option Tmp} {σ : Sg}
/-- A call by a part of the memory that may panic. -/
theorem cK_frp {P : Program} (h : VCall P G d args β0 ω0 Φ0) (hp : Part β0 ω0 β ω)
    (hk : ∀ r β1 ω1 β' ω', Φ0 (.ret r) β1 ω1 → Part β1 ω1 β' ω' → (∀ b cs, β b = some cs → β0 b = none → β' b = some cs) → ω' = joinT ω ω0 ω1 → Ko P G ops rest Q dst σ r β' ω')
    (hq : ∀ r β1 ω1 β' ω', Φ0 (.pan r) β1 ω1 → Part β1 ω1 β' ω' → Q (.panic r) ⟨σ, β', ω'⟩) : cK P G d args β ω ops rest Q dst σ := by
  unfold cK callK
  refine (VCall.frame h hp).mono fun o β' ω' hf => ?_
  obtain ⟨β1, ω1, h1, h2, _, rfl, rfl⟩ := hf
  cases o with
  | ret r => exact hk r β1 ω1 _ _ h1 part_join (fun b cs e e0 => join_keep h2 e e0) rfl
  | pan r => exact hq r β1 ω1 _ _ h1 part_join
end
theorem H3_part {q br bp : Nat} {tk : Tk} {b : List Nat} {prev p : Int} {β : Heap} {ω : List Nat} (hq : β q = some (rkC tk b p)) (hr : β br = some [.pb q 0]) (hp : β bp = some [.int .i64 prev]) : Part (H3 q br bp tk b p prev) [] β ω := by
  refine ⟨fun b' cs h => ?_, fun t ht => by simp at ht⟩
  unfold H3 Heap.set at h
  split at h
  · rename_i e1; subst e1; cases h; exact hp
  · split at h
    · rename_i e1; subst e1; cases h; exact hr
    · split at h
      · rename_i e1; subst e1; cases h; exact hq
      · cases h
theorem H3_get {q br bp : Nat} {tk : Tk} {b : List Nat} {prev p : Int} {β : Heap} {ω : List Nat} (h1 : q ≠ br) (h2 : q ≠ bp) (h3 : br ≠ bp) (h : Part (H3 q br bp tk b p prev) [] β ω) : β q = some (rkC tk b p) ∧ β br = some [.pb q 0] ∧ β bp = some [.int .i64 prev] :=
  ⟨h.1 _ _ (by simp [H3, Heap.set, h1, h2]), h.1 _ _ (by simp [H3, Heap.set, h3]), h.1 _ _ (by simp [H3, Heap.set])⟩
/-- One cell, from the state (the number before, the position). -/
def elC (b : List Nat) (s : Int × Int) : Cl × (Int × Int) × Int := ((cellF b s.1 s.2).1, ((cellF b s.1 s.2).1.1, (cellF b s.1 s.2).2.1), (cellF b s.1 s.2).2.2)
def cellsF (b : List Nat) (s : Int × Int) : List Cl × (Int × Int) × Int :=
  if (numF b 64 s.2).2.2 = 0 then listF (elC b) (numF b 64 s.2).1 [] (s.1, (numF b 64 s.2).2.1) else ([], (s.1, (numF b 64 s.2).2.1), (numF b 64 s.2).2.2)
theorem cells_ok (tk : Tk) (b : List Nat) (hb : Byt b) (prev p : Int) {q br bp : Nat} (h1 : q ≠ br) (h2 : q ≠ bp) (h3 : br ≠ bp) :
    VC P G 36 [.pb q 0, .int .i64 64, .clo (.func 37) [] [.pb br 0, .pb bp 0]] (H3 q br bp tk b p prev) [] (r3Q q br bp tk b (.sl .none ((cellsF b (prev, p)).1.map clD)) (cellsF b (prev, p)).2.1.1 (cellsF b (prev, p)).2.1.2 (cellsF b (prev, p)).2.2) := by
  have hi := pnumber_ok (G := G) tk b p hb 64 (by omega)
  unfold VRd at hi
  have hle := numF_le (b := b) (lim := 64) (p := p)
  obtain ⟨V, hV⟩ : ∃ V, cellsF b (prev, p) = V := ⟨_, rfl⟩
  rw [hV]
  unfold cellsF at hV
  dsimp only at hV
  generalize numF b 64 p = i at hi hle hV
  refine VC.ofs (fun | 99999999 => [(0, [0, 1, 2, 6, 7, 10, 11, 12])] | _ => []) [6] mixed Try.func36 rfl rfl rfl rfl (by decide +kernel) (by simp) ?_
  have eq : H3 q br bp tk b p prev q = some (rkC tk b p) := by simp [H3, Heap.set, h1, h2]
  have er : H3 q br bp tk b p prev br = some [.pb q 0] := by simp [H3, Heap.set, h3]
  have ep : H3 q br bp tk b p prev bp = some [.int .i64 prev] := by simp [H3, Heap.set]
  generalize hH : H3 q br bp tk b p prev = β0 at eq er ep ⊢
  have N : q ≠ br ∧ br ≠ q ∧ q ≠ bp ∧ bp ≠ q ∧ br ≠ bp ∧ bp ≠ br := ⟨h1, h1.symm, h2, h2.symm, h3, h3.symm⟩
  try simp only [go_sem, reduceIte, Nat.reduceEqDiff, Nat.reduceAdd, Nat.reduceSub, Nat.reduceMul, Nat.reduceLT, Nat.reduceLeDiff, Nat.reducePow, Int.reduceToNat, Int.reduceLT, Int.reduceLE, Int.reduceEq, Int.reduceNe, Int.reduceAdd, Int.reduceSub, Int.reduceMul, Int.reduceNeg, ]
  refine cK_pp hi eq ?_
  generalize hβ_ : Heap.set _ q _ = β_
  have er := keep_ne hβ_ (by simp [N]) er
  have ep := keep_ne hβ_ (by simp [N]) ep
  have eq := hit_set hβ_
  clear hβ_
  by_cases k : i.2.2 = 0
  rotate_left
  · rw [rdO_pan k]
    rw [if_neg k] at hV
    subst hV
    try simp only [go_sem, reduceIte, Nat.reduceEqDiff, Nat.reduceAdd, Nat.reduceSub, Nat.reduceMul, Nat.reduceLT, Nat.reduceLeDiff, Nat.reducePow, Int.reduceToNat, Int.reduceLT, Int.reduceLE, Int.reduceEq, Int.reduceNe, Int.reduceAdd, Int.reduceSub, Int.reduceMul, Int.reduceNeg, ]
    exact r3Q_bad k eq
  rw [rdO_ret k]
  rw [if_pos k] at hV
  have hle := hle k
  try simp only [go_sem, reduceIte, Nat.reduceEqDiff, Nat.reduceAdd, Nat.reduceSub, Nat.reduceMul, Nat.reduceLT, Nat.reduceLeDiff, Nat.reducePow, Int.reduceToNat, Int.reduceLT, Int.reduceLE, Int.reduceEq, Int.reduceNe, Int.reduceAdd, Int.reduceSub, Int.reduceMul, Int.reduceNeg, ]
  refine vwq_loop (fun v => ∃ (j : Nat) (l : List Cl) (s : Int × Int) (t : Tk), j ≤ i.1 ∧ l.length = j ∧ listF (elC b) (i.1 - j) l s = V ∧ TW 4 t v.ω ∧ v.β q = some (rkC tk b s.2) ∧ v.β br = some [.pb q 0] ∧ v.β bp = some [.int .i64 s.1] ∧ v.σ 2 = .clo (.func 37) [] [.pb br 0, .pb bp 0] ∧ v.σ 7 = .sl t (l.map clD) ∧ v.σ 10 = .int .i64 i.1 ∧ v.σ 11 = .int .i64 j) (fun v => i.1 - (ival (v.σ 11)).toNat) ⟨0, [], _, .full, by omega, rfl, hV, TW.full 4, eq, er, ep, rfl, rfl, rfl, rfl⟩ ?_
  clear hV eq er ep
  rintro σ β ω ⟨j, l, s, t, hj, hl, hV, hw, eq, er, ep, q2, q7, q10, q11⟩
  dsimp only at hw eq er ep q2 q7 q10 q11
  have hto := hw.ok
  have htg := hw.gone
  try simp only [go_sem, reduceIte, Nat.reduceEqDiff, Nat.reduceAdd, Nat.reduceSub, Nat.reduceMul, Nat.reduceLT, Nat.reduceLeDiff, Nat.reducePow, Int.reduceToNat, Int.reduceLT, Int.reduceLE, Int.reduceEq, Int.reduceNe, Int.reduceAdd, Int.reduceSub, Int.reduceMul, Int.reduceNeg, q2, q7, q10, q11]
  refine cd_dec (fun g => ?_) (fun g => ?_)
  · have wj := wrap_i64 (x := (j : Int) + 1) (by omega) (by omega)
    obtain ⟨n', hn'⟩ : ∃ n', i.1 - j = n' + 1 := ⟨i.1 - j - 1, by omega⟩
    rw [hn', listF] at hV
    try simp only [go_sem, reduceIte, Nat.reduceEqDiff, Nat.reduceAdd, Nat.reduceSub, Nat.reduceMul, Nat.reduceLT, Nat.reduceLeDiff, Nat.reducePow, Int.reduceToNat, Int.reduceLT, Int.reduceLE, Int.reduceEq, Int.reduceNe, Int.reduceAdd, Int.reduceSub, Int.reduceMul, Int.reduceNeg, q2, q7, q10, q11]
    have hc : VC P G 37 [.pb br 0, .pb bp 0] (H3 q br bp tk b s.2 s.1) [] (r3Q q br bp tk b (clD (elC b s).1) (elC b s).2.1.1 (elC b s).2.1.2 (elC b s).2.2) := cell_ok tk b hb s.1 s.2 h1 h2 h3
    generalize elC b s = c at hV hc
    refine cK_frp hc (H3_part eq er ep) (fun r β1 ω1 β' ω' hΦ hP _ hω => ?_) (fun r β1 ω1 β' ω' hΦ hP => ?_)
    · obtain ⟨rfl, hΦ⟩ := hΦ
      by_cases ke : c.2.2 = 0
      rotate_left
      · rw [if_neg ke] at hΦ; cases hΦ.1
      rw [if_pos ke] at hΦ hV
      obtain ⟨hr, rfl⟩ := hΦ
      cases hr
      obtain ⟨eq', er', ep'⟩ := H3_get h1 h2 h3 hP
      have e9 : ω' = ω := by rw [hω]; simp [joinT]
      subst e9
      try simp only [go_sem, reduceIte, Nat.reduceEqDiff, Nat.reduceAdd, Nat.reduceSub, Nat.reduceMul, Nat.reduceLT, Nat.reduceLeDiff, Nat.reducePow, Int.reduceToNat, Int.reduceLT, Int.reduceLE, Int.reduceEq, Int.reduceNe, Int.reduceAdd, Int.reduceSub, Int.reduceMul, Int.reduceNeg, q2, q7, q10, q11, hto, htg, wj]
      refine ⟨⟨trivial, rfl, rfl⟩, ⟨rfl, rfl⟩, fun x hx => ?_, by simp only [List.length_map]; omega, fun t' _ => ⟨⟨j + 1, l ++ [c.1], c.2.1, .live t' 4, by omega, by simp [hl], ?_, TW.live 4 t', eq', er', ep', ?_⟩, by omega⟩⟩
      · obtain ⟨y, _, rfl⟩ := List.mem_map.1 hx
        rfl
      · rw [show i.1 - (j + 1) = n' by omega]; exact hV
      · exact ⟨by rw [List.map_append]; rfl, rfl⟩
    · obtain ⟨rfl, hΦ⟩ := hΦ
      by_cases ke : c.2.2 = 0
      · rw [if_pos ke] at hΦ; cases hΦ.1
      rw [if_neg ke] at hΦ hV
      obtain ⟨hr, rfl⟩ := hΦ
      cases hr
      subst hV
      try simp only [go_sem, reduceIte, Nat.reduceEqDiff, Nat.reduceAdd, Nat.reduceSub, Nat.reduceMul, Nat.reduceLT, Nat.reduceLeDiff, Nat.reducePow, Int.reduceToNat, Int.reduceLT, Int.reduceLE, Int.reduceEq, Int.reduceNe, Int.reduceAdd, Int.reduceSub, Int.reduceMul, Int.reduceNeg, ]
      exact r3Q_bad ke (hP.1 _ _ (by simp [Heap.set]))
  · try simp only [go_sem, reduceIte, Nat.reduceEqDiff, Nat.reduceAdd, Nat.reduceSub, Nat.reduceMul, Nat.reduceLT, Nat.reduceLeDiff, Nat.reducePow, Int.reduceToNat, Int.reduceLT, Int.reduceLE, Int.reduceEq, Int.reduceNe, Int.reduceAdd, Int.reduceSub, Int.reduceMul, Int.reduceNeg, q2, q7, q10, q11]
    obtain rfl : j = i.1 := by omega
    rw [Nat.sub_self, listF] at hV
    subst hV
    exact r3Q_ok rfl (by simp [D.er, D.er1]) eq er ep
end Go.Proofs.YtpblgfgcoamgmaaS
