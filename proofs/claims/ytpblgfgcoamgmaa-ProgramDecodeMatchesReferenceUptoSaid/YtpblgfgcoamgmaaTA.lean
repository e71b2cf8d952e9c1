/-
  Programs: the whole decoders agree (plain).
  Conditions: none.
-/
import Derived.Test.YtpblgfgcoamgmaaT9
set_option linter.unusedVariables false
set_option linter.unusedSimpArgs false
namespace Go.Proofs.YtpblgfgcoamgmaaS
open Go Go.Proofs.YtpblgfgcoamgmaaV

/-- A list, as the reference reads it. -/
def gListF {α : Type} (el : Sc → α × Sc) : Nat → List α → Sc → List α × Sc
  | 0, l, s => (l, s)
  | n + 1, l, s => if s.2 = 0 then gListF el n (l ++ [(el s).1]) (el s).2 else (l, s)
theorem gListF_bad {α : Type} {el : Sc → α × Sc} {s : Sc} (h : ¬ s.2 = 0) : ∀ (n : Nat) (l : List α), (gListF el n l s).2 = s
  | 0, l => rfl
  | n + 1, l => by rw [gListF, if_neg h]
theorem list_agr {α : Type} {f : Int → α × Int × Int} {g : Sc → α × Sc} (h : ∀ p, Agr (f p) (g (p, 0))) : ∀ (n : Nat) (l : List α) (p : Int), Agr (listF f n l p) (gListF g n l (p, 0))
  | 0, l, p => ⟨rfl, fun _ => ⟨rfl, rfl⟩⟩
  | n + 1, l, p => by
    obtain ⟨h1, h2⟩ := h p
    rw [listF, gListF, if_pos rfl]
    generalize f p = x at h1 h2 ⊢
    generalize g (p, 0) = y at h1 h2 ⊢
    by_cases he : x.2.2 = 0
    · obtain ⟨h3, h4⟩ := h2 he
      have g2 : y.2 = (x.2.1, 0) := Prod.ext h4 (h1.trans he)
      rw [g2, h3, if_pos he]
      exact list_agr h n _ _
    · have eg : ¬ y.2.2 = 0 := fun h => he (h1 ▸ h)
      rw [if_neg he]
      exact ⟨by rw [gListF_bad eg]; exact h1, fun h => absurd h he⟩
theorem gPred_bad {b : List Nat} {s : Sc} (h : ¬ s.2 = 0) : (gPred b s).2 = s := by simp [gPred, h]
theorem gNum_bad {b : List Nat} {lim : Nat} {s : Sc} (h : ¬ s.2 = 0) : gNum b lim s = (0, s) := by
  have hF : nxU b s = (0, s) := by simp [nxU, h]
  unfold gNum
  rw [hF]
  have h2 : failS s 2 (decide (lim < 0)) = s := by simp [failS]
  dsimp only
  rw [h2, if_neg h]
theorem gId_bad {b : List Nat} {least : Int} {s : Sc} (h : ¬ s.2 = 0) : (gId b least s).2 = s := by
  unfold gId
  rw [gNum_bad h]
  simp only [failS]
  rw [if_neg (fun h' => h h'.1)]
def gGd (b : List Nat) (s : Sc) : Gu × Sc :=
  (((gPred b s).1, ((gId b 0 (gPred b s).2).1 : Int), (nxS b (gId b 0 (gPred b s).2).2).1, (nxS b (nxS b (gId b 0 (gPred b s).2).2).2).1), (nxS b (nxS b (gId b 0 (gPred b s).2).2).2).2)
theorem gd_agr (b : List Nat) (p : Int) : Agr (gdF b p) (gGd b (p, 0)) := by
  obtain ⟨a1, a2⟩ := pred_agr b p
  unfold gdF gGd
  generalize rP b p = r at a1 a2 ⊢
  generalize gPred b (p, 0) = gr at a1 a2 ⊢
  by_cases e1 : r.2.2 = 0
  rotate_left
  · have eg : ¬ gr.2.2 = 0 := fun h => e1 (a1 ▸ h)
    simp only [ne_eq, e1, not_false_eq_true, if_true]
    have g1 := gId_bad (b := b) (least := 0) eg
    exact ⟨by dsimp only; rw [g1, nxS_bad eg]; dsimp only; rw [nxS_bad eg]; exact a1, fun h => absurd h e1⟩
  obtain ⟨a3, a4⟩ := a2 e1
  have g2 : gr.2 = (r.2.1, 0) := Prod.ext a4 (a1.trans e1)
  rw [g2, a3]
  simp only [ne_eq, e1, not_true_eq_false, if_false]
  obtain ⟨b1, b2⟩ := id_agr b 0 r.2.1
  generalize idF b 0 r.2.1 = c at b1 b2 ⊢
  generalize gId b 0 (r.2.1, 0) = gc at b1 b2 ⊢
  by_cases e2 : c.2.2 = 0
  rotate_left
  · have eg : ¬ gc.2.2 = 0 := fun h => e2 (b1 ▸ h)
    simp only [e2, not_false_eq_true, if_true]
    exact ⟨by dsimp only; rw [nxS_bad eg]; dsimp only; rw [nxS_bad eg]; exact b1, fun h => absurd h e2⟩
  obtain ⟨b3, b4⟩ := b2 e2
  have g3 : gc.2 = (c.2.1, 0) := Prod.ext b4 (b1.trans e2)
  rw [g3, b3]
  simp only [e2, not_true_eq_false, if_false]
  obtain ⟨c1, c2⟩ := sig_agr b c.2.1
  generalize rS b c.2.1 = x at c1 c2 ⊢
  generalize nxS b (c.2.1, 0) = gx at c1 c2 ⊢
  by_cases e3 : x.2.2 = 0
  rotate_left
  · have eg : ¬ gx.2.2 = 0 := fun h => e3 (c1 ▸ h)
    simp only [e3, not_false_eq_true, if_true]
    exact ⟨by dsimp only; rw [nxS_bad eg]; exact c1, fun h => absurd h e3⟩
  obtain ⟨c3, c4⟩ := c2 e3
  have g4 : gx.2 = (x.2.1, 0) := Prod.ext c4 (c1.trans e3)
  rw [g4, c3]
  simp only [e3, not_true_eq_false, if_false]
  obtain ⟨d1, d2⟩ := sig_agr b x.2.1
  generalize rS b x.2.1 = y at d1 d2 ⊢
  generalize nxS b (x.2.1, 0) = gy at d1 d2 ⊢
  by_cases e4 : y.2.2 = 0
  · obtain ⟨d3, d4⟩ := d2 e4
    simp only [e4, not_true_eq_false, if_false]
    exact ⟨d1.trans e4, fun _ => ⟨by rw [d3], d4⟩⟩
  · simp only [e4, not_false_eq_true, if_true]
    exact ⟨d1, fun h => absurd h e4⟩
theorem rows_agr (b : List Nat) (p : Int) : Agr (rowsF b p) (gListF (gRow b) (gNum b 4096 (p, 0)).1 [] (gNum b 4096 (p, 0)).2) := by
  obtain ⟨h1, h2⟩ := num_agr b 4096 p
  unfold rowsF
  generalize numF b 4096 p = x at h1 h2 ⊢
  generalize gNum b 4096 (p, 0) = y at h1 h2 ⊢
  by_cases he : x.2.2 = 0
  · obtain ⟨h3, h4⟩ := h2 he
    have g2 : y.2 = (x.2.1, 0) := Prod.ext h4 (h1.trans he)
    rw [g2, h3, if_pos he]
    exact list_agr (row_agr b) x.1 [] x.2.1
  · have eg : ¬ y.2.2 = 0 := fun h => he (h1 ▸ h)
    rw [if_neg he]
    exact ⟨by rw [gListF_bad eg]; exact h1, fun h => absurd h he⟩
theorem gds_agr (b : List Nat) (p : Int) : Agr (gdsF b p) (gListF (gGd b) (gNum b 16 (p, 0)).1 [] (gNum b 16 (p, 0)).2) := by
  obtain ⟨h1, h2⟩ := num_agr b 16 p
  unfold gdsF
  generalize numF b 16 p = x at h1 h2 ⊢
  generalize gNum b 16 (p, 0) = y at h1 h2 ⊢
  by_cases he : x.2.2 = 0
  · obtain ⟨h3, h4⟩ := h2 he
    have g2 : y.2 = (x.2.1, 0) := Prod.ext h4 (h1.trans he)
    rw [g2, h3, if_pos he]
    exact list_agr (gd_agr b) x.1 [] x.2.1
  · have eg : ¬ y.2.2 = 0 := fun h => he (h1 ▸ h)
    rw [if_neg he]
    exact ⟨by rw [gListF_bad eg]; exact h1, fun h => absurd h he⟩
def gDec (b : List Nat) : Pg × Int :=
  let r := gPred b (0, 0)
  let m := gPred b r.2
  let i := gListF (gRow b) (gNum b 4096 m.2).1 [] (gNum b 4096 m.2).2
  let g := gListF (gGd b) (gNum b 16 i.2).1 [] (gNum b 16 i.2).2
  if g.2.2 ≠ 0 then (Pg.nul, g.2.2) else if g.2.1 ≠ b.length then (Pg.nul, 5) else ((r.1, m.1, i.1, g.1), 0)
theorem gDec_eq (b : List Nat) : gDec b = pgDecF b := by
  obtain ⟨a1, a2⟩ := pred_agr b 0
  unfold gDec pgDecF
  generalize rP b 0 = r at a1 a2 ⊢
  generalize gPred b (0, 0) = gr at a1 a2 ⊢
  by_cases e1 : r.2.2 = 0
  rotate_left
  · have eg : ¬ gr.2.2 = 0 := fun h => e1 (a1 ▸ h)
    have q1 := gPred_bad (b := b) eg
    dsimp only
    rw [q1, gNum_bad eg]
    dsimp only
    rw [gListF_bad eg, gNum_bad eg]
    dsimp only
    rw [gListF_bad eg]
    simp only [ne_eq, eg, e1, not_false_eq_true, if_true, a1]
  obtain ⟨a3, a4⟩ := a2 e1
  have g2 : gr.2 = (r.2.1, 0) := Prod.ext a4 (a1.trans e1)
  dsimp only
  rw [g2, a3]
  simp only [ne_eq, e1, not_true_eq_false, if_false]
  obtain ⟨b1, b2⟩ := pred_agr b r.2.1
  generalize rP b r.2.1 = m at b1 b2 ⊢
  generalize gPred b (r.2.1, 0) = gm at b1 b2 ⊢
  by_cases e2 : m.2.2 = 0
  rotate_left
  · have eg : ¬ gm.2.2 = 0 := fun h => e2 (b1 ▸ h)
    rw [gNum_bad eg]
    dsimp only
    rw [gListF_bad eg, gNum_bad eg]
    dsimp only
    rw [gListF_bad eg]
    simp only [eg, e2, not_false_eq_true, if_true, b1]
  obtain ⟨b3, b4⟩ := b2 e2
  have g3 : gm.2 = (m.2.1, 0) := Prod.ext b4 (b1.trans e2)
  rw [g3, b3]
  simp only [e2, not_true_eq_false, if_false]
  obtain ⟨c1, c2⟩ := rows_agr b m.2.1
  generalize rowsF b m.2.1 = i at c1 c2 ⊢
  generalize gListF (gRow b) (gNum b 4096 (m.2.1, 0)).1 [] (gNum b 4096 (m.2.1, 0)).2 = gi at c1 c2 ⊢
  by_cases e3 : i.2.2 = 0
  rotate_left
  · have eg : ¬ gi.2.2 = 0 := fun h => e3 (c1 ▸ h)
    rw [gNum_bad eg]
    dsimp only
    rw [gListF_bad eg]
    simp only [eg, e3, not_false_eq_true, if_true, c1]
  obtain ⟨c3, c4⟩ := c2 e3
  have g4 : gi.2 = (i.2.1, 0) := Prod.ext c4 (c1.trans e3)
  rw [g4, c3]
  simp only [e3, not_true_eq_false, if_false]
  obtain ⟨d1, d2⟩ := gds_agr b i.2.1
  generalize gdsF b i.2.1 = g at d1 d2 ⊢
  generalize gListF (gGd b) (gNum b 16 (i.2.1, 0)).1 [] (gNum b 16 (i.2.1, 0)).2 = gg at d1 d2 ⊢
  by_cases e4 : g.2.2 = 0
  · obtain ⟨d3, d4⟩ := d2 e4
    rw [d1, d3, d4]
  · rw [d1]
    simp only [e4, not_false_eq_true, if_true]
end Go.Proofs.YtpblgfgcoamgmaaS
