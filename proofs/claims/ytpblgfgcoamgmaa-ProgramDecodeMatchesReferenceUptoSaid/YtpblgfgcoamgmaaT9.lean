/-
  Programs: the program's readers and the reference's agree (plain).
  Conditions: none.
-/
import Derived.Test.YtpblgfgcoamgmaaT8
set_option linter.unusedVariables false
set_option linter.unusedSimpArgs false
namespace Go.Proofs.YtpblgfgcoamgmaaS
open Go Go.Proofs.YtpblgfgcoamgmaaV

/-- The program's reading x and the reference's y: the same error, and where there is none the same value and position. -/
def Agr {α : Type} (x : α × Int × Int) (y : α × Sc) : Prop := y.2.2 = x.2.2 ∧ (x.2.2 = 0 → y.1 = x.1 ∧ y.2.1 = x.2.1)
theorem sig_agr (b : List Nat) (p : Int) : Agr (rS b p) (nxS b (p, 0)) := by
  unfold rS rdQ nxS
  refine ⟨by simp, fun h => ?_⟩
  dsimp only at h
  simp [h]
theorem pred_agr (b : List Nat) (p : Int) : Agr (rP b p) (gPred b (p, 0)) := by
  unfold rP rdQ gPred
  refine ⟨by simp, fun h => ?_⟩
  dsimp only at h
  simp [h]
theorem num_agr (b : List Nat) (lim : Nat) (p : Int) : Agr (numF b lim p) (gNum b lim (p, 0)) := by
  have hU : nxU b (p, 0) = ((readU b p).1, (((readU b p).2.1 : Int), ((readU b p).2.2 : Int))) := by simp [nxU]
  unfold numF gNum rU rdQ
  rw [hU]
  dsimp only
  generalize readU b p = r
  obtain ⟨n, t, e⟩ := r
  dsimp only
  by_cases he : (e : Int) = 0
  · by_cases hl : lim < n
    · rw [if_pos ⟨he, hl⟩]
      simp [Agr, failS, he, hl]
    · rw [if_neg (fun h => hl h.2)]
      simp [Agr, failS, he, hl]
  · rw [if_neg (fun h => he h.1)]
    have h2 : failS ((t : Int), (e : Int)) 2 (decide (lim < n)) = ((t : Int), (e : Int)) := by simp only [failS]; rw [if_neg (fun h => he h.1)]
    rw [h2]
    simp only [if_neg he]
    exact ⟨rfl, fun h => absurd h he⟩
theorem id_agr (b : List Nat) (prev p : Int) : Agr (idF b prev p) (gId b prev (p, 0)) := by
  obtain ⟨h1, h2⟩ := num_agr b 1073741824 p
  unfold idF gId
  generalize numF b 1073741824 p = x at h1 h2
  generalize gNum b 1073741824 (p, 0) = y at h1 h2
  by_cases he : x.2.2 = 0
  · obtain ⟨h3, h4⟩ := h2 he
    by_cases hl : (x.1 : Int) ≤ prev
    · rw [if_pos ⟨he, hl⟩]
      simp [Agr, failS, h1, he, h3, hl]
    · rw [if_neg (fun h => hl h.2)]
      simp [Agr, failS, h1, he, h3, hl, h4]
  · rw [if_neg (fun h => he h.1)]
    have h5 : failS y.2 5 (decide ((y.1 : Int) ≤ prev)) = y.2 := by simp only [failS]; rw [if_neg (fun h => he (h1 ▸ h.1))]
    rw [h5]
    exact ⟨h1, fun h => absurd h he⟩
theorem nxS_bad {b : List Nat} {s : Sc} (h : ¬ s.2 = 0) : nxS b s = (0, s) := by simp [nxS, h]
theorem txtF_bad {b : List Nat} {s : Sc} (h : ¬ s.2 = 0) : (txtF b s).2 = s := by
  unfold txtF
  have : nxT b s = (ByteArray.empty, s) := by simp [nxT, h]
  rw [this]
  simp only [failS]
  rw [if_neg (fun h' => h h'.1)]
theorem txt_agr (b : List Nat) (p : Int) : (txtF b (p, 0)).2.2 = (if (rT b p).2.2 = 0 ∧ 200 < ((rT b p).1.size : Int) then 2 else (rT b p).2.2) ∧ ((rT b p).2.2 = 0 → ¬ 200 < ((rT b p).1.size : Int) → (txtF b (p, 0)).1 = (rT b p).1 ∧ (txtF b (p, 0)).2.1 = (rT b p).2.1) := by
  have hT : nxT b (p, 0) = (strN ((b.drop (spanF b p).1).take ((spanF b p).2.1 - (spanF b p).1)), (((spanF b p).2.1 : Int), ((spanF b p).2.2 : Int))) := by simp [nxT]
  unfold txtF rT rdQ
  rw [hT]
  dsimp only
  generalize strN ((b.drop (spanF b p).1).take ((spanF b p).2.1 - (spanF b p).1)) = t
  generalize spanF b p = r
  by_cases he : (r.2.2 : Int) = 0
  · by_cases hl : 200 < (t.size : Int)
    · rw [if_pos ⟨he, hl⟩]
      refine ⟨?_, fun _ h => absurd hl h⟩
      simp only [failS]
      rw [if_pos ⟨he, decide_eq_true hl⟩]
    · rw [if_neg (fun h => hl h.2)]
      simp only [failS]
      rw [if_neg (fun h => hl (of_decide_eq_true h.2))]
      exact ⟨rfl, fun h _ => ⟨by trivial, by rw [if_pos h]⟩⟩
  · rw [if_neg (fun h => he h.1)]
    simp only [failS]
    rw [if_neg (fun h => he h.1)]
    exact ⟨rfl, fun h => absurd h he⟩
theorem gCells_bad {b : List Nat} {s : Sc} (h : ¬ s.2 = 0) : ∀ (n : Nat) (l : Rw) (last : Int), (gCells b n l last s).2 = s
  | 0, l, last => rfl
  | n + 1, l, last => by rw [gCells, if_neg h]
theorem cells_agr (b : List Nat) : ∀ (n : Nat) (l : Rw) (prev p : Int), (gCells b n l prev (p, 0)).2.2 = (listF (elC b) n l (prev, p)).2.2 ∧ ((listF (elC b) n l (prev, p)).2.2 = 0 → (gCells b n l prev (p, 0)).1 = (listF (elC b) n l (prev, p)).1 ∧ (gCells b n l prev (p, 0)).2.1 = (listF (elC b) n l (prev, p)).2.1.2)
  | 0, l, prev, p => ⟨rfl, fun _ => ⟨rfl, rfl⟩⟩
  | n + 1, l, prev, p => by
    have ih := cells_agr b n
    rw [gCells, listF, if_pos rfl]
    obtain ⟨a1, a2⟩ := id_agr b prev p
    have hE : elC b (prev, p) = ((cellF b prev p).1, ((cellF b prev p).1.1, (cellF b prev p).2.1), (cellF b prev p).2.2) := rfl
    rw [hE]
    unfold cellF
    generalize idF b prev p = i at a1 a2 ⊢
    generalize gId b prev (p, 0) = gi at a1 a2 ⊢
    by_cases ei : i.2.2 = 0
    rotate_left
    · have eg : ¬ gi.2.2 = 0 := fun h => ei (a1 ▸ h)
      simp only [ne_eq, ei, not_false_eq_true, if_true, if_false]
      rw [nxS_bad eg, gCells_bad (by rw [txtF_bad eg]; exact eg), txtF_bad eg]
      exact ⟨a1, fun h => h.elim⟩
    obtain ⟨a3, a4⟩ := a2 ei
    have g2 : gi.2 = (i.2.1, 0) := Prod.ext a4 (a1.trans ei)
    rw [g2, a3]
    simp only [ne_eq, ei, not_true_eq_false, if_false]
    obtain ⟨b1, b2⟩ := sig_agr b i.2.1
    generalize rS b i.2.1 = x at b1 b2 ⊢
    generalize nxS b (i.2.1, 0) = gx at b1 b2 ⊢
    by_cases ex : x.2.2 = 0
    rotate_left
    · have eg : ¬ gx.2.2 = 0 := fun h => ex (b1 ▸ h)
      simp only [ex, not_false_eq_true, if_true, if_false]
      rw [gCells_bad (by rw [txtF_bad eg]; exact eg), txtF_bad eg]
      exact ⟨b1, fun h => h.elim⟩
    obtain ⟨b3, b4⟩ := b2 ex
    have g3 : gx.2 = (x.2.1, 0) := Prod.ext b4 (b1.trans ex)
    rw [g3, b3]
    simp only [ex, not_true_eq_false, if_false]
    obtain ⟨c1, c2⟩ := txt_agr b x.2.1
    generalize rT b x.2.1 = t at c1 c2 ⊢
    generalize txtF b (x.2.1, 0) = gt at c1 c2 ⊢
    by_cases et : t.2.2 = 0
    rotate_left
    · rw [if_neg (fun h => et h.1)] at c1
      have eg : ¬ gt.2.2 = 0 := fun h => et (c1 ▸ h)
      simp only [et, not_false_eq_true, if_true, if_false]
      rw [gCells_bad eg]
      exact ⟨c1, fun h => h.elim⟩
    by_cases hl : 200 < (t.1.size : Int)
    · rw [if_pos ⟨et, hl⟩] at c1
      have eg : ¬ gt.2.2 = 0 := fun h => by rw [c1] at h; cases h
      simp only [et, hl, not_true_eq_false, if_true, if_false]
      rw [gCells_bad eg]
      exact ⟨by rw [c1]; rfl, fun h => by simp at h⟩
    · rw [if_neg (fun h => hl h.2)] at c1
      obtain ⟨c3, c4⟩ := c2 et hl
      have g4 : gt.2 = (t.2.1, 0) := Prod.ext c4 (c1.trans et)
      rw [g4, c3]
      simp only [et, hl, not_true_eq_false, if_true, if_false]
      exact ih _ _ _
theorem row_agr (b : List Nat) (p : Int) : Agr (rowF b p) (gRow b (p, 0)) := by
  obtain ⟨h1, h2⟩ := num_agr b 64 p
  unfold rowF gRow cellsF
  dsimp only
  generalize numF b 64 p = x at h1 h2 ⊢
  generalize gNum b 64 (p, 0) = y at h1 h2 ⊢
  by_cases he : x.2.2 = 0
  · obtain ⟨h3, h4⟩ := h2 he
    have g2 : y.2 = (x.2.1, 0) := Prod.ext h4 (h1.trans he)
    rw [g2, h3]
    simp only [he, if_true]
    exact cells_agr b x.1 [] 0 x.2.1
  · have eg : ¬ y.2.2 = 0 := fun h => he (h1 ▸ h)
    simp only [he, if_false]
    exact ⟨by rw [gCells_bad eg]; exact h1, fun h => absurd h he⟩
end Go.Proofs.YtpblgfgcoamgmaaS
