import Derived.Test.YtgkfcgfobckaaaaP3
import Derived.Test.YtgkfcgfobckaaaaE2
set_option linter.unusedVariables false
set_option linter.unusedSimpArgs false
namespace Go.Proofs.YtgkfcgfobckaaaaS
open Go Go.Proofs.YtgkfcgfobckaaaaV

def orP (p q : Pr) : Pr := .mk 6 0 0 0 [] ByteArray.empty [p, q]
def andP (p q : Pr) : Pr := .mk 5 0 0 0 [] ByteArray.empty [p, q]
theorem may_or (u : Sm) (p q : Pr) : mayT u (orP p q) = (mayT u p || mayT u q) := by
  have h : (possT u (orP p q)).y = ((possT u p).y || (possT u q).y) := by
    rw [possT_eq]
    simp [orP, Pr.op, Pr.kids, bothT_eq, Tr.turn]
  simp only [mayT, h]
  cases decide (0 < u.rows) <;> simp
theorem may_and (u : Sm) (p q : Pr) : mayT u (andP p q) = (mayT u p && mayT u q) := by
  have h : (possT u (andP p q)).y = ((possT u p).y && (possT u q).y) := by
    rw [possT_eq]
    simp [andP, Pr.op, Pr.kids, bothT_eq]
  simp only [mayT, h]
  cases decide (0 < u.rows) <;> simp
theorem may_match {u : Sm} {r : Rw} {p : Pr} (h : coversF u r = true) (hm : evalP r p = 1) : mayT u p = true := by
  have h1 := poss_sound h _ p (Nat.le_refl _)
  rw [hm, has1] at h1
  have h2 := (covers_in h).1
  simp [mayT, h1, h2]
theorem rd_sk (ks : List Bool) : ∀ j : Nat, (rdL ks j).length + (skL ks j).length = j
  | 0 => rfl
  | j + 1 => by
    have ih := rd_sk ks j
    cases h : ks.getD j false
    · rw [rdL_no h, skL_no h]; simp; omega
    · rw [rdL_yes h, skL_yes h]; simp; omega
theorem rdL_pre (ks : List Bool) {i n : Nat} (h : i ≤ n) : rdL ks i <+: rdL ks n := by
  induction n with
  | zero => obtain rfl : i = 0 := by omega
            exact List.prefix_refl _
  | succ n ih =>
    by_cases e : i = n + 1
    · rw [e]; exact List.prefix_refl _
    · refine (ih (by omega)).trans ?_
      cases h : ks.getD n false
      · rw [rdL_no h]; exact List.prefix_refl _
      · rw [rdL_yes h]; exact List.prefix_append _ _
theorem skL_pre (ks : List Bool) {i n : Nat} (h : i ≤ n) : skL ks i <+: skL ks n := by
  induction n with
  | zero => obtain rfl : i = 0 := by omega
            exact List.prefix_refl _
  | succ n ih =>
    by_cases e : i = n + 1
    · rw [e]; exact List.prefix_refl _
    · refine (ih (by omega)).trans ?_
      cases h : ks.getD n false
      · rw [skL_no h]; exact List.prefix_append _ _
      · rw [skL_yes h]; exact List.prefix_refl _
theorem pre_at {l m : List Int} {x : Int} (h : l ++ [x] <+: m) : l.length < m.length ∧ m.getD l.length 0 = x := by
  obtain ⟨t, rfl⟩ := h
  refine ⟨by simp, ?_⟩
  simp [List.getD]
theorem rdL_hit {ks : List Bool} {i n : Nat} (h : i < n) (hk : ks.getD i false = true) : (rdL ks i).length < (rdL ks n).length ∧ (rdL ks n).getD (rdL ks i).length 0 = i := by
  have := rdL_pre ks (show i + 1 ≤ n from h)
  rw [rdL_yes hk] at this
  exact pre_at this
theorem skL_hit {ks : List Bool} {i n : Nat} (h : i < n) (hk : ks.getD i false = false) : (skL ks i).length < (skL ks n).length ∧ (skL ks n).getD (skL ks i).length 0 = i := by
  have := skL_pre ks (show i + 1 ≤ n from h)
  rw [skL_no hk] at this
  exact pre_at this
theorem rdL_miss {ks : List Bool} {i n x : Nat} (hk : ks.getD i false = false) (hx : x < (rdL ks n).length) : (rdL ks n).getD x 0 ≠ i := by
  intro e
  have hm : (rdL ks n).getD x 0 ∈ rdL ks n := by
    rw [List.getD, List.getElem?_eq_getElem hx]; exact List.getElem_mem _
  rw [e] at hm
  simp only [rdL, List.mem_map, List.mem_filter] at hm
  obtain ⟨k, ⟨_, h1⟩, h2⟩ := hm
  obtain rfl : k = i := by omega
  rw [hk] at h1
  cases h1
/-! The best. -/
abbrev ltP (a b : Pl) : Prop := cmp2 a.bytes a.req b.bytes b.req < 0
theorem ltP_iff (a b : Pl) : ltP a b ↔ (a.bytes < b.bytes ∨ a.bytes = b.bytes ∧ a.req < b.req) := by
  unfold ltP cmp2 cmpN
  by_cases h1 : a.bytes < b.bytes
  · simp [h1]
  · by_cases h2 : b.bytes < a.bytes
    · simp [h1, h2]; omega
    · have e : a.bytes = b.bytes := by omega
      by_cases h3 : a.req < b.req
      · simp [e, h3]
      · by_cases h4 : b.req < a.req
        · simp [e, h3, h4]
        · simp [e, h3, h4]
def bestG (f : Pr → Pl) (ps : List Pr) : Nat → Int × Pl
  | 0 => (-1, ⟨[], [], 0, 0⟩)
  | j + 1 => match ps[j]? with
    | none => bestG f ps j
    | some p => if (bestG f ps j).1 < 0 ∨ cmp2 (f p).bytes (f p).req (bestG f ps j).2.bytes (bestG f ps j).2.req < 0 then ((j : Int), f p) else bestG f ps j
theorem bestG_succ {f : Pr → Pl} {ps : List Pr} {j : Nat} {p : Pr} (h : ps[j]? = some p) : bestG f ps (j + 1) = if (bestG f ps j).1 < 0 ∨ ltP (f p) (bestG f ps j).2 then ((j : Int), f p) else bestG f ps j := by
  conv => lhs; unfold bestG
  rw [h]
theorem bestG_spec (f : Pr → Pl) (ps : List Pr) : ∀ j, j ≤ ps.length → 0 < j → ∃ k p, k < j ∧ ps[k]? = some p ∧ bestG f ps j = ((k : Int), f p) ∧ ∀ i q, i < j → ps[i]? = some q → ¬ ltP (f q) (f p) ∧ (i < k → ltP (f p) (f q))
  | 0, _, h => absurd h (by omega)
  | j + 1, hj, _ => by
    obtain ⟨x, hx⟩ : ∃ x, ps[j]? = some x := ⟨ps[j]'(by omega), by simp⟩
    rw [bestG_succ hx]
    by_cases h0 : j = 0
    · subst h0
      rw [if_pos (.inl (show (-1 : Int) < 0 by decide))]
      refine ⟨0, x, by omega, hx, rfl, fun i q hi hq => ?_⟩
      obtain rfl : i = 0 := by omega
      obtain rfl := Option.some.inj (hx.symm.trans hq)
      exact ⟨by rw [ltP_iff]; omega, fun h => by omega⟩
    · obtain ⟨k, p, hk, hp, he, hall⟩ := bestG_spec f ps j (by omega) (by omega)
      rw [he]
      by_cases hl : ltP (f x) (f p)
      · rw [if_pos (.inr hl)]
        refine ⟨j, x, by omega, hx, rfl, fun i q hi hq => ?_⟩
        by_cases e : i = j
        · subst e
          obtain rfl := Option.some.inj (hx.symm.trans hq)
          exact ⟨by rw [ltP_iff]; omega, fun h => by omega⟩
        · obtain ⟨a1, _⟩ := hall i q (by omega) hq
          simp only [ltP_iff] at a1 hl ⊢
          exact ⟨by omega, fun _ => by omega⟩
      · rw [if_neg (by rintro (h | h); · simp at h; omega
                       · exact hl h)]
        refine ⟨k, p, by omega, hp, rfl, fun i q hi hq => ?_⟩
        by_cases e : i = j
        · subst e
          obtain rfl := Option.some.inj (hx.symm.trans hq)
          exact ⟨hl, fun h => by omega⟩
        · exact hall i q (by omega) hq
theorem bestF_eq (l : List En) (ps : List Pr) : ∀ j, bestF l ps j = bestG (scanF l) ps j
  | 0 => rfl
  | j + 1 => by
    have ih := bestF_eq l ps j
    unfold bestF bestG
    rw [ih]
    rfl
end Go.Proofs.YtgkfcgfobckaaaaS
