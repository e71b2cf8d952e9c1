
import Derived.Test.YtbfkhepfgibonaaGreatE1
set_option linter.unusedVariables false
set_option linter.unusedSimpArgs false
namespace Go.Proofs.YtbfkhepfgibonaaGreatS
open Go Go.Proofs.YtbfkhepfgibonaaGreatV

/-! The order of texts and their beginnings. -/
theorem lex_low : ∀ (t m v : List UInt8), t <+: v → ¬ v < m → ¬ t <+: m → ¬ t < m
  | [], m, v, _, _, h => absurd (List.nil_prefix) h
  | a :: t, [], v, _, _, _ => by simp
  | a :: t, b :: m, [], h, _, _ => by simp at h
  | a :: t, b :: m, c :: v, h, h1, h2 => by
    rw [List.cons_prefix_cons] at h h2
    obtain ⟨rfl, h⟩ := h
    rw [List.cons_lt_cons_iff] at h1 ⊢
    rintro (g | ⟨rfl, g⟩)
    · exact h1 (.inl g)
    · exact lex_low t m v h (fun x => h1 (.inr ⟨rfl, x⟩)) (fun x => h2 ⟨rfl, x⟩) g
theorem lex_mid : ∀ (t lo hi v : List UInt8), t <+: lo → t <+: hi → ¬ v < lo → ¬ hi < v → t <+: v
  | [], _, _, v, _, _, _, _ => List.nil_prefix
  | a :: t, [], _, _, h, _, _, _ => by simp at h
  | a :: t, _ :: _, [], _, _, h, _, _ => by simp at h
  | a :: t, b :: lo, c :: hi, [], h1, h2, h3, h4 => by simp at h3
  | a :: t, b :: lo, c :: hi, d :: v, h1, h2, h3, h4 => by
    rw [List.cons_prefix_cons] at h1 h2 ⊢
    obtain ⟨rfl, h1⟩ := h1
    obtain ⟨rfl, h2⟩ := h2
    rw [List.cons_lt_cons_iff] at h3 h4
    have e : a = d := UInt8.le_antisymm (UInt8.not_lt.1 fun g => h3 (.inl g)) (UInt8.not_lt.1 fun g => h4 (.inl g))
    subst e
    exact ⟨rfl, lex_mid t lo hi v h1 h2 (fun x => h3 (.inr ⟨rfl, x⟩)) (fun x => h4 (.inr ⟨rfl, x⟩))⟩
theorem lex_up : ∀ (t v mx : List UInt8), t <+: v → ¬ mx < v → ¬ mx < t
  | [], _, mx, _, _ => by simp
  | a :: t, [], _, h, _ => by simp at h
  | a :: t, b :: v, [], h, h1 => by simp at h1
  | a :: t, b :: v, c :: mx, h, h1 => by
    rw [List.cons_prefix_cons] at h
    obtain ⟨rfl, h⟩ := h
    rw [List.cons_lt_cons_iff] at h1 ⊢
    rintro (g | ⟨rfl, g⟩)
    · exact h1 (.inl g)
    · exact lex_up t v mx h (fun x => h1 (.inr ⟨rfl, x⟩)) g
theorem cmpV_le {a b : Vl} (h : a.null = b.null) : cmpV a b ≤ 0 ↔ (a.n < b.n ∨ a.n = b.n ∧ ¬ b.s.data.toList < a.s.data.toList) := by
  have h1 := cmpS_le a.s b.s
  simp only [cmpV, h, ne_eq, not_true_eq_false, if_false, cmpN]
  by_cases g : a.n < b.n
  · simp [g]
  · by_cases g2 : b.n < a.n
    · simp [g, g2]; omega
    · have e : a.n = b.n := by omega
      simp [e, h1]
theorem cmpV_eq {a b : Vl} (h : a.null = b.null) (h1 : cmpV a b ≤ 0) (h2 : 0 ≤ cmpV a b) : a = b := by
  rw [cmpV_le h] at h1
  rw [cmpV_anti, cmpV_le h.symm] at h2
  have e : a.n = b.n := by omega
  have e1 : ¬ b.s.data.toList < a.s.data.toList := by rcases h1 with g | g; omega; exact g.2
  have e2 : ¬ a.s.data.toList < b.s.data.toList := by rcases h2 with g | g; omega; exact g.2
  have e3 : a.s.data.toList = b.s.data.toList := by
    have k := compareBytes_lt a.s.data.toList b.s.data.toList
    refine k.2.2.1 ?_
    have k1 := mt k.1.1 e2
    have k2 := mt k.2.1.1 e1
    omega
  obtain ⟨an, ai, as_⟩ := a
  obtain ⟨bn, bi, bs_⟩ := b
  simp only at h e e3
  have e4 : as_ = bs_ := ByteArray.ext (Array.toList_inj.1 e3)
  subst h e e4; rfl

def has (t : Tr) (k : Int) : Bool := if k = 1 then t.y else if k = 0 then t.n else t.u
theorem has_turn0 (t : Tr) : has t.turn 0 = has t 1 := by simp [has, Tr.turn]
theorem truth_01 (b : Bool) : truth b = 0 ∨ truth b = 1 := by cases b <;> simp [truth]
theorem has_truth (t : Tr) (b : Bool) : has t (truth b) = if b then t.y else t.n := by cases b <;> simp [has, truth]
theorem simpleF_012 (p : Pr) (v : Vl) : simpleF p v = 0 ∨ simpleF p v = 1 ∨ simpleF p v = 2 := by
  unfold simpleF
  have := truth_01
  repeat' split
  all_goals first | (exact .inr (.inr rfl)) | (rcases truth_01 _ with h | h; exact .inl h; exact .inr (.inl h))
theorem evalP_012 (r : Rw) (p : Pr) : evalP r p = 0 ∨ evalP r p = 1 ∨ evalP r p = 2 := by
  rw [evalP_eq, evK]
  repeat' split
  all_goals first | (exact .inr (.inl rfl)) | (exact .inr (.inr rfl)) | exact simpleF_012 _ _ | (rcases truth_01 _ with h | h; exact .inl h; exact .inr (.inl h))
theorem findB_some {l : List Bd} {id : Int} {b : Bd} (h : findB l id = some b) : b ∈ l ∧ b.id = id := by
  unfold findB at h
  exact ⟨List.mem_of_find?_eq_some h, by simpa using List.find?_some h⟩

/-- What it is to be covered, of a value that is looked up. -/
def InB (u : Sm) (b : Bd) (v : Vl) : Prop := (v.null = true ∧ 0 < b.nulls) ∨ (v.null = false ∧ b.nulls < u.rows ∧ b.min.null = false ∧ b.max.null = false ∧ cmpV b.min v ≤ 0 ∧ cmpV v b.max ≤ 0)
theorem covers_in {u : Sm} {r : Rw} (h : coversF u r = true) : 0 < u.rows ∧ ∀ b ∈ u.l, InB u b (valV r b.id) := by
  simp only [coversF, Bool.and_eq_true, decide_eq_true_eq, List.all_eq_true] at h
  refine ⟨h.1, fun b hb => ?_⟩
  have := h.2 b hb
  rw [getV_valV] at this
  cases hn : (valV r b.id).null with
  | true =>
    simp only [hn, if_true, Vl.nul] at this
    exact .inl ⟨hn, by simpa using this⟩
  | false =>
    simp only [hn, Bool.false_eq_true, if_false, Bool.and_eq_true, Bool.not_eq_true', Bool.or_eq_false_iff, decide_eq_false_iff_not] at this
    obtain ⟨⟨⟨g1, g2⟩, g3⟩, g4, g5⟩ := this
    refine .inr ⟨hn, by omega, g2, g3, ?_, by omega⟩
    exact (cmpV_anti _ _).1 (by omega)

theorem atom_sound {u : Sm} {r : Rw} (h : coversF u r = true) (p : Pr) (ho : p.op = 1 ∨ p.op = 2 ∨ p.op = 3 ∨ p.op = 4) : has (atomT u p) (simpleF p (valV r p.id)) = true := by
  obtain ⟨h0, hb⟩ := covers_in h
  obtain ⟨v, hv⟩ : ∃ v, valV r p.id = v := ⟨_, rfl⟩
  rw [hv]
  cases hf : findB u.l p.id with
  | none =>
    simp only [atomT, hf]
    by_cases k4 : p.op = 4
    · rw [if_pos k4, simpleF, if_pos k4, has_truth]
      split <;> rfl
    · rw [if_neg k4]
      rcases simpleF_012 p v with e | e | e <;> rw [e] <;> rfl
  | some b =>
    obtain ⟨f1, f2⟩ := findB_some hf
    have hi := hb b f1
    rw [f2, hv] at hi
    simp only [atomT, hf]
    by_cases k4 : p.op = 4
    · rw [if_pos k4, simpleF, if_pos k4, has_truth]
      rcases hi with ⟨i1, i2⟩ | ⟨i1, i2, _⟩
      · simp [i1, i2]
      · simp [i1, i2]
    rw [if_neg k4]
    rcases hi with ⟨i1, i2⟩ | ⟨i1, i2, i3, i4, i5, i6⟩
    · have e : simpleF p v = 2 := by rw [simpleF, if_neg k4, if_pos i1]
      rw [e]
      split <;> simp [has, i2]
    · have hc : ¬ ((u.rows ≤ b.nulls ∨ b.min.null = true) ∨ b.max.null = true) := by simp [i3, i4]; omega
      have hv0 : ¬ v.null = true := by rw [i1]; exact Bool.false_ne_true
      simp only [if_neg hc, simpleF, if_neg k4, if_neg hv0]
      have j5 := (cmpV_le (i3.trans i1.symm)).1 i5
      have j6 := (cmpV_le (i1.trans i4.symm)).1 i6
      by_cases k1 : p.op = 1
      · have k2 : ¬ p.op = 2 := by omega
        have k3 : ¬ p.op = 3 := by omega
        simp only [if_neg k2, if_neg k3, if_pos k1]
        rw [has_truth]
        split
        · rename_i g
          simp only [Bool.and_eq_true, decide_eq_true_eq] at g
          simp only [btw, decide_eq_true_eq]
          omega
        · rename_i g
          simp only [Bool.and_eq_true, decide_eq_true_eq] at g
          simp only [btw, decide_eq_true_eq]
          omega
      by_cases k2 : p.op = 2
      · simp only [if_pos k2, if_neg k1]
        rw [has_truth]
        split
        · rename_i g
          simp only [within, List.any_eq_true, Bool.and_eq_true, decide_eq_true_eq, Bool.not_eq_true'] at g
          obtain ⟨x, hx, ⟨g1, g2⟩, g3⟩ := g
          have e : x = v := by
            obtain ⟨xn, xi, xs⟩ := x
            obtain ⟨vn, vi, vs⟩ := v
            simp only at g1 g2 g3 i1
            subst g1 g2 g3 i1; rfl
          subst e
          simp only [inn, List.any_eq_true]
          exact ⟨x, hx, by simp [inside, g1, i5, i6]⟩
        · rename_i g
          simp only [inn, Bool.not_eq_true', Bool.and_eq_false_iff, decide_eq_false_iff_not]
          by_cases em : b.min = b.max
          · right
            cases ha : p.set.any fun x => decide (b.min = x) with
            | false => rfl
            | true =>
              exfalso
              simp only [List.any_eq_true, decide_eq_true_eq] at ha
              obtain ⟨x, hx, hxe⟩ := ha
              have ev : b.min = v := cmpV_eq (i3.trans i1.symm) i5 (by rw [em]; exact (cmpV_anti _ _).2 i6)
              apply g
              simp only [within, List.any_eq_true]
              refine ⟨x, hx, ?_⟩
              rw [← hxe, ev]
              simp [i1]
          · exact .inl em
      · have k3 : p.op = 3 := by omega
        simp only [if_neg k2, if_pos k3, if_neg k1]
        rw [has_truth]
        unfold pfx
        by_cases en : b.min.n = b.max.n
        · rw [if_pos en]
          have l5 : ¬ v.s.data.toList < b.min.s.data.toList := by rcases j5 with g | g; omega; exact g.2
          have l6 : ¬ b.max.s.data.toList < v.s.data.toList := by rcases j6 with g | g; omega; exact g.2
          split
          · rename_i g
            simp only [pre, decide_eq_true_eq] at g
            simp only [Bool.and_eq_true, Bool.or_eq_true, decide_eq_true_eq, pre]
            refine ⟨lex_up _ _ _ g l6, ?_⟩
            by_cases q : p.text.data.toList <+: b.min.s.data.toList
            · exact .inl q
            · exact .inr (lex_low _ _ _ g l5 q)
          · rename_i g
            simp only [pre, decide_eq_true_eq] at g
            simp only [pre, Bool.or_eq_true, Bool.not_eq_true', decide_eq_false_iff_not]
            by_cases q : p.text.data.toList <+: b.min.s.data.toList
            · right
              intro q2
              exact g (lex_mid _ _ _ _ q q2 l5 l6)
            · exact .inl q
        · rw [if_neg en]
          split <;> rfl
theorem bothT_fold (l : List Tr) : ∀ a b c d, l.foldl bothS (⟨a, b, c⟩, d) = (⟨a && l.all (·.y), b || l.any (·.n), c || l.any (·.u)⟩, d && l.all fun t => t.y || t.u) := by
  induction l with
  | nil => intro a b c d; simp
  | cons t l ih =>
    intro a b c d
    rw [List.foldl_cons]
    simp only [bothS]
    rw [ih]
    simp [Bool.and_assoc, Bool.or_assoc]
theorem bothT_eq (l : List Tr) : bothT l = ⟨l.all (·.y), l.any (·.n), (l.all fun t => t.y || t.u) && l.any (·.u)⟩ := by
  rw [bothT, bothT_fold]; simp
theorem has2 (t : Tr) : has t 2 = t.u := by simp [has]
theorem has1 (t : Tr) : has t 1 = t.y := by simp [has]
theorem has0 (t : Tr) : has t 0 = t.n := by simp [has]
theorem poss_sound {u : Sm} {r : Rw} (h : coversF u r = true) : ∀ (n : Nat) (p : Pr), SizeOf.sizeOf p ≤ n → has (possT u p) (evalP r p) = true
  | 0, p, hn => by cases p; simp at hn
  | n + 1, p, hn => by
    have ih : ∀ k ∈ p.kids, has (possT u k) (evalP r k) = true := fun k hk => poss_sound h n k (Nat.le_of_lt_succ (Nat.lt_of_lt_of_le (Pr.kid_lt (p := p) hk) hn))
    have i1 : ∀ k ∈ p.kids, evalP r k = 1 → (possT u k).y = true := fun k hk e => by have := ih k hk; rwa [e, has1] at this
    have i0 : ∀ k ∈ p.kids, evalP r k = 0 → (possT u k).n = true := fun k hk e => by have := ih k hk; rwa [e, has0] at this
    have i2 : ∀ k ∈ p.kids, evalP r k = 2 → (possT u k).u = true := fun k hk e => by have := ih k hk; rwa [e, has2] at this
    have c0 : (0 < ((p.kids.map (evalP r)).count 0 : Int)) ↔ ∃ k ∈ p.kids, evalP r k = 0 := by
      have := @List.count_pos_iff Int _ _ 0 (p.kids.map (evalP r))
      simp only [List.mem_map] at this
      rw [← this]; omega
    have c1 : (0 < ((p.kids.map (evalP r)).count 1 : Int)) ↔ ∃ k ∈ p.kids, evalP r k = 1 := by
      have := @List.count_pos_iff Int _ _ 1 (p.kids.map (evalP r))
      simp only [List.mem_map] at this
      rw [← this]; omega
    have a0 : (((p.kids.map (evalP r)).count 0 : Int) = (p.kids.map (evalP r)).length) ↔ ∀ k ∈ p.kids, evalP r k = 0 := by
      have := @List.count_eq_length Int _ _ 0 (p.kids.map (evalP r))
      simp only [List.mem_map, forall_exists_index, and_imp, forall_apply_eq_imp_iff₂] at this
      constructor
      · intro g k hk; exact (this.1 (by omega) k hk).symm
      · intro g; have := this.2 fun k hk => (g k hk).symm; omega
    have a1 : (((p.kids.map (evalP r)).count 1 : Int) = (p.kids.map (evalP r)).length) ↔ ∀ k ∈ p.kids, evalP r k = 1 := by
      have := @List.count_eq_length Int _ _ 1 (p.kids.map (evalP r))
      simp only [List.mem_map, forall_exists_index, and_imp, forall_apply_eq_imp_iff₂] at this
      constructor
      · intro g k hk; exact (this.1 (by omega) k hk).symm
      · intro g; have := this.2 fun k hk => (g k hk).symm; omega
    rw [possT_eq, evalP_eq, evK]
    by_cases k0 : p.op = 0
    · rw [if_pos k0, if_pos k0]; rfl
    rw [if_neg k0, if_neg k0]
    by_cases k1 : p.op = 1 ∨ p.op = 2 ∨ p.op = 3 ∨ p.op = 4
    · rw [if_pos k1, if_pos k1]; exact atom_sound h p k1
    rw [if_neg k1, if_neg k1]
    by_cases k5 : p.op = 5
    · rw [if_pos k5, if_pos k5, bothT_eq]
      by_cases g0 : ∃ k ∈ p.kids, evalP r k = 0
      · have g := c0.2 g0
        rw [if_pos (.inl g), has_truth, decide_eq_false (by omega)]
        obtain ⟨k, hk, e⟩ := g0
        simp only [Bool.false_eq_true, if_false, List.any_map, List.any_eq_true, Function.comp]
        exact ⟨k, hk, i0 k hk e⟩
      · have g := mt c0.1 g0
        by_cases g1 : ∀ k ∈ p.kids, evalP r k = 1
        · rw [if_pos (.inr (a1.2 g1)), has_truth, decide_eq_true (by omega)]
          simp only [if_true, List.all_map, List.all_eq_true, Function.comp]
          exact fun k hk => i1 k hk (g1 k hk)
        · rw [if_neg (by rintro (q | q); exact g q; exact g1 (a1.1 q)), has2]
          simp only [Bool.and_eq_true, List.all_map, List.any_map, List.all_eq_true, List.any_eq_true, Function.comp, Bool.or_eq_true]
          constructor
          · intro k hk
            rcases evalP_012 r k with e | e | e
            · exact absurd ⟨k, hk, e⟩ g0
            · exact .inl (i1 k hk e)
            · exact .inr (i2 k hk e)
          · have : ∃ k, ∃ hk : k ∈ p.kids, evalP r k ≠ 1 := by
              apply Classical.byContradiction
              intro q
              exact g1 fun k hk => Classical.byContradiction fun q2 => q ⟨k, hk, q2⟩
            obtain ⟨k, hk, e⟩ := this
            rcases evalP_012 r k with e' | e' | e'
            · exact absurd ⟨k, hk, e'⟩ g0
            · exact absurd e' e
            · exact ⟨k, hk, i2 k hk e'⟩
    rw [if_neg k5, if_neg k5]
    by_cases k6 : p.op = 6
    · rw [if_pos k6, if_pos k6, bothT_eq]
      simp only [Tr.turn]
      by_cases g0 : ∃ k ∈ p.kids, evalP r k = 1
      · have g := c1.2 g0
        rw [if_pos (.inl g), has_truth, decide_eq_true g]
        obtain ⟨k, hk, e⟩ := g0
        simp only [if_true, List.any_map, List.any_eq_true, Function.comp]
        exact ⟨k, hk, i1 k hk e⟩
      · have g := mt c1.1 g0
        by_cases g1 : ∀ k ∈ p.kids, evalP r k = 0
        · rw [if_pos (.inr (a0.2 g1)), has_truth, decide_eq_false g]
          simp only [Bool.false_eq_true, if_false, List.all_map, List.all_eq_true, Function.comp]
          exact fun k hk => i0 k hk (g1 k hk)
        · rw [if_neg (by rintro (q | q); exact g q; exact g1 (a0.1 q)), has2]
          simp only [Bool.and_eq_true, List.all_map, List.any_map, List.all_eq_true, List.any_eq_true, Function.comp, Bool.or_eq_true]
          constructor
          · intro k hk
            rcases evalP_012 r k with e | e | e
            · exact .inl (i0 k hk e)
            · exact absurd ⟨k, hk, e⟩ g0
            · exact .inr (i2 k hk e)
          · have : ∃ k, ∃ hk : k ∈ p.kids, evalP r k ≠ 0 := by
              apply Classical.byContradiction
              intro q
              exact g1 fun k hk => Classical.byContradiction fun q2 => q ⟨k, hk, q2⟩
            obtain ⟨k, hk, e⟩ := this
            rcases evalP_012 r k with e' | e' | e'
            · exact absurd e' e
            · exact absurd ⟨k, hk, e'⟩ g0
            · exact ⟨k, hk, i2 k hk e'⟩
    rw [if_neg k6, if_neg k6]
    by_cases k7 : p.op = 7
    · rw [if_pos k7]
      by_cases hl : p.kids.length = 1
      · obtain ⟨x, hx⟩ := List.length_eq_one_iff.1 hl
        rw [if_pos ⟨k7, hl⟩]
        have hm : x ∈ p.kids := by rw [hx]; simp
        have j0 := i0 x hm
        have j1 := i1 x hm
        have j2 := i2 x hm
        rw [hx]
        rcases evalP_012 r x with e | e | e
        all_goals simp [e, truth, has, Tr.turn]
        · exact j0 e
        · exact j1 e
        · exact j2 e
      · rw [if_neg (by omega), if_neg (by rw [List.length_map]; omega)]; rfl
    · rw [if_neg k7, if_neg (by omega)]; rfl
end Go.Proofs.YtbfkhepfgibonaaGreatS
