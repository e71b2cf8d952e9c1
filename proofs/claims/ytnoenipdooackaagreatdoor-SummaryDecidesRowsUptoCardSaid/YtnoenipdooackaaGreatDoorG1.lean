
import Derived.Test.YtnoenipdooackaaGreatDoorF3
import Derived.Test.YtnoenipdooackaaGreatDoorE2
set_option linter.unusedVariables false
set_option linter.unusedSimpArgs false
namespace Go.Proofs.YtnoenipdooackaaGreatDoorS
open Go Go.Proofs.YtnoenipdooackaaGreatDoorV

/-! Wider bounds leave more possible. -/
theorem nlt_trans {a b c : List UInt8} (h1 : ¬ b < a) (h2 : ¬ c < b) : ¬ c < a := fun h => by
  have := List.le_trans (α := UInt8) h1 h2
  exact this h
theorem cmpV_trans {a b c : Vl} (h1 : a.null = b.null) (h2 : b.null = c.null) (g1 : cmpV a b ≤ 0) (g2 : cmpV b c ≤ 0) : cmpV a c ≤ 0 := by
  rw [cmpV_le h1] at g1
  rw [cmpV_le h2] at g2
  rw [cmpV_le (h1.trans h2)]
  rcases g1 with g1 | ⟨g1, k1⟩ <;> rcases g2 with g2 | ⟨g2, k2⟩
  · left; omega
  · left; omega
  · left; omega
  · exact .inr ⟨by omega, nlt_trans k1 k2⟩
theorem cmpV_self (a : Vl) : cmpV a a ≤ 0 := by
  have h := cmpV_anti a a
  by_cases g : cmpV a a ≤ 0
  · exact g
  · exact h.1 (by omega)
theorem lesserV_nl {a b : Vl} (h : a.null = true) : lesserV a b = b := by simp [lesserV, h]
theorem lesserV_nr {a b : Vl} (h : a.null = false) (g : b.null = true) : lesserV a b = a := by simp [lesserV, h, g]
theorem lesserV_nn {a b : Vl} (h : a.null = false) (g : b.null = false) : lesserV a b = if cmpV b a < 0 then b else a := by simp [lesserV, h, g]
theorem greaterV_nl {a b : Vl} (h : a.null = true) : greaterV a b = b := by simp [greaterV, h]
theorem greaterV_nr {a b : Vl} (h : a.null = false) (g : b.null = true) : greaterV a b = a := by simp [greaterV, h, g]
theorem greaterV_nn {a b : Vl} (h : a.null = false) (g : b.null = false) : greaterV a b = if 0 < cmpV b a then b else a := by simp [greaterV, h, g]
theorem lesserV_null (a b : Vl) : (lesserV a b).null = (a.null && b.null) := by
  cases h : a.null with
  | true => rw [lesserV_nl h, Bool.true_and]
  | false => cases g : b.null with
    | true => rw [lesserV_nr h g, h]; rfl
    | false => rw [lesserV_nn h g]; split <;> simp [h, g]
theorem greaterV_null (a b : Vl) : (greaterV a b).null = (a.null && b.null) := by
  cases h : a.null with
  | true => rw [greaterV_nl h, Bool.true_and]
  | false => cases g : b.null with
    | true => rw [greaterV_nr h g, h]; rfl
    | false => rw [greaterV_nn h g]; split <;> simp [h, g]
theorem lesserV_le {a b : Vl} : (a.null = false → cmpV (lesserV a b) a ≤ 0) ∧ (b.null = false → cmpV (lesserV a b) b ≤ 0) := by
  cases h : a.null with
  | true => rw [lesserV_nl h]; exact ⟨fun g => (nomatch g), fun _ => cmpV_self _⟩
  | false => cases g : b.null with
    | true => rw [lesserV_nr h g]; exact ⟨fun _ => cmpV_self _, fun g => (nomatch g)⟩
    | false =>
      rw [lesserV_nn h g]
      split
      · exact ⟨fun _ => by omega, fun _ => cmpV_self _⟩
      · exact ⟨fun _ => cmpV_self _, fun _ => (cmpV_anti _ _).1 (by omega)⟩
theorem greaterV_ge {a b : Vl} : (a.null = false → cmpV a (greaterV a b) ≤ 0) ∧ (b.null = false → cmpV b (greaterV a b) ≤ 0) := by
  cases h : a.null with
  | true => rw [greaterV_nl h]; exact ⟨fun g => (nomatch g), fun _ => cmpV_self _⟩
  | false => cases g : b.null with
    | true => rw [greaterV_nr h g]; exact ⟨fun _ => cmpV_self _, fun g => (nomatch g)⟩
    | false =>
      rw [greaterV_nn h g]
      split
      · exact ⟨fun _ => (cmpV_anti _ _).1 (by omega), fun _ => cmpV_self _⟩
      · exact ⟨fun _ => cmpV_self _, fun _ => by omega⟩
theorem lesserV_assoc (x y z : Vl) : lesserV (lesserV x y) z = lesserV x (lesserV y z) := by
  cases hx : x.null with
  | true => rw [lesserV_nl hx, lesserV_nl hx]
  | false => cases hy : y.null with
    | true => rw [lesserV_nr hx hy, lesserV_nl hy]
    | false => cases hz : z.null with
      | true => rw [lesserV_nr hy hz, lesserV_nr (by rw [lesserV_null, hx]; rfl) hz]
      | false =>
        have t1 := @cmpV_trans x y z (hx.trans hy.symm) (hy.trans hz.symm)
        have t2 := @cmpV_trans x z y (hx.trans hz.symm) (hz.trans hy.symm)
        have a1 := cmpV_anti y x
        have a2 := cmpV_anti z y
        have a3 := cmpV_anti z x
        rw [lesserV_nn hx hy, lesserV_nn hy hz]
        by_cases c1 : cmpV y x < 0
        · rw [if_pos c1, lesserV_nn hy hz]
          by_cases c2 : cmpV z y < 0
          · rw [if_pos c2, lesserV_nn hx hz, if_pos]
            apply Classical.byContradiction; intro q
            have := t2 (a3.1 (by omega)) (by omega); omega
          · rw [if_neg c2, lesserV_nn hx hy, if_pos c1]
        · rw [if_neg c1, lesserV_nn hx hz]
          by_cases c2 : cmpV z y < 0
          · rw [if_pos c2, lesserV_nn hx hz]
          · rw [if_neg c2, lesserV_nn hx hy, if_neg c1, if_neg]
            have := a3.2 (t1 (a1.1 (by omega)) (a2.1 (by omega))); omega
theorem greaterV_assoc (x y z : Vl) : greaterV (greaterV x y) z = greaterV x (greaterV y z) := by
  cases hx : x.null with
  | true => rw [greaterV_nl hx, greaterV_nl hx]
  | false => cases hy : y.null with
    | true => rw [greaterV_nr hx hy, greaterV_nl hy]
    | false => cases hz : z.null with
      | true => rw [greaterV_nr hy hz, greaterV_nr (by rw [greaterV_null, hx]; rfl) hz]
      | false =>
        have t1 := @cmpV_trans z y x (hz.trans hy.symm) (hy.trans hx.symm)
        have t2 := @cmpV_trans y z x (hy.trans hz.symm) (hz.trans hx.symm)
        have a2 := cmpV_anti z y
        rw [greaterV_nn hx hy, greaterV_nn hy hz]
        by_cases c1 : 0 < cmpV y x
        · rw [if_pos c1, greaterV_nn hy hz]
          by_cases c2 : 0 < cmpV z y
          · rw [if_pos c2, greaterV_nn hx hz, if_pos]
            apply Classical.byContradiction; intro q
            have := t2 (a2.1 (by omega)) (by omega); omega
          · rw [if_neg c2, greaterV_nn hx hy, if_pos c1]
        · rw [if_neg c1, greaterV_nn hx hz]
          by_cases c2 : 0 < cmpV z y
          · rw [if_pos c2, greaterV_nn hx hz]
          · rw [if_neg c2, greaterV_nn hx hy, if_neg c1, if_neg]
            have := t1 (by omega) (by omega); omega

def mrgB (l : List Bd) (x : Bd) : Option Bd := (findB l x.id).map fun y => ⟨x.id, x.nulls + y.nulls, lesserV x.min y.min, greaterV x.max y.max⟩
def mrgF (a b : Sm) : Sm := if a.rows = 0 then b else if b.rows = 0 then a else ⟨a.rows + b.rows, a.l.filterMap (mrgB b.l)⟩
theorem findB_mrg (m : List Bd) (id : Int) : ∀ l : List Bd, findB (l.filterMap (mrgB m)) id = (findB l id).bind (mrgB m)
  | [] => rfl
  | x :: l => by
    have ih := findB_mrg m id l
    cases hm : mrgB m x with
    | none =>
      rw [List.filterMap_cons_none hm, ih]
      by_cases h : x.id = id
      · have e : findB (x :: l) id = some x := by simp [findB, List.find?_cons, h]
        rw [e, Option.bind_some, hm]
        cases hl : findB l id with
        | none => rfl
        | some y =>
          obtain ⟨_, hy⟩ := findB_some hl
          simp only [mrgB, Option.map_eq_none_iff] at hm
          rw [Option.bind_some, mrgB, hy, ← h, hm]; rfl
      · have e : findB (x :: l) id = findB l id := by simp [findB, List.find?_cons, h]
        rw [e]
    | some z =>
      have hz : z.id = x.id := by
        simp only [mrgB, Option.map_eq_some_iff] at hm
        obtain ⟨y, _, rfl⟩ := hm; rfl
      rw [List.filterMap_cons_some hm]
      by_cases h : x.id = id
      · have e : findB (x :: l) id = some x := by simp [findB, List.find?_cons, h]
        have e2 : findB (z :: l.filterMap (mrgB m)) id = some z := by simp [findB, List.find?_cons, hz, h]
        rw [e, e2, Option.bind_some, hm]
      · have e : findB (x :: l) id = findB l id := by simp [findB, List.find?_cons, h]
        have e2 : findB (z :: l.filterMap (mrgB m)) id = findB (l.filterMap (mrgB m)) id := by simp [findB, List.find?_cons, hz, h]
        rw [e, e2, ih]
theorem mrgF_assoc {a b c : Sm} (ha : 0 ≤ a.rows) (hb : 0 ≤ b.rows) (hc : 0 ≤ c.rows) : mrgF (mrgF a b) c = mrgF a (mrgF b c) := by
  unfold mrgF
  by_cases h1 : a.rows = 0
  · simp only [if_pos h1]
  by_cases h2 : b.rows = 0
  · simp only [if_neg h1, if_pos h2]
  by_cases h3 : c.rows = 0
  · have h4 : ¬ a.rows + b.rows = 0 := by omega
    simp only [if_neg h1, if_neg h2, if_pos h3, if_neg h4]
  have h4 : ¬ a.rows + b.rows = 0 := by omega
  have h5 : ¬ b.rows + c.rows = 0 := by omega
  simp only [if_neg h1, if_neg h2, if_neg h3, if_neg h4, if_neg h5, Sm.mk.injEq]
  refine ⟨by omega, ?_⟩
  rw [List.filterMap_filterMap]
  refine congrArg (List.filterMap · a.l) (funext fun x => ?_)
  simp only [mrgB, findB_mrg]
  cases h : findB b.l x.id with
  | none => rfl
  | some y =>
    obtain ⟨_, hy⟩ := findB_some h
    simp only [Option.map_some, Option.bind_some, mrgB, hy]
    cases g : findB c.l x.id with
    | none => rfl
    | some z =>
      simp only [Option.map_some, lesserV_assoc, greaterV_assoc, Int.add_assoc]

def leT (s t : Tr) : Prop := (s.y = true → t.y = true) ∧ (s.n = true → t.n = true) ∧ (s.u = true → t.u = true)
structure Wb (ra rx : Int) (a x : Bd) : Prop where
  some : 0 < a.nulls → 0 < x.nulls
  less : a.nulls < ra → x.nulls < rx
  an : a.nulls < ra → a.min.null = false
  am : a.nulls < ra → a.max.null = false
  xn : a.nulls < ra → x.min.null = false
  xm : a.nulls < ra → x.max.null = false
  lo : a.nulls < ra → cmpV x.min a.min ≤ 0
  hi : a.nulls < ra → cmpV a.max x.max ≤ 0
  mid : a.nulls < ra → cmpV a.min a.max ≤ 0
def Wid (a x : Sm) : Prop := ∀ id bx, findB x.l id = some bx → ∃ ba, findB a.l id = some ba ∧ Wb a.rows x.rows ba bx
theorem atom_mono {a x : Sm} (h : Wid a x) (p : Pr) : leT (atomT a p) (atomT x p) := by
  cases hf : findB x.l p.id with
  | none =>
    have e : atomT x p = if p.op = 4 then ⟨true, true, false⟩ else ⟨true, true, true⟩ := by simp only [atomT, hf]
    rw [e]
    by_cases k4 : p.op = 4
    · rw [if_pos k4]
      have : (atomT a p).u = false := by
        unfold atomT
        split <;> simp [k4]
      exact ⟨fun _ => rfl, fun _ => rfl, fun g => by rw [this] at g; cases g⟩
    · rw [if_neg k4]; exact ⟨fun _ => rfl, fun _ => rfl, fun _ => rfl⟩
  | some bx =>
    obtain ⟨ba, ha, w⟩ := h _ _ hf
    simp only [atomT, hf, ha]
    by_cases k4 : p.op = 4
    · simp only [if_pos k4]
      exact ⟨fun g => by simpa using w.some (by simpa using g), fun g => by simpa using w.less (by simpa using g), fun g => (nomatch g)⟩
    simp only [if_neg k4]
    have wu : decide (0 < ba.nulls) = true → decide (0 < bx.nulls) = true := fun g => by simpa using w.some (by simpa using g)
    by_cases hc : (a.rows ≤ ba.nulls ∨ ba.min.null = true) ∨ ba.max.null = true
    · rw [if_pos hc]
      refine ⟨fun g => (nomatch g), fun g => (nomatch g), fun g => ?_⟩
      split <;> exact wu g
    rw [if_neg hc]
    have hl : ba.nulls < a.rows := by
      apply Classical.byContradiction; intro q; exact hc (.inl (.inl (by omega)))
    obtain ⟨_, w1, w2, w3, w4, w5, w6, w7, w8⟩ := w
    replace w1 := w1 hl
    replace w2 := w2 hl
    replace w3 := w3 hl
    replace w4 := w4 hl
    replace w5 := w5 hl
    replace w6 := w6 hl
    replace w7 := w7 hl
    replace w8 := w8 hl
    have hx : ¬ ((x.rows ≤ bx.nulls ∨ bx.min.null = true) ∨ bx.max.null = true) := by simp [w4, w5]; omega
    rw [if_neg hx]
    have j1 := (cmpV_le (w4.trans w2.symm)).1 w6
    have j2 := (cmpV_le (w3.trans w5.symm)).1 w7
    have j3 := (cmpV_le (w2.trans w3.symm)).1 w8
    by_cases k2 : p.op = 2
    · simp only [if_pos k2]
      refine ⟨fun g => ?_, fun g => ?_, wu⟩
      · simp only [inn, List.any_eq_true] at g ⊢
        obtain ⟨v, hv, hi⟩ := g
        simp only [inside, Bool.and_eq_true, Bool.not_eq_true', decide_eq_true_eq] at hi
        obtain ⟨⟨i1, i2⟩, i3⟩ := hi
        refine ⟨v, hv, ?_⟩
        simp only [inside, Bool.and_eq_true, Bool.not_eq_true', decide_eq_true_eq]
        exact ⟨⟨i1, cmpV_trans (w4.trans w2.symm) (w2.trans i1.symm) w6 i2⟩, cmpV_trans (i1.trans w3.symm) (w3.trans w5.symm) i3 w7⟩
      · simp only [inn, Bool.not_eq_true', Bool.and_eq_false_iff, decide_eq_false_iff_not] at g ⊢
        by_cases em : bx.min = bx.max
        · have e1 : bx.min = ba.min := cmpV_eq (w4.trans w2.symm) w6 ((cmpV_anti _ _).2 (by
            rw [em]
            exact cmpV_trans (w2.trans w3.symm) (w3.trans w5.symm) w8 w7))
          have e2 : ba.max = bx.max := cmpV_eq (w3.trans w5.symm) w7 ((cmpV_anti _ _).2 (by
            rw [← em]
            exact cmpV_trans (w4.trans w2.symm) (w2.trans w3.symm) w6 w8))
          rw [← e1, e2] at g
          exact g
        · exact .inl em
    simp only [if_neg k2]
    by_cases k3 : p.op = 3
    · simp only [if_pos k3]
      unfold pfx
      by_cases ex : bx.min.n = bx.max.n
      · have ea : ba.min.n = ba.max.n := by omega
        have l1 : ¬ ba.min.s.data.toList < bx.min.s.data.toList := by rcases j1 with g | g; omega; exact g.2
        have l2 : ¬ bx.max.s.data.toList < ba.max.s.data.toList := by rcases j2 with g | g; omega; exact g.2
        have l3 : ¬ ba.max.s.data.toList < ba.min.s.data.toList := by rcases j3 with g | g; omega; exact g.2
        rw [if_pos ex, if_pos ea]
        refine ⟨fun g => ?_, fun g => ?_, wu⟩
        · simp only [Bool.and_eq_true, Bool.or_eq_true, decide_eq_true_eq, pre] at g ⊢
          refine ⟨nlt_trans g.1 l2, ?_⟩
          by_cases q : p.text.data.toList <+: bx.min.s.data.toList
          · exact .inl q
          · right
            rcases g.2 with g | g
            · exact lex_low _ _ _ g l1 q
            · exact nlt_trans l1 g
        · simp only [pre, Bool.or_eq_true, Bool.not_eq_true', decide_eq_false_iff_not] at g ⊢
          apply Classical.byContradiction
          intro q
          have q1 : p.text.data.toList <+: bx.min.s.data.toList := Classical.byContradiction fun z => q (.inl z)
          have q2 : p.text.data.toList <+: bx.max.s.data.toList := Classical.byContradiction fun z => q (.inr z)
          rcases g with g | g
          · exact g (lex_mid _ _ _ _ q1 q2 l1 (nlt_trans l3 l2))
          · exact g (lex_mid _ _ _ _ q1 q2 (nlt_trans l1 l3) l2)
      · rw [if_neg ex]
        exact ⟨fun _ => rfl, fun _ => rfl, wu⟩
    · simp only [if_neg k3]
      refine ⟨fun g => ?_, fun g => ?_, wu⟩
      · simp only [btw, decide_eq_true_eq] at g ⊢; omega
      · simp only [btw, decide_eq_true_eq] at g ⊢; omega
theorem poss_mono {a x : Sm} (h : Wid a x) : ∀ (n : Nat) (p : Pr), SizeOf.sizeOf p ≤ n → leT (possT a p) (possT x p)
  | 0, p, hn => by cases p; simp at hn
  | n + 1, p, hn => by
    have ih : ∀ k ∈ p.kids, leT (possT a k) (possT x k) := fun k hk => poss_mono h n k (Nat.le_of_lt_succ (Nat.lt_of_lt_of_le (Pr.kid_lt (p := p) hk) hn))
    rw [possT_eq, possT_eq]
    by_cases k0 : p.op = 0
    · rw [if_pos k0, if_pos k0]; exact ⟨id, id, id⟩
    rw [if_neg k0, if_neg k0]
    by_cases k1 : p.op = 1 ∨ p.op = 2 ∨ p.op = 3 ∨ p.op = 4
    · rw [if_pos k1, if_pos k1]; exact atom_mono h p
    rw [if_neg k1, if_neg k1]
    by_cases k5 : p.op = 5
    · rw [if_pos k5, if_pos k5, bothT_eq, bothT_eq]
      simp only [leT, Bool.and_eq_true, List.all_map, List.any_map, List.all_eq_true, List.any_eq_true, Function.comp, Bool.or_eq_true]
      refine ⟨fun g k hk => (ih k hk).1 (g k hk), ?_, ?_⟩
      · rintro ⟨k, hk, g⟩; exact ⟨k, hk, (ih k hk).2.1 g⟩
      · rintro ⟨g1, k, hk, g⟩; exact ⟨fun k hk => (g1 k hk).imp (ih k hk).1 (ih k hk).2.2, k, hk, (ih k hk).2.2 g⟩
    rw [if_neg k5, if_neg k5]
    by_cases k6 : p.op = 6
    · rw [if_pos k6, if_pos k6, bothT_eq, bothT_eq]
      simp only [Tr.turn, leT, Bool.and_eq_true, List.all_map, List.any_map, List.all_eq_true, List.any_eq_true, Function.comp, Bool.or_eq_true]
      refine ⟨?_, fun g k hk => (ih k hk).2.1 (g k hk), ?_⟩
      · rintro ⟨k, hk, g⟩; exact ⟨k, hk, (ih k hk).1 g⟩
      · rintro ⟨g1, k, hk, g⟩; exact ⟨fun k hk => (g1 k hk).imp (ih k hk).2.1 (ih k hk).2.2, k, hk, (ih k hk).2.2 g⟩
    rw [if_neg k6, if_neg k6]
    by_cases k7 : p.op = 7 ∧ p.kids.length = 1
    · rw [if_pos k7, if_pos k7]
      obtain ⟨y, hy⟩ := List.length_eq_one_iff.1 k7.2
      have j := ih y (by rw [hy]; simp)
      rw [hy]
      exact ⟨j.2.1, j.1, j.2.2⟩
    · rw [if_neg k7, if_neg k7]; exact ⟨id, id, id⟩

/-! On well-formed bounds something is possible. -/
def Real (u : Sm) : Prop := 0 < u.rows ∧ ∀ id b, findB u.l id = some b → b.nulls < u.rows → b.min.null = false ∧ b.max.null = false ∧ cmpV b.min b.max ≤ 0
def anyT (t : Tr) : Prop := t.y = true ∨ t.n = true ∨ t.u = true
theorem atom_any {u : Sm} (h : Real u) (p : Pr) : anyT (atomT u p) := by
  obtain ⟨h0, h⟩ := h
  cases hf : findB u.l p.id with
  | none =>
    simp only [atomT, hf]
    split <;> exact .inl rfl
  | some b =>
    simp only [atomT, hf]
    by_cases k4 : p.op = 4
    · simp only [if_pos k4, anyT, decide_eq_true_eq]; omega
    simp only [if_neg k4]
    by_cases hl : u.rows ≤ b.nulls
    · rw [if_pos (.inl (.inl hl))]
      exact .inr (.inr (decide_eq_true (by omega)))
    obtain ⟨r1, r2, r3⟩ := h _ _ hf (by omega)
    rw [if_neg (by simp [r1, r2]; omega)]
    have j3 := (cmpV_le (r1.trans r2.symm)).1 r3
    by_cases k2 : p.op = 2
    · simp only [if_pos k2]
      cases hn : (inn b p).n with
      | true => exact .inr (.inl rfl)
      | false =>
        left
        simp only [inn, Bool.not_eq_false', Bool.and_eq_true, decide_eq_true_eq, List.any_eq_true] at hn ⊢
        obtain ⟨e, v, hv, rfl⟩ := hn
        refine ⟨_, hv, ?_⟩
        simp only [inside, Bool.and_eq_true, Bool.not_eq_true', decide_eq_true_eq]
        exact ⟨⟨r1, cmpV_self _⟩, r3⟩
    simp only [if_neg k2]
    by_cases k3 : p.op = 3
    · simp only [if_pos k3]
      unfold pfx
      split
      · cases q1 : pre b.min.s p.text with
        | false => exact .inr (.inl rfl)
        | true => cases q2 : pre b.max.s p.text with
          | false => exact .inr (.inl rfl)
          | true =>
            left
            simp only [pre, decide_eq_true_eq] at q2
            simp only [Bool.and_eq_true, Bool.true_or, decide_eq_true_eq, and_true]
            exact lex_up _ _ _ q2 (by simp)
      · exact .inl rfl
    · simp only [if_neg k3, anyT, btw, decide_eq_true_eq]
      omega
theorem both_any {l : List Tr} (h : ∀ t ∈ l, anyT t) : anyT (bothT l) := by
  rw [bothT_eq]
  simp only [anyT, Bool.and_eq_true, List.all_eq_true, List.any_eq_true, Bool.or_eq_true]
  by_cases g1 : ∃ t ∈ l, t.n = true
  · exact .inr (.inl g1)
  by_cases g2 : ∀ t ∈ l, t.y = true
  · exact .inl g2
  have g3 : ∃ t, ∃ _ : t ∈ l, ¬ t.y = true := by
    apply Classical.byContradiction
    intro q
    exact g2 fun t ht => Classical.byContradiction fun z => q ⟨t, ht, z⟩
  obtain ⟨t, ht, hy⟩ := g3
  refine .inr (.inr ⟨fun t ht => ?_, t, ht, ?_⟩)
  · rcases h t ht with q | q | q
    · exact .inl q
    · exact absurd ⟨t, ht, q⟩ g1
    · exact .inr q
  · rcases h t ht with q | q | q
    · exact absurd q hy
    · exact absurd ⟨t, ht, q⟩ g1
    · exact q
theorem turn_any {t : Tr} (h : anyT t) : anyT t.turn := by
  rcases h with h | h | h
  · exact .inr (.inl h)
  · exact .inl h
  · exact .inr (.inr h)
theorem poss_any {u : Sm} (h : Real u) : ∀ (n : Nat) (p : Pr), SizeOf.sizeOf p ≤ n → anyT (possT u p)
  | 0, p, hn => by cases p; simp at hn
  | n + 1, p, hn => by
    have ih : ∀ k ∈ p.kids, anyT (possT u k) := fun k hk => poss_any h n k (Nat.le_of_lt_succ (Nat.lt_of_lt_of_le (Pr.kid_lt (p := p) hk) hn))
    rw [possT_eq]
    by_cases k0 : p.op = 0
    · rw [if_pos k0]; exact .inl rfl
    rw [if_neg k0]
    by_cases k1 : p.op = 1 ∨ p.op = 2 ∨ p.op = 3 ∨ p.op = 4
    · rw [if_pos k1]; exact atom_any h p
    rw [if_neg k1]
    by_cases k5 : p.op = 5
    · rw [if_pos k5]
      refine both_any fun t ht => ?_
      obtain ⟨k, hk, rfl⟩ := List.mem_map.1 ht
      exact ih k hk
    rw [if_neg k5]
    by_cases k6 : p.op = 6
    · rw [if_pos k6]
      refine turn_any (both_any fun t ht => ?_)
      obtain ⟨s, hs, rfl⟩ := List.mem_map.1 ht
      obtain ⟨k, hk, rfl⟩ := List.mem_map.1 hs
      exact turn_any (ih k hk)
    rw [if_neg k6]
    by_cases k7 : p.op = 7 ∧ p.kids.length = 1
    · rw [if_pos k7]
      obtain ⟨y, hy⟩ := List.length_eq_one_iff.1 k7.2
      have j := ih y (by rw [hy]; simp)
      rw [hy]
      exact turn_any j
    · rw [if_neg k7]; exact .inr (.inr rfl)

/-! The merge of well-formed summaries is wider than each. -/
theorem formed_bd {u : Sm} (h : formedF u = true) {id : Int} {b : Bd} (hb : findB u.l id = some b) : 0 ≤ b.nulls ∧ b.nulls ≤ u.rows ∧ (b.nulls < u.rows → b.min.null = false ∧ b.max.null = false) ∧ cmpV b.min b.max ≤ 0 := by
  simp only [formedF, Bool.and_eq_true, decide_eq_true_eq] at h
  have := okL_mem _ _ _ h.2 b (findB_some hb).1
  simp only [bdOk, Bool.and_eq_true, decide_eq_true_eq] at this
  obtain ⟨⟨⟨⟨x1, x2⟩, x3⟩, x4⟩, x5⟩ := this
  refine ⟨x1, x2, fun g => ?_, x5⟩
  rw [decide_eq_false (by omega)] at x3 x4
  exact ⟨(limitF_false x3).1, (limitF_false x4).1⟩
theorem formed_real {u : Sm} (h : formedF u = true) (h0 : 0 < u.rows) : Real u := ⟨h0, fun id b hb g => by
  obtain ⟨_, _, q, q2⟩ := formed_bd h hb
  exact ⟨(q g).1, (q g).2, q2⟩⟩
theorem mrg_wide {a b : Sm} (ha : formedF a = true) (hb : formedF b = true) (h1 : 0 < a.rows) (h2 : 0 < b.rows) : Wid a (mrgF a b) ∧ Wid b (mrgF a b) := by
  have e : mrgF a b = ⟨a.rows + b.rows, a.l.filterMap (mrgB b.l)⟩ := by rw [mrgF, if_neg (by omega), if_neg (by omega)]
  rw [e]
  have key : ∀ id bx, findB (a.l.filterMap (mrgB b.l)) id = some bx → ∃ x y, findB a.l id = some x ∧ findB b.l id = some y ∧ bx = ⟨x.id, x.nulls + y.nulls, lesserV x.min y.min, greaterV x.max y.max⟩ := fun id bx h => by
    rw [findB_mrg, Option.bind_eq_some_iff] at h
    obtain ⟨x, hx, hm⟩ := h
    simp only [mrgB, Option.map_eq_some_iff] at hm
    obtain ⟨y, hy, rfl⟩ := hm
    rw [(findB_some hx).2] at hy
    exact ⟨x, y, hx, hy, rfl⟩
  refine ⟨fun id bx h => ?_, fun id bx h => ?_⟩
  · obtain ⟨x, y, hx, hy, rfl⟩ := key id bx h
    obtain ⟨x1, x2, x3, x4⟩ := formed_bd ha hx
    obtain ⟨y1, y2, y3, y4⟩ := formed_bd hb hy
    refine ⟨x, hx, ⟨fun g => by simp only; omega, fun g => by simp only; omega, fun g => (x3 g).1, fun g => (x3 g).2, fun g => by simp only; rw [lesserV_null, (x3 g).1]; rfl, fun g => by simp only; rw [greaterV_null, (x3 g).2]; rfl, fun g => lesserV_le.1 (x3 g).1, fun g => greaterV_ge.1 (x3 g).2, fun _ => x4⟩⟩
  · obtain ⟨x, y, hx, hy, rfl⟩ := key id bx h
    obtain ⟨x1, x2, x3, x4⟩ := formed_bd ha hx
    obtain ⟨y1, y2, y3, y4⟩ := formed_bd hb hy
    refine ⟨y, hy, ⟨fun g => by simp only; omega, fun g => by simp only; omega, fun g => (y3 g).1, fun g => (y3 g).2, fun g => by simp only; rw [lesserV_null, (y3 g).1, Bool.and_false], fun g => by simp only; rw [greaterV_null, (y3 g).2, Bool.and_false], fun g => lesserV_le.2 (y3 g).1, fun g => greaterV_ge.2 (y3 g).2, fun _ => y4⟩⟩
theorem grows_may {a b : Sm} (ha : formedF a = true) (hb : formedF b = true) (p : Pr) : (mayT a p = true ∨ mayT b p = true) → mayT (mrgF a b) p = true := by
  have a0 : 0 ≤ a.rows := by simp only [formedF, Bool.and_eq_true, decide_eq_true_eq] at ha; exact ha.1.1.1
  have b0 : 0 ≤ b.rows := by simp only [formedF, Bool.and_eq_true, decide_eq_true_eq] at hb; exact hb.1.1.1
  by_cases h1 : a.rows = 0
  · rw [mrgF, if_pos h1]
    rintro (h | h)
    · simp [mayT, h1] at h
    · exact h
  by_cases h2 : b.rows = 0
  · rw [mrgF, if_neg h1, if_pos h2]
    rintro (h | h)
    · exact h
    · simp [mayT, h2] at h
  obtain ⟨w1, w2⟩ := mrg_wide ha hb (by omega) (by omega)
  have hr : 0 < (mrgF a b).rows := by rw [mrgF, if_neg h1, if_neg h2]; simp only; omega
  simp only [mayT, Bool.and_eq_true, decide_eq_true_eq]
  rintro (⟨_, h⟩ | ⟨_, h⟩)
  · exact ⟨hr, (poss_mono w1 _ p (Nat.le_refl _)).1 h⟩
  · exact ⟨hr, (poss_mono w2 _ p (Nat.le_refl _)).1 h⟩
theorem must_down {a x : Sm} (h : Wid a x) (hr : Real a) (p : Pr) (hp : possT x p = ⟨true, false, false⟩) : possT a p = ⟨true, false, false⟩ := by
  obtain ⟨m1, m2, m3⟩ := poss_mono h _ p (Nat.le_refl _)
  have e := poss_any hr _ p (Nat.le_refl _)
  rw [hp] at m1 m2 m3
  generalize possT a p = t at m1 m2 m3 e
  obtain ⟨ty, tn, tu⟩ := t
  cases ty <;> cases tn <;> cases tu <;> simp_all [anyT]
theorem grows_must {a b : Sm} (ha : formedF a = true) (hb : formedF b = true) (p : Pr) (h : mustT (mrgF a b) p = true) : mustT a p = true ∧ mustT b p = true := by
  have a0 : 0 ≤ a.rows := by simp only [formedF, Bool.and_eq_true, decide_eq_true_eq] at ha; exact ha.1.1.1
  have b0 : 0 ≤ b.rows := by simp only [formedF, Bool.and_eq_true, decide_eq_true_eq] at hb; exact hb.1.1.1
  by_cases h1 : a.rows = 0
  · rw [mrgF, if_pos h1] at h
    exact ⟨by simp [mustT, h1], h⟩
  by_cases h2 : b.rows = 0
  · rw [mrgF, if_neg h1, if_pos h2] at h
    exact ⟨h, by simp [mustT, h2]⟩
  obtain ⟨w1, w2⟩ := mrg_wide ha hb (by omega) (by omega)
  have hr : 0 < (mrgF a b).rows := by rw [mrgF, if_neg h1, if_neg h2]; simp only; omega
  simp only [mustT, Bool.or_eq_true, decide_eq_true_eq] at h ⊢
  rcases h with h | h
  · omega
  · exact ⟨.inr (must_down w1 (formed_real ha (by omega)) p h), .inr (must_down w2 (formed_real hb (by omega)) p h)⟩
end Go.Proofs.YtnoenipdooackaaGreatDoorS
