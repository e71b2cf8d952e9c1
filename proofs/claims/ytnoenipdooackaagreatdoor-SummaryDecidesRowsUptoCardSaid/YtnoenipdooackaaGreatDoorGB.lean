
import Derived.Test.YtnoenipdooackaaGreatDoorG1
set_option linter.unusedVariables false
set_option linter.unusedSimpArgs false
namespace Go.Proofs.YtnoenipdooackaaGreatDoorS
open Go Go.Proofs.YtnoenipdooackaaGreatDoorV

/-! The summary of rows covers them. -/
theorem bdS_null {b : Bd} {r : Rw} (h : (getV r b.id).null = true) : bdS b r = ⟨b.id, b.nulls + 1, b.min, b.max⟩ := by rw [bdS, if_pos h]
theorem bdS_val {b : Bd} {r : Rw} (h : (getV r b.id).null = false) : bdS b r = ⟨b.id, b.nulls, lesserV b.min (getV r b.id), greaterV b.max (getV r b.id)⟩ := by rw [bdS, if_neg (by rw [h]; exact Bool.false_ne_true)]
structure Fo (l : List Rw) (b c : Bd) : Prop where
  id : c.id = b.id
  lo : b.nulls ≤ c.nulls
  hi : c.nulls ≤ b.nulls + l.length
  min : b.min.null = false → c.min.null = false ∧ cmpV c.min b.min ≤ 0
  max : b.max.null = false → c.max.null = false ∧ cmpV b.max c.max ≤ 0
  no : ∀ r ∈ l, (getV r b.id).null = true → b.nulls < c.nulls
  yes : ∀ r ∈ l, (getV r b.id).null = false → c.nulls < b.nulls + l.length ∧ c.min.null = false ∧ c.max.null = false ∧ cmpV c.min (getV r b.id) ≤ 0 ∧ cmpV (getV r b.id) c.max ≤ 0
theorem fold_fo : ∀ (l : List Rw) (b : Bd), Fo l b (l.foldl bdS b)
  | [], b => ⟨rfl, Int.le_refl _, by simp, fun h => ⟨h, cmpV_self _⟩, fun h => ⟨h, cmpV_self _⟩, by simp, by simp⟩
  | r :: l, b => by
    rw [List.foldl_cons]
    have hl : ((r :: l).length : Int) = l.length + 1 := by simp
    cases hn : (getV r b.id).null with
    | true =>
      rw [bdS_null hn]
      obtain ⟨i1, i2, i3, i4, i5, i6, i7⟩ := fold_fo l ⟨b.id, b.nulls + 1, b.min, b.max⟩
      generalize l.foldl bdS ⟨b.id, b.nulls + 1, b.min, b.max⟩ = c at i1 i2 i3 i4 i5 i6 i7
      simp only at i1 i2 i3 i4 i5 i6 i7
      refine ⟨i1, by omega, by rw [hl]; omega, i4, i5, fun s hs h => by omega, fun s hs h => ?_⟩
      rcases List.mem_cons.1 hs with rfl | hs
      · rw [hn] at h; cases h
      · obtain ⟨q1, q2⟩ := i7 s hs h
        exact ⟨by rw [hl]; omega, q2⟩
    | false =>
      rw [bdS_val hn]
      obtain ⟨i1, i2, i3, i4, i5, i6, i7⟩ := fold_fo l ⟨b.id, b.nulls, lesserV b.min (getV r b.id), greaterV b.max (getV r b.id)⟩
      generalize l.foldl bdS ⟨b.id, b.nulls, lesserV b.min (getV r b.id), greaterV b.max (getV r b.id)⟩ = c at i1 i2 i3 i4 i5 i6 i7
      simp only at i1 i2 i3 i4 i5 i6 i7
      have n1 : (lesserV b.min (getV r b.id)).null = false := by rw [lesserV_null, hn, Bool.and_false]
      have n2 : (greaterV b.max (getV r b.id)).null = false := by rw [greaterV_null, hn, Bool.and_false]
      obtain ⟨a1, a2⟩ := i4 n1
      obtain ⟨a3, a4⟩ := i5 n2
      refine ⟨i1, i2, by rw [hl]; omega, fun h => ⟨a1, ?_⟩, fun h => ⟨a3, ?_⟩, fun s hs h => ?_, fun s hs h => ?_⟩
      · exact cmpV_trans (a1.trans n1.symm) (n1.trans h.symm) a2 (lesserV_le.1 h)
      · exact cmpV_trans (h.trans n2.symm) (n2.trans a3.symm) (greaterV_ge.1 h) a4
      · rcases List.mem_cons.1 hs with rfl | hs
        · rw [hn] at h; cases h
        · exact i6 s hs h
      · rcases List.mem_cons.1 hs with rfl | hs
        · exact ⟨by rw [hl]; omega, a1, a3, cmpV_trans (a1.trans n1.symm) (n1.trans hn.symm) a2 (lesserV_le.2 hn), cmpV_trans (hn.trans n2.symm) (n2.trans a3.symm) (greaterV_ge.2 hn) a4⟩
        · obtain ⟨q1, q2⟩ := i7 s hs h
          exact ⟨by rw [hl]; omega, q2⟩
theorem covers_of {u : Sm} {r : Rw} (h0 : 0 < u.rows) (h : ∀ b ∈ u.l, InB u b (getV r b.id)) : coversF u r = true := by
  simp only [coversF, Bool.and_eq_true, decide_eq_true_eq, List.all_eq_true]
  refine ⟨h0, fun b hb => ?_⟩
  rcases h b hb with ⟨i1, i2⟩ | ⟨i1, i2, i3, i4, i5, i6⟩
  · simp only [i1, if_true, decide_eq_true_eq]; exact i2
  · have := (cmpV_anti (getV r b.id) b.min).2 i5
    simp only [i1, i3, i4, Bool.false_eq_true, if_false, Bool.or_false, Bool.and_eq_true, Bool.not_eq_true', Bool.or_eq_false_iff, decide_eq_false_iff_not]
    exact ⟨by omega, by omega, by omega⟩
theorem in_of_covers {u : Sm} {r : Rw} (h : coversF u r = true) : 0 < u.rows ∧ ∀ b ∈ u.l, InB u b (getV r b.id) := by
  simp only [coversF, Bool.and_eq_true, decide_eq_true_eq, List.all_eq_true] at h
  refine ⟨h.1, fun b hb => ?_⟩
  have := h.2 b hb
  cases hn : (getV r b.id).null with
  | true =>
    simp only [hn, if_true] at this
    exact .inl ⟨hn, by simpa using this⟩
  | false =>
    simp only [hn, Bool.false_eq_true, if_false, Bool.and_eq_true, Bool.not_eq_true', Bool.or_eq_false_iff, decide_eq_false_iff_not] at this
    obtain ⟨⟨⟨g1, g2⟩, g3⟩, g4, g5⟩ := this
    refine .inr ⟨hn, by omega, g2, g3, ?_, by omega⟩
    exact (cmpV_anti _ _).1 (by omega)
theorem of_nulls {ids : List Int} {L : List Rw} {b : Bd} (hb : b ∈ (ofF ids L).l) : 0 ≤ b.nulls ∧ b.nulls ≤ L.length := by
  obtain ⟨id, _, rfl⟩ := List.mem_map.1 hb
  have f := fold_fo L ⟨id, 0, Vl.nul, Vl.nul⟩
  have h1 := f.lo
  have h2 := f.hi
  simp only at h1 h2
  unfold bdF
  omega
theorem of_covers {ids : List Int} {L : List Rw} {r : Rw} (hr : r ∈ L) : coversF (ofF ids L) r = true := by
  have h0 : 0 < L.length := List.length_pos_of_mem hr
  refine covers_of (by simp only [ofF]; omega) fun b hb => ?_
  obtain ⟨id, _, rfl⟩ := List.mem_map.1 hb
  have f := fold_fo L ⟨id, 0, Vl.nul, Vl.nul⟩
  have e : (bdF L id).id = id := f.id
  rw [e]
  unfold bdF at *
  generalize L.foldl bdS ⟨id, 0, Vl.nul, Vl.nul⟩ = c at f e
  cases hn : (getV r id).null with
  | true => exact .inl ⟨hn, f.no r hr hn⟩
  | false =>
    obtain ⟨q1, q2, q3, q4, q5⟩ := f.yes r hr hn
    simp only at q1
    exact .inr ⟨hn, by simp only [ofF]; omega, q2, q3, q4, q5⟩
theorem mrg_rows (a b : Sm) : (mrgF a b).rows = a.rows + b.rows := by
  unfold mrgF
  by_cases g1 : a.rows = 0
  · rw [if_pos g1]; omega
  by_cases g2 : b.rows = 0
  · rw [if_neg g1, if_pos g2]; omega
  rw [if_neg g1, if_neg g2]
theorem mrg_covers {a w : Sm} {r : Rw} (h : coversF a r = true) (w0 : 0 ≤ w.rows) (hw : ∀ y ∈ w.l, 0 ≤ y.nulls ∧ y.nulls ≤ w.rows) : coversF (mrgF a w) r = true ∧ coversF (mrgF w a) r = true := by
  obtain ⟨h0, hi⟩ := in_of_covers h
  have g1 : ¬ a.rows = 0 := by omega
  by_cases g2 : w.rows = 0
  · rw [mrgF, if_neg g1, if_pos g2, mrgF, if_pos g2]; exact ⟨h, h⟩
  rw [mrgF, if_neg g1, if_neg g2, mrgF, if_neg g2, if_neg g1]
  constructor
  · refine covers_of (by simp only; omega) fun b hb => ?_
    simp only [List.mem_filterMap, mrgB, Option.map_eq_some_iff] at hb
    obtain ⟨x, hx, y, hy, rfl⟩ := hb
    have hy := hw y (findB_some hy).1
    rcases hi x hx with ⟨i1, i2⟩ | ⟨i1, i2, i3, i4, i5, i6⟩
    · exact .inl ⟨i1, by simp only; omega⟩
    · have n1 : (lesserV x.min y.min).null = false := by rw [lesserV_null, i3]; rfl
      have n2 : (greaterV x.max y.max).null = false := by rw [greaterV_null, i4]; rfl
      exact .inr ⟨i1, by simp only; omega, n1, n2, cmpV_trans (n1.trans i3.symm) (i3.trans i1.symm) (lesserV_le.1 i3) i5, cmpV_trans (i1.trans i4.symm) (i4.trans n2.symm) i6 (greaterV_ge.1 i4)⟩
  · refine covers_of (by simp only; omega) fun b hb => ?_
    simp only [List.mem_filterMap, mrgB, Option.map_eq_some_iff] at hb
    obtain ⟨y, hy, x, hx, rfl⟩ := hb
    have hy := hw y hy
    obtain ⟨hx, he⟩ := findB_some hx
    have hi := hi x hx
    rw [he] at hi
    rcases hi with ⟨i1, i2⟩ | ⟨i1, i2, i3, i4, i5, i6⟩
    · exact .inl ⟨i1, by simp only; omega⟩
    · have n1 : (lesserV y.min x.min).null = false := by rw [lesserV_null, i3, Bool.and_false]
      have n2 : (greaterV y.max x.max).null = false := by rw [greaterV_null, i4, Bool.and_false]
      exact .inr ⟨i1, by simp only; omega, n1, n2, cmpV_trans (n1.trans i3.symm) (i3.trans i1.symm) (lesserV_le.2 i3) i5, cmpV_trans (i1.trans i4.symm) (i4.trans n2.symm) i6 (greaterV_ge.2 i4)⟩
end Go.Proofs.YtnoenipdooackaaGreatDoorS
namespace Go.Proofs.YtnoenipdooackaaGreatDoorS
open Go Go.Proofs.YtnoenipdooackaaGreatDoorV

/-! The summary of a concatenation is the merge of the summaries. -/
def joinB (b c : Bd) : Bd := ⟨b.id, b.nulls + c.nulls, lesserV b.min c.min, greaterV b.max c.max⟩
def NulOk (b : Bd) : Prop := (b.min.null = true → b.min = Vl.nul) ∧ (b.max.null = true → b.max = Vl.nul)
theorem lesser_nul_l (v : Vl) : lesserV Vl.nul v = v := lesserV_nl rfl
theorem greater_nul_l (v : Vl) : greaterV Vl.nul v = v := greaterV_nl rfl
theorem lesser_nul_r {v : Vl} (h : v.null = true → v = Vl.nul) : lesserV v Vl.nul = v := by
  cases hv : v.null with
  | true => rw [lesserV_nl hv, h hv]
  | false => exact lesserV_nr hv rfl
theorem greater_nul_r {v : Vl} (h : v.null = true → v = Vl.nul) : greaterV v Vl.nul = v := by
  cases hv : v.null with
  | true => rw [greaterV_nl hv, h hv]
  | false => exact greaterV_nr hv rfl
theorem NulOk.step {b : Bd} (h : NulOk b) (r : Rw) : NulOk (bdS b r) := by
  cases hn : (getV r b.id).null with
  | true => rw [bdS_null hn]; exact h
  | false =>
    rw [bdS_val hn]
    exact ⟨fun q => by simp only [lesserV_null, hn, Bool.and_false, Bool.false_eq_true] at q, fun q => by simp only [greaterV_null, hn, Bool.and_false, Bool.false_eq_true] at q⟩
theorem fold_join : ∀ (l : List Rw) (b : Bd), NulOk b → l.foldl bdS b = joinB b (l.foldl bdS ⟨b.id, 0, Vl.nul, Vl.nul⟩)
  | [], b, h => by
    obtain ⟨i, n, mn, mx⟩ := b
    simp only [List.foldl_nil, joinB, Int.add_zero]
    rw [lesser_nul_r h.1, greater_nul_r h.2]
  | r :: l, b, h => by
    have i1 := fold_join l (bdS b r) (h.step r)
    have i2 := fold_join l (bdS ⟨b.id, 0, Vl.nul, Vl.nul⟩ r) (NulOk.step ⟨fun _ => rfl, fun _ => rfl⟩ r)
    rw [List.foldl_cons, List.foldl_cons, i1, i2, bdS_id, bdS_id]
    generalize l.foldl bdS ⟨b.id, 0, Vl.nul, Vl.nul⟩ = c
    cases hn : (getV r b.id).null with
    | true =>
      rw [bdS_null hn, bdS_null (b := ⟨b.id, 0, Vl.nul, Vl.nul⟩) hn]
      simp only [joinB, Bd.mk.injEq, lesser_nul_l, greater_nul_l, true_and, and_true]
      omega
    | false =>
      rw [bdS_val hn, bdS_val (b := ⟨b.id, 0, Vl.nul, Vl.nul⟩) hn]
      simp only [joinB, Bd.mk.injEq, lesser_nul_l, greater_nul_l, true_and, and_true, lesserV_assoc, greaterV_assoc, Int.zero_add]
theorem fold_nul : ∀ (l : List Rw) (b : Bd), NulOk b → NulOk (l.foldl bdS b)
  | [], b, h => h
  | r :: l, b, h => by rw [List.foldl_cons]; exact fold_nul l _ (h.step r)
theorem bdF_id (l : List Rw) (id : Int) : (bdF l id).id = id := (fold_fo l ⟨id, 0, Vl.nul, Vl.nul⟩).id
theorem bdF_append (l m : List Rw) (id : Int) : bdF (l ++ m) id = joinB (bdF l id) (bdF m id) := by
  have h := fold_join m (bdF l id) (fold_nul l _ ⟨fun _ => rfl, fun _ => rfl⟩)
  rw [bdF_id] at h
  rw [bdF, List.foldl_append]
  exact h
theorem findB_of (l : List Rw) (id : Int) : ∀ ids : List Int, id ∈ ids → findB (ids.map (bdF l)) id = some (bdF l id)
  | i :: ids, h => by
    rw [List.map_cons, findB, List.find?_cons, bdF_id]
    by_cases e : i = id
    · rw [decide_eq_true e, e]
    · rw [decide_eq_false e]
      rcases List.mem_cons.1 h with h | h
      · exact absurd h.symm e
      · exact findB_of l id ids h
theorem of_append (ids : List Int) (l m : List Rw) : mrgF (ofF ids l) (ofF ids m) = ofF ids (l ++ m) := by
  unfold mrgF
  by_cases h1 : (ofF ids l).rows = 0
  · rw [if_pos h1]
    have : l = [] := by simpa [ofF] using h1
    rw [this, List.nil_append]
  by_cases h2 : (ofF ids m).rows = 0
  · rw [if_neg h1, if_pos h2]
    have : m = [] := by simpa [ofF] using h2
    rw [this, List.append_nil]
  rw [if_neg h1, if_neg h2]
  simp only [ofF, Sm.mk.injEq]
  refine ⟨by rw [List.length_append]; omega, ?_⟩
  have key : ∀ is : List Int, (∀ i ∈ is, i ∈ ids) → (is.map (bdF l)).filterMap (mrgB (ids.map (bdF m))) = is.map (bdF (l ++ m)) := by
    intro is
    induction is with
    | nil => intro _; rfl
    | cons i is ih =>
      intro h
      have e : mrgB (ids.map (bdF m)) (bdF l i) = some (bdF (l ++ m) i) := by
        rw [mrgB, bdF_id, findB_of m i ids (h i (by simp)), bdF_append]
        simp only [Option.map_some, joinB, bdF_id]
      rw [List.map_cons, List.filterMap_cons_some e, ih fun j hj => h j (by simp [hj]), List.map_cons]
  exact key ids fun _ h => h
end Go.Proofs.YtnoenipdooackaaGreatDoorS
