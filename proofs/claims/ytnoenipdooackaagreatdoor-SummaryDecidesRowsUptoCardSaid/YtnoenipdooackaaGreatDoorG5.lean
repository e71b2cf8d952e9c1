
import Derived.Test.YtnoenipdooackaaGreatDoorGB
import Derived.Test.YtnoenipdooackaaGreatDoorMB
set_option linter.unusedVariables false
set_option linter.unusedSimpArgs false
namespace Go.Proofs.YtnoenipdooackaaGreatDoorS
open Go Go.Proofs.YtnoenipdooackaaGreatDoorV

/-! The summary of made rows is well-formed. -/
theorem fold_null : ∀ (l : List Rw) (b : Bd), (l.foldl bdS b).nulls = b.nulls + l.length → (l.foldl bdS b).min = b.min ∧ (l.foldl bdS b).max = b.max
  | [], b, _ => ⟨rfl, rfl⟩
  | r :: l, b, h => by
    have hl : ((r :: l).length : Int) = l.length + 1 := by simp
    rw [List.foldl_cons] at h ⊢
    cases hn : (getV r b.id).null with
    | true =>
      rw [bdS_null hn] at h ⊢
      exact fold_null l ⟨b.id, b.nulls + 1, b.min, b.max⟩ (by rw [h, hl]; simp only; omega)
    | false =>
      rw [bdS_val hn] at h
      have := (fold_fo l ⟨b.id, b.nulls, lesserV b.min (getV r b.id), greaterV b.max (getV r b.id)⟩).hi
      simp only at this
      omega
theorem fold_some : ∀ (l : List Rw) (b : Bd), (l.foldl bdS b).nulls < b.nulls + l.length → ∃ r ∈ l, (getV r b.id).null = false
  | [], b, h => by simp at h
  | r :: l, b, h => by
    have hl : ((r :: l).length : Int) = l.length + 1 := by simp
    rw [List.foldl_cons] at h
    cases hn : (getV r b.id).null with
    | true =>
      rw [bdS_null hn] at h
      obtain ⟨s, hs, q⟩ := fold_some l ⟨b.id, b.nulls + 1, b.min, b.max⟩ (by rw [hl] at h; simp only; omega)
      exact ⟨s, by simp [hs], q⟩
    | false => exact ⟨r, by simp, hn⟩
theorem lesserV_or (a b : Vl) : lesserV a b = a ∨ lesserV a b = b := by unfold lesserV; split <;> simp
theorem greaterV_or (a b : Vl) : greaterV a b = a ∨ greaterV a b = b := by unfold greaterV; split <;> simp
theorem fold_size : ∀ (l : List Rw) (b : Bd), (∀ r ∈ l, (getV r b.id).Ok) → b.min.Ok → b.max.Ok → (l.foldl bdS b).min.Ok ∧ (l.foldl bdS b).max.Ok
  | [], b, _, h1, h2 => ⟨h1, h2⟩
  | r :: l, b, h, h1, h2 => by
    have hr := h r (by simp)
    rw [List.foldl_cons]
    refine fold_size l (bdS b r) (fun s hs => by rw [bdS_id]; exact h s (by simp [hs])) ?_ ?_
    · unfold bdS
      split
      · exact h1
      · rcases lesserV_or b.min (getV r b.id) with e | e
        · simp only [e]; exact h1
        · simp only [e]; exact hr
    · unfold bdS
      split
      · exact h2
      · rcases greaterV_or b.max (getV r b.id) with e | e
        · simp only [e]; exact h2
        · simp only [e]; exact hr
theorem nul_ok : Vl.nul.Ok := Ok_empty (by simp [I64])
theorem getV_ok : ∀ (r : Rw) (id : Int), RwOk r → (getV r id).Ok
  | [], id, _ => nul_ok
  | c :: l, id, h => by
    have hc := h c (by simp)
    have ih := getV_ok l id fun d hd => h d (by simp [hd])
    simp only [getV]
    repeat' split
    all_goals first | exact nul_ok | exact hc.2 | exact ih
theorem of_bdOk {L : List Rw} (h : ∀ r ∈ L, RwOk r) (id : Int) : bdOk L.length (bdF L id) = true := by
  have f := fold_fo L ⟨id, 0, Vl.nul, Vl.nul⟩
  have a := fold_null L ⟨id, 0, Vl.nul, Vl.nul⟩
  have s := fold_some L ⟨id, 0, Vl.nul, Vl.nul⟩
  have z := fold_size L ⟨id, 0, Vl.nul, Vl.nul⟩ (fun r hr => getV_ok r id (h r hr)) nul_ok nul_ok
  unfold bdF
  generalize L.foldl bdS ⟨id, 0, Vl.nul, Vl.nul⟩ = c at f a s z
  have lo := f.lo
  have hi := f.hi
  simp only [Int.zero_add] at lo hi a s
  simp only [bdOk, Bool.and_eq_true, decide_eq_true_eq]
  by_cases e : c.nulls = L.length
  · obtain ⟨q1, q2⟩ := a e
    rw [q1, q2, decide_eq_true e]
    exact ⟨⟨⟨⟨lo, hi⟩, rfl⟩, rfl⟩, by decide⟩
  · obtain ⟨r, hr, hn⟩ := s (by omega)
    obtain ⟨y1, y2, y3, y4, y5⟩ := f.yes r hr hn
    rw [decide_eq_false e]
    refine ⟨⟨⟨⟨lo, hi⟩, ?_⟩, ?_⟩, cmpV_trans (y2.trans hn.symm) (hn.trans y3.symm) y4 y5⟩
    · simp only [limitF, y2, Bool.false_eq_true, if_false, Bool.not_false, Bool.true_and, decide_eq_true_eq]; exact z.1.2
    · simp only [limitF, y3, Bool.false_eq_true, if_false, Bool.not_false, Bool.true_and, decide_eq_true_eq]; exact z.2.2
theorem okL_map {L : List Rw} (h : ∀ r ∈ L, RwOk r) : ∀ (ids : List Int) (p : Option Int), ids.Pairwise (· < ·) → (∀ q, p = some q → ∀ i ∈ ids, q < i) → okL L.length p (ids.map (bdF L)) = true
  | [], p, _, _ => okL_nil _ _
  | i :: ids, p, hp, hq => by
    rw [List.pairwise_cons] at hp
    rw [List.map_cons, okL_cons, of_bdOk h, bdF_id, okL_map h ids (some i) hp.2 fun q e j hj => by cases e; exact hp.1 j hj]
    cases p with
    | none => rfl
    | some q => simp [hq q rfl i (by simp)]
theorem leaves_asc {fs : List Fd} {nx : Int} (h : SOk fs nx) : (leavesF fs).Pairwise (· < ·) := by
  unfold leavesF
  rw [List.pairwise_map]
  exact h.asc.filter _
theorem leaves_ids {fs : List Fd} {nx : Int} (h : SOk fs nx) : ∀ i ∈ leavesF fs, 1 ≤ i ∧ i < nx := fun i hi => by
  obtain ⟨f, hf, rfl⟩ := List.mem_map.1 hi
  exact h.ids f (List.mem_filter.1 hf).1
theorem of_formed {fs : List Fd} {nx : Int} {L : List Rw} (h : SOk fs nx) (hR : ∀ r ∈ L, RwOk r) (hL : L.length ≤ 40) : formedF (ofF (leavesF fs) L) = true ∧ ∀ x ∈ (ofF (leavesF fs) L).l, x.I := by
  constructor
  · simp only [formedF, Bool.and_eq_true, decide_eq_true_eq]
    refine ⟨⟨⟨by simp only [ofF]; omega, by simp only [ofF]; omega⟩, ?_⟩, okL_map hR _ _ (leaves_asc h) fun q e => by cases e⟩
    simp only [ofF, List.length_map]
    exact Nat.le_trans (leavesF_len fs) h.len
  · intro x hx
    have hn := of_nulls hx
    obtain ⟨id, hid, rfl⟩ := List.mem_map.1 hx
    have z := fold_size L ⟨id, 0, Vl.nul, Vl.nul⟩ (fun r hr => getV_ok r id (hR r hr)) nul_ok nul_ok
    have hi := leaves_ids h id hid
    have := h.hi
    refine ⟨?_, ⟨by omega, by omega⟩, z.1.1, z.2.1⟩
    rw [bdF_id]; exact ⟨by omega, by omega⟩
end Go.Proofs.YtnoenipdooackaaGreatDoorS
