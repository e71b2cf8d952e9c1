/-
  The second text of the program logic: how the relation goes on when memory is made or written.
  Conditions: none; it speaks of every program.
-/
import Derived.Test.YtgkfcgfobckaaaaV1
namespace Go.Proofs.YtgkfcgfobckaaaaV
open Go

theorem cell_of {w : World} {b o : Nat} {vs : Array Value} {e : TypeId} {fr : Nat × Nat} (h : w.heap[b]? = some (.cells vs e fr)) : w.cell? ⟨b, o, none⟩ = vs[o]? := by
  simp [World.cell?, h]

set_option linter.unusedVariables false
set_option linter.unusedSimpArgs false

theorem lt_of_cell {w : World} {b o : Nat} {v : Value} (h : w.cell? ⟨b, o, none⟩ = some v) : b < w.heap.size := World.block_lt_of_cell? w _ h

theorem lt_of_heap {w : World} {b : Nat} {x : Obj} (h : w.heap[b]? = some x) : b < w.heap.size := (Array.getElem?_eq_some_iff.1 h).1

variable {G : Heap} {K : Kn} {β : Heap} {ω : List Nat} {w w' : World}

/-- A known cell lies in the heap. -/
theorem Rel.lt (h : Rel G K β ω w) {b o : Nat} {d : D} (hk : K.cells b o d) : b < w.heap.size := by
  obtain ⟨v, hv, _⟩ := h.holds b o d hk
  exact lt_of_cell hv

theorem Rel.none_of_ge (h : Rel G K β ω w) {b : Nat} (hb : w.heap.size ≤ b) (o : Nat) : K.cells b o = kno := by
  funext d
  simp only [kno, eq_iff_iff, iff_false]
  exact fun hk => absurd (h.lt hk) (by omega)

theorem Rel.box_lt (h : Rel G K β ω w) {b : Nat} {cs : List D} (hb : β b = some cs) : b < w.heap.size := by
  obtain ⟨o, hv, _⟩ := h.box b cs hb
  exact lt_of_heap hv

theorem Rel.box_none (h : Rel G K β ω w) {b : Nat} (hb : w.heap.size ≤ b) : β b = none := by
  cases hk : β b with
  | none => rfl
  | some d => exact absurd (h.box_lt hk) (by omega)

theorem Rel.tokAt (h : Rel G K β ω w) {t : Nat} {hd : Head} (ht : t ∈ ω) (hk : K.tok t = some (some hd)) :
    ∃ vs e, w.heap[hd.b]? = some (.cells vs e (0, 0)) ∧ hd.n ≤ hd.c ∧ hd.off + hd.c * hd.sz ≤ vs.size ∧ β hd.b = none ∧ ∀ o, hd.off + hd.n * hd.sz ≤ o → K.cells hd.b o = kno := by
  obtain ⟨x, hx, hv⟩ := h.tok t ht
  rw [hk] at hx; cases hx
  exact hv hd rfl

theorem Rel.owns_lt (h : Rel G K β ω w) {b : Nat} (hb : owns K β ω b) : b < w.heap.size := by
  rcases hb with hb | ⟨t, hd, ht, hk, rfl⟩
  · cases hk : β b with
    | none => exact absurd hk hb
    | some cs => exact h.box_lt hk
  · obtain ⟨vs, e, hv, _⟩ := h.tokAt ht hk
    exact lt_of_heap hv

/-- A world with the same memory. -/
theorem Rel.same (h : Rel G K β ω w) (hh : w'.heap = w.heap) : Rel G K β ω w' := by
  have hc : ∀ a, w'.cell? a = w.cell? a := fun a => by simp [World.cell?, hh]
  exact ⟨fun b o d hk => by rw [hc]; exact h.holds b o d hk, fun b cs hb => by rw [hh]; exact h.box b cs hb, h.boxK, fun t ht => by rw [hh]; exact h.tok t ht, h.tokne, h.glob, h.free⟩

theorem Evo.same (hh : w'.heap = w.heap) (ho : w'.os = w.os) (ht : w'.tape = w.tape) (hp : w'.output = w.output) : Evo K β ω w K β ω w' :=
  ⟨.refl K, by rw [hh]; exact Nat.le_refl _, ho, ht, hp, fun _ _ h => ⟨by rw [hh], fun _ => rfl, h⟩, fun _ h => .inl h⟩

theorem Evo.drew : Evo K β ω w K β ω w.drew := Evo.same rfl rfl rfl rfl

/-- Less is claimed of variables and tokens. -/
theorem Rel.less (h : Rel G K β ω w) {β' : Heap} {ω' : List Nat} (hb : ∀ b cs, β' b = some cs → β b = some cs) (hw : ∀ t, t ∈ ω' → t ∈ ω) : Rel G K β' ω' w := by
  refine ⟨h.holds, fun b cs hc => h.box b cs (hb b cs hc), fun b cs hc => h.boxK b cs (hb b cs hc), fun t ht => ?_, fun t u hd hd' ht hu => h.tokne t u hd hd' (hw t ht) (hw u hu), h.glob, h.free⟩
  obtain ⟨x, a1, hx⟩ := h.tok t (hw t ht)
  refine ⟨x, a1, fun hd hxd => ?_⟩
  obtain ⟨vs, e, a2, a3, a4, a5, a6⟩ := hx hd hxd
  refine ⟨vs, e, a2, a3, a4, ?_, a6⟩
  cases hk : β' hd.b with
  | none => rfl
  | some cs => rw [hb _ _ hk] at a5; cases a5

theorem owns.less {β' : Heap} {ω' : List Nat} (hb : ∀ b cs, β' b = some cs → β b = some cs) (hw : ∀ t, t ∈ ω' → t ∈ ω) {b : Nat} (h : owns K β' ω' b) : owns K β ω b := by
  rcases h with h | ⟨t, hd, ht, hk, e⟩
  · left
    cases hk : β' b with
    | none => exact absurd hk h
    | some cs => rw [hb _ _ hk]; simp
  · exact .inr ⟨t, hd, hw t ht, hk, e⟩

theorem Evo.less {β' : Heap} {ω' : List Nat} (hb : ∀ b cs, β' b = some cs → β b = some cs) (hw : ∀ t, t ∈ ω' → t ∈ ω) : Evo K β ω w K β' ω' w :=
  ⟨.refl K, Nat.le_refl _, rfl, rfl, rfl, fun b _ h => ⟨rfl, fun _ => rfl, fun hn => h (hn.less hb hw)⟩, fun t h => .inl (hw t h)⟩

theorem free_set {tok : Nat → Option (Option Head)} (h : ∃ N, ∀ t, N ≤ t → tok t = none) (t : Nat) (x : Option Head) (tok' : Nat → Option (Option Head)) (h' : ∀ u, u ≠ t → tok' u = tok u) : ∃ N, ∀ t, N ≤ t → tok' t = none := by
  obtain ⟨N, hN⟩ := h
  exact ⟨max N (t + 1), fun u hu => by rw [h' u (by omega)]; exact hN u (by omega)⟩

/-- A name that nobody has taken. -/
theorem Rel.fresh (h : Rel G K β ω w) : ∃ t, K.tok t = none ∧ t ∉ ω := by
  obtain ⟨N, hN⟩ := h.free
  refine ⟨N, hN N (Nat.le_refl _), fun hm => ?_⟩
  obtain ⟨x, hx, _⟩ := h.tok N hm
  rw [hN N (Nat.le_refl _)] at hx
  cases hx

/-! ### A new block -/
theorem heap_push_old (o : Obj) {b : Nat} (hb : b < w.heap.size) : (w.alloc o).heap[b]? = w.heap[b]? := by
  show (w.heap.push o)[b]? = _
  rw [Array.getElem?_push, if_neg (by omega)]

theorem heap_push_new (o : Obj) : (w.alloc o).heap[w.heap.size]? = some o := by
  show (w.heap.push o)[w.heap.size]? = _
  simp

theorem cell_push_old (o : Obj) {a : Addr} {v : Value} (h : w.cell? a = some v) : (w.alloc o).cell? a = some v := by
  have hb := World.block_lt_of_cell? w a h
  rw [← h]
  simp only [World.cell?, heap_push_old o hb]

/-- The old part of memory behind a new block. -/
theorem Rel.push (h : Rel G K β ω w) (o : Obj) : Rel G K β ω (w.alloc o) := by
  refine ⟨fun b o' d hk => ?_, fun b cs hb => ?_, h.boxK, fun t ht => ?_, h.tokne, h.glob, h.free⟩
  · obtain ⟨v, hv, hr⟩ := h.holds b o' d hk
    exact ⟨v, cell_push_old o hv, hr⟩
  · obtain ⟨x, hv, hr⟩ := h.box b cs hb
    exact ⟨x, by rw [heap_push_old o (lt_of_heap hv)]; exact hv, hr⟩
  · obtain ⟨x, a1, hx⟩ := h.tok t ht
    refine ⟨x, a1, fun hd hxd => ?_⟩
    obtain ⟨vs, e, a2, a3⟩ := hx hd hxd
    exact ⟨vs, e, by rw [heap_push_old o (lt_of_heap a2)]; exact a2, a3⟩

theorem size_push (o : Obj) : (w.alloc o).heap.size = w.heap.size + 1 := by
  show (w.heap.push o).size = _
  simp

theorem Evo.push (o : Obj) : Evo K β ω w K β ω (w.alloc o) :=
  ⟨.refl K, by rw [size_push]; omega, rfl, rfl, rfl, fun _ hb h => ⟨heap_push_old o hb, fun _ => rfl, h⟩, fun _ h => .inl h⟩

/-- A new variable. -/
theorem Rel.new_box (h : Rel G K β ω w) {vs : List Value} {e : TypeId} {cs : List D} (hr : RepL K cs vs) :
    Rel G K (β.set w.heap.size cs) ω (w.alloc (.cells vs.toArray e)) ∧ Evo K β ω w K (β.set w.heap.size cs) ω (w.alloc (.cells vs.toArray e)) := by
  have hp := h.push (.cells vs.toArray e)
  constructor
  · refine ⟨hp.holds, fun b cs' hb => ?_, fun b cs' hb o => ?_, fun t ht => ?_, h.tokne, h.glob, h.free⟩
    · unfold Heap.set at hb
      split at hb
      · rename_i hbe
        subst hbe
        cases hb
        exact ⟨_, heap_push_new _, .cells (by simpa using hr)⟩
      · exact hp.box b cs' hb
    · unfold Heap.set at hb
      split at hb
      · rename_i hbe
        subst hbe
        exact h.none_of_ge (Nat.le_refl _) o
      · exact h.boxK b cs' hb o
    · obtain ⟨x, a1, hx⟩ := hp.tok t ht
      refine ⟨x, a1, fun hd hxd => ?_⟩
      obtain ⟨us, e', a2, a3, a4, a5, a6⟩ := hx hd hxd
      refine ⟨us, e', a2, a3, a4, ?_, a6⟩
      unfold Heap.set
      split
      · rename_i hbe
        subst hxd
        obtain ⟨us', e'', b2, _⟩ := h.tokAt ht a1
        have := lt_of_heap b2
        omega
      · exact a5
  · refine ⟨.refl K, by rw [size_push]; omega, rfl, rfl, rfl, fun b hb ho => ⟨heap_push_old _ hb, fun _ => rfl, fun hn => ho ?_⟩, fun _ h => .inl h⟩
    rcases hn with hn | hn
    · left
      unfold Heap.set at hn
      rwa [if_neg (by omega)] at hn
    · exact .inr hn

/-! ### A new row whose first cells are known for good -/
def Kn.row (K : Kn) (b : Nat) (ds : List D) (t : Option (Nat × Option Head)) : Kn where
  cells := fun b' o => if b' = b then (fun d => ds[o]? = some d) else K.cells b' o
  tok := fun u => match t with
    | some (t, h) => if u = t then some h else K.tok u
    | none => K.tok u

theorem Kn.row_le {b : Nat} {ds : List D} {t : Option (Nat × Option Head)} (hb : ∀ o, K.cells b o = kno) (ht : ∀ u h, t = some (u, h) → K.tok u = none) : K.le (K.row b ds t) := by
  refine ⟨fun b' o d h => ?_, fun u h hu => ?_⟩
  · unfold Kn.row
    simp only
    rw [if_neg (fun e => by subst e; rw [hb o] at h; cases h)]
    exact h
  · unfold Kn.row
    simp only
    split
    · rename_i t' h'
      rw [if_neg (fun e => by subst e; rw [ht _ _ rfl] at hu; cases hu)]
      exact hu
    · exact hu

theorem Rel.new_row (h : Rel G K β ω w) {vs : List Value} {e : TypeId} {ds : List D} (hr : RepL K ds (vs.take ds.length)) :
    Rel G (K.row w.heap.size ds none) β ω (w.alloc (.cells vs.toArray e)) ∧ Evo K β ω w (K.row w.heap.size ds none) β ω (w.alloc (.cells vs.toArray e)) := by
  have hp := h.push (.cells vs.toArray e)
  have hle : K.le (K.row w.heap.size ds none) := Kn.row_le (fun o => h.none_of_ge (Nat.le_refl _) o) (fun u h hu => by cases hu)
  have hold : ∀ b o, b ≠ w.heap.size → (K.row w.heap.size ds none).cells b o = K.cells b o := fun b o hb => by simp [Kn.row, hb]
  constructor
  · refine ⟨fun b o d hk => ?_, fun b cs hb => ?_, fun b cs hb o => ?_, fun t ht => ?_, fun t u hd hd' ht hu a b c => h.tokne t u hd hd' ht hu a b c, fun g cs hg o d hd => hle.cells _ _ _ (h.glob g cs hg o d hd), h.free⟩
    · by_cases hb : b = w.heap.size
      · subst hb
        simp only [Kn.row, if_true] at hk
        have ho : o < ds.length := (List.getElem?_eq_some_iff.1 hk).1
        obtain ⟨v, hv, hrv⟩ := hr.get o d hk
        rw [List.getElem?_take, if_pos ho] at hv
        exact ⟨v, by rw [cell_of (heap_push_new _)]; simpa using hv, hrv.mono hle⟩
      · rw [hold b o hb] at hk
        obtain ⟨v, hv, hrv⟩ := hp.holds b o d hk
        exact ⟨v, hv, hrv.mono hle⟩
    · obtain ⟨x, hv, hrv⟩ := hp.box b cs hb
      exact ⟨x, hv, hrv.mono hle⟩
    · have := h.box_lt hb
      rw [hold b o (by omega)]
      exact h.boxK b cs hb o
    · obtain ⟨x, a1, hx⟩ := hp.tok t ht
      refine ⟨x, a1, fun hd hxd => ?_⟩
      obtain ⟨us, e', a2, a3, a4, a5, a6⟩ := hx hd hxd
      subst hxd
      obtain ⟨us', e'', b2, _⟩ := h.tokAt ht a1
      have := lt_of_heap b2
      exact ⟨us, e', a2, a3, a4, a5, fun o ho => by rw [hold _ _ (by omega)]; exact a6 o ho⟩
  · exact ⟨hle, by rw [size_push]; omega, rfl, rfl, rfl, fun b hb ho => ⟨heap_push_old _ hb, fun o => hold b o (by omega), fun hn => ho hn⟩, fun _ h => .inl h⟩

/-- The same with a token: the row may be appended to. -/
theorem Rel.new_live (h : Rel G K β ω w) {vs : List Value} {e : TypeId} {ds : List D} (hr : RepL K ds (vs.take ds.length)) {t n c sz : Nat} (hn : n * sz = ds.length) (hc : n ≤ c) (hl : c * sz ≤ vs.length) (ht : K.tok t = none) (htw : t ∉ ω) :
    Rel G (K.row w.heap.size ds (some (t, some ⟨w.heap.size, 0, n, c, sz⟩))) β (t :: ω) (w.alloc (.cells vs.toArray e)) ∧ Evo K β ω w (K.row w.heap.size ds (some (t, some ⟨w.heap.size, 0, n, c, sz⟩))) β (t :: ω) (w.alloc (.cells vs.toArray e)) := by
  have hp := h.push (.cells vs.toArray e)
  have hnc : n * sz ≤ c * sz := Nat.mul_le_mul_right _ hc
  have hle : K.le (K.row w.heap.size ds (some (t, some ⟨w.heap.size, 0, n, c, sz⟩))) := Kn.row_le (fun o => h.none_of_ge (Nat.le_refl _) o) (fun u h hu => by cases hu; exact ht)
  have hold : ∀ b o, b ≠ w.heap.size → (K.row w.heap.size ds (some (t, some ⟨w.heap.size, 0, n, c, sz⟩))).cells b o = K.cells b o := fun b o hb => by simp [Kn.row, hb]
  have htok : (K.row w.heap.size ds (some (t, some ⟨w.heap.size, 0, n, c, sz⟩))).tok t = some (some ⟨w.heap.size, 0, n, c, sz⟩) := by simp [Kn.row]
  have hblk : ∀ u hd, u ∈ ω → K.tok u = some (some hd) → hd.b < w.heap.size := fun u hd hu hk => by
    obtain ⟨us', e'', b2, _⟩ := h.tokAt hu hk
    exact lt_of_heap b2
  have htk : ∀ u x, u ∈ ω → (K.row w.heap.size ds (some (t, some ⟨w.heap.size, 0, n, c, sz⟩))).tok u = some x → K.tok u = some x := fun u hd hu hk => by
    have hne : u ≠ t := fun e => htw (e ▸ hu)
    simpa [Kn.row, hne] using hk
  constructor
  · refine ⟨fun b o d hk => ?_, fun b cs hb => ?_, fun b cs hb o => ?_, fun u hu => ?_, fun u v hd hd' hu hv a b c => ?_, fun g cs hg o d hd => hle.cells _ _ _ (h.glob g cs hg o d hd), free_set h.free t none _ fun u hu => by simp [Kn.row, hu]⟩
    · by_cases hb : b = w.heap.size
      · subst hb
        simp only [Kn.row, if_true] at hk
        have ho : o < ds.length := (List.getElem?_eq_some_iff.1 hk).1
        obtain ⟨v, hv, hrv⟩ := hr.get o d hk
        rw [List.getElem?_take, if_pos ho] at hv
        exact ⟨v, by rw [cell_of (heap_push_new _)]; simpa using hv, hrv.mono hle⟩
      · rw [hold b o hb] at hk
        obtain ⟨v, hv, hrv⟩ := hp.holds b o d hk
        exact ⟨v, hv, hrv.mono hle⟩
    · obtain ⟨x, hv, hrv⟩ := hp.box b cs hb
      exact ⟨x, hv, hrv.mono hle⟩
    · have := h.box_lt hb
      rw [hold b o (by omega)]
      exact h.boxK b cs hb o
    · rcases List.mem_cons.1 hu with rfl | hu
      · refine ⟨_, htok, fun hd hxd => ?_⟩
        cases hxd
        exact ⟨vs.toArray, e, heap_push_new _, hc, by simpa using hl, h.box_none (Nat.le_refl _), fun o ho => by simp only [Kn.row, if_true]; refine kno_of ?_; simp at ho; omega⟩
      · obtain ⟨x, a1, hx⟩ := hp.tok u hu
        refine ⟨x, hle.tok _ _ a1, fun hd hxd => ?_⟩
        obtain ⟨us, e', a2, a3, a4, a5, a6⟩ := hx hd hxd
        subst hxd
        have := hblk u hd hu a1
        exact ⟨us, e', a2, a3, a4, a5, fun o ho => by rw [hold _ _ (by omega)]; exact a6 o ho⟩
    · rcases List.mem_cons.1 hu with rfl | hu1
      · rcases List.mem_cons.1 hv with rfl | hv1
        · rfl
        · rw [htok] at a; cases a
          have := hblk v hd' hv1 (htk v _ hv1 b)
          simp at c; omega
      · rcases List.mem_cons.1 hv with rfl | hv1
        · rw [htok] at b; cases b
          have := hblk u hd hu1 (htk u _ hu1 a)
          simp at c; omega
        · exact h.tokne u v hd hd' hu1 hv1 (htk u _ hu1 a) (htk v _ hv1 b) c
  · refine ⟨hle, by rw [size_push]; omega, rfl, rfl, rfl, fun b hb ho => ⟨heap_push_old _ hb, fun o => hold b o (by omega), fun hn => ho ?_⟩, fun u hu => ?_⟩
    · rcases hn with hn | ⟨u, hd, hu, hk, rfl⟩
      · exact .inl hn
      · rcases List.mem_cons.1 hu with rfl | hu
        · rw [htok] at hk; cases hk; simp at hb
        · exact .inr ⟨u, hd, hu, htk u _ hu hk, rfl⟩
    · rcases List.mem_cons.1 hu with rfl | hu
      · exact .inr ht
      · exact .inl hu

/-! ### A store into a variable -/
/-- The cells from o on, written over. -/
def splice {α : Type} (cs : List α) (o : Nat) (ds : List α) : List α := cs.take o ++ ds ++ cs.drop (o + ds.length)

theorem splice_length {α : Type} (cs : List α) (o : Nat) (ds : List α) (h : o + ds.length ≤ cs.length) : (splice cs o ds).length = cs.length := by
  simp [splice]; omega

theorem RepL.splice {cs ds : List D} {vs us : List Value} (h : RepL K cs vs) (h' : RepL K ds us) (o : Nat) : RepL K (splice cs o ds) (splice vs o us) := by
  unfold Go.Proofs.YtgkfcgfobckaaaaV.splice
  rw [h'.length]
  exact ((h.take o).append h').append (h.drop _)

theorem Rel.write (h : Rel G K β ω w) {b o : Nat} {cs ds : List D} {us : List Value} (hb : β b = some cs) (hob : isObj cs = false) (hu : RepL K ds us) (ho : o + ds.length ≤ cs.length) :
    ∃ vs e, w.heap[b]? = some (.cells vs e (0, 0)) ∧ o + us.length ≤ vs.size ∧ RepL K cs vs.toList ∧
      (∀ w', (∀ k, k ≠ b → w'.heap[k]? = w.heap[k]?) → w'.heap[b]? = some (.cells (splice vs.toList o us).toArray e (0, 0)) → w'.heap.size = w.heap.size → w'.os = w.os → w'.tape = w.tape → w'.output = w.output →
        Rel G K (β.set b (splice cs o ds)) ω w' ∧ Evo K β ω w K (β.set b (splice cs o ds)) ω w') := by
  obtain ⟨x, hv, hx⟩ := h.box b cs hb
  obtain ⟨vs, e, rfl, hr⟩ := hx.plain hob
  have hl := hr.length
  simp at hl
  refine ⟨vs, e, hv, by rw [← hu.length]; omega, hr, fun w' hk hbw hs h1 h2 h3 => ⟨⟨fun b' o' d hkd => ?_, fun b' cs' hc => ?_, fun b' cs' hc o' => ?_, fun t ht => ?_, h.tokne, h.glob, h.free⟩, ⟨.refl K, by omega, h1, h2, h3, fun b' hb' hn => ⟨hk b' ?_, fun _ => rfl, fun hx => hn ?_⟩, fun _ h => .inl h⟩⟩⟩
  · obtain ⟨v, hv', hrv⟩ := h.holds b' o' d hkd
    have hne : b' ≠ b := fun e => by subst e; rw [h.boxK b' cs hb o'] at hkd; cases hkd
    exact ⟨v, by rw [← hv']; simp [World.cell?, hk b' hne], hrv⟩
  · unfold Heap.set at hc
    split at hc
    · rename_i hbe
      subst hbe
      cases hc
      exact ⟨_, hbw, .cells (by simpa using hr.splice hu o)⟩
    · rename_i hne
      rw [hk b' hne]
      exact h.box b' cs' hc
  · unfold Heap.set at hc
    split at hc
    · rename_i hbe
      subst hbe
      exact h.boxK b' cs hb o'
    · exact h.boxK b' cs' hc o'
  · obtain ⟨x, a1, hx⟩ := h.tok t ht
    refine ⟨x, a1, fun hd hxd => ?_⟩
    obtain ⟨us', e', a2, a3, a4, a5, a6⟩ := hx hd hxd
    have hne : hd.b ≠ b := fun e => by rw [e, hb] at a5; cases a5
    exact ⟨us', e', by rw [hk _ hne]; exact a2, a3, a4, by simp [Heap.set, hne, a5], a6⟩
  · intro hbe
    subst hbe
    exact hn (.inl (by rw [hb]; simp))
  · rcases hx with hx | hx
    · left
      unfold Heap.set at hx
      split at hx
      · rename_i hbe
        subst hbe
        rw [hb]; simp
      · exact hx
    · exact .inr hx

/-! ### An append in place -/
def Kn.more (K : Kn) (b o : Nat) (ds : List D) (t : Nat) (hd : Option Head) : Kn where
  cells := fun b' o' => if b' = b ∧ o ≤ o' ∧ o' < o + ds.length then (fun d => ds[o' - o]? = some d) else K.cells b' o'
  tok := fun u => if u = t then some hd else K.tok u

theorem Rel.append_room (h : Rel G K β ω w) {t t' : Nat} {hd : Head} {ds : List D} {us : List Value} {k : Nat} (ht : t ∈ ω) (hk : K.tok t = some (some hd)) (hu : RepL K ds us) (hl : ds.length = k * hd.sz) (hr : hd.n + k ≤ hd.c) (ht' : K.tok t' = none) :
    ∃ vs e, w.heap[hd.b]? = some (.cells vs e (0, 0)) ∧ hd.off + hd.n * hd.sz + us.length ≤ vs.size ∧
      (∀ w', (∀ j, j ≠ hd.b → w'.heap[j]? = w.heap[j]?) → w'.heap[hd.b]? = some (.cells (splice vs.toList (hd.off + hd.n * hd.sz) us).toArray e (0, 0)) → w'.heap.size = w.heap.size → w'.os = w.os → w'.tape = w.tape → w'.output = w.output →
        Rel G (K.more hd.b (hd.off + hd.n * hd.sz) ds t' (some { hd with n := hd.n + k })) β (t' :: ω.filter (· ≠ t)) w' ∧ Evo K β ω w (K.more hd.b (hd.off + hd.n * hd.sz) ds t' (some { hd with n := hd.n + k })) β (t' :: ω.filter (· ≠ t)) w') := by
  obtain ⟨vs, e, a2, a3, a4, a5, a6⟩ := h.tokAt ht hk
  have hul := hu.length
  have hmul : hd.n * hd.sz + k * hd.sz ≤ hd.c * hd.sz := by rw [← Nat.add_mul]; exact Nat.mul_le_mul_right _ hr
  have htt : t' ≠ t := fun e => by subst e; rw [hk] at ht'; cases ht'
  have hle : K.le (K.more hd.b (hd.off + hd.n * hd.sz) ds t' (some { hd with n := hd.n + k })) := by
    refine ⟨fun b o d hc => ?_, fun u x hx => ?_⟩
    · unfold Kn.more
      simp only
      rw [if_neg]
      · exact hc
      · rintro ⟨rfl, h1, h2⟩
        rw [a6 o h1] at hc
        cases hc
    · unfold Kn.more
      simp only
      rw [if_neg (fun e => by subst e; rw [ht'] at hx; cases hx)]
      exact hx
  have hmem : ∀ u, u ∈ ω.filter (· ≠ t) → u ∈ ω ∧ u ≠ t := fun u hu => by simpa using hu
  have htk : ∀ u x, u ∈ ω → (K.more hd.b (hd.off + hd.n * hd.sz) ds t' (some { hd with n := hd.n + k })).tok u = some x → K.tok u = some x := fun u x hu hx => by
    obtain ⟨y, b1, _⟩ := h.tok u hu
    have hne : u ≠ t' := fun e => by rw [e, ht'] at b1; cases b1
    simpa [Kn.more, hne] using hx
  refine ⟨vs, e, a2, by omega, fun w' hk' hbw hs h1 h2 h3 => ⟨⟨fun b' o' d hkd => ?_, fun b' cs' hc => ?_, fun b' cs' hc o' => ?_, fun u hu' => ?_, fun u v x x' hu' hv' p q r => ?_, fun g cs hg o d hd => hle.cells _ _ _ (h.glob g cs hg o d hd), free_set h.free t' none _ fun u hu => by simp [Kn.more, hu]⟩, ⟨hle, by omega, h1, h2, h3, fun b' hb' hn => ⟨hk' b' ?_, fun o' => ?_, fun hx => hn ?_⟩, fun u hu' => ?_⟩⟩⟩
  · by_cases hin : b' = hd.b ∧ hd.off + hd.n * hd.sz ≤ o' ∧ o' < hd.off + hd.n * hd.sz + ds.length
    · obtain ⟨rfl, i1, i2⟩ := hin
      simp only [Kn.more, true_and, i1, i2, and_self, if_true] at hkd
      obtain ⟨v, hv, hrv⟩ := hu.get _ d hkd
      refine ⟨v, ?_, hrv.mono hle⟩
      rw [cell_of hbw]
      simp only [splice, List.getElem?_toArray]
      rw [List.append_assoc, List.getElem?_append_right (by simp; omega), List.getElem?_append_left (by simp; omega)]
      rw [← hv]
      congr 1
      simp
      omega
    · have hkd' : K.cells b' o' d := by
        unfold Kn.more at hkd
        simp only at hkd
        rwa [if_neg hin] at hkd
      obtain ⟨v, hv, hrv⟩ := h.holds b' o' d hkd'
      refine ⟨v, ?_, hrv.mono hle⟩
      by_cases hb : b' = hd.b
      · subst hb
        have ho' : o' < hd.off + hd.n * hd.sz := by
          rcases Nat.lt_or_ge o' (hd.off + hd.n * hd.sz) with hlt | hge
          · exact hlt
          · rw [a6 o' hge] at hkd'; cases hkd'
        rw [cell_of a2] at hv
        rw [cell_of hbw]
        simp only [splice, List.getElem?_toArray]
        rw [List.append_assoc, List.getElem?_append_left (by simp; omega), List.getElem?_take, if_pos ho']
        simpa using hv
      · rw [← hv]
        simp [World.cell?, hk' b' hb]
  · have hne : b' ≠ hd.b := fun e => by rw [e, a5] at hc; cases hc
    obtain ⟨x, hv, hrv⟩ := h.box b' cs' hc
    exact ⟨x, by rw [hk' b' hne]; exact hv, hrv.mono hle⟩
  · have hne : b' ≠ hd.b := fun e => by rw [e, a5] at hc; cases hc
    simp only [Kn.more, hne, false_and, if_false]
    exact h.boxK b' cs' hc o'
  · rcases List.mem_cons.1 hu' with rfl | hu'
    · refine ⟨some { hd with n := hd.n + k }, by simp [Kn.more], fun hd1 hxd => ?_⟩
      cases hxd
      refine ⟨_, e, hbw, by simpa using hr, ?_, a5, fun o ho => ?_⟩
      · simp only [List.size_toArray]
        rw [splice_length _ _ _ (by simp; omega)]
        simpa using a4
      · simp only at ho
        rw [Nat.add_mul] at ho
        have : ¬ (o < hd.off + hd.n * hd.sz + ds.length) := by omega
        simp only [Kn.more, this, and_false, if_false]
        exact a6 o (by omega)
    · obtain ⟨hu1, hu2⟩ := hmem u hu'
      obtain ⟨y, b1, hy⟩ := h.tok u hu1
      refine ⟨y, hle.tok _ _ b1, fun x hxd => ?_⟩
      obtain ⟨us', e', b2, b3, b4, b5, b6⟩ := hy x hxd
      subst hxd
      have hne : x.b ≠ hd.b := fun e => hu2 (h.tokne u t x hd hu1 ht b1 hk e)
      exact ⟨us', e', by rw [hk' _ hne]; exact b2, b3, b4, b5, fun o ho => by simp only [Kn.more, hne, false_and, if_false]; exact b6 o ho⟩
  · have hself : (K.more hd.b (hd.off + hd.n * hd.sz) ds t' (some { hd with n := hd.n + k })).tok t' = some (some { hd with n := hd.n + k }) := by simp [Kn.more]
    rcases List.mem_cons.1 hu' with rfl | hu2
    · rcases List.mem_cons.1 hv' with rfl | hv2
      · rfl
      · obtain ⟨hv3, hv4⟩ := hmem v hv2
        rw [hself] at p; cases p
        exact absurd (h.tokne v t x' hd hv3 ht (htk v _ hv3 q) hk r.symm) hv4
    · obtain ⟨hu3, hu4⟩ := hmem u hu2
      rcases List.mem_cons.1 hv' with rfl | hv2
      · rw [hself] at q; cases q
        exact absurd (h.tokne u t x hd hu3 ht (htk u _ hu3 p) hk r) hu4
      · obtain ⟨hv3, hv4⟩ := hmem v hv2
        exact h.tokne u v x x' hu3 hv3 (htk u _ hu3 p) (htk v _ hv3 q) r
  · intro hbe
    subst hbe
    exact hn (.inr ⟨t, hd, ht, hk, rfl⟩)
  · have hne : b' ≠ hd.b := fun e => hn (.inr ⟨t, hd, ht, hk, e.symm⟩)
    simp [Kn.more, hne]
  · rcases hx with hx | ⟨u, x, hu', hk', rfl⟩
    · exact .inl hx
    · rcases List.mem_cons.1 hu' with rfl | hu'
      · simp [Kn.more] at hk'
        subst hk'
        exact .inr ⟨t, hd, ht, hk, rfl⟩
      · obtain ⟨hu1, _⟩ := hmem u hu'
        exact .inr ⟨u, x, hu1, htk u _ hu1 hk', rfl⟩
  · rcases List.mem_cons.1 hu' with rfl | hu'
    · exact .inr ht'
    · exact .inl (hmem u hu').1

/-! ### A name is taken -/
def Kn.reserve (K : Kn) (t : Nat) : Kn where
  cells := K.cells
  tok := fun u => if u = t then some none else K.tok u

theorem Rel.reserve (h : Rel G K β ω w) {t : Nat} (ht : K.tok t = none) (htw : t ∉ ω) : Rel G (K.reserve t) β (t :: ω) w ∧ Evo K β ω w (K.reserve t) β (t :: ω) w := by
  have hle : K.le (K.reserve t) := ⟨fun _ _ _ h => h, fun u x hu => by
    unfold Kn.reserve
    simp only
    rw [if_neg (fun e => by subst e; rw [ht] at hu; cases hu)]
    exact hu⟩
  have htk : ∀ u x, u ∈ ω → (K.reserve t).tok u = some x → K.tok u = some x := fun u x hu hk => by
    have hne : u ≠ t := fun e => htw (e ▸ hu)
    simpa [Kn.reserve, hne] using hk
  have hself : (K.reserve t).tok t = some none := by simp [Kn.reserve]
  constructor
  · refine ⟨fun b o d hk => ?_, fun b cs hb => ?_, h.boxK, fun u hu => ?_, fun u v hd hd' hu hv p q r => ?_, h.glob, free_set h.free t none _ fun u hu => by simp [Kn.reserve, hu]⟩
    · obtain ⟨v, hv, hr⟩ := h.holds b o d hk
      exact ⟨v, hv, hr.mono hle⟩
    · obtain ⟨x, hv, hr⟩ := h.box b cs hb
      exact ⟨x, hv, hr.mono hle⟩
    · rcases List.mem_cons.1 hu with rfl | hu1
      · exact ⟨none, hself, fun _ h => by cases h⟩
      · obtain ⟨x, a1, hx⟩ := h.tok u hu1
        exact ⟨x, hle.tok _ _ a1, hx⟩
    · rcases List.mem_cons.1 hu with rfl | hu1
      · rw [hself] at p; cases p
      · rcases List.mem_cons.1 hv with rfl | hv1
        · rw [hself] at q; cases q
        · exact h.tokne u v hd hd' hu1 hv1 (htk u _ hu1 p) (htk v _ hv1 q) r
  · refine ⟨hle, Nat.le_refl _, rfl, rfl, rfl, fun b hb ho => ⟨rfl, fun _ => rfl, fun hn => ho ?_⟩, fun u hu => ?_⟩
    · rcases hn with hn | ⟨u, hd, hu, hk, rfl⟩
      · exact .inl hn
      · rcases List.mem_cons.1 hu with rfl | hu1
        · rw [hself] at hk; cases hk
        · exact .inr ⟨u, hd, hu1, htk u _ hu1 hk, rfl⟩
    · rcases List.mem_cons.1 hu with rfl | hu1
      · exact .inr ht
      · exact .inl hu1

end Go.Proofs.YtgkfcgfobckaaaaV
