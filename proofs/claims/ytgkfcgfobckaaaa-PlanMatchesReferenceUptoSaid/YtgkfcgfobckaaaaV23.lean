/-
  The twenty-third text of the program logic: what is known may be turned at a function's end; a variable's row is given away for good.
  Conditions: none; it speaks of every program.
-/
import Derived.Test.YtgkfcgfobckaaaaV22
set_option linter.unusedVariables false
set_option linter.unusedSimpArgs false
namespace Go.Proofs.YtgkfcgfobckaaaaV
open Go

variable {P : Program} {G : Heap} {K : Kn} {w : World} {β : Heap} {ω : List Nat}

def Heap.unset (β : Heap) (b : Nat) : Heap := fun i => if i = b then none else β i

theorem Rel.freeze (h : Rel G K β ω w) {b : Nat} {cs : List D} (hb : β b = some cs) (ho : isObj cs = false) {t n c sz : Nat} (hc : n ≤ c) (hl : c * sz ≤ cs.length) (ht : K.tok t = none) (htw : t ∉ ω) :
    Rel G (K.row b (cs.take (n * sz)) (some (t, some ⟨b, 0, n, c, sz⟩))) (β.unset b) (t :: ω) w ∧ Evo K β ω w (K.row b (cs.take (n * sz)) (some (t, some ⟨b, 0, n, c, sz⟩))) (β.unset b) (t :: ω) w := by
  obtain ⟨x, hx, hbx⟩ := h.box b cs hb
  obtain ⟨vs, e, rfl, hrep⟩ := hbx.plain ho
  have hlen := hrep.length
  simp only [Array.length_toList] at hlen
  have hnc : n * sz ≤ c * sz := Nat.mul_le_mul_right _ hc
  have hle : K.le (K.row b (cs.take (n * sz)) (some (t, some ⟨b, 0, n, c, sz⟩))) := Kn.row_le (fun o => h.boxK b cs hb o) (fun u hd hu => by cases hu; exact ht)
  have hold : ∀ b' o, b' ≠ b → (K.row b (cs.take (n * sz)) (some (t, some ⟨b, 0, n, c, sz⟩))).cells b' o = K.cells b' o := fun b' o hb => by simp [Kn.row, hb]
  have htok : (K.row b (cs.take (n * sz)) (some (t, some ⟨b, 0, n, c, sz⟩))).tok t = some (some ⟨b, 0, n, c, sz⟩) := by simp [Kn.row]
  have hblk : ∀ u hd, u ∈ ω → K.tok u = some (some hd) → hd.b ≠ b := fun u hd hu hk e => by
    obtain ⟨y, hy1, hy2⟩ := h.tok u hu
    rw [hk] at hy1
    cases hy1
    obtain ⟨_, _, _, _, _, hn, _⟩ := hy2 hd rfl
    rw [e, hb] at hn
    cases hn
  have htk : ∀ u x, u ∈ ω → (K.row b (cs.take (n * sz)) (some (t, some ⟨b, 0, n, c, sz⟩))).tok u = some x → K.tok u = some x := fun u hd hu hk => by
    have hne : u ≠ t := fun e => htw (e ▸ hu)
    simpa [Kn.row, hne] using hk
  have hun : ∀ b' cs', (β.unset b) b' = some cs' → b' ≠ b ∧ β b' = some cs' := fun b' cs' hb' => by
    unfold Heap.unset at hb'
    split at hb'
    · cases hb'
    · exact ⟨by assumption, hb'⟩
  constructor
  · refine ⟨fun b' o d hk => ?_, fun b' cs' hb' => ?_, fun b' cs' hb' o => ?_, fun u hu => ?_, fun u v hd hd' hu hv a b' c' => ?_, fun g cs hg o d hd => hle.cells _ _ _ (h.glob g cs hg o d hd), free_set h.free t none _ fun u hu => by simp [Kn.row, hu]⟩
    · by_cases hbb : b' = b
      · subst hbb
        simp only [Kn.row, if_true] at hk
        rw [List.getElem?_take] at hk
        split at hk
        · obtain ⟨v, hv, hrv⟩ := hrep.get o d hk
          exact ⟨v, by rw [cell_of hx]; simpa using hv, hrv.mono hle⟩
        · cases hk
      · rw [hold b' o hbb] at hk
        obtain ⟨v, hv, hrv⟩ := h.holds b' o d hk
        exact ⟨v, hv, hrv.mono hle⟩
    · obtain ⟨hne, hb2⟩ := hun b' cs' hb'
      obtain ⟨x, hv, hrv⟩ := h.box b' cs' hb2
      exact ⟨x, hv, hrv.mono hle⟩
    · obtain ⟨hne, hb2⟩ := hun b' cs' hb'
      rw [hold b' o hne]
      exact h.boxK b' cs' hb2 o
    · rcases List.mem_cons.1 hu with rfl | hu
      · refine ⟨_, htok, fun hd hxd => ?_⟩
        cases hxd
        exact ⟨vs, e, hx, hc, by simp only; omega, by simp [Heap.unset], fun o ho => by simp only [Kn.row, if_true]; refine kno_of ?_; simp at ho; simp; omega⟩
      · obtain ⟨x, a1, hx'⟩ := h.tok u hu
        refine ⟨x, hle.tok _ _ a1, fun hd hxd => ?_⟩
        obtain ⟨us, e', a2, a3, a4, a5, a6⟩ := hx' hd hxd
        subst hxd
        have hne := hblk u hd hu a1
        exact ⟨us, e', a2, a3, a4, by simp only [Heap.unset, if_neg hne]; exact a5, fun o ho => by rw [hold _ _ hne]; exact a6 o ho⟩
    · rcases List.mem_cons.1 hu with rfl | hu1
      · rcases List.mem_cons.1 hv with rfl | hv1
        · rfl
        · rw [htok] at a; cases a
          exact absurd c'.symm (hblk v hd' hv1 (htk v _ hv1 b'))
      · rcases List.mem_cons.1 hv with rfl | hv1
        · rw [htok] at b'; cases b'
          exact absurd c' (hblk u hd hu1 (htk u _ hu1 a))
        · exact h.tokne u v hd hd' hu1 hv1 (htk u _ hu1 a) (htk v _ hv1 b') c'
  · refine ⟨hle, Nat.le_refl _, rfl, rfl, rfl, fun b' hb' hno => ?_, fun u hu => ?_⟩
    · have hne : b' ≠ b := fun e => hno (.inl (by rw [e, hb]; simp))
      refine ⟨rfl, fun o => hold b' o hne, ?_⟩
      rintro (hc' | ⟨u, hd, q1, q2, q3⟩)
      · obtain ⟨cs', hcs'⟩ := Option.ne_none_iff_exists'.1 hc'
        exact hno (.inl (by rw [(hun b' cs' hcs').2]; simp))
      · rcases List.mem_cons.1 q1 with rfl | q1
        · rw [htok] at q2; cases q2
          exact hne q3.symm
        · exact hno (.inr ⟨u, hd, q1, htk u _ q1 q2, q3⟩)
    · rcases List.mem_cons.1 hu with rfl | hu
      · exact .inr ht
      · exact .inl hu

/-- The knowledge of a value, variables and tokens may be turned into another. -/
def Turn (G : Heap) (d : D) (β : Heap) (ω : List Nat) (F : D → Heap → List Nat → Prop) : Prop :=
  ∀ K w v, Rel G K β ω w → Rep K d v → ∃ K' d' β' ω', F d' β' ω' ∧ Rel G K' β' ω' w ∧ Evo K β ω w K' β' ω' w ∧ Rep K' d' v

theorem Turn.refl {d : D} {F : D → Heap → List Nat → Prop} (h : F d β ω) : Turn G d β ω F := fun K w v hr hd => ⟨K, d, β, ω, h, hr, Evo.refl K β ω w, hd⟩

theorem Turn.bind {d : D} {F F' : D → Heap → List Nat → Prop} (h : Turn G d β ω F) (h' : ∀ d β ω, F d β ω → Turn G d β ω F') : Turn G d β ω F' := fun K w v hr hd => by
  obtain ⟨K1, d1, β1, ω1, f1, r1, e1, p1⟩ := h K w v hr hd
  obtain ⟨K2, d2, β2, ω2, f2, r2, e2, p2⟩ := h' d1 β1 ω1 f1 K1 w v r1 p1
  exact ⟨K2, d2, β2, ω2, f2, r2, e1.trans e2, p2⟩

theorem Turn.weak {d : D} {F : D → Heap → List Nat → Prop} (h : finK (fun o β ω => match o with | .ret d => F d β ω | .pan _ => False) d β ω) : Turn G d β ω F := fun K w v hr hd => by
  obtain ⟨d', β', ω', h1, h2, h3, h4⟩ := h
  exact ⟨K, d', β', ω', h4, hr.less h2 h3, Evo.less h2 h3, h1 K v hd⟩

theorem flat_of {xs : List D} {cs : List D} {m : Nat} (h : flat xs = cs) (hm : ∀ x ∈ xs, x.cells.length = m) {i j : Nat} {x y : D} (hi : xs[i]? = some x) (hj : x.cells[j]? = some y) : cs[i * m + j]? = some y := by
  rw [← h]
  exact flat_get hm hi hj

/-- The row of a variable is given away: nobody writes it any more, but for behind its end. -/
theorem Turn.freeze {b len cap m : Nat} {cs xs : List D} (hb : β b = some cs) (ho : isObj cs = false) (hc : len ≤ cap) (hl : cap * m ≤ cs.length) (hf : flat xs = cs.take (len * m)) (hm : ∀ x ∈ xs, x.cells.length = m) (hn : xs.length = len) (hmost : len ≤ mostLen) :
    Turn G (.so b 0 len cap) β ω (fun d' β' ω' => ∃ t, t ∉ ω ∧ d' = .sl (.live t m) xs ∧ β' = β.unset b ∧ ω' = t :: ω) := fun K w v hr hd => by
  obtain ⟨t, ht1, ht2⟩ := hr.fresh
  obtain ⟨r1, r2⟩ := hr.freeze hb ho hc hl ht1 ht2
  refine ⟨_, _, _, _, ⟨t, ht2, rfl, rfl, rfl⟩, r1, r2, ?_⟩
  cases hd
  refine .sl hn hc hmost (fun i x hi => ?_) ⟨rfl, some ⟨b, 0, len, cap, m⟩, by simp [Kn.row], ⟨b, 0, none⟩, rfl, rfl, rfl⟩
  refine ⟨_, rfl, rfl, hm x (List.mem_of_getElem? hi), fun j y hj => ?_⟩
  have := flat_of hf hm hi hj
  simpa [Kn.row] using this

/-- No slice and no string is longer than the most. -/
def Small : D → Prop
  | .sl _ xs => xs.length ≤ mostLen
  | .str s => s.size ≤ mostLen
  | _ => True

theorem Rep.small {d : D} {v : Value} (h : Rep K d v) : Small d := by
  cases h with
  | sl hn hc hm hl ht => subst hn; exact hm
  | str s h => exact h
  | _ => trivial

theorem VC.small {f : FuncId} {args : List D} {Φ : Out → Heap → List Nat → Prop} (h : (∀ d ∈ args, Small d) → VC P G f args β ω Φ) : VC P G f args β ω Φ :=
  fun K w vargs hr ha => h (fun d hd => by
    obtain ⟨i, hi⟩ := List.getElem?_of_mem hd
    obtain ⟨v, _, hv⟩ := ha.get i d hi
    exact hv.small) K w vargs hr ha

theorem VC.turn {f : FuncId} {args : List D} {Φ1 Φ : Out → Heap → List Nat → Prop} (h : VC P G f args β ω Φ1) (ht : ∀ d β' ω', Φ1 (.ret d) β' ω' → Turn G d β' ω' (fun d' β' ω' => Φ (.ret d') β' ω')) (hp : ∀ d β' ω', Φ1 (.pan d) β' ω' → Φ (.pan d) β' ω') : VC P G f args β ω Φ :=
  fun K w vargs hr ha => (h K w vargs hr ha).mono fun e w' hb => by
    obtain ⟨K1, o, β1, ω1, h1, h2, h3, h4⟩ := hb
    cases o with
    | ret d =>
      cases e with
      | returned v =>
        obtain ⟨K2, d2, β2, ω2, f2, r2, e2, p2⟩ := ht d β1 ω1 h2 K1 w' v h3 h1
        exact ⟨K2, .ret d2, β2, ω2, p2, f2, r2, h4.trans e2⟩
      | panicked _ => exact h1.elim
      | outgrown => exact h1.elim
    | pan d => exact ⟨K1, .pan d, β1, ω1, h1, hp d β1 ω1 h2, h3, h4⟩

end Go.Proofs.YtgkfcgfobckaaaaV
