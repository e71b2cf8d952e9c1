/-
  The seventeenth text of the program logic: what must hold for the operations of a region whose order is drawn, one of them.
  Conditions: none; it speaks of every program.
-/
import Derived.Test.YtgkfcgfobckaaaaV16
set_option linter.unusedVariables false
set_option linter.unusedSimpArgs false
namespace Go.Proofs.YtgkfcgfobckaaaaV
open Go

variable {P : Program} {G : Heap} {n B : Nat} {K : Kn} {s s' : St} {a : Act} {w : World}

/-- Which boxes have been read, and must be left alone by which operations: those that no edge puts behind the reading. -/
abbrev Rd := Nat → Nat → Prop

/-- Finitely many variables. -/
def Fini (β : Heap) : Prop := ∃ N, ∀ b, N ≤ b → β b = none

theorem Fini.nil : Fini Heap.nil := ⟨0, fun _ _ => rfl⟩
theorem Fini.set {β : Heap} (h : Fini β) (b : Nat) (cs : List D) : Fini (β.set b cs) := by
  obtain ⟨N, h⟩ := h
  refine ⟨max N (b + 1), fun i hi => ?_⟩
  have : i ≠ b := by omega
  simp only [Heap.set, if_neg this]
  exact h i (by omega)
theorem Fini.fresh {β : Heap} (h : Fini β) : ∃ b, β b = none := let ⟨N, h⟩ := h; ⟨N, h N (Nat.le_refl N)⟩
theorem Fini.join {β β0 β1 : Heap} (h : Fini β) (h1 : Fini β1) : Fini (joinH β β0 β1) := by
  obtain ⟨N, h⟩ := h
  obtain ⟨M, h1⟩ := h1
  refine ⟨max N M, fun i hi => ?_⟩
  simp only [joinH, h1 i (by omega), h i (by omega)]
  split <;> rfl
theorem Rel.fini {β : Heap} {ω : List Nat} (h : Rel G K β ω w) : Fini β := ⟨w.heap.size, fun b hb => h.box_none hb⟩

theorem fresh_tok (ω : List Nat) : ∃ t, t ∉ ω := by
  have : ∀ (l : List Nat), ∃ N, ∀ t ∈ l, t < N := fun l => by
    induction l with
    | nil => exact ⟨0, fun t h => by simp at h⟩
    | cons x l ih =>
      obtain ⟨N, hN⟩ := ih
      refine ⟨max N (x + 1), fun t ht => ?_⟩
      rcases List.mem_cons.1 ht with rfl | ht
      · omega
      · have := hN t ht; omega
  obtain ⟨N, hN⟩ := this ω
  exact ⟨N, fun h => Nat.lt_irrefl _ (hN N h)⟩

/-- The box that an operation reads. -/
def rdBox (G : Heap) (o : Oper) (s : St) : Option Nat :=
  match o.op with
  | .load _ x => match s.ev G x with
    | .pb b _ => some b
    | _ => none
  | _ => none

def rdUp (G : Heap) (o : Oper) (U : List Nat) (s : St) (rd : Rd) : Rd :=
  match rdBox G o s with
  | some b => fun i b' => rd i b' ∨ (i ∈ U ∧ b' = b)
  | none => rd

/-- An append: what it asks, its value, the token that it takes. -/
def ap (P : Program) (G : Heap) (s : St) (o : Oper) : Prop × (Nat → D) × Tk :=
  match o.op with
  | .call c => match c.args.toList, c.argTypes.toList with
    | [x, y], [t, u] => match elt P t, s.ev G x with
      | some (m, by_), .sl tk xs => (s.has G x ∧ s.has G y ∧ (vsrc P m u (s.ev G y)).2 ∧ tokOk m s.ω tk ∧ (∀ x ∈ xs, x.cells.length = m) ∧ (xs.length + (vsrc P m u (s.ev G y)).1.length) * by_ ≤ 140737488355328 ∧ 0 < by_,
          fun t' => .sl (.live t' m) (xs ++ (vsrc P m u (s.ev G y)).1), tk)
      | _, _ => (False, fun _ => .any, .none)
    | _, _ => (False, fun _ => .any, .none)
  | _ => (False, fun _ => .any, .none)

/-- A store: the box, what it asks, the box's cells behind it. -/
def wr (P : Program) (G : Heap) (s : St) (o : Oper) : Option (Nat × Prop × List D) :=
  match o.op with
  | .store t p x => match s.ev G p with
    | .pb b off => match s.β b with
      | some cs => some (b, (s.has G p ∧ s.has G x ∧ (s.ev G x).solid = true ∧ (lk P t).map (·.2) = some (s.ev G x).cells.length ∧ isObj cs = false ∧ off + (s.ev G x).cells.length ≤ cs.length), splice cs off (s.ev G x).cells)
      | none => none
    | _ => none
  | _ => none

/-- A call, by a part of the memory. -/
def callD (P : Program) (G : Heap) (U : List Nat) (i : Nat) (c : Call) (f : Operand) (rd : Rd) (s : St) (k q : D → Heap → List Nat → Prop) : Prop :=
  ∃ β0 ω0 Φ0, Part β0 ω0 s.β s.ω ∧ (∀ b, rd i b → β0 b = none) ∧ s.has G f ∧ VCall P G (s.ev G f) (c.args.toList.map (s.arg G)) β0 ω0 Φ0 ∧
    (U ≠ [] → ∀ N, ∃ d β1 ω1, Φ0 (.ret d) β1 ω1 ∧ Fini β1 ∧ (∀ b, β1 b ≠ none → β0 b = none → N ≤ b ∧ s.β b = none) ∧ (∀ t, t ∈ ω1 → t ∉ ω0 → t ∉ s.ω)) ∧
    (∀ d β' ω', Framed s.β s.ω β0 ω0 Φ0 (.ret d) β' ω' → Fini β' → k d β' ω') ∧ (∀ d β' ω', Framed s.β s.ω β0 ω0 Φ0 (.pan d) β' ω' → Fini β' → q d β' ω')

/-- What must hold for one operation. -/
def vdo (P : Program) (G : Heap) (U : List Nat) (i : Nat) (o : Oper) (rd : Rd) (s : St) (k q : D → Heap → List Nat → Prop) : Prop :=
  match cls o.op with
  | .e | .r => (pu P G s o).2 ∧ k (pu P G s o).1 s.β s.ω
  | .a => (al P G s o).1 ∧ ∀ b, s.β b = none → k ((al P G s o).2.2 b) (s.β.set b (al P G s o).2.1) s.ω
  | .t => (ap P G s o).1 ∧ ∀ t, t ∉ s.ω → k ((ap P G s o).2.1 t) s.β (t :: tokGone s.ω (ap P G s o).2.2)
  | .s => match wr P G s o with
    | some (b, c, cs) => ¬ rd i b ∧ c ∧ k .any (s.β.set b cs) s.ω
    | none => False
  | .c => match o.op with
    | .call c => match c.callee with
      | .value f => callD P G U i c f rd s k q
      | _ => False
    | _ => False
  | .no => False

/-- An operation that leaves all boxes as they were. -/
def soft (o : Oper) : Bool := match cls o.op with
  | .e | .r | .a | .t => true
  | _ => false

theorem ap_same {o : Oper} (hw : s'.ω = s.ω) (h : Same G s s' (opers o)) : ap P G s' o = ap P G s o := by
  obtain ⟨dst, op, ty, pos, after, guard⟩ := o
  cases op
  case call c =>
    have h1 : Same G s s' c.args.toList := fun x hx => h x (by simp only [opers, Op.operands, Call.operands, Array.toList_append, List.mem_append]; exact .inr hx)
    simp only [ap]
    split
    · rename_i x y t u hx hy
      rw [hx] at h1
      rw [h1.ev (x := x) (by simp), h1.ev (x := y) (by simp), h1.has (x := x) (by simp), h1.has (x := y) (by simp), hw]
    · rfl
  all_goals rfl

theorem wr_same {o : Oper} (hb : s'.β = s.β) (h : Same G s s' (opers o)) : wr P G s' o = wr P G s o := by
  obtain ⟨dst, op, ty, pos, after, guard⟩ := o
  cases op
  case store t p x =>
    simp only [opers, Op.operands] at h
    simp only [wr]
    rw [h.ev (x := p) (by simp), h.ev (x := x) (by simp), h.has (x := p) (by simp), h.has (x := x) (by simp), hb]
  all_goals rfl

/-- The operation in a state that agrees with this one, and what it leaves. -/
theorem vdo_move {U : List Nat} {i : Nat} {o : Oper} {rd rd' : Rd} {k q : D → Heap → List Nat → Prop} (hb : s'.β = s.β) (hw : s'.ω = s.ω) (h : Same G s s' (opers o)) (hrd : ∀ b, rd' i b → rd i b) (hf : Fini s.β) (hv : vdo P G U i o rd s k q) :
    vdo P G U i o rd' s' (fun d β ω => Fini β ∧ (∀ b cs, s.β b = some cs → rd i b ∨ soft o = true → β b = some cs) ∧ k d β ω) q := by
  unfold vdo at hv ⊢
  cases hc : cls o.op <;> simp only [hc] at hv ⊢
  case e => rw [pu_same hb h, hb, hw]; exact ⟨hv.1, hf, fun b cs hb _ => hb, hv.2⟩
  case r => rw [pu_same hb h, hb, hw]; exact ⟨hv.1, hf, fun b cs hb _ => hb, hv.2⟩
  case a =>
    rw [al_same h, hb, hw]
    refine ⟨hv.1, fun b h0 => ⟨hf.set b _, fun b' cs hb' _ => ?_, hv.2 b h0⟩⟩
    have : b' ≠ b := fun e => by rw [e, h0] at hb'; cases hb'
    simp only [Heap.set, if_neg this]
    exact hb'
  case t => rw [ap_same hw h, hb, hw]; exact ⟨hv.1, fun t h0 => ⟨hf, fun b cs hb _ => hb, hv.2 t h0⟩⟩
  case s =>
    rw [wr_same hb h]
    cases hwr : wr P G s o with
    | none => simp [hwr] at hv
    | some x =>
      obtain ⟨b, c, cs⟩ := x
      simp only [hwr] at hv ⊢
      rw [hb, hw]
      refine ⟨fun hr => hv.1 (hrd b hr), hv.2.1, hf.set b _, fun b' cs' hb' hk => ?_, hv.2.2⟩
      have : b' ≠ b := fun e => by
        rcases hk with hk | hk
        · exact hv.1 (e ▸ hk)
        · simp [soft, hc] at hk
      simp only [Heap.set, if_neg this]
      exact hb'
  case c =>
    split at hv
    · rename_i c ho
      split at hv
      · rename_i f hcal
        obtain ⟨β0, ω0, Φ0, h1, h2, h3, h4, h5, h6, h7⟩ := hv
        have hso : Same G s s' (f :: c.args.toList) := fun x hx => h x (by
          simp only [opers, ho, Op.operands, Call.operands, hcal]
          simpa using hx)
        have hsa : Same G s s' c.args.toList := fun x hx => hso x (List.mem_cons_of_mem _ hx)
        show callD P G U i c f rd' s' _ q
        refine ⟨β0, ω0, Φ0, by rw [hb, hw]; exact h1, fun b hr => h2 b (hrd b hr), by rw [hso.has (by simp)]; exact h3, by rw [hso.ev (by simp), hsa.argsT]; exact h4, by rw [hb, hw]; exact h5, ?_, by rw [hb, hw]; exact h7⟩
        rw [hb, hw]
        intro d β' ω' hF hfi
        refine ⟨hfi, fun b cs hb' hk => ?_, h6 d β' ω' hF hfi⟩
        rcases hk with hk | hk
        · obtain ⟨β1, ω1, q1, q2, q3, q4, q5⟩ := hF
          subst q4
          have h0 := h2 b hk
          have h1n : β1 b = none := by
            cases hx : β1 b with
            | none => rfl
            | some y => exact absurd (q2 b (by rw [hx]; simp) h0) (by rw [hb']; simp)
          simp only [joinH, h1n, h0]
          exact hb'
        · simp [soft, hc] at hk
      · exact hv.elim
    · exact hv.elim

theorem vdo_mono {U : List Nat} {i : Nat} {o : Oper} {rd : Rd} {k k' q q' : D → Heap → List Nat → Prop} (hk : ∀ d β ω, k d β ω → k' d β ω) (hq : ∀ d β ω, q d β ω → q' d β ω) (hv : vdo P G U i o rd s k q) : vdo P G U i o rd s k' q' := by
  unfold vdo at hv ⊢
  cases hc : cls o.op <;> simp only [hc] at hv ⊢
  case e => exact ⟨hv.1, hk _ _ _ hv.2⟩
  case r => exact ⟨hv.1, hk _ _ _ hv.2⟩
  case a => exact ⟨hv.1, fun b h0 => hk _ _ _ (hv.2 b h0)⟩
  case t => exact ⟨hv.1, fun b h0 => hk _ _ _ (hv.2 b h0)⟩
  case s =>
    split at hv
    · exact ⟨hv.1, hv.2.1, hk _ _ _ hv.2.2⟩
    · exact hv.elim
  case c =>
    split at hv
    · split at hv
      · obtain ⟨β0, ω0, Φ0, h1, h2, h3, h4, h5, h6, h7⟩ := hv
        exact ⟨β0, ω0, Φ0, h1, h2, h3, h4, h5, fun d β' ω' a b => hk _ _ _ (h6 d β' ω' a b), fun d β' ω' a b => hq _ _ _ (h7 d β' ω' a b)⟩
      · exact hv.elim
    · exact hv.elim

/-! ### With a guard -/

def vdop (P : Program) (G : Heap) (ops : Array Oper) (U : List Nat) (i : Nat) (o : Oper) (rd : Rd) (s : St) (k q : D → Heap → List Nat → Prop) : Prop :=
  match o.guard with
  | none => vdo P G U i o rd s k q
  | some g => match vguard s ops g with
    | some c => (∃ d, (c = true → vdo P G U i o rd s (fun d' β ω => d' = d ∧ β = s.β ∧ ω = s.ω) (fun _ _ _ => False)) ∧ k (D.wn c d) s.β s.ω) ∨ ((c = true → vdo P G U i o rd s k q) ∧ (c = false → k .any s.β s.ω))
    | none => False

/-- The two states agree on what an operation looks at. -/
structure Agree (G : Heap) (ops : Array Oper) (o : Oper) (s s' : St) : Prop where
  same : Same G s s' (opers o)
  guard : ∀ g, o.guard = some g → vguard s' ops g = vguard s ops g

theorem vdop_move {ops : Array Oper} {U : List Nat} {i : Nat} {o : Oper} {rd rd' : Rd} {k q : D → Heap → List Nat → Prop} (hb : s'.β = s.β) (hw : s'.ω = s.ω) (h : Agree G ops o s s') (hrd : ∀ b, rd' i b → rd i b) (hf : Fini s.β) (hv : vdop P G ops U i o rd s k q) :
    vdop P G ops U i o rd' s' (fun d β ω => Fini β ∧ (∀ b cs, s.β b = some cs → rd i b ∨ soft o = true → β b = some cs) ∧ k d β ω) q := by
  unfold vdop at hv ⊢
  split at hv
  · exact vdo_move hb hw h.same hrd hf hv
  · rename_i g hg
    simp only [h.guard g hg]
    split at hv
    · rename_i c hc
      rcases hv with ⟨d, h1, h2⟩ | ⟨h1, h2⟩
      · refine .inl ⟨d, fun hct => ?_, by rw [hb, hw]; exact ⟨hf, fun b cs hb _ => hb, h2⟩⟩
        have := vdo_move hb hw h.same hrd hf (h1 hct)
        rw [hb, hw]
        exact vdo_mono (fun d β ω hh => hh.2.2) (fun _ _ _ hh => hh) this
      · exact .inr ⟨fun hct => vdo_move hb hw h.same hrd hf (h1 hct), fun hcf => by rw [hb, hw]; exact ⟨hf, fun b cs hb _ => hb, h2 hcf⟩⟩
    · exact hv.elim

theorem vdop_mono {ops : Array Oper} {U : List Nat} {i : Nat} {o : Oper} {rd : Rd} {k k' q : D → Heap → List Nat → Prop} (hk : ∀ d β ω, k d β ω → k' d β ω) (hv : vdop P G ops U i o rd s k q) : vdop P G ops U i o rd s k' q := by
  unfold vdop at hv ⊢
  split at hv
  · exact vdo_mono hk (fun _ _ _ h => h) hv
  · split at hv
    · rcases hv with ⟨d, h1, h2⟩ | ⟨h1, h2⟩
      · exact .inl ⟨d, h1, hk _ _ _ h2⟩
      · exact .inr ⟨fun h => vdo_mono hk (fun _ _ _ h => h) (h1 h), fun h => hk _ _ _ (h2 h)⟩
    · exact hv

end Go.Proofs.YtgkfcgfobckaaaaV
