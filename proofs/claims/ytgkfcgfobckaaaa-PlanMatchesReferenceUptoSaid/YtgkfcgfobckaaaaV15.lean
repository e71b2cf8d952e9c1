/-
  The fifteenth text of the program logic: a contract in a larger memory (the frame of a call).
  Conditions: none; it speaks of every program.
-/
import Derived.Test.YtgkfcgfobckaaaaV14
set_option linter.unusedVariables false
set_option linter.unusedSimpArgs false
namespace Go.Proofs.YtgkfcgfobckaaaaV
open Go

variable {P : Program} {G : Heap} {n B : Nat} {K : Kn} {s : St} {a : Act} {w : World}

/-- The memory behind a call that was given the part β0 of β and left β1. -/
def joinH (β β0 β1 : Heap) : Heap := fun b => match β1 b with
  | some c => some c
  | none => match β0 b with
    | some _ => none
    | none => β b

def joinT (ω ω0 ω1 : List Nat) : List Nat := ω1 ++ ω.filter fun t => !ω0.contains t

theorem joinH_some {β β0 β1 : Heap} {b : Nat} {cs : List D} (h : joinH β β0 β1 b = some cs) : β1 b = some cs ∨ (β1 b = none ∧ β0 b = none ∧ β b = some cs) := by
  unfold joinH at h
  split at h
  · exact .inl (by simp_all)
  · split at h
    · cases h
    · exact .inr ⟨by assumption, by assumption, h⟩

theorem mem_joinT {ω ω0 ω1 : List Nat} {t : Nat} : t ∈ joinT ω ω0 ω1 ↔ t ∈ ω1 ∨ (t ∈ ω ∧ t ∉ ω0) := by
  simp [joinT]

@[simp] theorem joinH_nil (β : Heap) : joinH β Heap.nil Heap.nil = β := rfl
@[simp] theorem joinT_nil (ω : List Nat) : joinT ω [] [] = ω := by simp [joinT]

/-- What a call's end in the small memory says of the large one. -/
def Framed (β : Heap) (ω : List Nat) (β0 : Heap) (ω0 : List Nat) (Φ0 : Out → Heap → List Nat → Prop) (o : Out) (β' : Heap) (ω' : List Nat) : Prop :=
  ∃ β1 ω1, Φ0 o β1 ω1 ∧ (∀ b, β1 b ≠ none → β0 b = none → β b = none) ∧ (∀ t, t ∈ ω1 → t ∉ ω0 → t ∉ ω) ∧ β' = joinH β β0 β1 ∧ ω' = joinT ω ω0 ω1

structure Part (β0 : Heap) (ω0 : List Nat) (β : Heap) (ω : List Nat) : Prop where
  box : ∀ b cs, β0 b = some cs → β b = some cs
  tok : ∀ t, t ∈ ω0 → t ∈ ω

theorem Part.none {β0 : Heap} {ω0 : List Nat} {β : Heap} {ω : List Nat} (hp : Part β0 ω0 β ω) {b : Nat} (h : β b = none) : β0 b = none := by
  cases hb : β0 b with
  | none => rfl
  | some cs => rw [hp.box b cs hb] at h; cases h

theorem not_owns {β0 : Heap} {ω0 : List Nat} {β : Heap} {ω : List Nat} (hp : Part β0 ω0 β ω) {b : Nat} (h : ¬ owns K β ω b) : ¬ owns K β0 ω0 b := by
  rintro (hb | ⟨t, hd, h1, h2, h3⟩)
  · cases hc : β0 b with
    | none => exact hb hc
    | some cs => exact h (.inl (by rw [hp.box b cs hc]; simp))
  · exact h (.inr ⟨t, hd, hp.tok t h1, h2, h3⟩)

theorem back_frame {β β0 : Heap} {ω ω0 : List Nat} {Φ0 : Out → Heap → List Nat → Prop} (hr : Rel G K β ω w) (hp : Part β0 ω0 β ω) {e : Ending} {w' : World} (hb : Back G Φ0 K β0 ω0 w e w') :
    Back G (Framed β ω β0 ω0 Φ0) K β ω w e w' := by
  obtain ⟨K', o, β1, ω1, h1, h2, h3, h4⟩ := hb
  -- a variable outside of the part is not the call's
  have hout : ∀ b, β b ≠ none → β0 b = none → w'.heap[b]? = w.heap[b]? ∧ (∀ o, K'.cells b o = K.cells b o) ∧ ¬ owns K' β1 ω1 b := fun b hb h0 => by
    obtain ⟨cs, hcs⟩ := Option.ne_none_iff_exists'.1 hb
    obtain ⟨x, hx, _⟩ := hr.box b cs hcs
    refine h4.keep b (Array.getElem?_eq_some_iff.1 hx).1 ?_
    rintro (hc | ⟨t, hd, q1, q2, q3⟩)
    · exact hc h0
    · obtain ⟨y, hy1, hy2⟩ := hr.tok t (hp.tok t q1)
      rw [q2] at hy1
      cases hy1
      obtain ⟨_, _, _, _, _, hn, _⟩ := hy2 hd rfl
      rw [q3] at hn
      exact hb hn
  -- neither is the row of a token outside of it
  have htok : ∀ t, t ∈ ω → t ∉ ω0 → ∀ hd, K.tok t = some (some hd) → w'.heap[hd.b]? = w.heap[hd.b]? ∧ (∀ o, K'.cells hd.b o = K.cells hd.b o) ∧ ¬ owns K' β1 ω1 hd.b := fun t ht hn hd hk => by
    obtain ⟨y, hy1, hy2⟩ := hr.tok t ht
    rw [hk] at hy1
    cases hy1
    obtain ⟨vs, e', hx, _, _, hbn, _⟩ := hy2 hd rfl
    refine h4.keep hd.b (Array.getElem?_eq_some_iff.1 hx).1 ?_
    rintro (hc | ⟨u, hd', q1, q2, q3⟩)
    · exact hc (hp.none hbn)
    · exact hn (hr.tokne t u hd hd' ht (hp.tok u q1) hk q2 q3.symm ▸ q1)
  have hsame : ∀ t, t ∈ ω → ∀ x, K'.tok t = some x → K.tok t = some x := fun t ht x hx => by
    obtain ⟨y, hy1, _⟩ := hr.tok t ht
    rw [h4.le.tok t y hy1] at hx
    cases hx
    exact hy1
  refine ⟨K', o, joinH β β0 β1, joinT ω ω0 ω1, h1, ⟨β1, ω1, h2, fun b hb h0 => ?_, fun t ht h0 hω => ?_, rfl, rfl⟩, ⟨h3.holds, fun b cs hb => ?_, fun b cs hb => ?_, fun t ht => ?_, fun t u h h' ht hu hk hk' he => ?_, h3.glob, h3.free⟩,
    ⟨h4.le, h4.size, h4.os, h4.tape, h4.output, fun b hb ho => ?_, fun t ht => ?_⟩⟩
  · cases hc : β b with
    | none => rfl
    | some cs => exact absurd (.inl hb) (hout b (by rw [hc]; simp) h0).2.2
  · rcases h4.tok t ht with h5 | h5
    · exact h0 h5
    · obtain ⟨x, hx, _⟩ := hr.tok t hω
      rw [h5] at hx
      cases hx
  · rcases joinH_some hb with h5 | ⟨h5, h6, h7⟩
    · exact h3.box b cs h5
    · obtain ⟨x, hx, hxb⟩ := hr.box b cs h7
      exact ⟨x, by rw [(hout b (by rw [h7]; simp) h6).1]; exact hx, hxb.mono h4.le⟩
  · rcases joinH_some hb with h5 | ⟨h5, h6, h7⟩
    · exact h3.boxK b cs h5
    · intro o
      rw [(hout b (by rw [h7]; simp) h6).2.1 o]
      exact hr.boxK b cs h7 o
  · rcases mem_joinT.1 ht with h5 | ⟨h5, h6⟩
    · obtain ⟨x, hx1, hx2⟩ := h3.tok t h5
      refine ⟨x, hx1, fun h hh => ?_⟩
      obtain ⟨vs, e', q1, q2, q3, q4, q5⟩ := hx2 h hh
      refine ⟨vs, e', q1, q2, q3, ?_, q5⟩
      cases hj : joinH β β0 β1 h.b with
      | none => rfl
      | some cs =>
        rcases joinH_some hj with h7 | ⟨h7, h8, h9⟩
        · rw [q4] at h7; cases h7
        · subst hh
          exact absurd (.inr ⟨t, h, h5, hx1, rfl⟩) (hout h.b (by rw [h9]; simp) h8).2.2
    · obtain ⟨x, hx1, hx2⟩ := hr.tok t h5
      refine ⟨x, h4.le.tok t x hx1, fun h hh => ?_⟩
      obtain ⟨vs, e', q1, q2, q3, q4, q5⟩ := hx2 h hh
      subst hh
      obtain ⟨r1, r2, r3⟩ := htok t h5 h6 h hx1
      refine ⟨vs, e', r1.trans q1, q2, q3, ?_, fun o ho => (r2 o).trans (q5 o ho)⟩
      cases hj : joinH β β0 β1 h.b with
      | none => rfl
      | some cs =>
        rcases joinH_some hj with h7 | ⟨h7, h8, h9⟩
        · exact absurd (.inl (by rw [h7]; simp)) r3
        · rw [q4] at h9; cases h9
  · rcases mem_joinT.1 ht with h5 | ⟨h5, h6⟩ <;> rcases mem_joinT.1 hu with h7 | ⟨h7, h8⟩
    · exact h3.tokne t u h h' h5 h7 hk hk' he
    · exact absurd (.inr ⟨t, h, h5, hk, he⟩) (htok u h7 h8 h' (hsame u h7 _ hk')).2.2
    · exact absurd (.inr ⟨u, h', h7, hk', he.symm⟩) (htok t h5 h6 h (hsame t h5 _ hk)).2.2
    · exact hr.tokne t u h h' h5 h7 (hsame t h5 _ hk) (hsame u h7 _ hk') he
  · obtain ⟨r1, r2, r3⟩ := h4.keep b hb (not_owns hp ho)
    refine ⟨r1, r2, ?_⟩
    rintro (hc | ⟨t, hd, q1, q2, q3⟩)
    · obtain ⟨cs, hcs⟩ := Option.ne_none_iff_exists'.1 hc
      rcases joinH_some hcs with h5 | ⟨_, _, h5⟩
      · exact r3 (.inl (by rw [h5]; simp))
      · exact ho (.inl (by rw [h5]; simp))
    · rcases mem_joinT.1 q1 with h5 | ⟨h5, _⟩
      · exact r3 (.inr ⟨t, hd, h5, q2, q3⟩)
      · exact ho (.inr ⟨t, hd, h5, hsame t h5 _ q2, q3⟩)
  · rcases mem_joinT.1 ht with h5 | ⟨h5, _⟩
    · rcases h4.tok t h5 with h6 | h6
      · exact .inl (hp.tok t h6)
      · exact .inr h6
    · exact .inl h5

theorem Rel.part {β β0 : Heap} {ω ω0 : List Nat} (h : Rel G K β ω w) (hp : Part β0 ω0 β ω) : Rel G K β0 ω0 w := h.less hp.box hp.tok

/-- THE FRAME OF A CALL. -/
theorem VC.frame {f : FuncId} {args : List D} {β β0 : Heap} {ω ω0 : List Nat} {Φ0 : Out → Heap → List Nat → Prop} (hc : VC P G f args β0 ω0 Φ0) (hp : Part β0 ω0 β ω) :
    VC P G f args β ω (Framed β ω β0 ω0 Φ0) :=
  fun K w vargs hr ha => (hc K w vargs (hr.part hp) ha).mono fun e w' hb => back_frame hr hp hb

theorem VY.frame {l : Nat} {args : List D} {β β0 : Heap} {ω ω0 : List Nat} {Φ0 : Out → Heap → List Nat → Prop} (hc : VY P G l args β0 ω0 Φ0) (hp : Part β0 ω0 β ω) :
    VY P G l args β ω (Framed β ω β0 ω0 Φ0) :=
  fun K w vargs hr ha => let ⟨f, t, as, b, h1, h2⟩ := hc K w vargs (hr.part hp) ha; ⟨f, t, as, b, h1, h2.mono fun e w' hb => back_frame hr hp hb⟩

theorem VCall.frame {d : D} {args : List D} {β β0 : Heap} {ω ω0 : List Nat} {Φ0 : Out → Heap → List Nat → Prop} (hc : VCall P G d args β0 ω0 Φ0) (hp : Part β0 ω0 β ω) :
    VCall P G d args β ω (Framed β ω β0 ω0 Φ0) := by
  unfold VCall at hc ⊢
  split at hc
  · exact VC.frame hc hp
  · exact VY.frame hc hp
  · exact hc.elim

/-- A contract that asks for no memory, and leaves none. -/
def VN (P : Program) (G : Heap) (f : FuncId) (args : List D) (d : D) : Prop := VC P G f args Heap.nil [] fun o β ω => o = .ret d ∧ β = Heap.nil ∧ ω = []

theorem Part.nil (β : Heap) (ω : List Nat) : Part Heap.nil [] β ω := ⟨fun b cs h => (nomatch h : False).elim, fun t h => (List.not_mem_nil h).elim⟩

/-- Such a call, in whatever memory. -/
theorem VN.call {f : FuncId} {args : List D} {d : D} (h : VN P G f args d) (β : Heap) (ω : List Nat) {Φ : Out → Heap → List Nat → Prop} (hk : Φ (.ret d) β ω) : VC P G f args β ω Φ :=
  (VC.frame h (Part.nil β ω)).mono fun o β' ω' ⟨β1, ω1, ⟨h1, h2, h3⟩, _, _, h4, h5⟩ => by
    subst h1 h2 h3 h4 h5
    simpa using hk

end Go.Proofs.YtgkfcgfobckaaaaV
