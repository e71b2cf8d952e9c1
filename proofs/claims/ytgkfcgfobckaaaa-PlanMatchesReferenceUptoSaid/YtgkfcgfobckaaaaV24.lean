/-
  The twenty-fourth text of the program logic: calls by the forms of contracts that are usual.
  Conditions: none; it speaks of every program.
-/
import Derived.Test.YtgkfcgfobckaaaaV23
set_option linter.unusedVariables false
set_option linter.unusedSimpArgs false
namespace Go.Proofs.YtgkfcgfobckaaaaV
open Go

variable {P : Program} {G : Heap} {β : Heap} {ω : List Nat} {f : FuncId} {args : List D} {k q : D → Heap → List Nat → Prop} {d : D} {F : Nat → D} {t : Nat}
variable {U : List Nat} {i : Nat} {rd : Rd}

/-- A contract that leaves a row to which may be appended. -/
def VT0 (P : Program) (G : Heap) (f : FuncId) (args : List D) (F : Nat → D) : Prop := VC P G f args Heap.nil [] fun o β ω => ∃ t, o = .ret (F t) ∧ β = Heap.nil ∧ ω = [t]
/-- And one that takes one. -/
def VT1 (P : Program) (G : Heap) (f : FuncId) (args : List D) (t : Nat) (F : Nat → D) : Prop := VC P G f args Heap.nil [t] fun o β ω => ∃ t, o = .ret (F t) ∧ β = Heap.nil ∧ ω = [t]

theorem joinT_one (t t' : Nat) : joinT [t] [t] [t'] = [t'] := by simp [joinT]
theorem joinT_fresh (ω : List Nat) (t' : Nat) : joinT ω [] [t'] = t' :: ω := by simp [joinT]

theorem callK_vn (h : VN P G f args d) (hk : k d β ω) : callK P G (.clo (.func f) [] []) args β ω k q := by
  have : VC P G f ([] ++ args ++ []) β ω (fun o β' ω' => match o with | .ret d => k d β' ω' | .pan d => q d β' ω') := by
    simp only [List.nil_append, List.append_nil]
    exact h.call β ω hk
  exact this

theorem callK_vc {Φ0 : Out → Heap → List Nat → Prop} {β0 : Heap} {ω0 : List Nat} (h : VC P G f args β0 ω0 Φ0) (hp : Part β0 ω0 β ω) (hk : ∀ d β' ω', Framed β ω β0 ω0 Φ0 (.ret d) β' ω' → k d β' ω') (hq : ∀ d β' ω', Framed β ω β0 ω0 Φ0 (.pan d) β' ω' → q d β' ω') :
    callK P G (.clo (.func f) [] []) args β ω k q := by
  have : VC P G f ([] ++ args ++ []) β ω (fun o β' ω' => match o with | .ret d => k d β' ω' | .pan d => q d β' ω') := by
    simp only [List.nil_append, List.append_nil]
    refine (h.frame hp).mono fun o β' ω' hf => ?_
    cases o with
    | ret d => exact hk d β' ω' hf
    | pan d => exact hq d β' ω' hf
  exact this

theorem framed_t0 {o : Out} {β' : Heap} {ω' : List Nat} (h : Framed β ω Heap.nil [] (fun o β ω => ∃ t, o = .ret (F t) ∧ β = Heap.nil ∧ ω = [t]) o β' ω') : ∃ t, t ∉ ω ∧ o = .ret (F t) ∧ β' = β ∧ ω' = t :: ω := by
  obtain ⟨β1, ω1, ⟨t, h1, h2, h3⟩, h4, h5, h6, h7⟩ := h
  subst h1 h2 h3 h6 h7
  exact ⟨t, h5 t (by simp) (by simp), rfl, rfl, joinT_fresh ω t⟩

theorem framed_t1 {o : Out} {β' : Heap} {ω' : List Nat} (h : Framed β ω Heap.nil [t] (fun o β ω => ∃ t, o = .ret (F t) ∧ β = Heap.nil ∧ ω = [t]) o β' ω') : ∃ t', (t' ∉ ω ∨ t' = t) ∧ o = .ret (F t') ∧ β' = β ∧ ω' = joinT ω [t] [t'] := by
  obtain ⟨β1, ω1, ⟨t', h1, h2, h3⟩, h4, h5, h6, h7⟩ := h
  subst h1 h2 h3 h6 h7
  refine ⟨t', ?_, rfl, rfl, rfl⟩
  by_cases ht : t' = t
  · exact .inr ht
  · exact .inl (h5 t' (by simp) (by simpa using ht))

theorem callK_t0 (h : VT0 P G f args F) (hk : ∀ t, t ∉ ω → k (F t) β (t :: ω)) : callK P G (.clo (.func f) [] []) args β ω k q :=
  callK_vc h (Part.nil β ω) (fun d β' ω' hf => by
    obtain ⟨t, h1, h2, rfl, rfl⟩ := framed_t0 hf
    cases h2
    exact hk t h1) (fun d β' ω' hf => by
    obtain ⟨t, h1, h2, _, _⟩ := framed_t0 hf
    cases h2)

theorem Part.one (h : t ∈ ω) : Part Heap.nil [t] β ω := ⟨fun b cs hb => (nomatch hb : False).elim, fun u hu => by simp at hu; exact hu ▸ h⟩

theorem callK_t1 (h : VT1 P G f args t F) (ht : t ∈ ω) (hk : ∀ t', k (F t') β (joinT ω [t] [t'])) : callK P G (.clo (.func f) [] []) args β ω k q :=
  callK_vc h (Part.one ht) (fun d β' ω' hf => by
    obtain ⟨t', h1, h2, rfl, rfl⟩ := framed_t1 hf
    cases h2
    exact hk t') (fun d β' ω' hf => by
    obtain ⟨t', h1, h2, _, _⟩ := framed_t1 hf
    cases h2)

/-! In a drawn region. -/
theorem callE_vc {Φ0 : Out → Heap → List Nat → Prop} {β0 : Heap} {ω0 : List Nat} (h : VC P G f args β0 ω0 Φ0) (hp : Part β0 ω0 β ω) (hr : ∀ b, rd i b → β0 b = none)
    (hi : U ≠ [] → ∀ N, ∃ d β1 ω1, Φ0 (.ret d) β1 ω1 ∧ Fini β1 ∧ (∀ b, β1 b ≠ none → β0 b = none → N ≤ b ∧ β b = none) ∧ (∀ t, t ∈ ω1 → t ∉ ω0 → t ∉ ω))
    (hk : ∀ d β' ω', Framed β ω β0 ω0 Φ0 (.ret d) β' ω' → k d β' ω') (hq : ∀ d β' ω', Framed β ω β0 ω0 Φ0 (.pan d) β' ω' → q d β' ω') : callE P G U i (.clo (.func f) [] []) True args rd β ω k q := by
  have h' : VCall P G (.clo (.func f) [] []) args β0 ω0 Φ0 := by
    show VC P G f ([] ++ args ++ []) β0 ω0 Φ0
    simp only [List.nil_append, List.append_nil]
    exact h
  exact ⟨β0, ω0, Φ0, hp, hr, trivial, h', hi, fun d β' ω' a _ => hk d β' ω' a, fun d β' ω' a _ => hq d β' ω' a⟩

theorem callE_vn (h : VN P G f args d) (hk : k d β ω) : callE P G U i (.clo (.func f) [] []) True args rd β ω k q :=
  callE_vc h (Part.nil β ω) (fun _ _ => rfl) (fun _ N => ⟨d, Heap.nil, [], ⟨rfl, rfl, rfl⟩, Fini.nil, fun b hb => absurd rfl hb, fun t ht => by simp at ht⟩)
    (fun d' β' ω' ⟨β1, ω1, ⟨h1, h2, h3⟩, _, _, h4, h5⟩ => by
      cases h1; subst h2 h3 h4 h5
      simpa using hk)
    (fun d' β' ω' ⟨β1, ω1, ⟨h1, h2, h3⟩, _, _, h4, h5⟩ => by cases h1)

theorem callE_t0 (h : VT0 P G f args F) (hk : ∀ t, t ∉ ω → k (F t) β (t :: ω)) : callE P G U i (.clo (.func f) [] []) True args rd β ω k q :=
  callE_vc h (Part.nil β ω) (fun _ _ => rfl) (fun _ N => by
    obtain ⟨t, ht⟩ := fresh_tok ω
    exact ⟨F t, Heap.nil, [t], ⟨t, rfl, rfl, rfl⟩, Fini.nil, fun b hb => absurd rfl hb, fun u hu _ => by simp at hu; exact hu ▸ ht⟩)
    (fun d β' ω' hf => by
      obtain ⟨t, h1, h2, rfl, rfl⟩ := framed_t0 hf
      cases h2
      exact hk t h1) (fun d β' ω' hf => by
      obtain ⟨t, h1, h2, _, _⟩ := framed_t0 hf
      cases h2)

theorem callE_t1 (h : VT1 P G f args t F) (ht : t ∈ ω) (hk : ∀ t', k (F t') β (joinT ω [t] [t'])) : callE P G U i (.clo (.func f) [] []) True args rd β ω k q :=
  callE_vc h (Part.one ht) (fun _ _ => rfl) (fun _ N => ⟨F t, Heap.nil, [t], ⟨t, rfl, rfl, rfl⟩, Fini.nil, fun b hb => absurd rfl hb, fun u hu hn => absurd hu hn⟩)
    (fun d β' ω' hf => by
      obtain ⟨t', h1, h2, rfl, rfl⟩ := framed_t1 hf
      cases h2
      exact hk t') (fun d β' ω' hf => by
      obtain ⟨t', h1, h2, _, _⟩ := framed_t1 hf
      cases h2)

section
variable {ops : Array Oper} {rest : List Oper} {es : List Ent} {Q : VE → St → Prop} {dst : Option Tmp} {σ : Sg}
theorem cK_vn (h : VN P G f args d) (hk : Ko P G ops rest Q dst σ d β ω) : cK P G (.clo (.func f) [] []) args β ω ops rest Q dst σ := callK_vn h hk
theorem cK_t0 (h : VT0 P G f args F) (hk : ∀ t, t ∉ ω → Ko P G ops rest Q dst σ (F t) β (t :: ω)) : cK P G (.clo (.func f) [] []) args β ω ops rest Q dst σ := callK_t0 h hk
theorem cK_t1 (h : VT1 P G f args t F) (ht : t ∈ ω) (hk : ∀ t', Ko P G ops rest Q dst σ (F t') β (joinT ω [t] [t'])) : cK P G (.clo (.func f) [] []) args β ω ops rest Q dst σ := callK_t1 h ht hk
theorem cE_vn (h : VN P G f args d) (hk : Kd P G ops es Q dst σ d rd β ω) : cE P G U i (.clo (.func f) [] []) True args rd β ω ops es Q dst σ := callE_vn h hk
theorem cE_t0 (h : VT0 P G f args F) (hk : ∀ t, t ∉ ω → Kd P G ops es Q dst σ (F t) rd β (t :: ω)) : cE P G U i (.clo (.func f) [] []) True args rd β ω ops es Q dst σ := callE_t0 h hk
theorem cE_t1 (h : VT1 P G f args t F) (ht : t ∈ ω) (hk : ∀ t', Kd P G ops es Q dst σ (F t') rd β (joinT ω [t] [t'])) : cE P G U i (.clo (.func f) [] []) True args rd β ω ops es Q dst σ := callE_t1 h ht hk
end

/-- From what leaves a row with a token to what leaves a row that is only read. -/
theorem VT0.vn (h : VT0 P G f args F) (hF : ∀ t, (F t).er = d) : VN P G f args d :=
  VC.turn h (fun d' β' ω' ⟨t, h1, h2, h3⟩ => by
    cases h1
    exact Turn.weak ⟨(F t).er, Heap.nil, [], Wk.er _, fun _ _ h => (nomatch h : False).elim, fun _ h => (List.not_mem_nil h).elim, by rw [hF]; exact ⟨rfl, rfl, rfl⟩⟩)
    (fun d' β' ω' ⟨t, h1, _, _⟩ => by cases h1)

end Go.Proofs.YtgkfcgfobckaaaaV
