/-
  The twenty-eighth text of the program logic: contracts of functions that are handed a row of a variable's cells.
  Conditions: none; it speaks of every program.
-/
import Derived.Test.YtgkfcgfobckaaaaV27
set_option linter.unusedVariables false
set_option linter.unusedSimpArgs false
namespace Go.Proofs.YtgkfcgfobckaaaaV
open Go

section
variable {P : Program} {G : Heap} {β : Heap} {ω : List Nat} {f : FuncId} {args : List D} {k q : D → Heap → List Nat → Prop} {d : D} {b : Nat} {cs cs' : List D} {F : Nat → D} {U : List Nat} {i : Nat} {rd : Rd}
variable {ops : Array Oper} {rest : List Oper} {es : List Ent} {Q : VE → St → Prop} {dst : Option Tmp} {σ : Sg}

/-- What is returned, and what the variable b holds before and behind. -/
def VW (P : Program) (G : Heap) (f : FuncId) (args : List D) (b : Nat) (cs : List D) (d : D) (cs' : List D) : Prop :=
  VC P G f args (Heap.nil.set b cs) [] fun o β ω => o = .ret d ∧ β = Heap.nil.set b cs' ∧ ω = []
/-- The variable b is read only. -/
def VR (P : Program) (G : Heap) (f : FuncId) (args : List D) (b : Nat) (cs : List D) (d : D) : Prop := VW P G f args b cs d cs
/-- The variable b is read only; a new one comes. -/
def VB (P : Program) (G : Heap) (f : FuncId) (args : List D) (b : Nat) (cs : List D) (F : Nat → D) (cs' : List D) : Prop :=
  VC P G f args (Heap.nil.set b cs) [] fun o β ω => ∃ b', b' ≠ b ∧ o = .ret (F b') ∧ β = (Heap.nil.set b cs).set b' cs' ∧ ω = []

theorem set_same (h : β b = some cs) : β.set b cs = β := by
  funext i
  unfold Heap.set
  split
  · rename_i e; rw [e, h]
  · rfl
theorem callK_vw (h : VW P G f args b cs d cs') (hb : β b = some cs) (hk : k d (β.set b cs') ω) : callK P G (.clo (.func f) [] []) args β ω k q :=
  callK_vc h (Part.var hb) (fun d' β' ω' ⟨β1, ω1, ⟨h1, h2, h3⟩, _, _, h4, h5⟩ => by
    cases h1; subst h2 h3 h4 h5
    rw [joinH_box hb]
    simpa using hk) (fun d' β' ω' ⟨β1, ω1, ⟨h1, h2, h3⟩, _, _, h4, h5⟩ => by cases h1)
theorem callK_vr (h : VR P G f args b cs d) (hb : β b = some cs) (hk : k d β ω) : callK P G (.clo (.func f) [] []) args β ω k q :=
  callK_vw h hb (by rw [set_same hb]; exact hk)
theorem joinH_new {b' : Nat} (h : β b = some cs) (hb : b' ≠ b) : joinH β (Heap.nil.set b cs) ((Heap.nil.set b cs).set b' cs') = β.set b' cs' := by
  funext i
  unfold joinH Heap.set
  by_cases e : i = b'
  · subst e; simp
  · by_cases e' : i = b
    · subst e'; simp [e, h]
    · simp [e, e', Heap.nil]
theorem callK_vb (h : VB P G f args b cs F cs') (hb : β b = some cs) (hk : ∀ b', β b' = none → k (F b') (β.set b' cs') ω) : callK P G (.clo (.func f) [] []) args β ω k q :=
  callK_vc h (Part.var hb) (fun d' β' ω' ⟨β1, ω1, ⟨b', h0, h1, h2, h3⟩, h6, _, h4, h5⟩ => by
    cases h1; subst h2 h3 h4 h5
    rw [joinH_new hb h0]
    simpa using hk b' (h6 b' (by simp [Heap.set]) (by simp [Heap.set, h0, Heap.nil]))) (fun d' β' ω' ⟨β1, ω1, ⟨b', h0, h1, h2, h3⟩, _, _, h4, h5⟩ => by cases h1)
theorem cK_vw (h : VW P G f args b cs d cs') (hb : β b = some cs) (hk : Ko P G ops rest Q dst σ d (β.set b cs') ω) : cK P G (.clo (.func f) [] []) args β ω ops rest Q dst σ := callK_vw h hb hk
theorem cK_vr (h : VR P G f args b cs d) (hb : β b = some cs) (hk : Ko P G ops rest Q dst σ d β ω) : cK P G (.clo (.func f) [] []) args β ω ops rest Q dst σ := callK_vr h hb hk
theorem cK_vb (h : VB P G f args b cs F cs') (hb : β b = some cs) (hk : ∀ b', β b' = none → Ko P G ops rest Q dst σ (F b') (β.set b' cs') ω) : cK P G (.clo (.func f) [] []) args β ω ops rest Q dst σ := callK_vb h hb hk

theorem callE_vr (h : VR P G f args b cs d) (hb : β b = some cs) (hr : ¬ rd i b) (hk : k d β ω) : callE P G U i (.clo (.func f) [] []) True args rd β ω k q :=
  callE_vc h (Part.var hb) (fun b' hr' => by
      by_cases e : b' = b
      · subst e; exact absurd hr' hr
      · simp [Heap.set, e, Heap.nil])
    (fun _ N => ⟨d, Heap.nil.set b cs, [], ⟨rfl, rfl, rfl⟩, Fini.nil.set b cs, fun b' hb1 hb2 => absurd hb2 hb1, fun t ht => by simp at ht⟩)
    (fun d' β' ω' ⟨β1, ω1, ⟨h1, h2, h3⟩, _, _, h4, h5⟩ => by
      cases h1; subst h2 h3 h4 h5
      rw [joinH_box hb, set_same hb]
      simpa using hk) (fun d' β' ω' ⟨β1, ω1, ⟨h1, h2, h3⟩, _, _, h4, h5⟩ => by cases h1)
theorem cE_vr (h : VR P G f args b cs d) (hb : β b = some cs) (hr : ¬ rd i b) (hk : Kd P G ops es Q dst σ d rd β ω) : cE P G U i (.clo (.func f) [] []) True args rd β ω ops es Q dst σ := callE_vr h hb hr hk
theorem cE_vw (h : VW P G f args b cs d cs') (hb : β b = some cs) (hr : ¬ rd i b) (hU : U = []) (hk : Kd P G ops es Q dst σ d rd (β.set b cs') ω) : cE P G U i (.clo (.func f) [] []) True args rd β ω ops es Q dst σ :=
  callE_vc h (Part.var hb) (fun b' hr' => by
      by_cases e : b' = b
      · subst e; exact absurd hr' hr
      · simp [Heap.set, e, Heap.nil])
    (fun hn => absurd hU hn)
    (fun d' β' ω' ⟨β1, ω1, ⟨h1, h2, h3⟩, _, _, h4, h5⟩ => by
      cases h1; subst h2 h3 h4 h5
      rw [joinH_box hb]
      simpa using hk) (fun d' β' ω' ⟨β1, ω1, ⟨h1, h2, h3⟩, _, _, h4, h5⟩ => by cases h1)
theorem cE_vb (h : VB P G f args b cs F cs') (hb : β b = some cs) (hr : ¬ rd i b) (hU : U = []) (hk : ∀ b', β b' = none → Kd P G ops es Q dst σ (F b') rd (β.set b' cs') ω) : cE P G U i (.clo (.func f) [] []) True args rd β ω ops es Q dst σ :=
  callE_vc h (Part.var hb) (fun b' hr' => by
      by_cases e : b' = b
      · subst e; exact absurd hr' hr
      · simp [Heap.set, e, Heap.nil])
    (fun hn => absurd hU hn)
    (fun d' β' ω' ⟨β1, ω1, ⟨b', h0, h1, h2, h3⟩, h6, _, h4, h5⟩ => by
      cases h1; subst h2 h3 h4 h5
      rw [joinH_new hb h0]
      simpa using hk b' (h6 b' (by simp [Heap.set]) (by simp [Heap.set, h0, Heap.nil]))) (fun d' β' ω' ⟨β1, ω1, ⟨b', h0, h1, h2, h3⟩, _, _, h4, h5⟩ => by cases h1)

/-- A function's end that keeps some variables. -/
theorem finK_keep {Φ : Out → Heap → List Nat → Prop} {d : D} {β' : Heap} (hs : ∀ b cs, β' b = some cs → β b = some cs) (h : Φ (.ret d) β' []) : finK Φ d β ω :=
  ⟨d, β', [], Wk.refl d, hs, fun _ h => (List.not_mem_nil h).elim, h⟩
theorem finK_var {Φ : Out → Heap → List Nat → Prop} {d : D} (hb : β b = some cs) (h : Φ (.ret d) (Heap.nil.set b cs) []) : finK Φ d β ω :=
  finK_keep (fun b' cs'' hs => by
    unfold Heap.set at hs
    split at hs
    · rename_i e; subst e; cases hs; exact hb
    · cases hs) h
theorem finK_var2 {Φ : Out → Heap → List Nat → Prop} {d : D} {b' : Nat} (hb : β b = some cs) (hb' : β b' = some cs') (h : Φ (.ret d) ((Heap.nil.set b cs).set b' cs') []) : finK Φ d β ω :=
  finK_keep (fun i cs'' hs => by
    unfold Heap.set at hs
    split at hs
    · rename_i e; subst e; cases hs; exact hb'
    · split at hs
      · rename_i e; subst e; cases hs; exact hb
      · cases hs) h
end
end Go.Proofs.YtgkfcgfobckaaaaV
