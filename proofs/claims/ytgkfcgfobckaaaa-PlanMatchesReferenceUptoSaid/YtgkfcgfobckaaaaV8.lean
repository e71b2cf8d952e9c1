/-
  The eighth text of the program logic: contracts of calls, and the operations that make or write memory.
  Conditions: none; it speaks of every program.
-/
import Derived.Test.YtgkfcgfobckaaaaV7
import Derived.RangeFuncLeaves
import Derived.Great.BuildSlice
set_option linter.unusedVariables false
set_option linter.unusedSimpArgs false
namespace Go.Proofs.YtgkfcgfobckaaaaV
open Go

/-! ### Contracts -/
/-- How a call ends. -/
inductive Out where
  | ret (d : D)
  | pan (d : D)

def ORel (K : Kn) : Out → Ending → Prop
  | .ret d, .returned v => Rep K d v
  | .pan d, .panicked chain => ∃ v, chain = [{ v, recovered := false }] ∧ Rep K d v
  | _, _ => False

/-- What holds of the machine's ending and world behind a call. -/
def Back (G : Heap) (Φ : Out → Heap → List Nat → Prop) (K : Kn) (β : Heap) (ω : List Nat) (w : World) (e : Ending) (w' : World) : Prop :=
  ∃ K' o β' ω', ORel K' o e ∧ Φ o β' ω' ∧ Rel G K' β' ω' w' ∧ Evo K β ω w K' β' ω' w'

/-- A function's call, with a body or without. -/
def Upon (P : Program) (f : FuncId) (args : Array Value) (w : World) (R : Ending → World → Prop) : Prop :=
  ((callFunc f args).run P w = .ok (.enter f args) w ∧ Calls P f args w R) ∨ (∃ v w1, (callFunc f args).run P w = .ok (.value v) w1 ∧ R (.returned v) w1)

/-- THE CONTRACT OF A FUNCTION at arguments, variables and tokens. -/
def VC (P : Program) (G : Heap) (f : FuncId) (args : List D) (β : Heap) (ω : List Nat) (Φ : Out → Heap → List Nat → Prop) : Prop :=
  ∀ K w vargs, Rel G K β ω w → RepL K args vargs → Upon P f vargs.toArray w (Back G Φ K β ω w)

/-- The contract of a loop's own function ('yield'). -/
def VY (P : Program) (G : Heap) (l : Nat) (args : List D) (β : Heap) (ω : List Nat) (Φ : Out → Heap → List Nat → Prop) : Prop :=
  ∀ K w vargs, Rel G K β ω w → RepL K args vargs → ∃ f tmps assign body, (Instr.yield l vargs.toArray).run P w = .ok (.round l f tmps assign body) w ∧
    RoundIn Fence.wide 0 P l f tmps assign body w (Back G Φ K β ω w)

/-- The contract of a function value. -/
def VCall (P : Program) (G : Heap) (d : D) (args : List D) (β : Heap) (ω : List Nat) (Φ : Out → Heap → List Nat → Prop) : Prop :=
  match d with
  | .clo (.func f) first captured => VC P G f (first ++ args ++ captured) β ω Φ
  | .clo (.yield l) first captured => VY P G l (first ++ args) β ω Φ
  | _ => False

variable {P : Program} {G : Heap} {n B : Nat} {K : Kn} {s : St} {a : Act} {w : World}

theorem Back.mono {Φ Ψ : Out → Heap → List Nat → Prop} (h : ∀ o β ω, Φ o β ω → Ψ o β ω) {β : Heap} {ω : List Nat} {e : Ending} {w' : World} (hb : Back G Φ K β ω w e w') : Back G Ψ K β ω w e w' :=
  let ⟨K', o, β', ω', h1, h2, h3⟩ := hb
  ⟨K', o, β', ω', h1, h _ _ _ h2, h3⟩

theorem Upon.mono {f : FuncId} {args : Array Value} {R R' : Ending → World → Prop} (h : ∀ e w', R e w' → R' e w') (hu : Upon P f args w R) : Upon P f args w R' := by
  rcases hu with ⟨h1, h2⟩ | ⟨v, w1, h1, h2⟩
  · exact .inl ⟨h1, h2.mono h⟩
  · exact .inr ⟨v, w1, h1, h _ _ h2⟩

theorem VC.mono {f : FuncId} {args : List D} {β : Heap} {ω : List Nat} {Φ Ψ : Out → Heap → List Nat → Prop} (hc : VC P G f args β ω Φ) (h : ∀ o β ω, Φ o β ω → Ψ o β ω) : VC P G f args β ω Ψ :=
  fun K w vargs hr ha => (hc K w vargs hr ha).mono fun e w' => Back.mono h

theorem VY.mono {l : Nat} {args : List D} {β : Heap} {ω : List Nat} {Φ Ψ : Out → Heap → List Nat → Prop} (hc : VY P G l args β ω Φ) (h : ∀ o β ω, Φ o β ω → Ψ o β ω) : VY P G l args β ω Ψ :=
  fun K w vargs hr ha => let ⟨f, t, as, b, h1, h2⟩ := hc K w vargs hr ha; ⟨f, t, as, b, h1, h2.mono fun e w' => Back.mono h⟩

theorem VCall.mono {d : D} {args : List D} {β : Heap} {ω : List Nat} {Φ Ψ : Out → Heap → List Nat → Prop} (hc : VCall P G d args β ω Φ) (h : ∀ o β ω, Φ o β ω → Ψ o β ω) : VCall P G d args β ω Ψ := by
  unfold VCall at hc ⊢
  split at hc
  · exact VC.mono hc h
  · exact VY.mono hc h
  · exact hc.elim

/-! ### The machine's step at an operation -/
/-- The fence that lets all through, in a round of a loop over a function or not. -/
def W (ro : Option Nat) : Fence := { Fence.wide with round := ro }

theorem callsIn_W {ro : Option Nat} {k : Nat} {f : FuncId} {args : Array Value} {R : Ending → World → Prop} (h : Calls P f args w R) : CallsIn (W ro) k P f args w R := by
  have := callsIn_wide (n := k).2 h
  exact this

theorem about_W {ro : Option Nat} {o : Oper} : ∀ f, o.about P w a.eval = some f → (W ro).fn f := fun _ _ => trivial

section
variable {ro : Option Nat} {o : Oper} {next : Act → World → Prop} {Q : Exit → Act → World → Prop}

theorem wpIn_value (hd : ∀ c, o.op ≠ .defer c) {v : Value} {w' : World} (hr : (execOp a.eval o).run P w = .ok (.value v) w') (hn : next (a.put o.dst v) w') : o.wpIn (W ro) 0 P a w next Q := by
  refine ⟨about_W, ?_⟩
  rw [Oper.semAt_eq _ _ _ hd, hr]
  exact hn

theorem wpIn_none (hd : ∀ c, o.op ≠ .defer c) {w' : World} (hr : (execOp a.eval o).run P w = .ok .skip w') (hn : next (a.put o.dst undef) w') : o.wpIn (W ro) 0 P a w next Q := by
  refine ⟨about_W, ?_⟩
  rw [Oper.semAt_eq _ _ _ hd, hr]
  exact hn

theorem wpIn_panic (hd : ∀ c, o.op ≠ .defer c) {v : Value} {w' : World} (hr : (execOp a.eval o).run P w = .halt (.panic v) w') (hn : Q (.panic [{ v, recovered := false }]) a w') : o.wpIn (W ro) 0 P a w next Q := by
  refine ⟨about_W, ?_⟩
  rw [Oper.semAt_eq _ _ _ hd, hr]
  exact hn

theorem wpIn_enter (hd : ∀ c, o.op ≠ .defer c) {f : FuncId} {args : Array Value} {w' : World} {R : Ending → World → Prop} (hr : (execOp a.eval o).run P w = .ok (.enter f args) w') (hc : Calls P f args w' R)
    (hv : ∀ v w'', R (.returned v) w'' → next (a.put o.dst v) w'') (hp : ∀ ch w'', R (.panicked ch) w'' → Q (.panic ch) a w'') (ho : ∀ w'', ¬ R .outgrown w'') : o.wpIn (W ro) 0 P a w next Q := by
  refine ⟨about_W, ?_⟩
  rw [Oper.semAt_eq _ _ _ hd, hr]
  refine ⟨fun h => ?_, ?_⟩
  · simp [W, Fence.wide] at h
  · refine callsIn_W (hc.mono fun e w'' hR => ?_)
    cases e with
    | returned v => exact hv v w'' hR
    | panicked ch => exact hp ch w'' hR
    | outgrown => exact absurd hR (ho w'')

theorem wpIn_round (hd : ∀ c, o.op ≠ .defer c) {l : Nat} {f : FuncId} {tmps : Array Value} {as body : Code} {w' : World} {R : Ending → World → Prop} (hr : (execOp a.eval o).run P w = .ok (.round l f tmps as body) w') (hc : RoundIn Fence.wide 0 P l f tmps as body w' R)
    (hv : ∀ v w'', R (.returned v) w'' → next (a.put o.dst v) w'') (hp : ∀ ch w'', R (.panicked ch) w'' → Q (.panic ch) a w'') (ho : ∀ w'', ¬ R .outgrown w'') : o.wpIn (W ro) 0 P a w next Q := by
  refine ⟨about_W, ?_⟩
  rw [Oper.semAt_eq _ _ _ hd, hr]
  refine ⟨fun h => ?_, ?_⟩
  · simp [W, Fence.wide] at h
  · have : RoundIn (W ro) 0 P l f tmps as body w' R := hc
    refine this.mono fun e w'' hR => ?_
    cases e with
    | returned v => exact hv v w'' hR
    | panicked ch => exact hp ch w'' hR
    | outgrown => exact absurd hR (ho w'')
end

/-! ### Operations that make or write memory -/
def D.whole : D → Bool
  | .any | .tup _ | .when _ _ | .lp _ _ => false
  | _ => true

theorem Rep.cells_whole {d : D} {v : Value} (h : Rep K d v) (hd : d.whole = true) : RepL K d.cells v.cells.toList :=
  h.cells (fun e => by subst e; simp [D.whole] at hd) (fun ds e => by subst e; simp [D.whole] at hd) (fun c x e => by subst e; simp [D.whole] at hd)

theorem run_alloc {t : TypeId} {cs : List D} (h : zer P t = some cs) (w : World) : ∃ vs : List Value, (Instr.alloc t true (.tuple #[])).run P w = .ok (.pointer (some ⟨w.heap.size, 0, none⟩)) (w.alloc (.cells vs.toArray t)) ∧ ∀ K, RepL K cs vs := by
  unfold zer at h
  obtain ⟨z, hz, rfl⟩ := Option.map_eq_some_iff.1 h
  obtain ⟨i, hi, hz⟩ := Option.bind_eq_some_iff.1 hz
  refine ⟨z.cells.toList, ?_, fun K => rep_const1s K _⟩
  simp [Instr.alloc, zeroValue, typeInfo, hi, hz, newVar, newRow]

theorem run_box {t : TypeId} (u : Value) (w : World) : (Instr.box t u).run P w = .ok (.pointer (some ⟨w.heap.size, 0, none⟩)) (w.alloc (.cells u.cells t)) := by
  simp [Instr.box, newVar, newRow]

theorem setRow_facts {b : Nat} {vs us : Array Value} {e : TypeId} {fr : Nat × Nat} (h : w.heap[b]? = some (.cells vs e fr)) :
    (∀ k, k ≠ b → (w.setRow b us).heap[k]? = w.heap[k]?) ∧ (w.setRow b us).heap[b]? = some (.cells us e fr) ∧ (w.setRow b us).heap.size = w.heap.size ∧ (w.setRow b us).os = w.os ∧ (w.setRow b us).tape = w.tape ∧ (w.setRow b us).output = w.output := by
  refine ⟨fun k hk => ?_, setRow_heap w b vs us e fr h, by simp [World.setRow], rfl, rfl, rfl⟩
  simp only [World.setRow, Array.getElem?_modify]
  rw [if_neg (fun e => hk e.symm)]

theorem run_storeVar {t : TypeId} {d : TypeDesc} (hu : P.underlying t = some d) {b o : Nat} {vs : Array Value} {e : TypeId} {v : Value} (hb : w.heap[b]? = some (.cells vs e (0, 0))) (hs : v.cells.size = P.cellsOf t) (ho : o + v.cells.size ≤ vs.size) (h1 : ∀ u ∈ v.cells.toList, u.oneCell' = true) :
    (storeVar t ⟨b, o, none⟩ v).run P w = .ok () (w.setRow b (splice vs.toList o v.cells.toList).toArray) := by
  have := run_storeCells_at P b o e v.cells.toList 0 vs w hb (by simpa using ho) h1
  simp only [Nat.add_zero] at this
  simp [storeVar, run_size hu, hs, this, splice]

end Go.Proofs.YtgkfcgfobckaaaaV
