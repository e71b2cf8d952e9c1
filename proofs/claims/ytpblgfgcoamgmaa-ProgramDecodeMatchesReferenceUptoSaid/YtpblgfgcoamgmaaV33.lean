/-
  The thirty-third text of the program logic: contracts of functions that may panic.
  Conditions: none; it speaks of every program.
-/
import Derived.Test.YtpblgfgcoamgmaaV32
set_option linter.unusedVariables false
set_option linter.unusedSimpArgs false
namespace Go.Proofs.YtpblgfgcoamgmaaV
open Go

variable {P : Program} {G : Heap} {β : Heap} {ω : List Nat} {ops : Array Oper} {rest : List Oper} {es : List Ent} {Q : VE → St → Prop} {dst : Option Tmp} {σ : Sg} {f : FuncId} {args : List D} {U : List Nat} {i : Nat} {rd : Rd} {k q : D → Heap → List Nat → Prop}

/-- What a panic with a value comes to. -/
def pnK (x : D) (h : Prop) (Q : VE → St → Prop) (σ : Sg) (β : Heap) (ω : List Nat) : Prop :=
  match x with
  | .iface t d => h ∧ Q (.panic (.iface t d)) ⟨σ, β, ω⟩
  | _ => False
theorem pnK_iface {t : TypeId} {d : D} {h : Prop} : pnK (.iface t d) h Q σ β ω = (h ∧ Q (.panic (.iface t d)) ⟨σ, β, ω⟩) := (rfl)
@[congr] theorem pnK_congr {x x' : D} {h h' : Prop} (e1 : x = x') (e2 : h = h') : pnK x h Q σ β ω = pnK x' h' Q σ β ω := by rw [e1, e2]
theorem E_panic (x : Operand) {ty : TypeId} {pos : String} {af : Array Edge} : evu P G ops (⟨dst, .panic x, ty, pos, af, none⟩ :: rest) Q ⟨σ, β, ω⟩ = pnK (ew G σ x) (ow G σ x) Q σ β ω := by
  simp only [evu, evg, vstep, ev_ew, has_ow]
  cases ew G σ x <;> rfl
attribute [go_sem] pnK_iface
attribute [go_sem ↓] E_panic

/-- What follows upon what a call comes to. -/
def onOut (r : Out) (k q : D → Prop) : Prop := match r with | .ret d => k d | .pan d => q d
theorem onOut_ret {d : D} {k q : D → Prop} : onOut (.ret d) k q = k d := (rfl)
theorem onOut_pan {d : D} {k q : D → Prop} : onOut (.pan d) k q = q d := (rfl)
@[congr] theorem onOut_congr {r r' : Out} {k q : D → Prop} (e : r = r') : onOut r k q = onOut r' k q := by rw [e]
attribute [go_sem] onOut_ret onOut_pan

/-- A function that asks for no memory and leaves none; r: what it comes to. -/
def VNP (P : Program) (G : Heap) (f : FuncId) (args : List D) (r : Out) : Prop := VC P G f args Heap.nil [] fun o β ω => o = r ∧ β = Heap.nil ∧ ω = []
theorem callK_np {r : Out} (h : VNP P G f args r) (hk : onOut r (fun d => k d β ω) fun d => q d β ω) : callK P G (.clo (.func f) [] []) args β ω k q :=
  callK_vc h (Part.nil β ω) (fun d' β' ω' ⟨β1, ω1, ⟨h1, h2, h3⟩, _, _, h4, h5⟩ => by
    subst h1 h2 h3 h4 h5
    simpa [onOut] using hk) (fun d' β' ω' ⟨β1, ω1, ⟨h1, h2, h3⟩, _, _, h4, h5⟩ => by
    subst h1 h2 h3 h4 h5
    simpa [onOut] using hk)
theorem cK_np {r : Out} (h : VNP P G f args r) (hk : onOut r (fun d => Ko P G ops rest Q dst σ d β ω) fun d => Q (.panic d) ⟨σ, β, ω⟩) : cK P G (.clo (.func f) [] []) args β ω ops rest Q dst σ := callK_np h hk

/-- A function that is handed a variable's address: the cells before and behind; r: what it comes to. -/
def VPP (P : Program) (G : Heap) (f : FuncId) (args : Nat → List D) (cs : List D) (r : Out) (cs' : List D) : Prop :=
  ∀ b, VC P G f (args b) (Heap.nil.set b cs) [] fun o β ω => o = r ∧ β = Heap.nil.set b cs' ∧ ω = []
theorem callK_pp {args : Nat → List D} {x y : List D} {b : Nat} {r : Out} (h : VPP P G f args x r y) (hb : β b = some x) (hk : onOut r (fun d => k d (β.set b y) ω) fun d => q d (β.set b y) ω) : callK P G (.clo (.func f) [] []) (args b) β ω k q :=
  callK_vc (h b) (Part.var hb) (fun d' β' ω' ⟨β1, ω1, ⟨h1, h2, h3⟩, _, _, h4, h5⟩ => by
    subst h1 h2 h3 h4 h5
    rw [joinH_box hb]
    simpa [onOut] using hk) (fun d' β' ω' ⟨β1, ω1, ⟨h1, h2, h3⟩, _, _, h4, h5⟩ => by
    subst h1 h2 h3 h4 h5
    rw [joinH_box hb]
    simpa [onOut] using hk)
theorem cK_pp {args : Nat → List D} {x y : List D} {b : Nat} {r : Out} (h : VPP P G f args x r y) (hb : β b = some x) (hk : onOut r (fun d => Ko P G ops rest Q dst σ d (β.set b y) ω) fun d => Q (.panic d) ⟨σ, β.set b y, ω⟩) : cK P G (.clo (.func f) [] []) (args b) β ω ops rest Q dst σ := callK_pp h hb hk
theorem VP.pp {args : Nat → List D} {cs cs' : List D} {d : D} (h : VP P G f args cs d cs') : VPP P G f args cs (.ret d) cs' := h

theorem finP_keep {Φ : Out → Heap → List Nat → Prop} {d : D} {β' : Heap} (hs : ∀ b cs, β' b = some cs → β b = some cs) (h : Φ (.pan d) β' []) : finP Φ d β ω :=
  ⟨d, β', [], Wk.refl d, hs, fun _ h => (List.not_mem_nil h).elim, h⟩
theorem finP_pure {Φ : Out → Heap → List Nat → Prop} {d : D} (h : Φ (.pan d) Heap.nil []) : finP Φ d β ω := finP_keep (β' := Heap.nil) (fun _ _ h => (nomatch h : False).elim) h
theorem finP_var {Φ : Out → Heap → List Nat → Prop} {d : D} {b : Nat} {cs : List D} (hb : β b = some cs) (h : Φ (.pan d) (Heap.nil.set b cs) []) : finP Φ d β ω :=
  finP_keep (fun b' cs'' hs => by
    unfold Heap.set at hs
    split at hs
    · rename_i e; subst e; cases hs; exact hb
    · cases hs) h
theorem finP_var2 {Φ : Out → Heap → List Nat → Prop} {d : D} {b b' : Nat} {cs cs' : List D} (hb : β b = some cs) (hb' : β b' = some cs') (h : Φ (.pan d) ((Heap.nil.set b cs).set b' cs') []) : finP Φ d β ω :=
  finP_keep (fun i cs'' hs => by
    unfold Heap.set at hs
    split at hs
    · rename_i e; subst e; cases hs; exact hb'
    · split at hs
      · rename_i e; subst e; cases hs; exact hb
      · cases hs) h
end Go.Proofs.YtpblgfgcoamgmaaV
