/-
  The twenty-sixth text of the program logic: results that lie in variables; calls of function values with captured values; calls that are handed a variable's address; functions of the model's own table.
  Conditions: none; it speaks of every program.
-/
import Derived.Test.YtgkfcgfobckaaaaV25
import Derived.Lib.Bytealg
set_option linter.unusedVariables false
set_option linter.unusedSimpArgs false
namespace Go.Proofs.YtgkfcgfobckaaaaV
open Go

variable {P : Program} {G : Heap} {β : Heap} {ω : List Nat}

/-! ### Results that lie in variables -/
def resL (P : Program) (σ : Sg) (β : Heap) (rs : List ResultVar) : List D := rs.map fun r => (resv P ⟨σ, β, []⟩ r).1
def resO (P : Program) (σ : Sg) (β : Heap) : List ResultVar → Prop
  | [] => True
  | r :: rs => (resv P ⟨σ, β, []⟩ r).2 ∧ resO P σ β rs
def finc (P : Program) (Φ : Out → Heap → List Nat → Prop) (rs : List ResultVar) : VE → St → Prop
  | .normal, s | .ret, s => resO P s.σ s.β rs ∧ finK Φ (resD (resL P s.σ s.β rs)) s.β s.ω
  | .panic d, s => ∃ d' β' ω', Wk d d' ∧ (∀ b cs, β' b = some cs → s.β b = some cs) ∧ (∀ t, t ∈ ω' → t ∈ s.ω) ∧ Φ (.pan d') β' ω'
  | _, _ => False
section
variable {σ : Sg} {Φ : Out → Heap → List Nat → Prop} {rs : List ResultVar}
theorem finc_ret : finc P Φ rs .ret ⟨σ, β, ω⟩ = (resO P σ β rs ∧ finK Φ (resD (resL P σ β rs)) β ω) := (rfl)
theorem finc_normal : finc P Φ rs .normal ⟨σ, β, ω⟩ = (resO P σ β rs ∧ finK Φ (resD (resL P σ β rs)) β ω) := (rfl)
theorem resL_nil : resL P σ β [] = [] := (rfl)
theorem resL_tmp (t : Tmp) : resL P σ β (.tmp t :: rs) = σ t :: resL P σ β rs := (rfl)
theorem resL_cell (t : Tmp) (ty : TypeId) : resL P σ β (.cell t ty :: rs) = (vloadAt P β ty (σ t)).1 :: resL P σ β rs := (rfl)
theorem resO_nil : resO P σ β [] = True := (rfl)
theorem resO_tmp (t : Tmp) : resO P σ β (.tmp t :: rs) = resO P σ β rs := by simp [resO, resv]
theorem resO_cell (t : Tmp) (ty : TypeId) : resO P σ β (.cell t ty :: rs) = ((vloadAt P β ty (σ t)).2 ∧ resO P σ β rs) := (rfl)
end

theorem resO_all {s : St} : ∀ {rs : List ResultVar}, resO P s.σ s.β rs → ∀ r ∈ rs, (resv P s r).2
  | [], _, r, h => by simp at h
  | r :: rs, h, q, hq => by
    rcases List.mem_cons.1 hq with rfl | hq
    · have := h.1
      cases q <;> exact this
    · exact resO_all h.2 q hq

theorem VC.ofc {f : FuncId} {fn : Func} {c : Code} {args : List D} {Φ : Out → Heap → List Nat → Prop} (ct : Cert) (rs : List ResultVar) (hm : P.follows .mixedOrders = true) (hf : P.funcs[f]? = some fn) (hb : fn.body = some c) (hname : (fn.name == "runtime.NumGoroutine") = false) (hres : fn.results = rs.toArray)
    (hfit : fits fn.ntmps c = true) (hok : okCode ct c = true) (hlen : args.length ≤ fn.ntmps) (h : vwq false ct P G c (finc P Φ rs) ⟨start args, β, ω⟩) : VC P G f args β ω Φ := by
  refine VC.of_vwp vdraw_sound hf hb hname hfit hlen ?_
  refine vwq_vwp hm c (fun e s h => ?_) hok h
  have hl : fn.results.toList = rs := by rw [hres]
  have key : ∀ s : St, (resO P s.σ s.β rs ∧ finK Φ (resD (resL P s.σ s.β rs)) s.β s.ω) → (∀ r ∈ fn.results.toList, (resv P s r).2) ∧ ∃ d β' ω', Wk (resD (fn.results.toList.map fun r => (resv P s r).1)) d ∧ (∀ b cs, β' b = some cs → s.β b = some cs) ∧ (∀ t, t ∈ ω' → t ∈ s.ω) ∧ Φ (.ret d) β' ω' := fun s ⟨h1, h2⟩ => by
    rw [hl]
    refine ⟨resO_all h1, ?_⟩
    have e : (rs.map fun r => (resv P s r).1) = resL P s.σ s.β rs := List.map_congr_left fun r _ => by cases r <;> rfl
    rw [e]
    exact h2
  cases e with
  | normal => exact key s h
  | ret => exact key s h
  | panic d => exact h
  | exit i => exact h.elim
  | goto l => exact h.elim
theorem VC.ofcT {f : FuncId} {fn : Func} {c : Code} {args : List D} {Φ : Out → Heap → List Nat → Prop} (ct : Cert) (rs : List ResultVar) (hm : P.follows .mixedOrders = true) (hf : P.funcs[f]? = some fn) (hb : fn.body = some c) (hname : (fn.name == "runtime.NumGoroutine") = false) (hres : fn.results = rs.toArray)
    (hfit : fits fn.ntmps c = true) (hok : okCode ct c = true) (hlen : args.length ≤ fn.ntmps) (h : vwq true ct P G c (finc P Φ rs) ⟨start args, β, ω⟩) : VC P G f args β ω Φ := by
  refine VC.of_vwp vdraw_sound hf hb hname hfit hlen ?_
  refine vwq_vwp hm c (fun e s h => ?_) hok h
  have hl : fn.results.toList = rs := by rw [hres]
  have key : ∀ s : St, (resO P s.σ s.β rs ∧ finK Φ (resD (resL P s.σ s.β rs)) s.β s.ω) → (∀ r ∈ fn.results.toList, (resv P s r).2) ∧ ∃ d β' ω', Wk (resD (fn.results.toList.map fun r => (resv P s r).1)) d ∧ (∀ b cs, β' b = some cs → s.β b = some cs) ∧ (∀ t, t ∈ ω' → t ∈ s.ω) ∧ Φ (.ret d) β' ω' := fun s ⟨h1, h2⟩ => by
    rw [hl]
    refine ⟨resO_all h1, ?_⟩
    have e : (rs.map fun r => (resv P s r).1) = resL P s.σ s.β rs := List.map_congr_left fun r _ => by cases r <;> rfl
    rw [e]
    exact h2
  cases e with
  | normal => exact key s h
  | ret => exact key s h
  | panic d => exact h
  | exit i => exact h.elim
  | goto l => exact h.elim

/-! ### Calls -/
section
variable {ops : Array Oper} {rest : List Oper} {es : List Ent} {Q : VE → St → Prop} {dst : Option Tmp} {σ : Sg} {f : FuncId} {args : List D} {d : D} {fs cs : List D} {U : List Nat} {i : Nat} {rd : Rd}

theorem callK_cl {k q : D → Heap → List Nat → Prop} (h : VN P G f (fs ++ args ++ cs) d) (hk : k d β ω) : callK P G (.clo (.func f) fs cs) args β ω k q := by
  show VC P G f (fs ++ args ++ cs) β ω (fun o β' ω' => match o with | .ret d => k d β' ω' | .pan d => q d β' ω')
  exact h.call β ω hk
/-- A function value with what it has captured. -/
theorem cK_cl (h : VN P G f (fs ++ args ++ cs) d) (hk : Ko P G ops rest Q dst σ d β ω) : cK P G (.clo (.func f) fs cs) args β ω ops rest Q dst σ := callK_cl h hk

theorem callE_cl {k q : D → Heap → List Nat → Prop} (h : VN P G f (fs ++ args ++ cs) d) (hk : k d β ω) : callE P G U i (.clo (.func f) fs cs) True args rd β ω k q :=
  ⟨Heap.nil, [], fun o β ω => o = .ret d ∧ β = Heap.nil ∧ ω = [], Part.nil β ω, fun _ _ => rfl, trivial, h,
    fun _ N => ⟨d, Heap.nil, [], ⟨rfl, rfl, rfl⟩, Fini.nil, fun b hb => absurd rfl hb, fun t ht => by simp at ht⟩,
    fun d' β' ω' ⟨β1, ω1, ⟨h1, h2, h3⟩, _, _, h4, h5⟩ _ => by
      cases h1; subst h2 h3 h4 h5
      simpa using hk,
    fun d' β' ω' ⟨β1, ω1, ⟨h1, h2, h3⟩, _, _, h4, h5⟩ _ => by cases h1⟩
theorem cE_cl (h : VN P G f (fs ++ args ++ cs) d) (hk : Kd P G ops es Q dst σ d rd β ω) : cE P G U i (.clo (.func f) fs cs) True args rd β ω ops es Q dst σ := callE_cl h hk

/-- The contract of a function that is handed a variable's address: the variable's cells before and behind. -/
def VP (P : Program) (G : Heap) (f : FuncId) (args : Nat → List D) (cs : List D) (d : D) (cs' : List D) : Prop :=
  ∀ b, VC P G f (args b) (Heap.nil.set b cs) [] fun o β ω => o = .ret d ∧ β = Heap.nil.set b cs' ∧ ω = []

theorem Part.var {b : Nat} {x : List D} (h : β b = some x) : Part (Heap.nil.set b x) [] β ω :=
  ⟨fun b' cs hb => (by
    unfold Heap.set at hb
    split at hb
    · rename_i e; subst e; cases hb; exact h
    · cases hb), fun t ht => by simp at ht⟩

theorem joinH_box {b : Nat} {x y : List D} (h : β b = some x) : joinH β (Heap.nil.set b x) (Heap.nil.set b y) = β.set b y := by
  funext b'
  unfold joinH Heap.set
  by_cases e : b' = b
  · simp [e]
  · simp [e, Heap.nil]

theorem cK_vp {args : Nat → List D} {x y : List D} {b : Nat} (h : VP P G f args x d y) (hb : β b = some x) (hk : Ko P G ops rest Q dst σ d (β.set b y) ω) : cK P G (.clo (.func f) [] []) (args b) β ω ops rest Q dst σ :=
  callK_vc (h b) (Part.var hb) (fun d' β' ω' ⟨β1, ω1, ⟨h1, h2, h3⟩, _, _, h4, h5⟩ => by
    cases h1; subst h2 h3 h4 h5
    rw [joinH_box hb]
    simpa using hk) (fun d' β' ω' ⟨β1, ω1, ⟨h1, h2, h3⟩, _, _, h4, h5⟩ => by cases h1)
end

attribute [go_sem] gdV_off resL_nil resL_tmp resL_cell resO_nil resO_tmp resO_cell
attribute [go_sem ↓] finc_ret finc_normal

/-! ### A function of the model's own table -/
theorem VN.extern {f : FuncId} {fn : Func} {e : Array Value → Sem Value} {args : List D} {d : D} (hf : P.funcs[f]? = some fn) (hname : (fn.name == "runtime.NumGoroutine") = false)
    (hb : fn.body.isNone = true) (hn : Extern.findNext fn = none) (he : Extern.find fn = some e) (h : ∀ K w vargs, RepL K args vargs → ∃ v, (e vargs.toArray).run P w = .ok v w ∧ Rep K d v) : VN P G f args d := by
  intro K w vargs hr ha
  obtain ⟨v, h1, h2⟩ := h K w vargs ha
  exact .inr ⟨v, w, by rw [run_callFunc_extern hf hname hb hn he, h1]; rfl, K, .ret d, Heap.nil, [], h2, ⟨rfl, rfl, rfl⟩, hr, Evo.refl K Heap.nil [] w⟩

/-- The comparison of strings that the model's table gives. -/
theorem cmpstring_vn {f : FuncId} {fn : Func} (x y : ByteArray) (hf : P.funcs[f]? = some fn) (hname : (fn.name == "runtime.NumGoroutine") = false)
    (hb : fn.body.isNone = true) (hn : Extern.findNext fn = none) (he : Extern.find fn = some Extern.BytealgCompare.compare) : VN P G f [.str x, .str y] (.int .i64 (Lib.compareBytes x.data.toList y.data.toList)) :=
  VN.extern hf hname hb hn he fun K w vargs ha => by
    cases ha with
    | cons h1 t1 => cases t1 with
      | cons h2 t2 =>
        cases t2
        cases h1; cases h2
        exact ⟨_, Lib.run_compareString x y w, .int _ _⟩

theorem compareBytes_lt : ∀ (x y : List UInt8), (Lib.compareBytes x y < 0 ↔ x < y) ∧ (0 < Lib.compareBytes x y ↔ y < x) ∧ (Lib.compareBytes x y = 0 ↔ x = y)
  | [], [] => by simp [Lib.compareBytes]
  | [], _ :: _ => by simp [Lib.compareBytes]
  | _ :: _, [] => by simp [Lib.compareBytes]
  | a :: x, b :: y => by
    have ih := compareBytes_lt x y
    unfold Lib.compareBytes
    simp only [List.cons_lt_cons_iff, List.cons.injEq]
    split
    · rename_i h
      have h2 : ¬ b < a := fun h' => UInt8.lt_irrefl _ (UInt8.lt_trans h h')
      have h3 : a ≠ b := fun e => by subst e; exact UInt8.lt_irrefl _ h
      have h4 : b ≠ a := fun e => h3 e.symm
      simp [h, h2, h3, h4]
    · split
      · rename_i h1 h
        have h3 : a ≠ b := fun e => by subst e; exact UInt8.lt_irrefl _ h
        have h4 : b ≠ a := fun e => h3 e.symm
        simp [h1, h, h3, h4]
      · rename_i h1 h2
        have h3 : a = b := UInt8.le_antisymm (UInt8.not_lt.1 h2) (UInt8.not_lt.1 h1)
        subst h3
        simp [h1, ih]

end Go.Proofs.YtgkfcgfobckaaaaV
