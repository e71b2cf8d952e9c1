/-
  For every input of bulk at most 1048576, WireSequence returns true, and its arguments read behind the call as they read before.
  Conditions: the bulk of the arguments is at most 1048576 (the row's own).
-/
import Derived.Test.YtdemkhcloholiaaJ1
import Derived.Test.YtdemkhcloholiaaA19
set_option linter.unusedVariables false
set_option linter.unusedSimpArgs false
namespace Go.Proofs.YtdemkhcloholiaaS
open Go Go.Proofs.YtdemkhcloholiaaV Go.Proofs.Ytdemkhcloholiaa

theorem vals_bulk : ∀ vs : List Val, bulkL (vls vs) = (vs.map fun v => v.s.size + v.p.length + 4).sum
  | [] => rfl
  | v :: vs => by
    have := vals_bulk vs
    simp only [vls, List.map_cons, bulkL, D.bulk, Val.cells, bs_bulk, List.sum_cons] at this ⊢
    omega
theorem le_sum {f : Val → Nat} : ∀ {vs : List Val} {v : Val}, v ∈ vs → f v ≤ (vs.map f).sum
  | u :: vs, v, h => by
    simp only [List.map_cons, List.sum_cons]
    rcases List.mem_cons.1 h with rfl | h
    · omega
    · have := le_sum (f := f) h; omega
theorem len_sum {f : Val → Nat} (hf : ∀ v, 1 ≤ f v) : ∀ vs : List Val, vs.length ≤ (vs.map f).sum
  | [] => by simp
  | v :: vs => by have := len_sum hf vs; have := hf v; simp only [List.length_cons, List.map_cons, List.sum_cons]; omega
theorem valsD {d : D} (h : HasD Try.prog 48 d) : ∃ vs : List Val, d = .sl .none (vls vs) ∧ (∀ v ∈ vs, v.n < 18446744073709551616 ∧ (-9223372036854775808 ≤ v.k ∧ v.k < 9223372036854775808) ∧ Byt v.p) ∧ d.bulk = (vs.map fun v => v.s.size + v.p.length + 4).sum + 1 := by
  obtain ⟨n, ys, h, rfl⟩ := h
  obtain ⟨vs, rfl, h2⟩ := h.slice (f := fun v : Val => v.cells) (Q := fun v => v.n < 18446744073709551616 ∧ (-9223372036854775808 ≤ v.k ∧ v.k < 9223372036854775808) ∧ Byt v.p) Try.underlying48 fun m x _ hx => by
    obtain ⟨k, i, s, l, rfl, c1, c2, c3⟩ := valC hx
    exact ⟨⟨k, i, s, l⟩, rfl, c1, c2, c3⟩
  have e : (vs.map fun v => pk Try.prog 25 v.cells) = vls vs := by simp only [pk_agg Try.underlying25]; rfl
  rw [e, pk_slice Try.underlying48]
  refine ⟨vs, rfl, h2, ?_⟩
  simp only [D.bulk, vals_bulk]

theorem sequence_contract (das : List D) (h : HasDs Try.prog Try.f9.params.toList das) (hb : bulkL das ≤ 1048576) : VC Try.prog Heap.nil 9 das Heap.nil [] fun o _ _ => o = .ret (.bool true) := by
  obtain ⟨d1, r1, h1, q1, rfl⟩ := hasDs_cons h
  cases hasDs_nil q1
  simp only [bulkL] at hb
  obtain ⟨vs, rfl, c1, c2⟩ := valsD h1
  have hl := len_sum (f := fun v : Val => v.s.size + v.p.length + 4) (fun v => by omega) vs
  refine (sequence_ok vs (by omega) fun v hv => ?_).mono fun o β ω h => h.1
  have := le_sum (f := fun v : Val => v.s.size + v.p.length + 4) hv
  obtain ⟨e1, e2, e3⟩ := c1 v hv
  exact ⟨e1, e2, by omega, by omega, e3⟩

theorem sequence_row {H : Type} (enc : TypeId × Value → H) (W : World) (base : Nat) (args : Array Value) (ds gs : List (DataW H)) (before : List MemPlace)
    (hval : ∀ (j : Nat) t v, Try.f9.params[j]? = some t → args[j]? = some v → Value.okWide Try.prog W .any base t v)
    (hW : DataW.Whole enc Try.prog Try.f9.params.toList Rows.wireSequenceSpec.vars false W args.toList ds gs before) (hk : Rows.uptoSmall H (ds ++ gs) = true) :
    Calls Try.prog 9 args W fun e W' => ∃ v, e = .returned v ∧ Rows.wireSequenceSpec.post enc Try.prog Try.f9 false true false false W args v W' :=
  law_row (T := T) (tb := 4) (B := 1048576) T_ok laid (by kernel_rfl) Try.func9 rfl rfl rfl rfl Try.underlying4 (fun ds hl => by
    match ds, hl with
    | [d1], _ => exact ⟨rfl, rfl, rfl⟩) (by decide) sequence_contract W base args ds gs before hval hW (small_of hk)
end Go.Proofs.YtdemkhcloholiaaS
namespace Go.Proofs.Ytdemkhcloholiaa
open Go Go.Proofs.YtdemkhcloholiaaV Go.Proofs.YtdemkhcloholiaaS

set_option maxRecDepth 100000 in
theorem sequence_lifted (os : Os) (started : os.Started) (H : Type) (enc : TypeId × Value → H) (F : Stop.Interp) :
    ReturnsInHanded {} Try.checked os 9 .any ((Rows.OpenSpec.upto Rows.wireSequenceSpec).pre6 enc Try.prog Try.f9 Rows.wireSequenceUptoRow.domain false) (((Rows.OpenSpec.upto Rows.wireSequenceSpec).at F).post enc Try.prog Try.f9 false true false false) := by
  refine returnsInHanded_of_cond (C := Try.checked) (s := Rows.OpenSpec.upto Rows.wireSequenceSpec) (k := Rows.uptoSmall) rfl own started (by kernel_rfl) Try.func9
    (OpenSpec.witness (enc := enc) (C := Try.checked) (s := Rows.OpenSpec.upto Rows.wireSequenceSpec) (k := Rows.uptoSmall) rfl false ⟨#[], #[.slice none 0 0], []⟩ 8 (by kernel_rfl) (by kernel_rfl) (by kernel_rfl)
      (x := ([.nil], [], [])) (by kernel_rfl) rfl (by kernel_rfl)) ?_
  intro W base args ds gs before hval hW _ hk _
  exact sequence_row enc W base args ds gs before hval hW hk

theorem sequence_holds : Rows.WireSequenceUptoSaid :=
  OpenClaim.holds_of_cond 9 Try.f9 rfl rfl rfl rfl rfl rfl rfl ⟨rfl, rfl, rfl, rfl, rfl⟩ rfl rfl rfl rfl rfl (by kernel_rfl) Try.func9 (by kernel_rfl)
    (of_decide_eq_true (by kernel_rfl)) (by unfold Func.isWrapper; first | (rw [if_pos (by decide +kernel)]; kernel_rfl) | (rw [if_neg (by decide +kernel)]; exact ⟨rfl, rfl⟩))
    (fun os started H enc _ F => sequence_lifted os started H enc F)

#print axioms sequence_holds
end Go.Proofs.Ytdemkhcloholiaa
