/-
  For every input of bulk at most 1048576, PredAtoms returns true, and its arguments read behind the call as they read before.
  Conditions: the bulk of the arguments is at most 1048576 (the row's own).
-/
import Derived.Test.YtbfkhepfgibonaaJ0
import Derived.Test.YtbfkhepfgibonaaQF
set_option linter.unusedVariables false
set_option linter.unusedSimpArgs false
namespace Go.Proofs.YtbfkhepfgibonaaS
open Go Go.Proofs.YtbfkhepfgibonaaV Go.Proofs.Ytbfkhepfgibonaa

theorem atoms_contract (das : List D) (h : HasDs Try.prog Try.f7.params.toList das) (hb : bulkL das ≤ 1048576) : VC Try.prog Heap.nil 7 das Heap.nil [] fun o _ _ => o = .ret (.bool true) := by
  obtain ⟨d1, r1, h1, q1, rfl⟩ := hasDs_cons h
  obtain ⟨d2, r2, h2, q2, rfl⟩ := hasDs_cons q1
  obtain ⟨d3, r3, h3, q3, rfl⟩ := hasDs_cons q2
  cases hasDs_nil q3
  simp only [bulkL] at hb
  obtain ⟨p1, rfl, c1⟩ := prO h1 (by omega)
  obtain ⟨w2, rfl, v2⟩ := rwD' h2
  obtain ⟨n, rfl, hn⟩ := u8O h3
  have h0 := atoms_ok (G := Heap.nil) p1 w2 n (fun c hc => (v2 c hc)) hn
  unfold VN at h0
  exact h0.mono fun o β ω h => h.1

set_option maxRecDepth 100000 in
theorem atoms_row {H : Type} (enc : TypeId × Value → H) (W : World) (base : Nat) (args : Array Value) (ds gs : List (DataW H)) (before : List MemPlace)
    (hval : ∀ (j : Nat) t v, Try.f7.params[j]? = some t → args[j]? = some v → Value.okWide Try.prog W .any base t v)
    (hW : DataW.Whole enc Try.prog Try.f7.params.toList Rows.predAtomsSpec.vars false W args.toList ds gs before) (hk : Rows.uptoSmall H (ds ++ gs) = true) :
    Calls Try.prog 7 args W fun e W' => ∃ v, e = .returned v ∧ Rows.predAtomsSpec.post enc Try.prog Try.f7 false true false false W args v W' :=
  law_row (T := T) (tb := 4) (B := 1048576) T_ok laid (by kernel_rfl) Try.func7 rfl rfl rfl rfl Try.underlying4 (fun ds hl => by
    match ds, hl with
    | [d1, d2, d3], _ => exact ⟨rfl, rfl, rfl⟩) (by decide) atoms_contract W base args ds gs before hval hW (small_of hk)
end Go.Proofs.YtbfkhepfgibonaaS
namespace Go.Proofs.Ytbfkhepfgibonaa
open Go Go.Proofs.YtbfkhepfgibonaaV Go.Proofs.YtbfkhepfgibonaaS

set_option maxRecDepth 100000 in
theorem atoms_lifted (os : Os) (started : os.Started) (H : Type) (enc : TypeId × Value → H) (F : Stop.Interp) :
    ReturnsInHanded {} Try.checked os 7 .any ((Rows.OpenSpec.upto Rows.predAtomsSpec).pre6 enc Try.prog Try.f7 Rows.predAtomsUptoRow.domain false) (((Rows.OpenSpec.upto Rows.predAtomsSpec).at F).post enc Try.prog Try.f7 false true false false) := by
  refine returnsInHanded_of_cond (C := Try.checked) (s := Rows.OpenSpec.upto Rows.predAtomsSpec) (k := Rows.uptoSmall) rfl own started (by kernel_rfl) Try.func7
    (OpenSpec.witness (enc := enc) (C := Try.checked) (s := Rows.OpenSpec.upto Rows.predAtomsSpec) (k := Rows.uptoSmall) rfl false ⟨#[], #[.agg #[.int .i64 0, .int .i64 0, .int .i64 0, .int .i64 0, .slice none 0 0, .string .empty, .slice none 0 0], .agg #[.slice none 0 0], .int .u8 0], []⟩ 8 (by kernel_rfl) (by kernel_rfl) (by kernel_rfl)
      (x := ([.agg [.lit (.int .i64 0), .lit (.int .i64 0), .lit (.int .i64 0), .lit (.int .i64 0), .nil, .lit (.string []), .nil], .agg [.nil], .lit (.int .u8 0)], [], [])) (by kernel_rfl) rfl (by kernel_rfl)) ?_
  intro W base args ds gs before hval hW _ hk _
  exact atoms_row enc W base args ds gs before hval hW hk

theorem atoms_holds : Rows.PredAtomsUptoSaid :=
  OpenClaim.holds_of_cond 7 Try.f7 rfl rfl rfl rfl rfl rfl rfl ⟨rfl, rfl, rfl, rfl, rfl⟩ rfl rfl rfl rfl rfl (by kernel_rfl) Try.func7 (by kernel_rfl)
    (of_decide_eq_true (by kernel_rfl)) (by unfold Func.isWrapper; first | (rw [if_pos (by decide +kernel)]; kernel_rfl) | (rw [if_neg (by decide +kernel)]; exact ⟨rfl, rfl⟩))
    (fun os started H enc _ F => atoms_lifted os started H enc F)

#print axioms atoms_holds
end Go.Proofs.Ytbfkhepfgibonaa
