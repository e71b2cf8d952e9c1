/-
  For every input of bulk at most 1048576, WireOwn returns true, and its arguments read behind the call as they read before.
  Conditions: the bulk of the arguments is at most 1048576 (the row's own).
-/
import Derived.Test.YtdemkhcloholiaaJ1
import Derived.Test.YtdemkhcloholiaaAW3
set_option linter.unusedVariables false
set_option linter.unusedSimpArgs false
namespace Go.Proofs.YtdemkhcloholiaaS
open Go Go.Proofs.YtdemkhcloholiaaV Go.Proofs.Ytdemkhcloholiaa

theorem own_contract (das : List D) (h : HasDs Try.prog Try.f10.params.toList das) (hb : bulkL das ≤ 1048576) : VC Try.prog Heap.nil 10 das Heap.nil [] fun o _ _ => o = .ret (.bool true) := by
  obtain ⟨d1, r1, h1, q1, rfl⟩ := hasDs_cons h
  obtain ⟨d2, r2, h2, q2, rfl⟩ := hasDs_cons q1
  cases hasDs_nil q2
  simp only [bulkL] at hb
  obtain ⟨b1, rfl, bb1, bl1⟩ := bytesD h1
  obtain ⟨b2, rfl, bb2, bl2⟩ := bytesD h2
  exact (own_ok b1 b2 bb1 bb2 (by omega) (by omega)).mono fun o β ω h => h.1

theorem own_row {H : Type} (enc : TypeId × Value → H) (W : World) (base : Nat) (args : Array Value) (ds gs : List (DataW H)) (before : List MemPlace)
    (hval : ∀ (j : Nat) t v, Try.f10.params[j]? = some t → args[j]? = some v → Value.okWide Try.prog W .any base t v)
    (hW : DataW.Whole enc Try.prog Try.f10.params.toList Rows.wireOwnSpec.vars false W args.toList ds gs before) (hk : Rows.uptoSmall H (ds ++ gs) = true) :
    Calls Try.prog 10 args W fun e W' => ∃ v, e = .returned v ∧ Rows.wireOwnSpec.post enc Try.prog Try.f10 false true false false W args v W' :=
  law_row (T := T) (tb := 4) (B := 1048576) T_ok laid (by kernel_rfl) Try.func10 rfl rfl rfl rfl Try.underlying4 (fun ds hl => by
    match ds, hl with
    | [d1, d2], _ => exact ⟨rfl, rfl, rfl⟩) (by decide) own_contract W base args ds gs before hval hW (small_of hk)
end Go.Proofs.YtdemkhcloholiaaS
namespace Go.Proofs.Ytdemkhcloholiaa
open Go Go.Proofs.YtdemkhcloholiaaV Go.Proofs.YtdemkhcloholiaaS

set_option maxRecDepth 100000 in
theorem own_lifted (os : Os) (started : os.Started) (H : Type) (enc : TypeId × Value → H) (F : Stop.Interp) :
    ReturnsInHanded {} Try.checked os 10 .any ((Rows.OpenSpec.upto Rows.wireOwnSpec).pre6 enc Try.prog Try.f10 Rows.wireOwnUptoRow.domain false) (((Rows.OpenSpec.upto Rows.wireOwnSpec).at F).post enc Try.prog Try.f10 false true false false) := by
  refine returnsInHanded_of_cond (C := Try.checked) (s := Rows.OpenSpec.upto Rows.wireOwnSpec) (k := Rows.uptoSmall) rfl own started (by kernel_rfl) Try.func10
    (OpenSpec.witness (enc := enc) (C := Try.checked) (s := Rows.OpenSpec.upto Rows.wireOwnSpec) (k := Rows.uptoSmall) rfl false ⟨#[], #[.slice none 0 0, .slice none 0 0], []⟩ 8 (by kernel_rfl) (by kernel_rfl) (by kernel_rfl)
      (x := ([.nil, .nil], [], [])) (by kernel_rfl) rfl (by kernel_rfl)) ?_
  intro W base args ds gs before hval hW _ hk _
  exact own_row enc W base args ds gs before hval hW hk

theorem own_holds : Rows.WireOwnUptoSaid :=
  OpenClaim.holds_of_cond 10 Try.f10 rfl rfl rfl rfl rfl rfl rfl ⟨rfl, rfl, rfl, rfl, rfl⟩ rfl rfl rfl rfl rfl (by kernel_rfl) Try.func10 (by kernel_rfl)
    (of_decide_eq_true (by kernel_rfl)) (by unfold Func.isWrapper; first | (rw [if_pos (by decide +kernel)]; kernel_rfl) | (rw [if_neg (by decide +kernel)]; exact ⟨rfl, rfl⟩))
    (fun os started H enc _ F => own_lifted os started H enc F)

#print axioms own_holds
end Go.Proofs.Ytdemkhcloholiaa
