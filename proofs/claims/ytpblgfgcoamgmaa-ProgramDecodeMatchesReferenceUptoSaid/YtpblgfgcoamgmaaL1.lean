/-
  For every input of bulk at most 1048576, ProgramDecodeMatchesReference returns true, and its arguments read behind the call as they read before.
  Conditions: the bulk of the arguments is at most 1048576 (the row's own).
-/
import Derived.Test.YtpblgfgcoamgmaaJ0
import Derived.Test.YtpblgfgcoamgmaaTM
set_option linter.unusedVariables false
set_option linter.unusedSimpArgs false
namespace Go.Proofs.YtpblgfgcoamgmaaS
open Go Go.Proofs.YtpblgfgcoamgmaaV Go.Proofs.Ytpblgfgcoamgmaa

theorem decode_contract (das : List D) (h : HasDs Try.prog Try.f3.params.toList das) (hb : bulkL das ≤ 1048576) : VC Try.prog Heap.nil 3 das Heap.nil [] fun o _ _ => o = .ret (.bool true) := by
  obtain ⟨d1, r1, h1, q1, rfl⟩ := hasDs_cons h
  cases hasDs_nil q1
  simp only [bulkL] at hb
  obtain ⟨b, rfl, hb1, hb2⟩ := bytesO h1
  have h0 := decode27_ok (G := Heap.nil) b hb1 (by omega)
  unfold VN at h0
  exact h0.mono fun o β ω h => h.1

set_option maxRecDepth 100000 in
theorem decode_row {H : Type} (enc : TypeId × Value → H) (W : World) (base : Nat) (args : Array Value) (ds gs : List (DataW H)) (before : List MemPlace)
    (hval : ∀ (j : Nat) t v, Try.f3.params[j]? = some t → args[j]? = some v → Value.okWide Try.prog W .any base t v)
    (hW : DataW.Whole enc Try.prog Try.f3.params.toList Rows.programDecodeMatchesReferenceSpec.vars false W args.toList ds gs before) (hk : Rows.uptoSmall H (ds ++ gs) = true) :
    Calls Try.prog 3 args W fun e W' => ∃ v, e = .returned v ∧ Rows.programDecodeMatchesReferenceSpec.post enc Try.prog Try.f3 false true false false W args v W' :=
  law_row (T := T) (tb := 4) (B := 1048576) T_ok laid (by kernel_rfl) Try.func3 rfl rfl rfl rfl Try.underlying4 (fun ds hl => by
    match ds, hl with
    | [d1], _ => exact ⟨rfl, rfl, rfl⟩) (by decide) decode_contract W base args ds gs before hval hW (small_of hk)
end Go.Proofs.YtpblgfgcoamgmaaS
namespace Go.Proofs.Ytpblgfgcoamgmaa
open Go Go.Proofs.YtpblgfgcoamgmaaV Go.Proofs.YtpblgfgcoamgmaaS

set_option maxRecDepth 100000 in
theorem decode_lifted (os : Os) (started : os.Started) (H : Type) (enc : TypeId × Value → H) (F : Stop.Interp) :
    ReturnsInHanded {} Try.checked os 3 .any ((Rows.OpenSpec.upto Rows.programDecodeMatchesReferenceSpec).pre6 enc Try.prog Try.f3 Rows.programDecodeMatchesReferenceUptoRow.domain false) (((Rows.OpenSpec.upto Rows.programDecodeMatchesReferenceSpec).at F).post enc Try.prog Try.f3 false true false false) := by
  refine returnsInHanded_of_cond (C := Try.checked) (s := Rows.OpenSpec.upto Rows.programDecodeMatchesReferenceSpec) (k := Rows.uptoSmall) rfl own started (by kernel_rfl) Try.func3
    (OpenSpec.witness (enc := enc) (C := Try.checked) (s := Rows.OpenSpec.upto Rows.programDecodeMatchesReferenceSpec) (k := Rows.uptoSmall) rfl false ⟨#[], #[.slice none 0 0], []⟩ 8 (by kernel_rfl) (by kernel_rfl) (by kernel_rfl)
      (x := ([.nil], [], [])) (by kernel_rfl) rfl (by kernel_rfl)) ?_
  intro W base args ds gs before hval hW _ hk _
  exact decode_row enc W base args ds gs before hval hW hk

theorem decode_holds : Rows.ProgramDecodeMatchesReferenceUptoSaid :=
  OpenClaim.holds_of_cond 3 Try.f3 rfl rfl rfl rfl rfl rfl rfl ⟨rfl, rfl, rfl, rfl, rfl⟩ rfl rfl rfl rfl rfl (by kernel_rfl) Try.func3 (by kernel_rfl)
    (of_decide_eq_true (by kernel_rfl)) (by unfold Func.isWrapper; first | (rw [if_pos (by decide +kernel)]; kernel_rfl) | (rw [if_neg (by decide +kernel)]; exact ⟨rfl, rfl⟩))
    (fun os started H enc _ F => decode_lifted os started H enc F)

#print axioms decode_holds
end Go.Proofs.Ytpblgfgcoamgmaa
