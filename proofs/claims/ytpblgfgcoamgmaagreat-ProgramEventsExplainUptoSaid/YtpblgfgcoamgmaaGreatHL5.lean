/-
  For every input of bulk at most 1048576, ProgramEventsExplain returns true, and its arguments read behind the call as they read before.
  Conditions: the bulk of the arguments is at most 1048576 (the row's own).
-/
import Derived.Test.YtpblgfgcoamgmaaGreatHJ0
import Derived.Test.YtpblgfgcoamgmaaGreatHK5
set_option linter.unusedVariables false
set_option linter.unusedSimpArgs false
namespace Go.Proofs.YtpblgfgcoamgmaaGreatS
open Go Go.Proofs.YtpblgfgcoamgmaaGreatV Go.Proofs.YtpblgfgcoamgmaaGreat

theorem events_contract (das : List D) (h : HasDs Tryz.prog Tryz.f7.params.toList das) (hb : bulkL das ≤ 1048576) : VC Tryz.prog Heap.nil 7 das Heap.nil [] fun o _ _ => o = .ret (.bool true) := by
  obtain ⟨d1, r1, h1, q1, rfl⟩ := hasDs_cons h
  cases hasDs_nil q1
  simp only [bulkL] at hb
  obtain ⟨c1, rfl, k1⟩ := csO h1 (by omega)
  have h0 := events27_ok (G := Heap.nil) c1 k1
  unfold VN at h0
  exact h0.mono fun o β ω h => h.1

set_option maxRecDepth 100000 in
theorem events_row {H : Type} (enc : TypeId × Value → H) (W : World) (base : Nat) (args : Array Value) (ds gs : List (DataW H)) (before : List MemPlace)
    (hval : ∀ (j : Nat) t v, Tryz.f7.params[j]? = some t → args[j]? = some v → Value.okWide Tryz.prog W .any base t v)
    (hW : DataW.Whole enc Tryz.prog Tryz.f7.params.toList Rows.programEventsExplainSpec.vars false W args.toList ds gs before) (hk : Rows.uptoSmall H (ds ++ gs) = true) :
    Calls Tryz.prog 7 args W fun e W' => ∃ v, e = .returned v ∧ Rows.programEventsExplainSpec.post enc Tryz.prog Tryz.f7 false true false false W args v W' :=
  law_row (T := T) (tb := 4) (B := 1048576) T_ok laid (by kernel_rfl) Tryz.func7 rfl rfl rfl rfl Tryz.underlying4 (fun ds hl => by
    match ds, hl with
    | [d1], _ => exact ⟨rfl, rfl, rfl⟩) (by decide) events_contract W base args ds gs before hval hW (small_of hk)
end Go.Proofs.YtpblgfgcoamgmaaGreatS
namespace Go.Proofs.YtpblgfgcoamgmaaGreat
open Go Go.Proofs.YtpblgfgcoamgmaaGreatV Go.Proofs.YtpblgfgcoamgmaaGreatS

set_option maxRecDepth 100000 in
theorem events_lifted (os : Os) (started : os.Started) (H : Type) (enc : TypeId × Value → H) (F : Stop.Interp) :
    ReturnsInHanded {} Tryz.checked os 7 .any ((Rows.OpenSpec.upto Rows.programEventsExplainSpec).pre6 enc Tryz.prog Tryz.f7 Rows.programEventsExplainUptoRow.domain false) (((Rows.OpenSpec.upto Rows.programEventsExplainSpec).at F).post enc Tryz.prog Tryz.f7 false true false false) := by
  refine returnsInHanded_of_cond (C := Tryz.checked) (s := Rows.OpenSpec.upto Rows.programEventsExplainSpec) (k := Rows.uptoSmall) rfl own started (by kernel_rfl) Tryz.func7
    (OpenSpec.witness (enc := enc) (C := Tryz.checked) (s := Rows.OpenSpec.upto Rows.programEventsExplainSpec) (k := Rows.uptoSmall) rfl false ⟨#[], #[.agg #[.slice none 0 0, .slice none 0 0, .slice none 0 0]], []⟩ 8 (by kernel_rfl) (by kernel_rfl) (by kernel_rfl)
      (x := ([.agg [.nil, .nil, .nil]], [], [])) (by kernel_rfl) rfl (by kernel_rfl)) ?_
  intro W base args ds gs before hval hW _ hk _
  exact events_row enc W base args ds gs before hval hW hk

theorem events_holds : Rows.ProgramEventsExplainUptoSaid :=
  OpenClaim.holds_of_cond 7 Tryz.f7 rfl rfl rfl rfl rfl rfl rfl ⟨rfl, rfl, rfl, rfl, rfl⟩ rfl rfl rfl rfl rfl (by kernel_rfl) Tryz.func7 (by kernel_rfl)
    (of_decide_eq_true (by kernel_rfl)) (by unfold Func.isWrapper; first | (rw [if_pos (by decide +kernel)]; kernel_rfl) | (rw [if_neg (by decide +kernel)]; exact ⟨rfl, rfl⟩))
    (fun os started H enc _ F => events_lifted os started H enc F)

#print axioms events_holds
end Go.Proofs.YtpblgfgcoamgmaaGreat
