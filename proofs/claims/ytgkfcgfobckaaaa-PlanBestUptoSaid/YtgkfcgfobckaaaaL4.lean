/-
  For every input of bulk at most 1048576, PlanBest returns true, and its arguments read behind the call as they read before.
  Conditions: the bulk of the arguments is at most 1048576 (the row's own).
-/
import Derived.Test.YtgkfcgfobckaaaaJ1
import Derived.Test.YtgkfcgfobckaaaaPB
set_option linter.unusedVariables false
set_option linter.unusedSimpArgs false
namespace Go.Proofs.YtgkfcgfobckaaaaS
open Go Go.Proofs.YtgkfcgfobckaaaaV Go.Proofs.Ytgkfcgfobckaaaa

theorem best_contract (das : List D) (h : HasDs Try.prog Try.f7.params.toList das) (hb : bulkL das ≤ 1048576) : VC Try.prog Heap.nil 7 das Heap.nil [] fun o _ _ => o = .ret (.bool true) := by
  obtain ⟨d1, r1, h1, q1, rfl⟩ := hasDs_cons h
  obtain ⟨d2, r2, h2, q2, rfl⟩ := hasDs_cons q1
  cases hasDs_nil q2
  simp only [bulkL] at hb
  obtain ⟨l1, rfl⟩ := ensD h1
  obtain ⟨p2, rfl, c2, n2⟩ := prsD h2 (by omega)
  have h0 := best_ok (G := Heap.nil) l1 p2 c2 n2
  unfold VN at h0
  exact h0.mono fun o β ω h => h.1

set_option maxRecDepth 100000 in
theorem best_row {H : Type} (enc : TypeId × Value → H) (W : World) (base : Nat) (args : Array Value) (ds gs : List (DataW H)) (before : List MemPlace)
    (hval : ∀ (j : Nat) t v, Try.f7.params[j]? = some t → args[j]? = some v → Value.okWide Try.prog W .any base t v)
    (hW : DataW.Whole enc Try.prog Try.f7.params.toList Rows.planBestSpec.vars false W args.toList ds gs before) (hk : Rows.uptoSmall H (ds ++ gs) = true) :
    Calls Try.prog 7 args W fun e W' => ∃ v, e = .returned v ∧ Rows.planBestSpec.post enc Try.prog Try.f7 false true false false W args v W' :=
  law_row (T := T) (tb := 4) (B := 1048576) T_ok laid (by kernel_rfl) Try.func7 rfl rfl rfl rfl Try.underlying4 (fun ds hl => by
    match ds, hl with
    | [d1, d2], _ => exact ⟨rfl, rfl, rfl⟩) (by decide) best_contract W base args ds gs before hval hW (small_of hk)
end Go.Proofs.YtgkfcgfobckaaaaS
namespace Go.Proofs.Ytgkfcgfobckaaaa
open Go Go.Proofs.YtgkfcgfobckaaaaV Go.Proofs.YtgkfcgfobckaaaaS

set_option maxRecDepth 100000 in
theorem best_lifted (os : Os) (started : os.Started) (H : Type) (enc : TypeId × Value → H) (F : Stop.Interp) :
    ReturnsInHanded {} Try.checked os 7 .any ((Rows.OpenSpec.upto Rows.planBestSpec).pre6 enc Try.prog Try.f7 Rows.planBestUptoRow.domain false) (((Rows.OpenSpec.upto Rows.planBestSpec).at F).post enc Try.prog Try.f7 false true false false) := by
  refine returnsInHanded_of_cond (C := Try.checked) (s := Rows.OpenSpec.upto Rows.planBestSpec) (k := Rows.uptoSmall) rfl own started (by kernel_rfl) Try.func7
    (OpenSpec.witness (enc := enc) (C := Try.checked) (s := Rows.OpenSpec.upto Rows.planBestSpec) (k := Rows.uptoSmall) rfl false ⟨#[], #[.slice none 0 0, .slice none 0 0], []⟩ 8 (by kernel_rfl) (by kernel_rfl) (by kernel_rfl)
      (x := ([.nil, .nil], [], [])) (by kernel_rfl) rfl (by kernel_rfl)) ?_
  intro W base args ds gs before hval hW _ hk _
  exact best_row enc W base args ds gs before hval hW hk

theorem best_holds : Rows.PlanBestUptoSaid :=
  OpenClaim.holds_of_cond 7 Try.f7 rfl rfl rfl rfl rfl rfl rfl ⟨rfl, rfl, rfl, rfl, rfl⟩ rfl rfl rfl rfl rfl (by kernel_rfl) Try.func7 (by kernel_rfl)
    (of_decide_eq_true (by kernel_rfl)) (by unfold Func.isWrapper; first | (rw [if_pos (by decide +kernel)]; kernel_rfl) | (rw [if_neg (by decide +kernel)]; exact ⟨rfl, rfl⟩))
    (fun os started H enc _ F => best_lifted os started H enc F)

#print axioms best_holds
end Go.Proofs.Ytgkfcgfobckaaaa
