/-
  For every input of bulk at most 1048576, WirePrefix returns true, and its arguments read behind the call as they read before.
  Conditions: the bulk of the arguments is at most 1048576 (the row's own).
-/
import Derived.Test.YtdemkhcloholiaaJ1
import Derived.Test.YtdemkhcloholiaaA18
set_option linter.unusedVariables false
set_option linter.unusedSimpArgs false
namespace Go.Proofs.YtdemkhcloholiaaS
open Go Go.Proofs.YtdemkhcloholiaaV Go.Proofs.Ytdemkhcloholiaa

theorem begin_contract (das : List D) (h : HasDs Try.prog Try.f8.params.toList das) (hb : bulkL das ≤ 1048576) : VC Try.prog Heap.nil 8 das Heap.nil [] fun o _ _ => o = .ret (.bool true) := by
  obtain ⟨d1, r1, h1, q1, rfl⟩ := hasDs_cons h
  obtain ⟨d2, r2, h2, q2, rfl⟩ := hasDs_cons q1
  cases hasDs_nil q2
  simp only [bulkL] at hb
  obtain ⟨k1, i1, s1, l1, rfl, c1, c2, c3, c4, c5⟩ := valD h1
  obtain ⟨a2, rfl, ab2⟩ := intD h2
  exact (prefix_ok ⟨k1, i1, s1, l1⟩ a2 ⟨c1, c2, by simp only; omega, by simp only; omega, c3⟩ ab2).mono fun o β ω h => h.1

theorem begin_row {H : Type} (enc : TypeId × Value → H) (W : World) (base : Nat) (args : Array Value) (ds gs : List (DataW H)) (before : List MemPlace)
    (hval : ∀ (j : Nat) t v, Try.f8.params[j]? = some t → args[j]? = some v → Value.okWide Try.prog W .any base t v)
    (hW : DataW.Whole enc Try.prog Try.f8.params.toList Rows.wirePrefixSpec.vars false W args.toList ds gs before) (hk : Rows.uptoSmall H (ds ++ gs) = true) :
    Calls Try.prog 8 args W fun e W' => ∃ v, e = .returned v ∧ Rows.wirePrefixSpec.post enc Try.prog Try.f8 false true false false W args v W' :=
  law_row (T := T) (tb := 4) (B := 1048576) T_ok laid (by kernel_rfl) Try.func8 rfl rfl rfl rfl Try.underlying4 (fun ds hl => by
    match ds, hl with
    | [d1, d2], _ => exact ⟨rfl, rfl, rfl⟩) (by decide) begin_contract W base args ds gs before hval hW (small_of hk)
end Go.Proofs.YtdemkhcloholiaaS
namespace Go.Proofs.Ytdemkhcloholiaa
open Go Go.Proofs.YtdemkhcloholiaaV Go.Proofs.YtdemkhcloholiaaS

set_option maxRecDepth 100000 in
theorem begin_lifted (os : Os) (started : os.Started) (H : Type) (enc : TypeId × Value → H) (F : Stop.Interp) :
    ReturnsInHanded {} Try.checked os 8 .any ((Rows.OpenSpec.upto Rows.wirePrefixSpec).pre6 enc Try.prog Try.f8 Rows.wirePrefixUptoRow.domain false) (((Rows.OpenSpec.upto Rows.wirePrefixSpec).at F).post enc Try.prog Try.f8 false true false false) := by
  refine returnsInHanded_of_cond (C := Try.checked) (s := Rows.OpenSpec.upto Rows.wirePrefixSpec) (k := Rows.uptoSmall) rfl own started (by kernel_rfl) Try.func8
    (OpenSpec.witness (enc := enc) (C := Try.checked) (s := Rows.OpenSpec.upto Rows.wirePrefixSpec) (k := Rows.uptoSmall) rfl false ⟨#[], #[.agg #[.int .u64 0, .int .i64 0, .string .empty, .slice none 0 0], .int .i64 0], []⟩ 8 (by kernel_rfl) (by kernel_rfl) (by kernel_rfl)
      (x := ([.agg [.lit (.int .u64 0), .lit (.int .i64 0), .lit (.string []), .nil], .lit (.int .i64 0)], [], [])) (by kernel_rfl) rfl (by kernel_rfl)) ?_
  intro W base args ds gs before hval hW _ hk _
  exact begin_row enc W base args ds gs before hval hW hk

theorem begin_holds : Rows.WirePrefixUptoSaid :=
  OpenClaim.holds_of_cond 8 Try.f8 rfl rfl rfl rfl rfl rfl rfl ⟨rfl, rfl, rfl, rfl, rfl⟩ rfl rfl rfl rfl rfl (by kernel_rfl) Try.func8 (by kernel_rfl)
    (of_decide_eq_true (by kernel_rfl)) (by unfold Func.isWrapper; first | (rw [if_pos (by decide +kernel)]; kernel_rfl) | (rw [if_neg (by decide +kernel)]; exact ⟨rfl, rfl⟩))
    (fun os started H enc _ F => begin_lifted os started H enc F)

#print axioms begin_holds
end Go.Proofs.Ytdemkhcloholiaa
