/-
  For every input of bulk at most 1048576, SummaryMerges returns true, and its arguments read behind the call as they read before; the package variable summary.null holds what the program's text lays (the card's tie).
  Conditions: the bulk of the arguments is at most 1048576 (the row's own); summary.null as the text lays it (the card's).
-/
import Derived.Test.YtnoenipdooackaaDoorJ2
import Derived.Test.YtnoenipdooackaaDoorD6
set_option linter.unusedVariables false
set_option linter.unusedSimpArgs false
namespace Go.Proofs.YtnoenipdooackaaDoorS
open Go Go.Proofs.YtnoenipdooackaaDoorV Go.Proofs.YtnoenipdooackaaDoor

theorem merges_contract (das : List D) (h : HasDs Tryd.prog Tryd.f7.params.toList das) (hb : bulkL das ≤ 1048576) : VC Tryd.prog GN 7 das Heap.nil [] fun o _ _ => o = .ret (.bool true) := by
  obtain ⟨d1, r1, h1, q1, rfl⟩ := hasDs_cons h
  obtain ⟨d2, r2, h2, q2, rfl⟩ := hasDs_cons q1
  cases hasDs_nil q2
  simp only [bulkL] at hb
  obtain ⟨t, rfl, ht⟩ := tbD h1
  obtain ⟨v, w, rfl, hv, hw⟩ := vs2D h2
  exact VC.mono (merges_ok GN0 t v w ht hv hw) fun o β ω h => h.1

set_option maxRecDepth 100000 in
theorem merges_row {H : Type} (enc : TypeId × Value → H) (W : World) (base : Nat) (args : Array Value) (ds gs : List (DataW H)) (before : List MemPlace)
    (hval : ∀ (j : Nat) t v, Tryd.f7.params[j]? = some t → args[j]? = some v → Value.okWide Tryd.prog W .any base t v)
    (hW : DataW.Whole enc Tryd.prog Tryd.f7.params.toList Rows.summaryMergesSpec.vars false W args.toList ds gs before) (hk : Rows.uptoSmall H (ds ++ gs) = true) (hL : laidMetH Tryd.prog Rows.summaryMergesUptoRow.laid W) :
    Calls Tryd.prog 7 args W fun e W' => ∃ v, e = .returned v ∧ Rows.summaryMergesSpec.post enc Tryd.prog Tryd.f7 false true false false W args v W' :=
  law_rowG (G := GN) (T := T2) (tb := 4) (B := 1048576) T2_ok laid (by kernel_rfl) Tryd.func7 rfl rfl rfl rfl Tryd.underlying4 (fun ds hl => by
    match ds, hl with
    | [d1, d2], _ => exact ⟨rfl, rfl, rfl⟩) (by decide) merges_contract W (null_cells hL) base args ds gs before hval hW (small_of hk)
end Go.Proofs.YtnoenipdooackaaDoorS
namespace Go.Proofs.YtnoenipdooackaaDoor
open Go Go.Proofs.YtnoenipdooackaaDoorV Go.Proofs.YtnoenipdooackaaDoorS Go.ChangeShapes Go.WideShapes Go.ChangeAt Go.RowKit

noncomputable def merges_world (os : Os) : World :=
  { World.holding Tryd.prog os ⟨#[], #[], []⟩ with heap := (World.holding Tryd.prog os ⟨#[], #[], []⟩).heap.modify 0 fun
      | .cells _ t frozen => .cells #[.bool true, .int .i64 0, .string .empty] t frozen
      | o => o }
theorem merges_met (os : Os) : laidMet Tryd.prog Rows.summaryMergesUptoRow.laid ((merges_world os).forCall (fun _ _ => 0) ⟨#[], #[.agg #[.slice none 0 0, .slice none 0 0], .agg #[.slice none 0 0, .slice none 0 0]], []⟩).memory :=
  laidMet_of_run' 8 (by kernel_rfl) (by kernel_rfl)
theorem merges_reads (os : Os) {H : Type} (enc : TypeId × Value → H) : ∃ places, DataW.whole enc Tryd.prog ((merges_world os).forCall (fun _ _ => 0) ⟨#[], #[.agg #[.slice none 0 0, .slice none 0 0], .agg #[.slice none 0 0, .slice none 0 0]], []⟩).memory Tryd.f7.params.toList Rows.summaryMergesSpec.vars false #[.agg #[.slice none 0 0, .slice none 0 0], .agg #[.slice none 0 0, .slice none 0 0]].toList 8 = some ([.agg [.nil, .nil], .agg [.nil, .nil]], [], places) :=
  ⟨[], by kernel_rfl⟩

set_option maxRecDepth 100000 in
theorem merges_lifted (os : Os) (started : os.Started) (H : Type) (enc : TypeId × Value → H) (F : Stop.Interp) :
    ReturnsInHanded {} Tryd.checked os 7 .any ((Rows.OpenSpec.upto Rows.summaryMergesSpec).preRow enc Tryd.prog Tryd.f7 Rows.summaryMergesUptoRow.domain false Rows.summaryMergesUptoRow.laid) (((Rows.OpenSpec.upto Rows.summaryMergesSpec).at F).post enc Tryd.prog Tryd.f7 false true false false) := by
  obtain ⟨places, hx⟩ := merges_reads os enc
  refine returnsInHanded_of_row (C := Tryd.checked) (s := Rows.OpenSpec.upto Rows.summaryMergesSpec) own started (by kernel_rfl) Tryd.func7
    (witness_row_at (enc := enc) (C := Tryd.checked) false (merges_world os) #[.agg #[.slice none 0 0, .slice none 0 0], .agg #[.slice none 0 0, .slice none 0 0]] rfl (by kernel_rfl) (by kernel_rfl) (by kernel_rfl)
      (OpenSpec.preRow_of_cond 8 hx (by kernel_rfl) (fun k hk => by cases hk; kernel_rfl) (by kernel_rfl) (merges_met os))) ?_
  intro W base args ds gs before hval hW _ hcond _ hL _ _
  exact merges_row enc W base args ds gs before hval hW (hcond _ rfl) hL

theorem merges_said : Rows.SummaryMergesUptoSaid :=
  OpenClaim.holds_of_cond 7 Tryd.f7 rfl rfl rfl rfl rfl rfl rfl ⟨rfl, rfl, rfl, rfl, rfl⟩ rfl rfl rfl rfl rfl (by kernel_rfl) Tryd.func7 (by kernel_rfl)
    (of_decide_eq_true (by kernel_rfl)) (by unfold Func.isWrapper; first | (rw [if_pos (by decide +kernel)]; kernel_rfl) | (rw [if_neg (by decide +kernel)]; exact ⟨rfl, rfl⟩))
    (fun os started H enc _ F => by rw [OpenClaim.pre_eq_preRow]; exact merges_lifted os started H enc F)
theorem merges_plain (f : FuncId) (fn : Func) (hf : Tryd.pinned.checked.prog.funcNamed "fenland/fenlandlaw14.SummaryMerges" = some f) (hfn : Tryd.pinned.checked.prog.funcs[f]? = some fn) :
    false = Tryd.pinned.checked.prog.looks [] ∧ ∀ (j : Nat) t, fn.params[j]? = some t → Tryd.pinned.checked.prog.wantsStandIn t = false := by
  obtain rfl : f = 7 := Option.some.inj ((show Tryd.prog.funcNamed "fenland/fenlandlaw14.SummaryMerges" = some 7 by kernel_rfl).symm.trans hf) |>.symm
  obtain rfl : fn = Tryd.f7 := (Option.some.inj (Tryd.func7.symm.trans hfn)).symm
  refine ⟨by kernel_rfl, fun j t ht => ?_⟩
  have hw : Tryd.f7.params.toList.all (fun t => !Tryd.prog.wantsStandIn t) = true := by kernel_rfl
  have hm : t ∈ Tryd.f7.params.toList := Array.mem_toList_iff.2 (Array.mem_of_getElem? ht)
  have := List.all_eq_true.1 hw t hm
  have h2 : Tryd.prog.wantsStandIn t = false := by simpa using this
  exact h2
theorem merges_holds : Rows.SummaryMergesUptoCardSaid :=
  Claim7.holds_tied_plain_at .later [] _ _ _ _ merges_said (fun _ h => by cases h) (by kernel_rfl) (fun _ h => by cases h) summaryMergesUpto_row_tie rfl ⟨rfl, rfl⟩ (by kernel_rfl) rfl merges_plain (by kernel_rfl)

#print axioms merges_holds
end Go.Proofs.YtnoenipdooackaaDoor
