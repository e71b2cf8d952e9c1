/-
  For every input of bulk at most 1048576, SummaryDecidesRows returns true, and its arguments read behind the call as they read before; the package variable summary.null holds what the program's text lays (the card's tie).
  Conditions: the bulk of the arguments is at most 1048576 (the row's own); summary.null as the text lays it (the card's).
-/
import Derived.Test.YtnoenipdooackaaGreatDoorJ2
import Derived.Test.YtnoenipdooackaaGreatDoorDZ
set_option linter.unusedVariables false
set_option linter.unusedSimpArgs false
namespace Go.Proofs.YtnoenipdooackaaGreatDoorS
open Go Go.Proofs.YtnoenipdooackaaGreatDoorV Go.Proofs.YtnoenipdooackaaGreatDoor

theorem rows_contract (das : List D) (h : HasDs Tryz.prog Tryz.f3.params.toList das) (hb : bulkL das ≤ 1048576) : VC Tryz.prog GN 3 das Heap.nil [] fun o _ _ => o = .ret (.bool true) := by
  obtain ⟨d1, r1, h1, q1, rfl⟩ := hasDs_cons h
  obtain ⟨d2, r2, h2, q2, rfl⟩ := hasDs_cons q1
  cases hasDs_nil q2
  simp only [bulkL] at hb
  obtain ⟨t, rfl, ht⟩ := tbD h1
  obtain ⟨p, rfl, pi, hp⟩ := prD h2 (by omega)
  exact VC.mono (rows_ok GN0 t p ht hp pi) fun o β ω h => h.1

set_option maxRecDepth 100000 in
theorem rows_row {H : Type} (enc : TypeId × Value → H) (W : World) (base : Nat) (args : Array Value) (ds gs : List (DataW H)) (before : List MemPlace)
    (hval : ∀ (j : Nat) t v, Tryz.f3.params[j]? = some t → args[j]? = some v → Value.okWide Tryz.prog W .any base t v)
    (hW : DataW.Whole enc Tryz.prog Tryz.f3.params.toList Rows.summaryDecidesRowsSpec.vars false W args.toList ds gs before) (hk : Rows.uptoSmall H (ds ++ gs) = true) (hL : laidMetH Tryz.prog Rows.summaryDecidesRowsUptoRow.laid W) :
    Calls Tryz.prog 3 args W fun e W' => ∃ v, e = .returned v ∧ Rows.summaryDecidesRowsSpec.post enc Tryz.prog Tryz.f3 false true false false W args v W' :=
  law_rowG (G := GN) (T := T) (tb := 4) (B := 1048576) T_ok laid (by kernel_rfl) Tryz.func3 rfl rfl rfl rfl Tryz.underlying4 (fun ds hl => by
    match ds, hl with
    | [d1, d2], _ => exact ⟨rfl, rfl, rfl⟩) (by decide) rows_contract W (null_cells hL) base args ds gs before hval hW (small_of hk)
end Go.Proofs.YtnoenipdooackaaGreatDoorS
namespace Go.Proofs.YtnoenipdooackaaGreatDoor
open Go Go.Proofs.YtnoenipdooackaaGreatDoorV Go.Proofs.YtnoenipdooackaaGreatDoorS Go.ChangeShapes Go.WideShapes Go.ChangeAt Go.RowKit

noncomputable def rows_world (os : Os) : World :=
  { World.holding Tryz.prog os ⟨#[], #[], []⟩ with heap := (World.holding Tryz.prog os ⟨#[], #[], []⟩).heap.modify 0 fun
      | .cells _ t frozen => .cells #[.bool true, .int .i64 0, .string .empty] t frozen
      | o => o }
theorem rows_met (os : Os) : laidMet Tryz.prog Rows.summaryDecidesRowsUptoRow.laid ((rows_world os).forCall (fun _ _ => 0) ⟨#[], #[.agg #[.slice none 0 0, .slice none 0 0], .agg #[.int .i64 0, .int .i64 0, .int .i64 0, .int .i64 0, .slice none 0 0, .string .empty, .slice none 0 0]], []⟩).memory :=
  laidMet_of_run' 8 (by kernel_rfl) (by kernel_rfl)
theorem rows_reads (os : Os) {H : Type} (enc : TypeId × Value → H) : ∃ places, DataW.whole enc Tryz.prog ((rows_world os).forCall (fun _ _ => 0) ⟨#[], #[.agg #[.slice none 0 0, .slice none 0 0], .agg #[.int .i64 0, .int .i64 0, .int .i64 0, .int .i64 0, .slice none 0 0, .string .empty, .slice none 0 0]], []⟩).memory Tryz.f3.params.toList Rows.summaryDecidesRowsSpec.vars false #[.agg #[.slice none 0 0, .slice none 0 0], .agg #[.int .i64 0, .int .i64 0, .int .i64 0, .int .i64 0, .slice none 0 0, .string .empty, .slice none 0 0]].toList 8 = some ([.agg [.nil, .nil], .agg [.lit (.int .i64 0), .lit (.int .i64 0), .lit (.int .i64 0), .lit (.int .i64 0), .nil, .lit (.string []), .nil]], [], places) :=
  ⟨[], by kernel_rfl⟩

set_option maxRecDepth 100000 in
theorem rows_lifted (os : Os) (started : os.Started) (H : Type) (enc : TypeId × Value → H) (F : Stop.Interp) :
    ReturnsInHanded {} Tryz.checked os 3 .any ((Rows.OpenSpec.upto Rows.summaryDecidesRowsSpec).preRow enc Tryz.prog Tryz.f3 Rows.summaryDecidesRowsUptoRow.domain false Rows.summaryDecidesRowsUptoRow.laid) (((Rows.OpenSpec.upto Rows.summaryDecidesRowsSpec).at F).post enc Tryz.prog Tryz.f3 false true false false) := by
  obtain ⟨places, hx⟩ := rows_reads os enc
  refine returnsInHanded_of_row (C := Tryz.checked) (s := Rows.OpenSpec.upto Rows.summaryDecidesRowsSpec) own started (by kernel_rfl) Tryz.func3
    (witness_row_at (enc := enc) (C := Tryz.checked) false (rows_world os) #[.agg #[.slice none 0 0, .slice none 0 0], .agg #[.int .i64 0, .int .i64 0, .int .i64 0, .int .i64 0, .slice none 0 0, .string .empty, .slice none 0 0]] rfl (by kernel_rfl) (by kernel_rfl) (by kernel_rfl)
      (OpenSpec.preRow_of_cond 8 hx (by kernel_rfl) (fun k hk => by cases hk; kernel_rfl) (by kernel_rfl) (rows_met os))) ?_
  intro W base args ds gs before hval hW _ hcond _ hL _ _
  exact rows_row enc W base args ds gs before hval hW (hcond _ rfl) hL

theorem rows_said : Rows.SummaryDecidesRowsUptoSaid :=
  OpenClaim.holds_of_cond 3 Tryz.f3 rfl rfl rfl rfl rfl rfl rfl ⟨rfl, rfl, rfl, rfl, rfl⟩ rfl rfl rfl rfl rfl (by kernel_rfl) Tryz.func3 (by kernel_rfl)
    (of_decide_eq_true (by kernel_rfl)) (by unfold Func.isWrapper; first | (rw [if_pos (by decide +kernel)]; kernel_rfl) | (rw [if_neg (by decide +kernel)]; exact ⟨rfl, rfl⟩))
    (fun os started H enc _ F => by rw [OpenClaim.pre_eq_preRow]; exact rows_lifted os started H enc F)
theorem rows_plain (f : FuncId) (fn : Func) (hf : Tryz.pinned.checked.prog.funcNamed "fenland/fenlandlaw14.SummaryDecidesRows" = some f) (hfn : Tryz.pinned.checked.prog.funcs[f]? = some fn) :
    false = Tryz.pinned.checked.prog.looks [] ∧ ∀ (j : Nat) t, fn.params[j]? = some t → Tryz.pinned.checked.prog.wantsStandIn t = false := by
  obtain rfl : f = 3 := Option.some.inj ((show Tryz.prog.funcNamed "fenland/fenlandlaw14.SummaryDecidesRows" = some 3 by kernel_rfl).symm.trans hf) |>.symm
  obtain rfl : fn = Tryz.f3 := (Option.some.inj (Tryz.func3.symm.trans hfn)).symm
  refine ⟨by kernel_rfl, fun j t ht => ?_⟩
  have hw : Tryz.f3.params.toList.all (fun t => !Tryz.prog.wantsStandIn t) = true := by kernel_rfl
  have hm : t ∈ Tryz.f3.params.toList := Array.mem_toList_iff.2 (Array.mem_of_getElem? ht)
  have := List.all_eq_true.1 hw t hm
  have h2 : Tryz.prog.wantsStandIn t = false := by simpa using this
  exact h2
theorem rows_holds : Rows.SummaryDecidesRowsUptoCardSaid :=
  Claim7.holds_tied_plain_at .later [] _ _ _ _ rows_said (fun _ h => by cases h) (by kernel_rfl) (fun _ h => by cases h) summaryDecidesRowsUpto_row_tie rfl ⟨rfl, rfl⟩ (by kernel_rfl) rfl rows_plain (by kernel_rfl)

#print axioms rows_holds
end Go.Proofs.YtnoenipdooackaaGreatDoor
