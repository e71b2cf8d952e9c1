/-
  For every input of bulk at most 1048576, ProgramReplays returns true, and its arguments read behind the call as they read before.
  Conditions: the bulk of the arguments is at most 1048576 (the row's own).
-/
import Derived.Test.YtpblgfgcoamgmaaGreatHJ0
import Derived.Test.YtpblgfgcoamgmaaGreatHK4
set_option linter.unusedVariables false
set_option linter.unusedSimpArgs false
namespace Go.Proofs.YtpblgfgcoamgmaaGreatS
open Go Go.Proofs.YtpblgfgcoamgmaaGreatV Go.Proofs.YtpblgfgcoamgmaaGreat

theorem replays_contract (das : List D) (h : HasDs Tryz.prog Tryz.f6.params.toList das) (hb : bulkL das ≤ 1048576) : VC Tryz.prog Heap.nil 6 das Heap.nil [] fun o _ _ => o = .ret (.bool true) := by
  obtain ⟨d1, r1, h1, q1, rfl⟩ := hasDs_cons h
  obtain ⟨d2, r2, h2, q2, rfl⟩ := hasDs_cons q1
  cases hasDs_nil q2
  simp only [bulkL] at hb
  obtain ⟨c1, rfl, k1⟩ := csO h1 (by omega)
  obtain ⟨n, rfl, hn⟩ := u8O h2
  have h0 := replays27_ok (G := Heap.nil) c1 k1 n hn
  unfold VN at h0
  exact h0.mono fun o β ω h => h.1

set_option maxRecDepth 100000 in
theorem replays_row {H : Type} (enc : TypeId × Value → H) (W : World) (base : Nat) (args : Array Value) (ds gs : List (DataW H)) (before : List MemPlace)
    (hval : ∀ (j : Nat) t v, Tryz.f6.params[j]? = some t → args[j]? = some v → Value.okWide Tryz.prog W .any base t v)
    (hW : DataW.Whole enc Tryz.prog Tryz.f6.params.toList Rows.programReplaysSpec.vars false W args.toList ds gs before) (hk : Rows.uptoSmall H (ds ++ gs) = true) :
    Calls Tryz.prog 6 args W fun e W' => ∃ v, e = .returned v ∧ Rows.programReplaysSpec.post enc Tryz.prog Tryz.f6 false true false false W args v W' :=
  law_row (T := T) (tb := 4) (B := 1048576) T_ok laid (by kernel_rfl) Tryz.func6 rfl rfl rfl rfl Tryz.underlying4 (fun ds hl => by
    match ds, hl with
    | [d1, d2], _ => exact ⟨rfl, rfl, rfl⟩) (by decide) replays_contract W base args ds gs before hval hW (small_of hk)
end Go.Proofs.YtpblgfgcoamgmaaGreatS
namespace Go.Proofs.YtpblgfgcoamgmaaGreat
open Go Go.Proofs.YtpblgfgcoamgmaaGreatV Go.Proofs.YtpblgfgcoamgmaaGreatS

set_option maxRecDepth 100000 in
theorem replays_lifted (os : Os) (started : os.Started) (H : Type) (enc : TypeId × Value → H) (F : Stop.Interp) :
    ReturnsInHanded {} Tryz.checked os 6 .any ((Rows.OpenSpec.upto Rows.programReplaysSpec).pre6 enc Tryz.prog Tryz.f6 Rows.programReplaysUptoRow.domain false) (((Rows.OpenSpec.upto Rows.programReplaysSpec).at F).post enc Tryz.prog Tryz.f6 false true false false) := by
  refine returnsInHanded_of_cond (C := Tryz.checked) (s := Rows.OpenSpec.upto Rows.programReplaysSpec) (k := Rows.uptoSmall) rfl own started (by kernel_rfl) Tryz.func6
    (OpenSpec.witness (enc := enc) (C := Tryz.checked) (s := Rows.OpenSpec.upto Rows.programReplaysSpec) (k := Rows.uptoSmall) rfl false ⟨#[], #[.agg #[.slice none 0 0, .slice none 0 0, .slice none 0 0], .int .u8 0], []⟩ 8 (by kernel_rfl) (by kernel_rfl) (by kernel_rfl)
      (x := ([.agg [.nil, .nil, .nil], .lit (.int .u8 0)], [], [])) (by kernel_rfl) rfl (by kernel_rfl)) ?_
  intro W base args ds gs before hval hW _ hk _
  exact replays_row enc W base args ds gs before hval hW hk

theorem replays_holds : Rows.ProgramReplaysUptoSaid :=
  OpenClaim.holds_of_cond 6 Tryz.f6 rfl rfl rfl rfl rfl rfl rfl ⟨rfl, rfl, rfl, rfl, rfl⟩ rfl rfl rfl rfl rfl (by kernel_rfl) Tryz.func6 (by kernel_rfl)
    (of_decide_eq_true (by kernel_rfl)) (by unfold Func.isWrapper; first | (rw [if_pos (by decide +kernel)]; kernel_rfl) | (rw [if_neg (by decide +kernel)]; exact ⟨rfl, rfl⟩))
    (fun os started H enc _ F => replays_lifted os started H enc F)

#print axioms replays_holds
end Go.Proofs.YtpblgfgcoamgmaaGreat
