/-
  Small data of a law: bytes, and numbers of 8 and 16 bits.
-/
import Derived.Test.YtpblgfgcoamgmaaJ2
set_option linter.unusedVariables false
set_option linter.unusedSimpArgs false
set_option maxRecDepth 100000
namespace Go.Proofs.YtpblgfgcoamgmaaS
open Go Go.Proofs.YtpblgfgcoamgmaaV

theorem bs_bulk : ∀ l : List Nat, bulkL (bs l) = l.length
  | [] => rfl
  | a :: l => by
    have := bs_bulk l
    simp only [bs, List.map_cons, bulkL, D.bulk, List.length_cons] at this ⊢
    omega
theorem bytesO {d : D} (h : HasD Try.prog 22 d) : ∃ l, d = .sl .none (bs l) ∧ Byt l ∧ l.length ≤ d.bulk := by
  obtain ⟨n, ys, h, rfl⟩ := h
  obtain ⟨l, rfl, hb⟩ := h.slice (f := fun i : Nat => [.int .u8 i]) (Q := fun i => i < 256) Try.underlying22 fun m x _ hx => hx.u8 Try.underlying5
  have e : (l.map fun (i : Nat) => pk Try.prog 5 [.int .u8 (i : Int)]) = bs l := List.map_congr_left fun i _ => pk_int Try.underlying5 _
  rw [e, pk_slice Try.underlying22]
  refine ⟨l, rfl, hb, ?_⟩
  simp only [D.bulk, bs_bulk]; omega
theorem u8O {d : D} (h : HasD Try.prog 5 d) : ∃ n : Nat, d = .int .u8 n ∧ n < 256 := by
  obtain ⟨m, ys, h, rfl⟩ := h
  obtain ⟨i, rfl, hx⟩ := h.u8 Try.underlying5
  rw [pk_int Try.underlying5]
  exact ⟨i, rfl, hx⟩
end Go.Proofs.YtpblgfgcoamgmaaS
