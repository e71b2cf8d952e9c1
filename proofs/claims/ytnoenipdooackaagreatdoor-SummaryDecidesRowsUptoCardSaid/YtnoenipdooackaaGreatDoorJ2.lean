
import Derived.Test.YtnoenipdooackaaGreatDoorJ1
import Derived.Test.YtnoenipdooackaaGreatDoorMB
set_option linter.unusedVariables false
set_option linter.unusedSimpArgs false
namespace Go.Proofs.YtnoenipdooackaaGreatDoorS
open Go Go.Proofs.YtnoenipdooackaaGreatDoorV Go.Proofs.YtnoenipdooackaaGreatDoor

theorem chC {n : Nat} {ys : List D} (h : HasC Tryz.prog n 101 ys) : ∃ c : Ch, ys = c.cells ∧ True := by
  obtain ⟨m, rfl, hf⟩ := h.struct Tryz.underlying101
  obtain ⟨z1, r1, h1, ⟨z2, r2, h2, ⟨z3, r3, h3, ⟨z4, r4, h4, ⟨z5, r5, h5, ⟨z6, r6, h6, ⟨z7, r7, h7, ⟨z8, r8, h8, hr, rfl⟩, rfl⟩, rfl⟩, rfl⟩, rfl⟩, rfl⟩, rfl⟩, rfl⟩ := hf
  cases hr
  obtain ⟨a1, rfl, _⟩ := h1.i64 Tryz.underlying3
  obtain ⟨a2, rfl, _⟩ := h2.i64 Tryz.underlying3
  obtain ⟨a3, rfl, _⟩ := h3.i64 Tryz.underlying3
  obtain ⟨a4, rfl⟩ := h4.str Tryz.underlying9
  obtain ⟨a5, rfl⟩ := h5.str Tryz.underlying9
  obtain ⟨a6, rfl, _⟩ := h6.i64 Tryz.underlying3
  obtain ⟨a7, rfl, _⟩ := h7.i64 Tryz.underlying3
  obtain ⟨a8, rfl⟩ := h8.str Tryz.underlying9
  exact ⟨⟨a1, a2, a3, a4, a5, a6, a7, a8⟩, rfl, trivial⟩
theorem vsC {n : Nat} {ys : List D} (h : HasC Tryz.prog n 26 ys) : ∃ l : List Vl, ys = [vsD l] ∧ ∀ v ∈ l, I64 v.n := by
  obtain ⟨l, rfl, hl⟩ := h.slice (f := Vl.cells) (Q := fun v => I64 v.n) Tryz.underlying26 fun m x _ hx => vlC hx
  have e : (l.map fun a => pk Tryz.prog 60 a.cells) = l.map Vl.d := List.map_congr_left fun a _ => pk_agg Tryz.underlying60 _
  rw [e]
  exact ⟨l, rfl, hl⟩
theorem vssC {n : Nat} {ys : List D} (h : HasC Tryz.prog n 23 ys) : ∃ l : List (List Vl), ys = [.sl .none (l.map vsD)] ∧ ∀ x ∈ l, ∀ v ∈ x, I64 v.n := by
  obtain ⟨l, rfl, hl⟩ := h.slice (f := fun x => [vsD x]) (Q := fun x => ∀ v ∈ x, I64 v.n) Tryz.underlying23 fun m x _ hx => vsC hx
  have e : (l.map fun a => pk Tryz.prog 26 [vsD a]) = l.map vsD := List.map_congr_left fun a _ => pk_slice Tryz.underlying26 _
  rw [e]
  exact ⟨l, rfl, hl⟩
set_option maxRecDepth 100000 in
theorem tbD {d : D} (h : HasD Tryz.prog 25 d) : ∃ t : Tb, d = .agg t.cells ∧ ∀ l ∈ t.v, ∀ v ∈ l, I64 v.n := by
  obtain ⟨n, ys, h, rfl⟩ := h
  rw [pk_agg Tryz.underlying25]
  obtain ⟨m, rfl, hf⟩ := h.struct Tryz.underlying25
  obtain ⟨z1, r1, h1, ⟨z2, r2, h2, hr, rfl⟩, rfl⟩ := hf
  cases hr
  obtain ⟨l, rfl, _⟩ := h1.slice (f := Ch.cells) (Q := fun _ => True) Tryz.underlying22 fun m x _ hx => chC hx
  have e : (l.map fun a => pk Tryz.prog 101 a.cells) = l.map Ch.d := List.map_congr_left fun a _ => pk_agg Tryz.underlying101 _
  rw [e]
  obtain ⟨k, rfl, hk⟩ := vssC h2
  exact ⟨⟨l, k⟩, rfl, hk⟩
end Go.Proofs.YtnoenipdooackaaGreatDoorS
