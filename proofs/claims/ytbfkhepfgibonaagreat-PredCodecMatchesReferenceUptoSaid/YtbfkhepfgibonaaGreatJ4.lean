/-
  Data of a law: schemas, numbers.
-/
import Derived.Test.YtbfkhepfgibonaaGreatJ3
set_option linter.unusedVariables false
set_option linter.unusedSimpArgs false
set_option maxRecDepth 100000
namespace Go.Proofs.YtbfkhepfgibonaaGreatS
open Go Go.Proofs.YtbfkhepfgibonaaGreatV

theorem i64O {d : D} (h : HasD Tryz.prog 3 d) : ∃ n : Int, d = .int .i64 n ∧ -9223372036854775808 ≤ n ∧ n < 9223372036854775808 := by
  obtain ⟨m, ys, h, rfl⟩ := h
  obtain ⟨i, rfl, hx⟩ := h.i64 Tryz.underlying3
  rw [pk_int Tryz.underlying3]
  exact ⟨i, rfl, hx⟩
theorem fdCC {n : Nat} {ys : List D} (h : HasC Tryz.prog n 59 ys) : ∃ f : Fd, ys = [.int .i64 f.id, .str f.name, .int .i64 f.type, .int .i64 f.parent] ∧ I64 f.id := by
  obtain ⟨m, rfl, hf⟩ := h.struct Tryz.underlying59
  obtain ⟨z1, r1, h1, ⟨z2, r2, h2, ⟨z3, r3, h3, ⟨z4, r4, h4, hr, rfl⟩, rfl⟩, rfl⟩, rfl⟩ := hf
  cases hr
  obtain ⟨a, rfl, ha⟩ := h1.i64 Tryz.underlying3
  obtain ⟨b, rfl⟩ := h2.str Tryz.underlying9
  obtain ⟨c, rfl, _⟩ := h3.i64 Tryz.underlying3
  obtain ⟨e, rfl, _⟩ := h4.i64 Tryz.underlying3
  exact ⟨⟨a, b, c, e⟩, rfl, ha⟩
theorem scO {d : D} (h : HasD Tryz.prog 39 d) : ∃ (fs : List Fd) (nx : Int), d = .agg [.sl .none (fs.map fdD), .int .i64 nx] ∧ ∀ f ∈ fs, I64 f.id := by
  obtain ⟨n, ys, h, rfl⟩ := h
  rw [pk_agg Tryz.underlying39]
  obtain ⟨m, rfl, hf⟩ := h.struct Tryz.underlying39
  obtain ⟨z1, r1, h1, ⟨z2, r2, h2, hr, rfl⟩, rfl⟩ := hf
  cases hr
  obtain ⟨l, rfl, hl⟩ := h1.slice (f := fun f : Fd => [.int .i64 f.id, .str f.name, .int .i64 f.type, .int .i64 f.parent]) (Q := fun f => I64 f.id) Tryz.underlying37 fun m x _ hx => fdCC hx
  obtain ⟨b, rfl, _⟩ := h2.i64 Tryz.underlying3
  have e : (l.map fun f => pk Tryz.prog 59 [.int .i64 f.id, .str f.name, .int .i64 f.type, .int .i64 f.parent]) = l.map fdD := List.map_congr_left fun f _ => pk_agg Tryz.underlying59 _
  rw [e]
  exact ⟨l, b, rfl, hl⟩
end Go.Proofs.YtbfkhepfgibonaaGreatS
