import Derived.Test.YtnoenipdooackaaDoorJ1
import Derived.Test.YtnoenipdooackaaDoorMB
set_option linter.unusedVariables false
set_option linter.unusedSimpArgs false
namespace Go.Proofs.YtnoenipdooackaaDoorS
open Go Go.Proofs.YtnoenipdooackaaDoorV Go.Proofs.YtnoenipdooackaaDoor

theorem chC {n : Nat} {ys : List D} (h : HasC Tryd.prog n 132 ys) : ∃ c : Ch, ys = c.cells ∧ True := by
  obtain ⟨m, rfl, hf⟩ := h.struct Tryd.underlying132
  obtain ⟨z1, r1, h1, ⟨z2, r2, h2, ⟨z3, r3, h3, ⟨z4, r4, h4, ⟨z5, r5, h5, ⟨z6, r6, h6, ⟨z7, r7, h7, ⟨z8, r8, h8, hr, rfl⟩, rfl⟩, rfl⟩, rfl⟩, rfl⟩, rfl⟩, rfl⟩, rfl⟩ := hf
  cases hr
  obtain ⟨a1, rfl, _⟩ := h1.i64 Tryd.underlying3
  obtain ⟨a2, rfl, _⟩ := h2.i64 Tryd.underlying3
  obtain ⟨a3, rfl, _⟩ := h3.i64 Tryd.underlying3
  obtain ⟨a4, rfl⟩ := h4.str Tryd.underlying9
  obtain ⟨a5, rfl⟩ := h5.str Tryd.underlying9
  obtain ⟨a6, rfl, _⟩ := h6.i64 Tryd.underlying3
  obtain ⟨a7, rfl, _⟩ := h7.i64 Tryd.underlying3
  obtain ⟨a8, rfl⟩ := h8.str Tryd.underlying9
  exact ⟨⟨a1, a2, a3, a4, a5, a6, a7, a8⟩, rfl, trivial⟩
theorem vsC {n : Nat} {ys : List D} (h : HasC Tryd.prog n 25 ys) : ∃ l : List Vl, ys = [vsD l] ∧ ∀ v ∈ l, I64 v.n := by
  obtain ⟨l, rfl, hl⟩ := h.slice (f := Vl.cells) (Q := fun v => I64 v.n) Tryd.underlying25 fun m x _ hx => vlC hx
  have e : (l.map fun a => pk Tryd.prog 72 a.cells) = l.map Vl.d := List.map_congr_left fun a _ => pk_agg Tryd.underlying72 _
  rw [e]
  exact ⟨l, rfl, hl⟩
theorem vssC {n : Nat} {ys : List D} (h : HasC Tryd.prog n 51 ys) : ∃ l : List (List Vl), ys = [.sl .none (l.map vsD)] ∧ ∀ x ∈ l, ∀ v ∈ x, I64 v.n := by
  obtain ⟨l, rfl, hl⟩ := h.slice (f := fun x => [vsD x]) (Q := fun x => ∀ v ∈ x, I64 v.n) Tryd.underlying51 fun m x _ hx => vsC hx
  have e : (l.map fun a => pk Tryd.prog 25 [vsD a]) = l.map vsD := List.map_congr_left fun a _ => pk_slice Tryd.underlying25 _
  rw [e]
  exact ⟨l, rfl, hl⟩
set_option maxRecDepth 100000 in
theorem tbD {d : D} (h : HasD Tryd.prog 53 d) : ∃ t : Tb, d = .agg t.cells ∧ ∀ l ∈ t.v, ∀ v ∈ l, I64 v.n := by
  obtain ⟨n, ys, h, rfl⟩ := h
  rw [pk_agg Tryd.underlying53]
  obtain ⟨m, rfl, hf⟩ := h.struct Tryd.underlying53
  obtain ⟨z1, r1, h1, ⟨z2, r2, h2, hr, rfl⟩, rfl⟩ := hf
  cases hr
  obtain ⟨l, rfl, _⟩ := h1.slice (f := Ch.cells) (Q := fun _ => True) Tryd.underlying50 fun m x _ hx => chC hx
  have e : (l.map fun a => pk Tryd.prog 132 a.cells) = l.map Ch.d := List.map_congr_left fun a _ => pk_agg Tryd.underlying132 _
  rw [e]
  obtain ⟨k, rfl, hk⟩ := vssC h2
  exact ⟨⟨l, k⟩, rfl, hk⟩
set_option maxRecDepth 100000 in
theorem vs2D {d : D} (h : HasD Tryd.prog 63 d) : ∃ v w : List (List Vl), d = .agg [.sl .none (v.map vsD), .sl .none (w.map vsD)] ∧ (∀ l ∈ v, ∀ x ∈ l, I64 x.n) ∧ ∀ l ∈ w, ∀ x ∈ l, I64 x.n := by
  obtain ⟨n, ys, h, rfl⟩ := h
  rw [pk_arr Tryd.underlying63]
  obtain ⟨m, rfl, hf⟩ := h.array Tryd.underlying63
  obtain ⟨z1, r1, h1, ⟨z2, r2, h2, hr, rfl⟩, rfl⟩ := hf
  cases hr
  obtain ⟨v, rfl, hv⟩ := vssC h1
  obtain ⟨w, rfl, hw⟩ := vssC h2
  exact ⟨v, w, by simp, hv, hw⟩
def T2 : List TypeId := T ++ [50, 51, 53, 63, 132]
theorem T2_ok : T2.all (okT Tryd.prog T2) = true := by kernel_rfl
end Go.Proofs.YtnoenipdooackaaDoorS
