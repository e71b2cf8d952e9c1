/-
  The thirty-first text of the program logic: a row that lies in a variable's cells is given away as a part of a whole.
  Conditions: none; it speaks of every program.
-/
import Derived.Test.YtbfkhepfgibonaaGreatVC
set_option linter.unusedVariables false
set_option linter.unusedSimpArgs false
namespace Go.Proofs.YtbfkhepfgibonaaGreatV
open Go

section
variable {P : Program} {G : Heap} {K : Kn} {β : Heap} {ω : List Nat} {w : World}

/-- A row of a variable's cells that is a part of a whole is given away. -/
theorem Turn.freezeIn {b len cap m : Nat} {cs xs pre post : List D} (hb : β b = some cs) (ho : isObj cs = false) (hc : len ≤ cap) (hl : cap * m ≤ cs.length) (hf : flat xs = cs.take (len * m)) (hm : ∀ x ∈ xs, x.cells.length = m) (hn : xs.length = len) (hmost : len ≤ mostLen) :
    Turn G (.agg (pre ++ .so b 0 len cap :: post)) β ω (fun d' β' ω' => ∃ t, t ∉ ω ∧ d' = .agg (pre ++ .sl (.live t m) xs :: post) ∧ β' = β.unset b ∧ ω' = t :: ω) := fun K w v hr hd => by
  obtain ⟨t, ht1, ht2⟩ := hr.fresh
  obtain ⟨r1, r2⟩ := hr.freeze hb ho hc hl ht1 ht2
  refine ⟨_, _, _, _, ⟨t, ht2, rfl, rfl, rfl⟩, r1, r2, ?_⟩
  cases hd with
  | agg h =>
    obtain ⟨v1, v2, rfl, h1, h2⟩ := RepL.split h
    cases h2 with
    | cons hx h2 =>
      cases hx
      refine .agg (RepL.append (h1.mono r2.le) (.cons ?_ (h2.mono r2.le)))
      refine .sl hn hc hmost (fun i x hi => ?_) ⟨rfl, some ⟨b, 0, len, cap, m⟩, by simp [Kn.row], ⟨b, 0, none⟩, rfl, rfl, rfl⟩
      refine ⟨_, rfl, rfl, hm x (List.mem_of_getElem? hi), fun j y hj => ?_⟩
      have := flat_of hf hm hi hj
      simpa [Kn.row] using this
end
end Go.Proofs.YtbfkhepfgibonaaGreatV
