import Derived.Test.YtdemkhcloholiaaW3
import Derived.Test.YtdemkhcloholiaaA10
set_option linter.unusedVariables false
set_option linter.unusedSimpArgs false
namespace Go.Proofs.YtdemkhcloholiaaS
open Go Go.Proofs.YtdemkhcloholiaaV Go.Proofs.Ytdemkhcloholiaa

/-- The types of the laws' data. -/
def T : List TypeId := [2, 3, 5, 9, 22, 23, 25, 48]
theorem T_ok : T.all (okT Try.prog T) = true := by kernel_rfl
theorem laid : laidOutB Try.prog = true := by kernel_rfl
theorem own : ownKnob Try.prog.godebug = none := by kernel_rfl

mutual
theorem ub_eq {H : Type} : ∀ d : DataW H, Rows.uptoBulk d = ub d
  | .lit (.string b) => by simp only [Rows.uptoBulk, ub]
  | .lit (.bool b) => by simp only [Rows.uptoBulk, ub]
  | .lit (.int k b) => by simp only [Rows.uptoBulk, ub]
  | .lit (.float k b) => by simp only [Rows.uptoBulk, ub]
  | .lit .nil => by simp only [Rows.uptoBulk, ub]
  | .nil => by simp only [Rows.uptoBulk, ub]
  | .ptr d => by simp only [Rows.uptoBulk, ub, ub_eq d]
  | .slice a b => by simp only [Rows.uptoBulk, ub, ubs_eq a, ubs_eq b]
  | .agg a => by simp only [Rows.uptoBulk, ub, ubs_eq a]
  | .iface n d => by simp only [Rows.uptoBulk, ub, ub_eq d]
  | .map a => by simp only [Rows.uptoBulk, ub, ube_eq a]
  | .held x => by simp only [Rows.uptoBulk, ub]
theorem ubs_eq {H : Type} : ∀ l : List (DataW H), Rows.uptoBulkAll l = ubs l
  | [] => by simp only [Rows.uptoBulkAll, ubs]
  | d :: l => by simp only [Rows.uptoBulkAll, ubs, ub_eq d, ubs_eq l]
theorem ube_eq {H : Type} : ∀ l : List (Lit × DataW H), Rows.uptoBulkEntries l = ube l
  | [] => by simp only [Rows.uptoBulkEntries, ube]
  | x :: l => by simp only [Rows.uptoBulkEntries, ube, ubn_eq x, ube_eq l]
theorem ubn_eq {H : Type} : ∀ x : Lit × DataW H, Rows.uptoBulkEntry x = ubn x
  | (.string b, d) => by simp only [Rows.uptoBulkEntry, ubn, ub_eq d]
  | (.bool b, d) => by simp only [Rows.uptoBulkEntry, ubn, ub_eq d]
  | (.int k b, d) => by simp only [Rows.uptoBulkEntry, ubn, ub_eq d]
  | (.float k b, d) => by simp only [Rows.uptoBulkEntry, ubn, ub_eq d]
  | (.nil, d) => by simp only [Rows.uptoBulkEntry, ubn, ub_eq d]
end

theorem small_of {H : Type} {l : List (DataW H)} (h : Rows.uptoSmall H l = true) : ubs l ≤ 1048576 := by
  rw [← ubs_eq]
  exact of_decide_eq_true h

theorem bs_bulk : ∀ l : List Nat, bulkL (bs l) = l.length
  | [] => rfl
  | a :: l => by
    have := bs_bulk l
    simp only [bs, List.map_cons, bulkL, D.bulk, List.length_cons] at this ⊢
    omega

theorem bytesC {n : Nat} {ys : List D} (h : HasC Try.prog n 22 ys) : ∃ l, ys = [.sl .none (bs l)] ∧ Byt l := by
  obtain ⟨l0, rfl, h2⟩ := h.slice (f := fun i : Nat => [.int .u8 i]) (Q := fun i => i < 256) Try.underlying22 fun m x _ hx => hx.u8 Try.underlying5
  exact ⟨l0, by simp only [pk_int Try.underlying5]; rfl, h2⟩

theorem bytesD {d : D} (h : HasD Try.prog 22 d) : ∃ l, d = .sl .none (bs l) ∧ Byt l ∧ l.length ≤ d.bulk := by
  obtain ⟨n, ys, h, rfl⟩ := h
  obtain ⟨l, rfl, hb⟩ := bytesC h
  refine ⟨l, pk_slice Try.underlying22 _, hb, ?_⟩
  rw [pk_slice Try.underlying22]
  simp only [D.bulk, bs_bulk]
  omega

theorem intD {d : D} (h : HasD Try.prog 3 d) : ∃ i : Int, d = .int .i64 i ∧ -9223372036854775808 ≤ i ∧ i < 9223372036854775808 := by
  obtain ⟨n, ys, h, rfl⟩ := h
  obtain ⟨i, rfl, hb⟩ := h.i64 Try.underlying3
  exact ⟨i, pk_int Try.underlying3 _, hb⟩
theorem int2D {d : D} (h : HasD Try.prog 2 d) : ∃ i : Int, d = .int .i64 i ∧ -9223372036854775808 ≤ i ∧ i < 9223372036854775808 := by
  obtain ⟨n, ys, h, rfl⟩ := h
  obtain ⟨i, rfl, hb⟩ := h.i64 Try.underlying2
  exact ⟨i, pk_int Try.underlying2 _, hb⟩
theorem u64D {d : D} (h : HasD Try.prog 23 d) : ∃ i : Nat, d = .int .u64 i ∧ i < 18446744073709551616 := by
  obtain ⟨n, ys, h, rfl⟩ := h
  obtain ⟨i, rfl, hb⟩ := h.u64 Try.underlying23
  exact ⟨i, pk_int Try.underlying23 _, hb⟩

theorem valC {n : Nat} {ys : List D} (h : HasC Try.prog n 25 ys) : ∃ (k : Nat) (i : Int) (s : ByteArray) (l : List Nat), ys = [.int .u64 k, .int .i64 i, .str s, .sl .none (bs l)] ∧ k < 18446744073709551616 ∧ (-9223372036854775808 ≤ i ∧ i < 9223372036854775808) ∧ Byt l := by
  obtain ⟨m, rfl, hf⟩ := h.struct Try.underlying25
  obtain ⟨z1, r1, h1, ⟨z2, r2, h2, ⟨z3, r3, h3, ⟨z4, r4, h4, hr, rfl⟩, rfl⟩, rfl⟩, rfl⟩ := hf
  cases hr
  obtain ⟨k, rfl, hk⟩ := h1.u64 Try.underlying23
  obtain ⟨i, rfl, hi⟩ := h2.i64 Try.underlying2
  obtain ⟨s, rfl⟩ := h3.str Try.underlying9
  obtain ⟨l, rfl, hl⟩ := bytesC h4
  exact ⟨k, i, s, l, rfl, hk, hi, hl⟩

theorem valD {d : D} (h : HasD Try.prog 25 d) : ∃ (k : Nat) (i : Int) (s : ByteArray) (l : List Nat), d = .agg [.int .u64 k, .int .i64 i, .str s, .sl .none (bs l)] ∧ k < 18446744073709551616 ∧ (-9223372036854775808 ≤ i ∧ i < 9223372036854775808) ∧ Byt l ∧ s.size ≤ d.bulk ∧ l.length ≤ d.bulk := by
  obtain ⟨n, ys, h, rfl⟩ := h
  obtain ⟨k, i, s, l, rfl, h1, h2, h3⟩ := valC h
  refine ⟨k, i, s, l, pk_agg Try.underlying25 _, h1, h2, h3, ?_⟩
  rw [pk_agg Try.underlying25]
  simp only [D.bulk, bulkL, bs_bulk]
  omega

end Go.Proofs.YtdemkhcloholiaaS
