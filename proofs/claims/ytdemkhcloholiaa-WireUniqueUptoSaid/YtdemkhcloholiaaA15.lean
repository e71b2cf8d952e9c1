import Derived.Test.YtdemkhcloholiaaA13
set_option linter.unusedVariables false
set_option linter.unusedSimpArgs false
namespace Go.Proofs.YtdemkhcloholiaaS
open Go Go.Proofs.YtdemkhcloholiaaV

/-! What is accepted is what would be written: plain facts. -/
theorem rd_uniq (k : Nat) : ∀ (l : List Nat) (i acc v nx : Nat), (∀ c ∈ l, c < 256) → i ≤ 9 → rd k l i acc = (v, nx, 0) → ∃ m, v = acc + 2 ^ (7 * i) * m ∧ (0 < i → 0 < m) ∧ k + i < nx ∧ nx ≤ k + i + l.length ∧ enc m = l.take (nx - (k + i))
  | [], i, acc, v, nx, _, _, h => by simp [rd] at h
  | c :: r, i, acc, v, nx, hb, hi, h => by
    have hc := hb c (by simp)
    simp only [rd] at h
    split at h
    · rename_i h1
      obtain ⟨m, e1, e2, e3, e4, e5⟩ := rd_uniq k r (i + 1) _ v nx (fun c hc => hb c (by simp [hc])) (by omega) h
      have hm := e2 (by omega)
      refine ⟨m * 128 + c % 128, ?_, fun _ => by omega, by omega, by simp only [List.length_cons]; omega, ?_⟩
      · rw [e1]
        have e : 2 ^ (7 * (i + 1)) = 2 ^ (7 * i) * 128 := by rw [Nat.mul_add, Nat.pow_add]
        rw [e, Nat.mul_add, ← Nat.mul_assoc, Nat.mul_assoc, Nat.mul_comm 128 m, ← Nat.mul_assoc]
        omega
      · rw [enc_big (by omega)]
        have d1 : (m * 128 + c % 128) % 128 + 128 = c := by omega
        have d2 : (m * 128 + c % 128) / 128 = m := by omega
        have d3 : nx - (k + i) = (nx - (k + (i + 1))) + 1 := by omega
        rw [d1, d2, d3, List.take_succ_cons, e5]
    · split at h
      · simp at h
      · rename_i h1 h2
        simp only [Prod.mk.injEq, and_true] at h
        obtain ⟨rfl, rfl⟩ := h
        have hc2 : c < 128 := by omega
        refine ⟨c, by rw [Nat.mod_eq_of_lt hc2], fun _ => by omega, by omega, by simp only [List.length_cons]; omega, ?_⟩
        have d3 : k + i + 1 - (k + i) = 0 + 1 := by omega
        rw [enc_small hc2, d3, List.take_succ_cons, List.take_zero]

theorem readU_uniq {b : List Nat} {k : Nat} {v nx : Nat} (hb : Byt b) (hk : k ≤ b.length) (h : readU b k = (v, nx, 0)) : k < nx ∧ nx ≤ b.length ∧ b.take k ++ enc v = b.take nx := by
  unfold readU at h
  rw [if_neg (by omega)] at h
  have e : ((k : Nat) : Int).toNat = k := rfl
  rw [e] at h
  obtain ⟨m, e1, e2, e3, e4, e5⟩ := rd_uniq k (b.drop k) 0 0 v nx (fun c hc => hb c (List.mem_of_mem_drop hc)) (by omega) h
  simp only [Nat.mul_zero, Nat.pow_zero, Nat.one_mul, Nat.zero_add, Nat.add_zero, List.length_drop] at e1 e3 e4 e5
  subst e1
  refine ⟨e3, by omega, ?_⟩
  rw [e5, ← List.drop_take, ]
  have : b.take k = (b.take nx).take k := by rw [List.take_take, Nat.min_eq_left (by omega)]
  rw [this, List.take_append_drop]

theorem zig_unzig {n : Nat} : zig (unzig n) = n := by
  unfold unzig zig
  split <;> split <;> omega

theorem unzig_range {n : Nat} (h : n < 18446744073709551616) : -9223372036854775808 ≤ unzig n ∧ unzig n < 9223372036854775808 := by
  unfold unzig
  split <;> omega
end Go.Proofs.YtdemkhcloholiaaS
