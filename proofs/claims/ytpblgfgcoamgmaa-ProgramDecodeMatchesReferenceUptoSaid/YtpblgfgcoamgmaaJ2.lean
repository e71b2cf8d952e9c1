/-
  Predicates that come as data: the numbers of all their parts are in range, and the parts are no more than the bulk.
-/
import Derived.Test.YtpblgfgcoamgmaaJ1
import Derived.Test.YtpblgfgcoamgmaaQ6
set_option linter.unusedVariables false
set_option linter.unusedSimpArgs false
set_option maxRecDepth 100000
namespace Go.Proofs.YtpblgfgcoamgmaaS
open Go Go.Proofs.YtpblgfgcoamgmaaV

theorem subs_bulk : ∀ (n : Nat) (p : Pr), SizeOf.sizeOf p ≤ n → (subs p).length ≤ p.d.bulk
  | 0, p, h => by cases p; simp at h
  | n + 1, p, h => by
    have hl : ∀ l : List Pr, (∀ k ∈ l, SizeOf.sizeOf k ≤ n) → (subsL l).length ≤ bulkL (l.map Pr.d) := by
      intro l
      induction l with
      | nil => intro _; rw [subsL_nil]; simp [bulkL]
      | cons a l ih =>
        intro hk
        have h1 := subs_bulk n a (hk a (by simp))
        have h2 := ih fun k hm => hk k (by simp [hm])
        rw [subsL_cons, List.length_append, List.map_cons]; simp only [bulkL]; omega
    have h1 := hl p.kids fun k hk => Nat.le_of_lt_succ (Nat.lt_of_lt_of_le (Pr.kid_lt hk) h)
    rw [subs_eq, p.d_eq]
    simp only [Pr.cells, D.bulk, bulkL, List.length_cons]; omega
theorem Pr.I.parts {p : Pr} (h : p.I) : I64 p.op ∧ I64 p.id ∧ I64 p.lo ∧ I64 p.hi ∧ (∀ v ∈ p.set, I64 v.n) ∧ ∀ k ∈ p.kids, Pr.I k := by
  cases h with | mk _ h1 h2 h3 h4 h5 h6 => exact ⟨h1, h2, h3, h4, h5, h6⟩
theorem PI_subs : ∀ (n : Nat) (p : Pr), SizeOf.sizeOf p ≤ n → p.I → ∀ q ∈ subs p, PI q
  | 0, p, h, _ => by cases p; simp at h
  | n + 1, p, h, hp => by
    obtain ⟨h1, h2, h3, h4, h5, h6⟩ := hp.parts
    intro q hq
    rw [subs_eq] at hq
    rcases List.mem_cons.1 hq with rfl | hq
    · exact ⟨h2, h3, h4, h5⟩
    · rw [subsL_flat] at hq
      obtain ⟨k, hk, hqk⟩ := List.mem_flatMap.1 hq
      exact PI_subs n k (Nat.le_of_lt_succ (Nat.lt_of_lt_of_le (Pr.kid_lt hk) h)) (h6 k hk) q hqk
/-- What is known of a predicate that comes as data. -/
structure PrOk (p : Pr) : Prop where
  i : p.I
  lim : p.Lim
  pi : ∀ q ∈ subs p, PI q
  few : (subs p).length ≤ 1048576
  bulk : p.d.bulk ≤ 1048576
theorem prOk {p : Pr} (h : p.I) (hb : p.d.bulk ≤ 1048576) : PrOk p :=
  ⟨h, Pr.lim_of _ p (Nat.le_refl _) hb, PI_subs _ p (Nat.le_refl _) h, Nat.le_trans (subs_bulk _ p (Nat.le_refl _)) hb, hb⟩
theorem prO {d : D} (h : HasD Try.prog 27 d) (hb : d.bulk ≤ 1048576) : ∃ p : Pr, d = .agg p.cells ∧ PrOk p := by
  obtain ⟨n, ys, h, rfl⟩ := h
  rw [pk_agg Try.underlying27] at hb ⊢
  obtain ⟨p, rfl, hp⟩ := prC n h
  exact ⟨p, rfl, prOk hp (by rw [p.d_eq]; exact hb)⟩
theorem clO {d : D} (h : HasD Try.prog 40 d) : ∃ c : Cl, d = clD c := by
  obtain ⟨n, ys, h, rfl⟩ := h
  obtain ⟨c, rfl, _⟩ := clC h
  exact ⟨c, pk_agg Try.underlying40 _⟩
theorem u64O {d : D} (h : HasD Try.prog 79 d) : ∃ n : Nat, d = .int .u64 n ∧ n < 18446744073709551616 := by
  obtain ⟨m, ys, h, rfl⟩ := h
  obtain ⟨i, rfl, hx⟩ := h.u64 Try.underlying79
  rw [pk_int Try.underlying79]
  exact ⟨i, rfl, hx⟩
end Go.Proofs.YtpblgfgcoamgmaaS
