/-
  From data by type to our values: HasC, HasD of the kinds that the laws take.
-/
import Derived.Test.YtpblgfgcoamgmaaWA
import Derived.Test.YtpblgfgcoamgmaaP1
import Derived.Test.YtpblgfgcoamgmaaCD
import Derived.Test.YtpblgfgcoamgmaaRows
set_option linter.unusedVariables false
set_option linter.unusedSimpArgs false
set_option maxRecDepth 100000
namespace Go.Proofs.YtpblgfgcoamgmaaS
open Go Go.Proofs.YtpblgfgcoamgmaaV Go.Proofs.Ytpblgfgcoamgmaa

theorem laid : laidOutB Try.prog = true := by kernel_rfl
theorem own : ownKnob Try.prog.godebug = none := by kernel_rfl

mutual
theorem ub_eq {H : Type} : ∀ d : DataW H, Rows.uptoBulk d = ub d
  | .lit (.string b) => by simp only [Rows.uptoBulk, ub]
  | .lit (.bool b) => by simp only [Rows.uptoBulk, ub]
  | .lit (.int k b) => by simp only [Rows.uptoBulk, ub]
  | .lit (.float k b) => by simp only [Rows.uptoBulk, ub]
  | .lit .nil => by simp only [Rows.uptoBulk, ub]
  | .nil => by simp only [Rows.uptoBulk, ub]
  | .ptr d => by simp only [Rows.uptoBulk, ub, ub_eq d]
  | .slice a b => by simp only [Rows.uptoBulk, ub, ubs_eq a, ubs_eq b]
  | .agg a => by simp only [Rows.uptoBulk, ub, ubs_eq a]
  | .iface n d => by simp only [Rows.uptoBulk, ub, ub_eq d]
  | .map a => by simp only [Rows.uptoBulk, ub, ube_eq a]
  | .held x => by simp only [Rows.uptoBulk, ub]
theorem ubs_eq {H : Type} : ∀ l : List (DataW H), Rows.uptoBulkAll l = ubs l
  | [] => by simp only [Rows.uptoBulkAll, ubs]
  | d :: l => by simp only [Rows.uptoBulkAll, ubs, ub_eq d, ubs_eq l]
theorem ube_eq {H : Type} : ∀ l : List (Lit × DataW H), Rows.uptoBulkEntries l = ube l
  | [] => by simp only [Rows.uptoBulkEntries, ube]
  | x :: l => by simp only [Rows.uptoBulkEntries, ube, ubn_eq x, ube_eq l]
theorem ubn_eq {H : Type} : ∀ x : Lit × DataW H, Rows.uptoBulkEntry x = ubn x
  | (.string b, d) => by simp only [Rows.uptoBulkEntry, ubn, ub_eq d]
  | (.bool b, d) => by simp only [Rows.uptoBulkEntry, ubn, ub_eq d]
  | (.int k b, d) => by simp only [Rows.uptoBulkEntry, ubn, ub_eq d]
  | (.float k b, d) => by simp only [Rows.uptoBulkEntry, ubn, ub_eq d]
  | (.nil, d) => by simp only [Rows.uptoBulkEntry, ubn, ub_eq d]
end

theorem small_of {H : Type} {l : List (DataW H)} (h : Rows.uptoSmall H l = true) : ubs l ≤ 1048576 := by
  rw [← ubs_eq]
  exact of_decide_eq_true h


theorem bulk_len {α : Type} (f : α → D) (hf : ∀ a, 1 ≤ (f a).bulk) : ∀ l : List α, l.length ≤ bulkL (l.map f)
  | [] => by simp
  | a :: l => by
    have h1 := hf a
    have h2 := bulk_len f hf l
    simp only [List.map_cons, bulkL, List.length_cons]; omega

theorem vlC {n : Nat} {ys : List D} (h : HasC Try.prog n 38 ys) : ∃ v : Vl, ys = v.cells ∧ I64 v.n := by
  obtain ⟨m, rfl, hf⟩ := h.struct Try.underlying38
  obtain ⟨z1, r1, h1, ⟨z2, r2, h2, ⟨z3, r3, h3, hr, rfl⟩, rfl⟩, rfl⟩ := hf
  cases hr
  obtain ⟨b, rfl⟩ := h1.bool Try.underlying4
  obtain ⟨i, rfl, hi⟩ := h2.i64 Try.underlying2
  obtain ⟨s, rfl⟩ := h3.str Try.underlying9
  exact ⟨⟨b, i, s⟩, rfl, hi⟩
/-- The numbers of a predicate are in range. -/
inductive Pr.I : Pr → Prop where
  | mk (p : Pr) : I64 p.op → I64 p.id → I64 p.lo → I64 p.hi → (∀ v ∈ p.set, I64 v.n) → (∀ k ∈ p.kids, Pr.I k) → Pr.I p
theorem prC : ∀ (n : Nat) {ys : List D}, HasC Try.prog n 27 ys → ∃ p : Pr, ys = p.cells ∧ p.I
  | n, ys, h => by
    obtain ⟨m, rfl, hf⟩ := h.struct Try.underlying27
    obtain ⟨z1, r1, h1, ⟨z2, r2, h2, ⟨z3, r3, h3, ⟨z4, r4, h4, ⟨z5, r5, h5, ⟨z6, r6, h6, ⟨z7, r7, h7, hr, rfl⟩, rfl⟩, rfl⟩, rfl⟩, rfl⟩, rfl⟩, rfl⟩ := hf
    cases hr
    obtain ⟨a, rfl, ha⟩ := h1.i64 Try.underlying3
    obtain ⟨b, rfl, hb⟩ := h2.i64 Try.underlying3
    obtain ⟨c, rfl, hc⟩ := h3.i64 Try.underlying2
    obtain ⟨d, rfl, hd⟩ := h4.i64 Try.underlying2
    obtain ⟨s, rfl, hs⟩ := h5.slice (f := Vl.cells) (Q := fun v => I64 v.n) Try.underlying24 fun m x _ hx => vlC hx
    obtain ⟨t, rfl⟩ := h6.str Try.underlying9
    obtain ⟨l, rfl, hl⟩ := h7.slice (f := Pr.cells) (Q := Pr.I) Try.underlying25 fun k x hk hx => prC k hx
    have e1 : (s.map fun a => pk Try.prog 38 a.cells) = s.map Vl.d := List.map_congr_left fun a _ => pk_agg Try.underlying38 _
    have e2 : (l.map fun a => pk Try.prog 27 a.cells) = l.map Pr.d := List.map_congr_left fun a _ => (pk_agg Try.underlying27 _).trans a.d_eq.symm
    rw [e1, e2]
    exact ⟨.mk a b c d s t l, rfl, .mk _ ha hb hc hd hs hl⟩
termination_by n => n
theorem Pr.bulk_pos (p : Pr) : 1 ≤ p.d.bulk := by rw [p.d_eq]; simp [Pr.cells, D.bulk, bulkL]
theorem Pr.lim_of : ∀ (n : Nat) (p : Pr), SizeOf.sizeOf p ≤ n → p.d.bulk ≤ 1048576 → p.Lim
  | 0, p, h, _ => by cases p; simp at h
  | n + 1, p, h, hb => by
    have h1 := bulk_len Pr.d Pr.bulk_pos p.kids
    have e := p.d_eq
    have hk : bulkL (p.kids.map Pr.d) ≤ p.d.bulk := by rw [e]; simp only [Pr.cells, D.bulk, bulkL]; omega
    refine .mk p (by omega) fun k hkm => ?_
    have h2 := bulk_mem (List.mem_map_of_mem (f := Pr.d) hkm)
    exact Pr.lim_of n k (Nat.le_of_lt_succ (Nat.lt_of_lt_of_le (Pr.kid_lt hkm) h)) (by omega)
theorem prD {d : D} (h : HasD Try.prog 27 d) (hb : d.bulk ≤ 1048576) : ∃ p : Pr, d = .agg p.cells ∧ p.I ∧ p.Lim := by
  obtain ⟨n, ys, h, rfl⟩ := h
  rw [pk_agg Try.underlying27] at hb ⊢
  obtain ⟨p, rfl, hp⟩ := prC n h
  exact ⟨p, rfl, hp, Pr.lim_of _ p (Nat.le_refl _) (by rw [p.d_eq]; exact hb)⟩
theorem prsD {d : D} (h : HasD Try.prog 25 d) (hb : d.bulk ≤ 1048576) : ∃ ps : List Pr, d = .sl .none (ps.map Pr.d) ∧ (∀ p ∈ ps, p.Lim) ∧ ps.length ≤ 1048576 := by
  obtain ⟨n, ys, h, rfl⟩ := h
  obtain ⟨l, rfl, hl⟩ := h.slice (f := Pr.cells) (Q := Pr.I) Try.underlying25 fun k x hk hx => prC k hx
  have e2 : (l.map fun a => pk Try.prog 27 a.cells) = l.map Pr.d := List.map_congr_left fun a _ => (pk_agg Try.underlying27 _).trans a.d_eq.symm
  rw [e2, pk_slice Try.underlying25] at hb ⊢
  simp only [D.bulk] at hb
  have h1 := bulk_len Pr.d Pr.bulk_pos l
  refine ⟨l, rfl, fun p hp => ?_, by omega⟩
  have h2 := bulk_mem (List.mem_map_of_mem (f := Pr.d) hp)
  exact Pr.lim_of _ p (Nat.le_refl _) (by omega)
theorem clC {n : Nat} {ys : List D} (h : HasC Try.prog n 40 ys) : ∃ c : Cl, ys = [.int .i64 c.1, .bool c.2.null, .int .i64 c.2.n, .str c.2.s] ∧ I64 c.2.n := by
  obtain ⟨m, rfl, hf⟩ := h.struct Try.underlying40
  obtain ⟨z1, r1, h1, ⟨z2, r2, h2, hr, rfl⟩, rfl⟩ := hf
  cases hr
  obtain ⟨a, rfl, ha⟩ := h1.i64 Try.underlying3
  obtain ⟨v, rfl, hv⟩ := vlC h2
  exact ⟨(a, v), rfl, hv⟩
theorem rwD' {d : D} (h : HasD Try.prog 43 d) : ∃ r : Rw, d = .agg [.sl .none (r.map clD)] ∧ ∀ c ∈ r, I64 c.2.n := by
  obtain ⟨n, ys, h, rfl⟩ := h
  rw [pk_agg Try.underlying43]
  obtain ⟨m, rfl, hf⟩ := h.struct Try.underlying43
  obtain ⟨z1, r1, h1, hr, rfl⟩ := hf
  cases hr
  obtain ⟨l, rfl, hl⟩ := h1.slice (f := fun c : Cl => [.int .i64 c.1, .bool c.2.null, .int .i64 c.2.n, .str c.2.s]) (Q := fun c => I64 c.2.n) Try.underlying41 fun m x _ hx => clC hx
  have e : (l.map fun c => pk Try.prog 40 [.int .i64 c.1, .bool c.2.null, .int .i64 c.2.n, .str c.2.s]) = l.map clD := List.map_congr_left fun c _ => pk_agg Try.underlying40 _
  rw [e]
  exact ⟨l, rfl, hl⟩
theorem slC {P : Program} {n : Nat} {t e : TypeId} {ys : List D} (hu : P.underlying t = some (.slice e)) (h : HasC P n t ys) : ∃ xs, ys = [.sl .none xs] := by
  cases n with
  | zero => exact h.elim
  | succ n =>
    simp only [HasC, hu] at h
    obtain ⟨xs, rfl, _⟩ := h
    exact ⟨_, rfl⟩
theorem arrC {k : Nat} : ∀ (m : Nat) {ys : List D}, HasFs Try.prog k (List.replicate m 5) ys → ys.length = m ∧ ys.all D.one = true
  | 0, ys, h => by cases h; exact ⟨rfl, rfl⟩
  | m + 1, ys, h => by
    rw [List.replicate_succ] at h
    obtain ⟨z, r, h1, h2, rfl⟩ := h
    obtain ⟨i, rfl, _⟩ := h1.u8 Try.underlying5
    obtain ⟨h3, h4⟩ := arrC m h2
    refine ⟨by simp [h3], ?_⟩
    simp only [List.singleton_append, List.all_cons, h4, Bool.and_true]
    rfl
end Go.Proofs.YtpblgfgcoamgmaaS
