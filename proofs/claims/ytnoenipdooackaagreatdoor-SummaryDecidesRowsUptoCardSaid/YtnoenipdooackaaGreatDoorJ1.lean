
import Derived.Test.YtnoenipdooackaaGreatDoorW4
import Derived.Test.YtnoenipdooackaaGreatDoorRC
import Derived.Test.YtnoenipdooackaaGreatDoorCards
import Derived.Test.YtnoenipdooackaaGreatDoorTie
import Derived.MakeChecks
import Derived.Lay
import Derived.Deep.DeepHandedRow
set_option linter.unusedVariables false
set_option linter.unusedSimpArgs false
set_option maxRecDepth 100000
namespace Go.Proofs.YtnoenipdooackaaGreatDoorS
open Go Go.Proofs.YtnoenipdooackaaGreatDoorV Go.Proofs.YtnoenipdooackaaGreatDoor

/-- The types of the laws' data. -/
def T : List TypeId := [2, 3, 4, 9, 22, 23, 25, 26, 27, 29, 60, 101]
theorem T_ok : T.all (okT Tryz.prog T) = true := by kernel_rfl
theorem laid : laidOutB Tryz.prog = true := by kernel_rfl
theorem own : ownKnob Tryz.prog.godebug = none := by kernel_rfl

mutual
theorem ub_eq {H : Type} : ∀ d : DataW H, Rows.uptoBulk d = ub d
  | .lit (.string b) => by simp only [Rows.uptoBulk, ub]
  | .lit (.bool b) => by simp only [Rows.uptoBulk, ub]
  | .lit (.int k b) => by simp only [Rows.uptoBulk, ub]
  | .lit (.float k b) => by simp only [Rows.uptoBulk, ub]
  | .lit .nil => by simp only [Rows.uptoBulk, ub]
  | .nil => by simp only [Rows.uptoBulk, ub]
  | .ptr d => by simp only [Rows.uptoBulk, ub, ub_eq d]
  | .slice a b => by simp only [Rows.uptoBulk, ub, ubs_eq a, ubs_eq b]
  | .agg a => by simp only [Rows.uptoBulk, ub, ubs_eq a]
  | .iface n d => by simp only [Rows.uptoBulk, ub, ub_eq d]
  | .map a => by simp only [Rows.uptoBulk, ub, ube_eq a]
  | .held x => by simp only [Rows.uptoBulk, ub]
theorem ubs_eq {H : Type} : ∀ l : List (DataW H), Rows.uptoBulkAll l = ubs l
  | [] => by simp only [Rows.uptoBulkAll, ubs]
  | d :: l => by simp only [Rows.uptoBulkAll, ubs, ub_eq d, ubs_eq l]
theorem ube_eq {H : Type} : ∀ l : List (Lit × DataW H), Rows.uptoBulkEntries l = ube l
  | [] => by simp only [Rows.uptoBulkEntries, ube]
  | x :: l => by simp only [Rows.uptoBulkEntries, ube, ubn_eq x, ube_eq l]
theorem ubn_eq {H : Type} : ∀ x : Lit × DataW H, Rows.uptoBulkEntry x = ubn x
  | (.string b, d) => by simp only [Rows.uptoBulkEntry, ubn, ub_eq d]
  | (.bool b, d) => by simp only [Rows.uptoBulkEntry, ubn, ub_eq d]
  | (.int k b, d) => by simp only [Rows.uptoBulkEntry, ubn, ub_eq d]
  | (.float k b, d) => by simp only [Rows.uptoBulkEntry, ubn, ub_eq d]
  | (.nil, d) => by simp only [Rows.uptoBulkEntry, ubn, ub_eq d]
end

theorem small_of {H : Type} {l : List (DataW H)} (h : Rows.uptoSmall H l = true) : ubs l ≤ 1048576 := by
  rw [← ubs_eq]
  exact of_decide_eq_true h


theorem bulk_len {α : Type} (f : α → D) (hf : ∀ a, 1 ≤ (f a).bulk) : ∀ l : List α, l.length ≤ bulkL (l.map f)
  | [] => by simp
  | a :: l => by
    have h1 := hf a
    have h2 := bulk_len f hf l
    simp only [List.map_cons, bulkL, List.length_cons]; omega

/-! What the package variable holds. -/
def GN : Heap := fun g => if g = 0 then some nullC else none
theorem GN0 : GN 0 = some nullC := rfl
theorem null_cells {W : World} (h : laidMetH Tryz.prog [("fenland/summary.null", Rows.laid_fenland_summary_null)] W) : ∀ g cs, GN g = some cs → ∀ (o : Nat) d, cs[o]? = some d → (K0 W).cells g o d := by
  rw [MakeChecks.laidMetH_plain _ _ _ (by kernel_rfl)] at h
  obtain ⟨ps, ⟨g, t, cs, fuel, p, q, hg, ht, hv, hd, _, _⟩, _, _⟩ := h
  have hg0 : Tryz.prog.globalNamed "fenland/summary.null" = some 0 := by kernel_rfl
  obtain rfl := Option.some.inj (hg0.symm.trans hg)
  obtain rfl := Option.some.inj ((show (Tryz.prog.globals[0]?).map (·.type) = some 60 by kernel_rfl).symm.trans ht)
  obtain ⟨xs, n, _, ex, hl, hfs, hel⟩ := DataW.trod_struct Tryz.underlying60 hd
  have c72 : Tryz.prog.cellsOf 60 = 3 := by kernel_rfl
  have c4 : Tryz.prog.cellsOf 4 = 1 := by kernel_rfl
  have c2 : Tryz.prog.cellsOf 2 = 1 := by kernel_rfl
  have c9 : Tryz.prog.cellsOf 9 = 1 := by kernel_rfl
  rw [c72] at hl
  obtain ⟨l⟩ := cs
  have hcell : ∀ i, W.cell? ⟨0, i, none⟩ = l[i]? := fun i => by
    have := World.var?_cell hg hv i
    simpa using this
  match l, hl with
  | [a, b, c], _ =>
    match xs, hfs with
    | [x0, x1, x2], _ =>
      have e3 := DataW.agg.inj (Prod.mk.inj ex).1
      simp only [List.map_cons, List.map_nil, List.cons.injEq, and_true] at e3
      have k0 := hel 0 _ rfl
      have k1 := hel 1 _ rfl
      have k2 := hel 2 _ rfl
      simp only [c4] at k0
      simp only [c2] at k1
      simp only [c9] at k2
      obtain ⟨z0, a0, b0⟩ := DataW.trod_bool Tryz.underlying4 k0
      obtain ⟨z1, a1, b1, _⟩ := DataW.trod_int Tryz.underlying2 k1
      obtain ⟨z2, a2, b2, _⟩ := DataW.trod_string Tryz.underlying9 k2
      simp at a0 a1 a2
      rw [c4] at a0
      rw [c2] at a1
      rw [c9] at a2
      simp only [List.take_succ_cons, List.take_zero, List.cons.injEq, and_true] at a0 a1 a2
      obtain ⟨q0, q1, q2⟩ := e3
      rw [b0] at q0
      rw [b1] at q1
      rw [b2] at q2
      cases q0; cases q1
      have hz2 : z2 = ByteArray.empty := by
        have h2 : z2.data.toList = [] := by injection q2 with h; injection h with h; exact h.symm
        have : z2.data = #[] := Array.toList_eq_nil_iff.1 h2
        exact ByteArray.ext this
      subst a0 a1 a2 hz2
      intro g cs' hg' o d hd'
      unfold GN at hg'
      split at hg'
      · rename_i e; subst e
        cases hg'
        match o, hd' with
        | 0, hd' => cases hd'; exact ⟨_, hcell 0, .bool _⟩
        | 1, hd' => cases hd'; exact ⟨_, hcell 1, .int _ _⟩
        | 2, hd' => cases hd'; exact ⟨_, hcell 2, .str _ (by decide)⟩
        | o + 3, hd' => simp [nullC] at hd'
      · cases hg'
theorem vlC {n : Nat} {ys : List D} (h : HasC Tryz.prog n 60 ys) : ∃ v : Vl, ys = v.cells ∧ I64 v.n := by
  obtain ⟨m, rfl, hf⟩ := h.struct Tryz.underlying60
  obtain ⟨z1, r1, h1, ⟨z2, r2, h2, ⟨z3, r3, h3, hr, rfl⟩, rfl⟩, rfl⟩ := hf
  cases hr
  obtain ⟨b, rfl⟩ := h1.bool Tryz.underlying4
  obtain ⟨i, rfl, hi⟩ := h2.i64 Tryz.underlying2
  obtain ⟨s, rfl⟩ := h3.str Tryz.underlying9
  exact ⟨⟨b, i, s⟩, rfl, hi⟩
theorem prC : ∀ (n : Nat) {ys : List D}, HasC Tryz.prog n 29 ys → ∃ p : Pr, ys = p.cells ∧ p.I
  | n, ys, h => by
    obtain ⟨m, rfl, hf⟩ := h.struct Tryz.underlying29
    obtain ⟨z1, r1, h1, ⟨z2, r2, h2, ⟨z3, r3, h3, ⟨z4, r4, h4, ⟨z5, r5, h5, ⟨z6, r6, h6, ⟨z7, r7, h7, hr, rfl⟩, rfl⟩, rfl⟩, rfl⟩, rfl⟩, rfl⟩, rfl⟩ := hf
    cases hr
    obtain ⟨a, rfl, ha⟩ := h1.i64 Tryz.underlying3
    obtain ⟨b, rfl, hb⟩ := h2.i64 Tryz.underlying3
    obtain ⟨c, rfl, hc⟩ := h3.i64 Tryz.underlying2
    obtain ⟨d, rfl, hd⟩ := h4.i64 Tryz.underlying2
    obtain ⟨s, rfl, hs⟩ := h5.slice (f := Vl.cells) (Q := fun v => I64 v.n) Tryz.underlying26 fun m x _ hx => vlC hx
    obtain ⟨t, rfl⟩ := h6.str Tryz.underlying9
    obtain ⟨l, rfl, hl⟩ := h7.slice (f := Pr.cells) (Q := Pr.I) Tryz.underlying27 fun k x hk hx => prC k hx
    have e1 : (s.map fun a => pk Tryz.prog 60 a.cells) = s.map Vl.d := List.map_congr_left fun a _ => pk_agg Tryz.underlying60 _
    have e2 : (l.map fun a => pk Tryz.prog 29 a.cells) = l.map Pr.d := List.map_congr_left fun a _ => (pk_agg Tryz.underlying29 _).trans a.d_eq.symm
    rw [e1, e2]
    exact ⟨.mk a b c d s t l, rfl, .mk _ ha hb hc hd hs hl⟩
termination_by n => n
theorem Pr.bulk_pos (p : Pr) : 1 ≤ p.d.bulk := by rw [p.d_eq]; simp [Pr.cells, D.bulk, bulkL]
theorem Pr.lim_of : ∀ (n : Nat) (p : Pr), SizeOf.sizeOf p ≤ n → p.d.bulk ≤ 1048576 → p.Lim
  | 0, p, h, _ => by cases p; simp at h
  | n + 1, p, h, hb => by
    have h1 := bulk_len Pr.d Pr.bulk_pos p.kids
    have e := p.d_eq
    have hk : bulkL (p.kids.map Pr.d) ≤ p.d.bulk := by rw [e]; simp only [Pr.cells, D.bulk, bulkL]; omega
    refine .mk p (by omega) fun k hkm => ?_
    have h2 := bulk_mem (List.mem_map_of_mem (f := Pr.d) hkm)
    exact Pr.lim_of n k (Nat.le_of_lt_succ (Nat.lt_of_lt_of_le (Pr.kid_lt hkm) h)) (by omega)
theorem prD {d : D} (h : HasD Tryz.prog 29 d) (hb : d.bulk ≤ 1048576) : ∃ p : Pr, d = .agg p.cells ∧ p.I ∧ p.Lim := by
  obtain ⟨n, ys, h, rfl⟩ := h
  rw [pk_agg Tryz.underlying29] at hb ⊢
  obtain ⟨p, rfl, hp⟩ := prC n h
  exact ⟨p, rfl, hp, Pr.lim_of _ p (Nat.le_refl _) (by rw [p.d_eq]; exact hb)⟩
end Go.Proofs.YtnoenipdooackaaGreatDoorS
