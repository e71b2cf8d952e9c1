/-
  The fifth text of the program logic: slices of slices, lengths, conversions, literals; all operations that only compute, as one function.
  Conditions: none; it speaks of every program.
-/
import Derived.Test.YtgkfcgfobckaaaaV4
import Derived.Laws.Tables
set_option linter.unusedVariables false
set_option linter.unusedSimpArgs false
namespace Go.Proofs.YtgkfcgfobckaaaaV
open Go

variable {P : Program} {G : Heap} {n B : Nat} {K : Kn} {s : St} {a : Act} {w : World}

/-! ### Cutting -/
def ibnd (d : Option D) (dflt : Int) : Int × Prop :=
  match d with
  | none => (dflt, True)
  | some (.int _ i) => (i, True)
  | some _ => (0, False)

/-- Of a type that is cut: 0 a string, 1 a slice, 2 an array; the cells of an element; the array's length. -/
def cutk (P : Program) (t : TypeId) : Option (Nat × Nat × Nat) :=
  match P.underlying t with
  | some .string => some (0, 0, 0)
  | some (.slice e) => match P.underlying e with
    | some _ => some (1, P.cellsOf e, 0)
    | none => none
  | some (.array l e) => match P.underlying e with
    | some _ => some (2, P.cellsOf e, l)
    | none => none
  | _ => none

/-- A cut of a slice without room and without elements has no room. -/
def cut0 : Tk → List D → Option D → Option D → Tk
  | .full, [], none, some _ => .full
  | _, _, _, _ => .none
theorem cut0_none (xs : List D) (l h : Option D) : cut0 .none xs l h = .none := rfl
theorem cut0_live (t m : Nat) (xs : List D) (l h : Option D) : cut0 (.live t m) xs l h = .none := rfl
theorem cut0_cons (tk : Tk) (x : D) (xs : List D) (l h : Option D) : cut0 tk (x :: xs) l h = .none := by cases tk <;> rfl
theorem cut0_lo (tk : Tk) (xs : List D) (d : D) (h : Option D) : cut0 tk xs (some d) h = .none := by cases tk <;> cases xs <;> rfl
theorem cut0_hi (tk : Tk) (xs : List D) (l : Option D) : cut0 tk xs l none = .none := by cases tk <;> cases xs <;> cases l <;> rfl
theorem cut0_nil (d : D) : cut0 .full [] none (some d) = .full := rfl

def vslice (P : Program) (t : TypeId) (x : D) (lo hi mx : Option D) : D × Prop :=
  match cutk P t, x with
  | some (0, _, _), .str s => (.str (s.extract (ibnd lo 0).1.toNat (ibnd hi s.size).1.toNat), (ibnd lo 0).2 ∧ (ibnd hi s.size).2 ∧ 0 ≤ (ibnd lo 0).1 ∧ (ibnd lo 0).1 ≤ (ibnd hi s.size).1 ∧ (ibnd hi s.size).1 ≤ s.size ∧ mx = none)
  | some (1, m, _), .sl tk xs => match mx with
    | none => (.sl (cut0 tk xs lo hi) ((xs.drop (ibnd lo 0).1.toNat).take ((ibnd hi xs.length).1.toNat - (ibnd lo 0).1.toNat)), (ibnd lo 0).2 ∧ (ibnd hi xs.length).2 ∧ 0 ≤ (ibnd lo 0).1 ∧ (ibnd lo 0).1 ≤ (ibnd hi xs.length).1 ∧ (ibnd hi xs.length).1 ≤ xs.length ∧ ∀ x ∈ xs, x.cells.length = m)
    | some (.int k i) => (.sl .full ((xs.drop (ibnd lo 0).1.toNat).take (i.toNat - (ibnd lo 0).1.toNat)), (ibnd lo 0).2 ∧ (∃ k', hi = some (.int k' i)) ∧ 0 ≤ (ibnd lo 0).1 ∧ (ibnd lo 0).1 ≤ i ∧ i ≤ xs.length ∧ ∀ x ∈ xs, x.cells.length = m)
    | some _ => (.any, False)
  | some (1, m, _), .so b off len cap => (.so b (if cap = (ibnd lo 0).1.toNat then off else off + (ibnd lo 0).1.toNat * m) ((ibnd hi len).1.toNat - (ibnd lo 0).1.toNat) (cap - (ibnd lo 0).1.toNat), (ibnd lo 0).2 ∧ (ibnd hi len).2 ∧ 0 ≤ (ibnd lo 0).1 ∧ (ibnd lo 0).1 ≤ (ibnd hi len).1 ∧ (ibnd hi len).1 ≤ cap ∧ mx = none)
  | some (2, m, l), .pb b o => (.so b (if l = (ibnd lo 0).1.toNat then o else o + (ibnd lo 0).1.toNat * m) ((ibnd hi l).1.toNat - (ibnd lo 0).1.toNat) (l - (ibnd lo 0).1.toNat), (ibnd lo 0).2 ∧ (ibnd hi l).2 ∧ 0 ≤ (ibnd lo 0).1 ∧ (ibnd lo 0).1 ≤ (ibnd hi l).1 ∧ (ibnd hi l).1 ≤ l ∧ mx = none)
  | _, _ => (.any, False)

/-- A bound, as an operand's value tells it. -/
def Bnd (v : Option Value) (dflt i : Int) : Prop := (v = none ∧ i = dflt) ∨ ∃ k, v = some (.int k i)

def RepO (K : Kn) (d : Option D) (v : Option Value) : Prop := (d = none ∧ v = none) ∨ ∃ x u, d = some x ∧ v = some u ∧ Rep K x u

theorem Bnd.of {d : Option D} {v : Option Value} {dflt : Int} (h : RepO K d v) (hc : (ibnd d dflt).2) : Bnd v dflt (ibnd d dflt).1 := by
  rcases h with ⟨rfl, rfl⟩ | ⟨x, u, rfl, rfl, h⟩
  · exact .inl ⟨rfl, rfl⟩
  · cases h with
    | int k i => exact .inr ⟨k, rfl⟩
    | _ => exact False.elim hc

theorem run_bounds {b : Bool} {len cap : Nat} {lo hi : Option Value} {l h : Int} (hl : Bnd lo 0 l) (hh : Bnd hi len h) (h0 : 0 ≤ l) (h1 : l ≤ h) (h2 : h ≤ cap) (w : World) :
    (Instr.sliceBounds b len cap lo hi none).run P w = .ok (l.toNat, h.toNat, cap) w := by
  have h3 : 0 ≤ h := by omega
  rcases hh with ⟨rfl, rfl⟩ | ⟨k, rfl⟩
  · rcases hl with ⟨rfl, rfl⟩ | ⟨k, rfl⟩
    · simp [Instr.sliceBounds]
    · simp [Instr.sliceBounds, Instr.sliceBound, asIntOf, h0, h1]
  · rcases hl with ⟨rfl, rfl⟩ | ⟨k', rfl⟩
    · simp [Instr.sliceBounds, Instr.sliceBound, asIntOf, h3, h2]
    · have hmx : max h 0 = h := by omega
      simp [Instr.sliceBounds, Instr.sliceBound, asIntOf, h0, h1, hmx, h3, h2]

theorem run_bounds3 {len cap : Nat} {lo : Option Value} {l h : Int} {k k' : IntKind} (hl : Bnd lo 0 l) (h0 : 0 ≤ l) (h1 : l ≤ h) (h2 : h ≤ cap) (w : World) :
    (Instr.sliceBounds true len cap lo (some (.int k h)) (some (.int k' h))).run P w = .ok (l.toNat, h.toNat, h.toNat) w := by
  have h3 : 0 ≤ h := by omega
  have hmx : max h 0 = h := by omega
  rcases hl with ⟨rfl, rfl⟩ | ⟨k'', rfl⟩
  · simp [Instr.sliceBounds, Instr.sliceBound, asIntOf, h3, h2, hmx]
  · simp [Instr.sliceBounds, Instr.sliceBound, asIntOf, h3, h2, hmx, h0, h1]

theorem Laid.cut {ad : Option Addr} {sz m l h : Nat} {xs : List D} (hl : Laid K ad sz xs) (hm : ∀ x ∈ xs, x.cells.length = m) (hlh : l ≤ h) (hh : h ≤ xs.length) (c : Nat) (hc : xs.length ≤ c) (c' : Nat) (hc' : c' = c ∨ c' = h) :
    Laid K (if c' = l then ad else ad.map (·.add (l * m))) sz ((xs.drop l).take (h - l)) := by
  intro i x hx
  rw [List.getElem?_take] at hx
  split at hx
  · rename_i hi
    rw [List.getElem?_drop] at hx
    obtain ⟨b, rfl, hsp, hsz, hcells⟩ := hl _ _ hx
    have hm' : m = sz := by rw [← hsz, hm x (List.mem_of_getElem? hx)]
    subst hm'
    have hne : c' ≠ l := by omega
    rw [if_neg hne]
    refine ⟨b.add (l * m), rfl, by rw [add_none hsp], hsz, fun j y hy => ?_⟩
    rw [add_none hsp]
    have := hcells j y hy
    rw [Nat.add_mul] at this
    rw [show b.off + l * m + i * m + j = b.off + (l * m + i * m) + j by omega]
    exact this
  · cases hx

theorem cutk0 {t : TypeId} {a b : Nat} (h : cutk P t = some (0, a, b)) : P.underlying t = some .string := by
  unfold cutk at h
  split at h
  · assumption
  · split at h <;> simp at h
  · split at h <;> simp at h
  · cases h

theorem cutk1 {t : TypeId} {m b : Nat} (h : cutk P t = some (1, m, b)) : ∃ e d, P.underlying t = some (.slice e) ∧ P.underlying e = some d ∧ P.cellsOf e = m := by
  unfold cutk at h
  split at h
  · simp at h
  · rename_i e hu
    split at h
    · rename_i d hd
      simp at h
      exact ⟨e, d, hu, hd, h.1⟩
    · simp at h
  · split at h <;> simp at h
  · cases h

theorem cutk2 {t : TypeId} {m l : Nat} (h : cutk P t = some (2, m, l)) : ∃ e d, P.underlying t = some (.array l e) ∧ P.underlying e = some d ∧ P.cellsOf e = m := by
  unfold cutk at h
  split at h
  · simp at h
  · split at h <;> simp at h
  · rename_i l' e hu
    split at h
    · rename_i d hd
      simp at h
      obtain ⟨h1, h2⟩ := h
      subst h2
      exact ⟨e, d, hu, hd, h1⟩
    · simp at h
  · cases h

theorem size_extract (s : ByteArray) (l h : Nat) : (s.extract l h).size ≤ s.size := by
  rw [ByteArray.size_extract]; omega

theorem vslice_sound {t : TypeId} {x : D} {u : Value} {lo hi mx : Option D} {vlo vhi vmx : Option Value} (hx : Rep K x u) (hlo : RepO K lo vlo) (hhi : RepO K hi vhi) (hmx : RepO K mx vmx) (hc : (vslice P t x lo hi mx).2) (w : World) :
    ∃ r, (Instr.sliceAt t u vlo vhi vmx).run P w = .ok r w ∧ Rep K (vslice P t x lo hi mx).1 r := by
  unfold vslice at hc ⊢
  split at hc
  · rename_i _ _ s ht
    have hu := cutk0 ht
    cases hx with
    | str _ hs =>
      obtain ⟨h1, h2, h3, h4, h5, rfl⟩ := hc
      rcases hmx with ⟨_, rfl⟩ | ⟨_, _, hq, _⟩
      · have hb := run_bounds (P := P) (b := false) (len := s.size) (cap := s.size) (Bnd.of hlo h1) (Bnd.of hhi h2) h3 h4 h5 w
        refine ⟨.string (s.extract (ibnd lo 0).1.toNat (ibnd hi s.size).1.toNat), ?_, .str _ (Nat.le_trans (size_extract _ _ _) hs)⟩
        simp [Instr.sliceAt, Instr.slice, run_underlying hu, hb]
      · cases hq
  · rename_i m _ tk xs ht
    obtain ⟨e, d, hu, hd, hm⟩ := cutk1 ht
    cases hx with
    | sl hn hcap hm' hl htok =>
      rename_i ad nn c sz
      subst hn
      split at hc
      · obtain ⟨h1, h2, h3, h4, h5, h6⟩ := hc
        rcases hmx with ⟨_, rfl⟩ | ⟨_, _, hq, _⟩
        · have hb := run_bounds (P := P) (b := true) (len := xs.length) (cap := c) (Bnd.of hlo h1) (Bnd.of hhi h2) h3 h4 (by omega) w
          refine ⟨.slice (if c = (ibnd lo 0).1.toNat then ad else ad.map (·.add ((ibnd lo 0).1.toNat * m))) ((ibnd hi xs.length).1.toNat - (ibnd lo 0).1.toNat) (c - (ibnd lo 0).1.toNat), ?_, ?_⟩
          · simp [Instr.sliceAt, Instr.slice, run_underlying hu, hb, run_size hd, hm]
          · refine .sl (by simp; omega) (by omega) (by omega) (hl.cut h6 (by omega) (by omega) c hcap c (.inl rfl)) ?_
            cases tk with
            | none => trivial
            | live t' m' => trivial
            | full =>
              cases xs with
              | cons x xs => trivial
              | nil =>
                have hc0 : ([] : List D).length = c := htok
                have hcut : cut0 .full [] lo hi = .full ∨ cut0 .full [] lo hi = .none := by cases lo <;> cases hi <;> simp [cut0]
                rcases hcut with hcut | hcut <;> rw [hcut]
                · show _ = _
                  simp only [List.length_nil] at h4 h5 hc0 ⊢
                  omega
                · trivial
        · cases hq
      · rename_i k i
        obtain ⟨h1, ⟨k', rfl⟩, h3, h4, h5, h6⟩ := hc
        rcases hmx with ⟨hq, _⟩ | ⟨_, vm, hq, rfl, hvm⟩
        · cases hq
        · cases hq
          cases hvm
          rcases hhi with ⟨hq, _⟩ | ⟨_, vh, hq, rfl, hvh⟩
          · cases hq
          · cases hq
            cases hvh
            have hb := run_bounds3 (P := P) (len := xs.length) (cap := c) (k := k') (k' := k) (Bnd.of hlo h1) h3 h4 (by omega) w
            refine ⟨.slice (if i.toNat = (ibnd lo 0).1.toNat then ad else ad.map (·.add ((ibnd lo 0).1.toNat * m))) (i.toNat - (ibnd lo 0).1.toNat) (i.toNat - (ibnd lo 0).1.toNat), ?_, ?_⟩
            · simp [Instr.sliceAt, Instr.slice, run_underlying hu, hb, run_size hd, hm]
            · exact .sl (by simp; omega) (Nat.le_refl _) (by omega) (hl.cut h6 (by omega) (by omega) c hcap i.toNat (.inr rfl)) rfl
      · exact hc.elim
  · rename_i m _ b off len cap ht
    obtain ⟨e, d, hu, hd, hm⟩ := cutk1 ht
    cases hx with
    | so =>
      obtain ⟨h1, h2, h3, h4, h5, rfl⟩ := hc
      rcases hmx with ⟨_, rfl⟩ | ⟨_, _, hq, _⟩
      · have hb := run_bounds (P := P) (b := true) (len := len) (cap := cap) (Bnd.of hlo h1) (Bnd.of hhi h2) h3 h4 (by omega) w
        refine ⟨.slice (some ⟨b, if cap = (ibnd lo 0).1.toNat then off else off + (ibnd lo 0).1.toNat * m, none⟩) ((ibnd hi len).1.toNat - (ibnd lo 0).1.toNat) (cap - (ibnd lo 0).1.toNat), ?_, .so _ _ _ _⟩
        simp only [Instr.sliceAt, Sem.run_bind, run_underlying hu, Result.andThen_ok, Instr.slice, hb, run_size hd, hm]
        split <;> simp [Addr.add_lit, *]
      · cases hq
  · rename_i m l b o ht
    obtain ⟨e, d, hu, hd, hm⟩ := cutk2 ht
    cases hx with
    | pb =>
      obtain ⟨h1, h2, h3, h4, h5, rfl⟩ := hc
      rcases hmx with ⟨_, rfl⟩ | ⟨_, _, hq, _⟩
      · have hb := run_bounds (P := P) (b := false) (len := l) (cap := l) (Bnd.of hlo h1) (Bnd.of hhi h2) h3 h4 (by omega) w
        refine ⟨.slice (some ⟨b, if l = (ibnd lo 0).1.toNat then o else o + (ibnd lo 0).1.toNat * m, none⟩) ((ibnd hi l).1.toNat - (ibnd lo 0).1.toNat) (l - (ibnd lo 0).1.toNat), ?_, .so _ _ _ _⟩
        simp only [Instr.sliceAt, Sem.run_bind, run_underlying hu, Result.andThen_ok, Instr.sureAddr, Sem.run_pure, hb, run_size hd, hm]
        split <;> simp [Addr.add_lit, *]
      · cases hq
  · exact hc.elim

end Go.Proofs.YtgkfcgfobckaaaaV
