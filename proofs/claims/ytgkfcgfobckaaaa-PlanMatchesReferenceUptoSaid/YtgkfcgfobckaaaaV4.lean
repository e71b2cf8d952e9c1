/-
  The fourth text of the program logic: the remaining operations that only compute.
  Conditions: none; it speaks of every program.
-/
import Derived.Test.YtgkfcgfobckaaaaV3
set_option linter.unusedVariables false
set_option linter.unusedSimpArgs false
namespace Go.Proofs.YtgkfcgfobckaaaaV
open Go

variable {P : Program} {G : Heap} {n B : Nat} {K : Kn} {s : St} {a : Act} {w : World}

/-- A load through an address. -/
def vloadAt (P : Program) (β : Heap) (t : TypeId) : D → D × Prop
  | .pb b o => match β b with
    | some cs => ((vload P t cs o).1, isObj cs = false ∧ (vload P t cs o).2)
    | none => (.any, False)
  | .pf cs => vload P t cs 0
  | _ => (.any, False)

theorem vloadAt_sound {β : Heap} {ω : List Nat} (h : Rel G K β ω w) {t : TypeId} {d : D} {u : Value} (hd : Rep K d u) (hc : (vloadAt P β t d).2) :
    ∃ v, (Instr.loadAt t u).run P w = .ok v w ∧ Rep K (vloadAt P β t d).1 v := by
  cases hd with
  | pb b o =>
    unfold vloadAt at hc ⊢
    simp only at hc ⊢
    cases hb : β b with
    | none => simp [hb] at hc
    | some cs =>
      simp only [hb] at hc ⊢
      obtain ⟨x, hv, hx⟩ := h.box b cs hb
      obtain ⟨vs, e, rfl, hr⟩ := hx.plain hc.1
      have := vload_sound (P := P) (w := w) (K := K) (off := 0) (b := b) hc.2 (fun j d hj => by
        obtain ⟨v, hv1, hv2⟩ := hr.get j d hj
        exact ⟨v, by rw [Nat.zero_add, cell_of hv]; simpa using hv1, hv2⟩)
      simpa [Instr.loadAt, Instr.sureAddr] using this
  | pf hp =>
    rename_i cs b o
    unfold vloadAt at hc ⊢
    simp only at hc ⊢
    have := vload_sound (P := P) (w := w) (K := K) (off := o) (b := b) hc (fun j d hj => h.holds _ _ _ (hp j d hj))
    simpa [Instr.loadAt, Instr.sureAddr] using this
  | _ => exact False.elim hc

/-! ### Fields -/
def foff (P : Program) (t : TypeId) (f : Nat) : Option Nat :=
  match P.underlying t with
  | some (.struct fs) => match fs[f]? with
    | some fd => match P.underlying fd.type with
      | some _ => if P.cellsOf fd.type = 0 then none else some fd.offset
      | none => none
    | none => none
  | _ => none

theorem foff_some {t : TypeId} {f off : Nat} (h : foff P t f = some off) : ∃ fs fd d, P.underlying t = some (.struct fs) ∧ fs[f]? = some fd ∧ P.underlying fd.type = some d ∧ P.cellsOf fd.type ≠ 0 ∧ fd.offset = off := by
  unfold foff at h
  split at h
  · rename_i fs hu
    split at h
    · rename_i fd hf
      split at h
      · rename_i d hd
        split at h
        · cases h
        · rename_i hz
          cases h
          exact ⟨fs, fd, d, hu, hf, hd, hz, rfl⟩
      · cases h
    · cases h
  · cases h

def vfaddr (P : Program) (t : TypeId) (f : Nat) (d : D) : D × Prop :=
  match foff P t f with
  | some off => match d with
    | .pb b o => (.pb b (o + off), True)
    | .pf cs => (.pf (cs.drop off), True)
    | _ => (.any, False)
  | none => (.any, False)

theorem vfaddr_sound {t : TypeId} {f : Nat} {d : D} {u : Value} (hd : Rep K d u) (hc : (vfaddr P t f d).2) (w : World) :
    ∃ v, (Instr.fieldAt t u f).run P w = .ok v w ∧ Rep K (vfaddr P t f d).1 v := by
  unfold vfaddr at hc ⊢
  split at hc
  · rename_i off hf
    obtain ⟨fs, fd, d', h1, h2, h3, h4, h5⟩ := foff_some hf
    have hrun : ∀ b o, (Instr.fieldAt t (.pointer (some ⟨b, o, none⟩)) f).run P w = .ok (.pointer (some ⟨b, o + off, none⟩)) w := fun b o => by
      simp [Instr.fieldAt, run_underlying h1, h2, Instr.sureAddr, fieldPlace, run_size h3, h4, Addr.add_lit, h5]
    cases hd with
    | pb b o => exact ⟨_, hrun b o, .pb b _⟩
    | pf hp =>
      rename_i cs b o
      exact ⟨_, hrun b o, .pf fun j y hy => by rw [Nat.add_assoc]; exact hp _ _ (by simpa using hy)⟩
    | _ => exact False.elim hc
  · exact hc.elim

def vfield (P : Program) (t : TypeId) (f : Nat) (d : D) : D × Prop :=
  match P.underlying t with
  | some (.struct fs) => match fs[f]? with
    | some fd => match d with
      | .agg cs => vload P fd.type cs fd.offset
      | _ => (.any, False)
    | none => (.any, False)
  | _ => (.any, False)

theorem vfield_sound {t : TypeId} {f : Nat} {d : D} {u : Value} (hd : Rep K d u) (hc : (vfield P t f d).2) (w : World) :
    ∃ v, (Instr.field t u f).run P w = .ok v w ∧ Rep K (vfield P t f d).1 v := by
  unfold vfield at hc ⊢
  split at hc
  · rename_i fs hu
    split at hc
    · rename_i fd hf
      cases hd with
      | agg hr =>
        obtain ⟨v, h1, h2⟩ := part_sound (P := P) hr hc w
        exact ⟨v, by simp [Instr.field, run_underlying hu, hf, asAgg, h1], h2⟩
      | _ => exact False.elim hc
    · exact hc.elim
  · exact hc.elim

/-! ### Elements -/
/-- Of a slice's or an array's type: an array?, its length, the cells of an element. -/
def ixt (P : Program) (t : TypeId) : Option (Bool × Nat × Nat) :=
  match P.underlying t with
  | some (.slice e) => match P.underlying e with
    | some _ => some (false, 0, P.cellsOf e)
    | none => none
  | some (.array l e) => match P.underlying e with
    | some _ => some (true, l, P.cellsOf e)
    | none => none
  | _ => none

theorem ixt_slice {t : TypeId} {l m : Nat} (h : ixt P t = some (false, l, m)) : ∃ e d, P.underlying t = some (.slice e) ∧ P.underlying e = some d ∧ P.cellsOf e = m := by
  unfold ixt at h
  split at h
  · rename_i e hu
    split at h
    · rename_i d hd
      cases h
      exact ⟨e, d, hu, hd, rfl⟩
    · cases h
  · rename_i l e hu
    split at h <;> cases h
  · cases h

theorem ixt_array {t : TypeId} {l m : Nat} (h : ixt P t = some (true, l, m)) : ∃ e d, P.underlying t = some (.array l e) ∧ P.underlying e = some d ∧ P.cellsOf e = m := by
  unfold ixt at h
  split at h
  · rename_i e hu
    split at h <;> cases h
  · rename_i l' e hu
    split at h
    · rename_i d hd
      cases h
      exact ⟨e, d, hu, hd, rfl⟩
    · cases h
  · cases h

def viaddr (P : Program) (t : TypeId) (x i : D) : D × Prop :=
  match i with
  | .int _ i => match ixt P t with
    | some (false, _, m) => match x with
      | .sl _ xs => (.pf (xs.getD i.toNat .any).cells, 0 ≤ i ∧ i < xs.length ∧ (xs.getD i.toNat .any).cells.length = m)
      | .so b off len _ => (.pb b (off + i.toNat * m), 0 ≤ i ∧ i < len)
      | _ => (.any, False)
    | some (true, l, m) => match x with
      | .pb b o => (.pb b (o + i.toNat * m), 0 ≤ i ∧ i < l)
      | .pf cs => (.pf (cs.drop (i.toNat * m)), 0 ≤ i ∧ i < l)
      | _ => (.any, False)
    | none => (.any, False)
  | _ => (.any, False)

theorem add_none {ad : Addr} (h : ad.spot = none) (m : Nat) : ad.add m = ⟨ad.block, ad.off + m, none⟩ := by
  cases ad with
  | mk b o sp => simp at h; subst h; exact Addr.add_lit b o m

theorem viaddr_sound {t : TypeId} {x i : D} {u v : Value} (hx : Rep K x u) (hi : Rep K i v) (hc : (viaddr P t x i).2) (w : World) :
    ∃ r, (Instr.indexAt t u v).run P w = .ok r w ∧ Rep K (viaddr P t x i).1 r := by
  cases hi with
  | int k i =>
    unfold viaddr at hc ⊢
    simp only at hc ⊢
    split at hc
    · rename_i l m ht
      obtain ⟨e, d, h1, h2, h3⟩ := ixt_slice ht
      cases hx with
      | sl hn hcap hm hl htok =>
        rename_i tk xs ad nn c sz
        obtain ⟨h4, h5, h6⟩ := hc
        have hlt : i.toNat < xs.length := by omega
        have hg : xs[i.toNat]? = some (xs.getD i.toNat .any) := by simp [hlt]
        obtain ⟨b, rfl, hsp, hsz, hcells⟩ := hl _ _ hg
        have hsz' : sz = m := by rw [← hsz, h6]
        subst hsz'
        refine ⟨.pointer (some (b.add (i.toNat * sz))), ?_, ?_⟩
        · have : i < nn := by omega
          simp [Instr.indexAt, asIntOf, run_underlying h1, h4, this, run_size h2, h3]
        · rw [add_none hsp]
          exact .pf hcells
      | so b off len cap =>
        obtain ⟨h4, h5⟩ := hc
        refine ⟨.pointer (some ⟨b, off + i.toNat * m, none⟩), ?_, .pb _ _⟩
        simp [Instr.indexAt, asIntOf, run_underlying h1, h4, h5, run_size h2, h3, Addr.add_lit]
      | _ => exact False.elim hc
    · rename_i l m ht
      obtain ⟨e, d, h1, h2, h3⟩ := ixt_array ht
      cases hx with
      | pb b o =>
        obtain ⟨h4, h5⟩ := hc
        refine ⟨.pointer (some ⟨b, o + i.toNat * m, none⟩), ?_, .pb _ _⟩
        simp [Instr.indexAt, asIntOf, run_underlying h1, Instr.sureAddr, h4, h5, run_size h2, h3, Addr.add_lit]
      | pf hp =>
        rename_i cs b o
        obtain ⟨h4, h5⟩ := hc
        refine ⟨.pointer (some ⟨b, o + i.toNat * m, none⟩), ?_, .pf fun j y hy => by rw [Nat.add_assoc]; exact hp _ _ (by simpa using hy)⟩
        simp [Instr.indexAt, asIntOf, run_underlying h1, Instr.sureAddr, h4, h5, run_size h2, h3, Addr.add_lit]
      | _ => exact False.elim hc
    · exact hc.elim
  | _ => exact False.elim hc

/-- The byte of a string at an index. -/
def sAt (s : ByteArray) (i : Int) : Int := ((s.data.toList.getD i.toNat 0).toNat : Int)

def vindex (P : Program) (t : TypeId) (x i : D) : D × Prop :=
  match i with
  | .int _ i => match x with
    | .agg cs => match P.underlying t with
      | some (.array l e) => ((vload P e cs (i.toNat * P.cellsOf e)).1, 0 ≤ i ∧ i < l ∧ (vload P e cs (i.toNat * P.cellsOf e)).2)
      | _ => (.any, False)
    | .str s => (.int .u8 (sAt s i), 0 ≤ i ∧ i < s.size ∧ P.underlying t = some .string)
    | _ => (.any, False)
  | _ => (.any, False)

theorem vload_has {t : TypeId} {cs : List D} {o : Nat} (h : (vload P t cs o).2) : ∃ d, P.underlying t = some d := by
  unfold vload at h
  split at h
  · rename_i hl; obtain ⟨d, hd, _⟩ := lk_some hl; exact ⟨d, hd⟩
  · rename_i hl; obtain ⟨d, hd, _⟩ := lk_some hl; exact ⟨d, hd⟩
  · exact h.elim

theorem vindex_sound {t : TypeId} {x i : D} {u v : Value} (hx : Rep K x u) (hi : Rep K i v) (hc : (vindex P t x i).2) (w : World) :
    ∃ r, (Instr.index t u v).run P w = .ok r w ∧ Rep K (vindex P t x i).1 r := by
  cases hi with
  | int k i =>
    cases hx with
    | agg hr =>
      rename_i cs vs
      unfold vindex at hc ⊢
      simp only at hc ⊢
      split at hc
      · rename_i l e hu
        obtain ⟨h1, h2, h3⟩ := hc
        obtain ⟨d, hd⟩ := vload_has h3
        obtain ⟨r, h4, h5⟩ := part_sound (P := P) hr h3 w
        refine ⟨r, ?_, h5⟩
        simp [Instr.index, asIntOf, run_underlying hu, h1, h2, run_size hd, h4]
      · exact hc.elim
    | str s hs =>
      unfold vindex at hc ⊢
      simp only at hc ⊢
      obtain ⟨h1, h2, h3⟩ := hc
      have hlt : i.toNat < s.size := by omega
      refine ⟨.int .u8 (sAt s i), ?_, .int _ _⟩
      have hlen : s.data.toList.length = s.size := by rw [Array.length_toList]; rfl
      have hg : s[i.toNat]? = some (s.data.toList.getD i.toNat 0) := by
        rw [getElem?_pos s i.toNat hlt]
        simp [List.getD, List.getElem?_eq_getElem (show i.toNat < s.data.toList.length by omega)]
        rfl
      simp [Instr.index, asIntOf, run_underlying h3, h1, hg, sAt]
    | _ => exact False.elim hc
  | _ => exact False.elim hc

end Go.Proofs.YtgkfcgfobckaaaaV
