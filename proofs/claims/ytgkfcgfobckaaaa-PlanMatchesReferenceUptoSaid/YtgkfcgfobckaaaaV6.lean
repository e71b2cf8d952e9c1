/-
  The sixth text of the program logic: lengths, conversions, literals; all operations that only compute, as one function.
  Conditions: none; it speaks of every program.
-/
import Derived.Test.YtgkfcgfobckaaaaV5
import Derived.Laws.BytesString
set_option linter.unusedVariables false
set_option linter.unusedSimpArgs false
namespace Go.Proofs.YtgkfcgfobckaaaaV
open Go

variable {P : Program} {G : Heap} {n B : Nat} {K : Kn} {s : St} {a : Act} {w : World}

/-! ### Lengths, the least, the greatest -/
def vlen (P : Program) (t : Option TypeId) (x : D) : D × Prop :=
  match t with
  | some t => match cutk P t, x with
    | some (0, _, _), .str s => (.int .i64 s.size, True)
    | some (1, _, _), .sl _ xs => (.int .i64 xs.length, True)
    | some (1, _, _), .so _ _ len _ => (.int .i64 len, True)
    | some (2, _, l), _ => (.int .i64 l, True)
    | _, _ => (.any, False)
  | none => (.any, False)

theorem vlen_sound {ty : TypeId} {ts : Array TypeId} {x : D} {u : Value} (hx : Rep K x u) (hc : (vlen P ts[0]? x).2) (w : World) :
    ∃ v, (Builtin.len_ ts ty #[u]).run P w = .ok v w ∧ Rep K (vlen P ts[0]? x).1 v := by
  unfold vlen at hc ⊢
  split at hc
  · rename_i t h0
    split at hc
    · rename_i ht
      cases hx with | str => exact ⟨_, by simp only [Builtin.len_, h0]; simp [run_underlying (cutk0 ht), goInt], .int _ _⟩
    · rename_i ht
      obtain ⟨e, d, hu, _⟩ := cutk1 ht
      cases hx with | sl hn => exact ⟨_, by simp only [Builtin.len_, h0]; simp [run_underlying hu, goInt, hn], .int _ _⟩
    · rename_i ht
      obtain ⟨e, d, hu, _⟩ := cutk1 ht
      cases hx with | so => exact ⟨_, by simp only [Builtin.len_, h0]; simp [run_underlying hu, goInt], .int _ _⟩
    · rename_i ht
      obtain ⟨e, d, hu, _⟩ := cutk2 ht
      exact ⟨_, by simp only [Builtin.len_, h0]; simp [run_underlying hu, goInt], .int _ _⟩
    · exact hc.elim
  · exact hc.elim

def vcap (P : Program) (t : Option TypeId) (x : D) : D × Prop :=
  match t with
  | some t => match cutk P t, x with
    | some (1, _, _), .so _ _ _ c => (.int .i64 c, True)
    | some (1, _, _), .sl .full xs => (.int .i64 xs.length, True)
    | _, _ => (.any, False)
  | none => (.any, False)

theorem vcap_sound {ty : TypeId} {ts : Array TypeId} {x : D} {u : Value} (hx : Rep K x u) (hc : (vcap P ts[0]? x).2) (w : World) :
    ∃ v, (Builtin.cap_ ts ty #[u]).run P w = .ok v w ∧ Rep K (vcap P ts[0]? x).1 v := by
  unfold vcap at hc ⊢
  split at hc
  · rename_i t h0
    split at hc
    · rename_i ht
      obtain ⟨e, d, hu, _⟩ := cutk1 ht
      cases hx with | so => exact ⟨_, by simp only [Builtin.cap_, h0]; simp [run_underlying hu, goInt], .int _ _⟩
    · rename_i xs ht
      obtain ⟨e, d, hu, _⟩ := cutk1 ht
      cases hx with | sl hn hcap hm hl htok =>
        rename_i _ nn c _
        have : nn = c := htok
        exact ⟨.int .i64 xs.length, by simp only [Builtin.cap_, h0]; simp [run_underlying hu, goInt, hn, this], .int _ _⟩
    · exact hc.elim
  · exact hc.elim

def vmm (least : Bool) : List D → D × Prop
  | [.int k x, .int _ y] => (.int k (if least then (if y < x then y else x) else (if x < y then y else x)), True)
  | _ => (.any, False)

theorem vmm_sound {ts : Array TypeId} {ty : TypeId} {least : Bool} {ds : List D} {us : List Value} (hx : RepL K ds us) (hc : (vmm least ds).2) (w : World) :
    ∃ v, (if least then Builtin.min_ ts ty us.toArray else Builtin.max_ ts ty us.toArray).run P w = .ok v w ∧ Rep K (vmm least ds).1 v := by
  unfold vmm at hc ⊢
  split at hc
  · cases hx with | cons h1 t1 => cases t1 with | cons h2 t2 => cases t2 with | nil => cases h1; cases h2; cases least <;> exact ⟨_, rfl, .int _ _⟩
  · exact hc.elim

/-! ### Conversions -/
def byteOfD : D → Int
  | .int _ i => i
  | _ => 0

def isByte : D → Bool
  | .int .u8 _ => true
  | _ => false

/-- The string of a row of numbers. -/
def strOfI (ns : List Int) : ByteArray := ns.foldl (fun r n => r.push (UInt8.ofNat n.toNat)) ByteArray.empty

theorem foldl_push_size : ∀ (ns : List Int) (s : ByteArray), (ns.foldl (fun r n => r.push (UInt8.ofNat n.toNat)) s).size = s.size + ns.length
  | [], s => by simp
  | n :: ns, s => by simp only [List.foldl_cons, foldl_push_size ns, List.length_cons, ByteArray.size_push]; omega

theorem strOfI_size (ns : List Int) : (strOfI ns).size = ns.length := by
  unfold strOfI
  rw [foldl_push_size]
  simp

/-- Of a conversion: 0 to a number, 1 string to string, 2 bytes to string. -/
def cvk (P : Program) (src dst : TypeId) : Option (Nat × IntKind) :=
  match P.underlying src, P.underlying dst with
  | some (.int _), some (.int k) => some (0, k)
  | some .string, some .string => some (1, .u8)
  | some (.slice e), some .string => match P.underlying e with
    | some (.int .u8) => some (2, .u8)
    | _ => none
  | _, _ => none

def vconv (P : Program) (src dst : TypeId) (x : D) : D × Prop :=
  match cvk P src dst, x with
  | some (0, k), .int _ i => (.int k (k.wrap i), True)
  | some (1, _), .str s => (.str s, True)
  | some (2, _), .sl _ xs => (.str (strOfI (xs.map byteOfD)), xs.all isByte = true)
  | _, _ => (.any, False)

theorem bytes_of_D {xs : List D} (h : xs.all isByte = true) : xs = (xs.map byteOfD).map (.int .u8) := by
  induction xs with
  | nil => rfl
  | cons x xs ih =>
    simp only [List.all_cons, Bool.and_eq_true] at h
    obtain ⟨h1, h2⟩ := h
    simp only [List.map_cons]
    rw [← ih h2]
    unfold isByte at h1
    split at h1
    · rfl
    · cases h1

theorem cvk_cases {src dst : TypeId} {c : Nat} {k : IntKind} (h : cvk P src dst = some (c, k)) :
    (c = 0 ∧ ∃ k', P.underlying src = some (.int k') ∧ P.underlying dst = some (.int k)) ∨ (c = 1 ∧ P.underlying src = some .string ∧ P.underlying dst = some .string) ∨ (c = 2 ∧ ∃ e, P.underlying src = some (.slice e) ∧ P.underlying e = some (.int .u8) ∧ P.underlying dst = some .string) := by
  unfold cvk at h
  split at h
  · rename_i k' k'' h1 h2
    cases h
    exact .inl ⟨rfl, k', h1, h2⟩
  · rename_i h1 h2
    cases h
    exact .inr (.inl ⟨rfl, h1, h2⟩)
  · rename_i e h1 h2
    split at h
    · rename_i h3
      cases h
      exact .inr (.inr ⟨rfl, e, h1, h3, h2⟩)
    · cases h
  · cases h

theorem vconv_sound {β : Heap} {ω : List Nat} (h : Rel G K β ω w) {src dst : TypeId} {x : D} {u : Value} (hx : Rep K x u) (hc : (vconv P src dst x).2) :
    ∃ v, (convert src dst u).run P w = .ok v w ∧ Rep K (vconv P src dst x).1 v := by
  unfold vconv at hc ⊢
  split at hc
  · rename_i k k' i ht
    rcases cvk_cases ht with ⟨_, k'', h1, h2⟩ | ⟨h0, _⟩ | ⟨h0, _⟩
    · cases hx
      exact ⟨_, by simp only [convert, Sem.run_bind, run_underlying h1, run_underlying h2, Result.andThen_ok]; rfl, .int _ _⟩
    · cases h0
    · cases h0
  · rename_i k s ht
    rcases cvk_cases ht with ⟨h0, _⟩ | ⟨_, h1, h2⟩ | ⟨h0, _⟩
    · cases h0
    · cases hx with | str _ hs => exact ⟨_, by simp only [convert, Sem.run_bind, run_underlying h1, run_underlying h2, Result.andThen_ok]; rfl, .str _ hs⟩
    · cases h0
  · rename_i k tk xs ht
    rcases cvk_cases ht with ⟨h0, _⟩ | ⟨h0, _⟩ | ⟨_, e, h1, h2, h3⟩
    · cases h0
    · cases h0
    · cases hx with
      | sl hn hcap hm hl htok =>
        rename_i ad nn c sz
        have hb := bytes_of_D hc
        have hsize : (strOfI (xs.map byteOfD)).size ≤ mostLen := by rw [strOfI_size, List.length_map]; omega
        refine ⟨.string (strOfI (xs.map byteOfD)), ?_, .str _ hsize⟩
        rw [run_convert_bytes_string w src dst e ad nn c h1 h2 h3]
        cases ad with
        | none =>
          have hx0 : xs = [] := by
            cases xs with
            | nil => rfl
            | cons x xs => obtain ⟨_, h0, _⟩ := hl 0 x rfl; cases h0
          subst hx0
          rfl
        | some b =>
          refine run_bytesToString w b nn c (xs.map byteOfD) ?_
          have hcell : ∀ j v, ((xs.map byteOfD).map (Value.int .u8))[j]? = some v → w.cell? (b.add j) = some v := by
            intro j v hj
            simp only [List.getElem?_map, Option.map_map, Option.map_eq_some_iff] at hj
            obtain ⟨d, hd, rfl⟩ := hj
            obtain ⟨b', hb', hsp, hsz, hcs⟩ := hl j d hd
            cases hb'
            have hdb : d = .int .u8 (byteOfD d) := by
              have := List.all_eq_true.1 hc d (List.mem_of_getElem? hd)
              unfold isByte at this
              split at this
              · rfl
              · cases this
            have hone : d.cells = [d] := by rw [hdb]; rfl
            rw [hone] at hsz hcs
            simp at hsz
            subst hsz
            have := hcs 0 d rfl
            obtain ⟨v', hv', hr'⟩ := h.holds _ _ _ this
            rw [hdb] at hr'
            cases hr'
            rw [add_none hsp]
            simpa using hv'
          have := run_loadCells_list (P := P) w b _ hcell
          simpa [hn] using this
  · exact hc.elim

/-! ### Literals of structs and arrays -/
def zer (P : Program) (t : TypeId) : Option (List D) := ((P.info? t).bind (·.zero)).map fun z => z.cells.toList.map const1

/-- Where the parts of a struct or an array lie. -/
def plc (P : Program) (t : TypeId) : Option (List (Nat × Nat)) :=
  match P.underlying t with
  | some (.struct fs) => fs.toList.mapM fun f => (P.info? f.type).map fun i => (f.offset, i.size)
  | some (.array l e) => (P.info? e).map fun i => (List.range l).map fun j => (j * i.size, i.size)
  | _ => none

def vfill (pl : List (Nat × Nat)) : List D → List (Nat × D) → Option (List D)
  | cs, [] => some cs
  | cs, (i, d) :: rest => match pl[i]? with
    | some (off, size) => if d.cells.length = size ∧ off + size ≤ cs.length ∧ d.solid = true then vfill pl (splice cs off d.cells) rest else none
    | none => none

def vbuild (P : Program) (t : TypeId) (parts : List (Nat × D)) : D × Prop :=
  match plc P t, zer P t with
  | some pl, some z => match vfill pl z parts with
    | some cs => (.agg cs, True)
    | none => (.any, False)
  | _, _ => (.any, False)

theorem foldl_splice : ∀ (us : List Value) (k off : Nat) (arr : Array Value), off + k + us.length ≤ arr.size →
    ((us.zipIdx k).foldl (fun cs (x : Value × Nat) => cs.setIfInBounds (off + x.2) x.1) arr).toList = splice arr.toList (off + k) us
  | [], k, off, arr, h => by simp [splice]
  | u :: us, k, off, arr, h => by
    simp only [List.zipIdx_cons, List.foldl_cons]
    rw [foldl_splice us (k + 1) off _ (by simp at h ⊢; omega)]
    have e := list_seg_step arr.toList (off + k) u us (by simp at h ⊢; omega)
    simpa [splice, Array.toList_setIfInBounds, Nat.add_assoc] using e

inductive RepP (K : Kn) : List (Nat × D) → List (Nat × Value) → Prop
  | nil : RepP K [] []
  | cons {i : Nat} {d : D} {v : Value} {ds : List (Nat × D)} {vs : List (Nat × Value)} (h : Rep K d v) (t : RepP K ds vs) : RepP K ((i, d) :: ds) ((i, v) :: vs)

theorem fill_sound {pl : List (Nat × Nat)} {place : Nat → Option (Nat × Nat)} (hp : ∀ i x, pl[i]? = some x → place i = some x) : ∀ {parts : List (Nat × D)} {us : List (Nat × Value)} {cs cs' : List D} {arr : Array Value}, RepP K parts us → vfill pl cs parts = some cs' → RepL K cs arr.toList →
    ∃ arr', Instr.fill place arr us = some arr' ∧ RepL K cs' arr'.toList
  | _, _, cs, cs', arr, .nil, h, hr => by
    simp [vfill] at h
    subst h
    exact ⟨arr, rfl, hr⟩
  | _, _, cs, cs', arr, .cons (i := i) (d := d) (v := v) hd ht, h, hr => by
    unfold vfill at h
    split at h
    · rename_i off size hpl
      split at h
      · rename_i hc
        obtain ⟨h1, h2, h3⟩ := hc
        obtain ⟨hcells, hone⟩ := hd.cells_solid h3
        have hl1 := hcells.length
        have hl2 := hr.length
        simp at hl1 hl2
        have hfold := foldl_splice v.cells.toList 0 off arr (by simp; omega)
        have hrs := hr.splice hcells off
        have harr : (v.cells.zipIdx.foldl (fun cs (x : Value × Nat) => cs.setIfInBounds (off + x.2) x.1) arr).toList = splice arr.toList off v.cells.toList := by
          rw [← Array.foldl_toList, Array.toList_zipIdx]
          simpa using hfold
        obtain ⟨arr', h4, h5⟩ := fill_sound hp ht h (arr := v.cells.zipIdx.foldl (fun cs (x : Value × Nat) => cs.setIfInBounds (off + x.2) x.1) arr) (by rw [harr]; exact hrs)
        refine ⟨arr', ?_, h5⟩
        simp only [Instr.fill, hp i _ hpl]
        rw [if_neg (by simp; omega)]
        exact h4
      · cases h
    · cases h

theorem vbuild_sound {t : TypeId} {parts : List (Nat × D)} {us : Array (Nat × Value)} (hp : RepP K parts us.toList) (hc : (vbuild P t parts).2) (w : World) :
    ∃ v, (Instr.build t us).run P w = .ok v w ∧ Rep K (vbuild P t parts).1 v := by
  unfold vbuild at hc ⊢
  split at hc
  · rename_i pl z h1 h2
    split at hc
    · rename_i cs h3
      unfold zer at h2
      obtain ⟨zv, hz, rfl⟩ := Option.map_eq_some_iff.1 h2
      obtain ⟨it, hit, hz⟩ := Option.bind_eq_some_iff.1 hz
      have hzr : RepL K (zv.cells.toList.map const1) zv.cells.toList := rep_const1s K _
      unfold plc at h1
      split at h1
      · rename_i fs hu
        obtain ⟨arr', h4, h5⟩ := fill_sound (place := (pl.toArray[·]?)) (fun i x hx => by simpa using hx) hp h3 hzr
        refine ⟨.agg arr', run_build w t us arr' ?_, ?_⟩
        · simp only [Program.built, hit, hu, hz, h1, h4]
        · have := Rep.agg h5
          simpa using this
      · rename_i l e hu
        obtain ⟨ie, hie, rfl⟩ := Option.map_eq_some_iff.1 h1
        obtain ⟨arr', h4, h5⟩ := fill_sound (place := fun i => some (i * ie.size, ie.size)) (fun i x hx => by
          simp [List.getElem?_map] at hx
          obtain ⟨j, hj, rfl⟩ := hx
          have := List.getElem?_eq_some_iff.1 hj
          obtain ⟨h, h'⟩ := this
          simp at h'
          subst h'
          rfl) hp h3 hzr
        refine ⟨.agg arr', run_build w t us arr' ?_, ?_⟩
        · simp only [Program.built, hit, hu, hz, hie, h4]
        · have := Rep.agg h5
          simpa using this
      · cases h1
    · exact hc.elim
  · exact hc.elim

end Go.Proofs.YtgkfcgfobckaaaaV
