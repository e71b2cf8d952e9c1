/-
  The tenth text of the program logic: slice literals, make, copy, the bytes of a string.
  Conditions: none; it speaks of every program.
-/
import Derived.Test.YtgkfcgfobckaaaaV9
import Derived.Great.FillDense
import Derived.IntWalk
set_option linter.unusedVariables false
set_option linter.unusedSimpArgs false
namespace Go.Proofs.YtgkfcgfobckaaaaV
open Go

variable {P : Program} {G : Heap} {n B : Nat} {K : Kn} {s : St} {a : Act} {w : World} {β : Heap} {ω : List Nat}

/-! ### A slice literal -/
def vlit (P : Program) (t : TypeId) (len : Nat) (parts : List (Nat × D)) : D × Prop :=
  match elt P t with
  | some (m, _) => (.sl .full ((parts.map (·.2)).map D.er), parts.map (·.1) = List.range len ∧ (∀ d ∈ parts.map (·.2), d.cells.length = m ∧ d.solid = true) ∧ len * m ≤ 16777216 ∧ 0 < m)
  | none => (.any, False)

theorem RepP.vals {K : Kn} : ∀ {ds : List (Nat × D)} {us : List (Nat × Value)}, RepP K ds us → RepL K (ds.map (·.2)) (us.map (·.2)) ∧ ds.map (·.1) = us.map (·.1)
  | _, _, .nil => ⟨.nil, rfl⟩
  | _, _, .cons h t => ⟨.cons h t.vals.1, by simp [t.vals.2]⟩

theorem zip_range : ∀ (us : List (Nat × Value)) (k : Nat), us.map (·.1) = List.range' k us.length → us = ((us.map (·.2)).zipIdx k).map fun x => (x.2, x.1)
  | [], _, _ => rfl
  | (i, u) :: us, k, h => by
    simp only [List.map_cons, List.length_cons, List.range'_succ, List.cons.injEq] at h
    obtain ⟨h1, h2⟩ := h
    subst h1
    simp only [List.map_cons, List.zipIdx_cons, List.map_cons]
    rw [← zip_range us (i + 1) h2]

theorem repl_flat {K : Kn} : ∀ {ds : List D} {us : List Value}, RepL K ds us → (∀ d ∈ ds, d.solid = true) → RepL K (flat (ds.map D.er)) (us.flatMap fun v => v.cells.toList)
  | _, _, .nil, _ => .nil
  | _, _, .cons (d := d) h t, hs => by
    have h1 := (h.cells_solid (hs d (by simp))).1.map (fun _ _ => Rep.er1)
    rw [← (er_cells (hs d (by simp))).1] at h1
    simp only [flat, List.map_cons, List.flatMap_cons]
    exact h1.append (repl_flat t fun e he => hs e (by simp [he]))

theorem vlit_sound (hR : Rel G K β ω w) {t : TypeId} {len : Nat} {parts : List (Nat × D)} {us : Array (Nat × Value)} (hp : RepP K parts us.toList) (hc : (vlit P t len parts).2) :
    ∃ v w' K', (Instr.buildSlice t len us).run P w = .ok v w' ∧ Rel G K' β ω w' ∧ Evo K β ω w K' β ω w' ∧ Rep K' (vlit P t len parts).1 v := by
  unfold vlit at hc ⊢
  split at hc
  · rename_i m y he
    obtain ⟨hidx, hds, hsmall, hm⟩ := hc
    obtain ⟨e, i, z, h1, h2, h3, h4, h5, h6⟩ := elt_some he
    obtain ⟨hv, hi⟩ := hp.vals
    generalize hdd : parts.map (·.2) = ds at *
    have hlen : us.toList.length = len := by
      have := congrArg List.length (hi.symm.trans hidx)
      simpa using this
    have hdl : ds.length = len := by rw [← hlen, hv.length]; simp
    have hflat := repl_flat hv fun d hd => (hds d hd).2
    have hrow := hR.new_row (e := e) (vs := (us.toList.map (·.2)).flatMap fun v => v.cells.toList) (ds := flat (ds.map D.er)) (by rw [hflat.length, List.take_length]; exact hflat)
    have hcl : ∀ d ∈ ds.map D.er, d.cells.length = m := fun d hd => by
      obtain ⟨x, hx, rfl⟩ := List.mem_map.1 hd
      rw [(er_cells (hds x hx).2).2]; exact (hds x hx).1
    have hrep : Rep (K.row w.heap.size (flat (ds.map D.er)) none) (.sl .full (ds.map D.er)) (.slice (some ⟨w.heap.size, 0, none⟩) len len) := by
      have hmost : len ≤ mostLen := by
        have : len ≤ len * m := Nat.le_mul_of_pos_right _ hm
        unfold mostLen; omega
      refine .sl (sz := m) (by simp [hdl]) (Nat.le_refl _) hmost (fun j x hj => ⟨_, rfl, rfl, hcl x (List.mem_of_getElem? hj), fun q d hq => ?_⟩) rfl
      have hf := flat_get hcl hj hq
      simpa [Kn.row] using hf
    refine ⟨_, _, _, ?_, hrow.1, hrow.2, hrep⟩
    have hvm : ∀ v ∈ us.toList.map (·.2), v.cells.size = i.size := fun v hvv => by
      obtain ⟨j, hj, rfl⟩ := List.getElem_of_mem hvv
      have hl2 := hv.length
      have hd := List.getElem?_eq_getElem (show j < ds.length by omega)
      obtain ⟨v', hv', hr⟩ := hv.get j _ hd
      rw [List.getElem?_eq_getElem hj] at hv'
      cases hv'
      have := ((hr.cells_solid (hds _ (List.mem_of_getElem? hd)).2).1).length
      rw [(hds _ (List.mem_of_getElem? hd)).1, Array.length_toList] at this
      rw [h5]; exact this.symm
    by_cases h0 : len = 0
    · subst h0
      have hnil : us.toList = [] := List.eq_nil_of_length_eq_zero hlen
      have hus : us = #[] := by apply Array.ext'; simpa using hnil
      subst hus
      simp [Instr.buildSlice, run_underlying h1, sizeOf, typeInfo, h2, Instr.fill, newRow]
      have h0 : Array.range 0 = #[] := by apply Array.ext'; simp
      rw [h0, Array.map_empty]
    · have hpos : ¬ len * i.size = 0 := by
        rw [h5]
        exact Nat.mul_ne_zero h0 (by omega)
      refine run_buildSlice w t e len us _ i z h1 h2 h3 (by rw [h5]; omega) hpos ?_
      have hz := zip_range us.toList 0 (by rw [← hi, hidx, hlen, List.range_eq_range'])
      have hfw := Great.fill_whole (s := i.size) (by omega) (us.toList.map (·.2)) ((Array.range (len * i.size)).map (z.cells[· % z.cells.size]!)) hvm (by rw [Array.size_map, Array.size_range, List.length_map, hlen])
      rw [← hz] at hfw
      exact hfw
  · exact hc.elim

/-! ### make -/
/-- Of a slice's type: the zero cells of an element, its bytes. -/
def zel (P : Program) (t : TypeId) : Option (List D × Nat) :=
  match P.underlying t with
  | some (.slice e) => match P.info? e with
    | some i => match i.zero with
      | some z => if z.cells.size = i.size then some (z.cells.toList.map const1, i.bytes) else none
      | none => none
    | none => none
  | _ => none

theorem zel_some {t : TypeId} {zs : List D} {y : Nat} (h : zel P t = some (zs, y)) : ∃ e i z, P.underlying t = some (.slice e) ∧ P.info? e = some i ∧ i.zero = some z ∧ z.cells.size = i.size ∧ zs = z.cells.toList.map const1 ∧ i.bytes = y := by
  unfold zel at h
  split at h
  · rename_i e hu
    split at h
    · rename_i i hi
      split at h
      · rename_i z hz
        split at h
        · rename_i hs
          cases h
          exact ⟨e, i, z, hu, hi, hz, hs, rfl, rfl⟩
        · cases h
      · cases h
    · cases h
  · cases h

/-- The cells of so many zero elements. -/
def zeros (zs : List D) (c : Nat) : List D := (List.replicate c zs).flatten

theorem zeros_length (zs : List D) (c : Nat) : (zeros zs c).length = c * zs.length := by
  simp [zeros, List.length_flatten, List.map_replicate, List.sum_replicate_nat]

theorem zeros_get (zs : List D) : ∀ (c k : Nat), k < c * zs.length → (zeros zs c)[k]? = zs[k % zs.length]?
  | 0, k, h => by simp at h
  | c + 1, k, h => by
    have hz : 0 < zs.length := by
      rcases Nat.eq_zero_or_pos zs.length with h0 | h0
      · rw [h0] at h; simp at h
      · exact h0
    unfold zeros
    rw [List.replicate_succ, List.flatten_cons]
    by_cases hk : k < zs.length
    · rw [List.getElem?_append_left hk, Nat.mod_eq_of_lt hk]
    · rw [List.getElem?_append_right (by omega)]
      have := zeros_get zs c (k - zs.length) (by rw [Nat.add_mul] at h; omega)
      unfold zeros at this
      rw [this, ← Nat.mod_eq_sub_mod (by omega)]

theorem run_make {t : TypeId} {zs : List D} {y : Nat} (hz : zel P t = some (zs, y)) (hzs : 0 < zs.length) {l c : Nat} {k1 k2 : IntKind} (hlc : l ≤ c) (hby : y * c ≤ 281474976710656) (hc : c ≤ 9223372036854775807) (w : World) :
    ∃ (vs : List Value) (e : TypeId), (Instr.makeSlice t (.int k1 l) (.int k2 c)).run P w = .ok (.slice (some ⟨w.heap.size, 0, none⟩) l c) (w.alloc (.cells vs.toArray e)) ∧ ∀ K, RepL K (zeros zs c) vs := by
  obtain ⟨e, i, z, h1, h2, h3, h4, rfl, h6⟩ := zel_some hz
  simp only [List.length_map, Array.length_toList] at hzs
  refine ⟨(List.range (c * i.size)).map fun j => z.cells[j % z.cells.size]!, e, ?_, fun K => RepL.of_get (by rw [zeros_length]; simp [h4]) fun j d v hd hv => ?_⟩
  · have hw1 : IntKind.i64.wrap (l : Int) = l := IntWalk.i64_in _ (by omega)
    have hw2 : IntKind.i64.wrap (c : Int) = c := IntWalk.i64_in _ (by omega)
    have hb1 : ¬ ((c : Int) < 0) := by omega
    have hb2 : ¬ ((281474976710656 : Int) < (i.bytes : Int) * (c : Int)) := by
      rw [h6]
      have : ((y * c : Nat) : Int) ≤ 281474976710656 := by omega
      simpa using this
    have hb3 : ¬ ((l : Int) < 0) := by omega
    have hb4 : ¬ ((c : Int) < (l : Int)) := by omega
    have hask : ∀ w : World, (askRoom (c * i.bytes)).run P w = .ok () w := fun w => by unfold askRoom; split <;> rfl
    by_cases h0 : c * i.size = 0
    · have hc0 : c = 0 := by
        rcases Nat.mul_eq_zero.1 h0 with h | h
        · exact h
        · omega
      subst hc0
      have hl0 : l = 0 := by omega
      subst hl0
      have hw0 : IntKind.i64.wrap 0 = 0 := IntWalk.i64_in 0 (by omega)
      have hask0 : ∀ w : World, (askRoom 0).run P w = .ok () w := fun w => by unfold askRoom; split <;> rfl
      simp [Instr.makeSlice, run_underlying h1, asInt, asIntOf, typeInfo, h2, hw0, hask0, sizeOf, newRow]
      have h0 : Array.range 0 = #[] := by apply Array.ext'; simp
      rw [h0, Array.map_empty]
    · simp [Instr.makeSlice, run_underlying h1, asInt, asIntOf, typeInfo, h2, hw1, hw2, hb1, hb2, hb3, hb4, hask, sizeOf, zeroValue, h3, h0, newRow]
      congr 2
      apply Array.ext'
      simp
  · have hj : j < c * i.size := by
      have := (List.getElem?_eq_some_iff.1 hv).1
      simpa using this
    rw [zeros_get _ _ _ (by simpa [h4] using hj)] at hd
    simp only [List.length_map, Array.length_toList, List.getElem?_map, Option.map_eq_some_iff] at hd
    obtain ⟨u, hu, rfl⟩ := hd
    simp [hj] at hv
    have hm : j % z.cells.size < z.cells.size := Nat.mod_lt _ hzs
    rw [getElem!_pos z.cells _ hm] at hv
    rw [List.getElem?_eq_getElem (by simpa using hm)] at hu
    simp at hu
    rw [← hv, hu]
    exact rep_const1 K u

/-! ### copy -/
theorem vcopy_sound (hR : Rel G K β ω w) {t u ty : TypeId} {m y : Nat} (he : elt P t = some (m, y)) {b off len cap : Nat} {dy : D} {vy : Value} (hy : Rep K dy vy) (hsrc : (vsrc P m u dy).2) {cs : List D} (hb : β b = some cs) (hob : isObj cs = false)
    (hfit : off + (min (vsrc P m u dy).1.length len) * m ≤ cs.length) :
    ∃ w', (Builtin.copy_ #[t, u] ty #[.slice (some ⟨b, off, none⟩) len cap, vy]).run P w = .ok (.int .i64 (min (vsrc P m u dy).1.length len : Nat)) w' ∧
      Rel G K (β.set b (splice cs off (flat ((vsrc P m u dy).1.take (min (vsrc P m u dy).1.length len))))) ω w' ∧ Evo K β ω w K (β.set b (splice cs off (flat ((vsrc P m u dy).1.take (min (vsrc P m u dy).1.length len))))) ω w' := by
  obtain ⟨e, i, z, h1, h2, h3, h4, h5, h6⟩ := elt_some he
  obtain ⟨news, hs, hnews, hys, hf⟩ := vsrc_sound hR hy hsrc
  generalize (vsrc P m u dy).1 = ys at *
  have hk : min ys.length len ≤ ys.length := Nat.min_le_left _ _
  have hft := hf _ hk
  have hln : news.length = ys.length * m := hs.newsLen
  have htk : RepL K (flat (ys.take (min ys.length len))) (news.take (min ys.length len * m)) := by
    have hsplit : flat ys = flat (ys.take (min ys.length len)) ++ flat (ys.drop (min ys.length len)) := by rw [← flat_append, List.take_append_drop]
    have hfl : (flat (ys.take (min ys.length len))).length = min ys.length len * m := by
      rw [flat_length (fun d hd => hys d (List.mem_of_mem_take hd)), List.length_take]
      congr 1
      omega
    have := hnews.take (min ys.length len * m)
    rw [hsplit, ← hfl, List.take_left, hfl] at this
    exact this
  have htl : (news.take (min ys.length len * m)).length = min ys.length len * m := by
    rw [List.length_take, hln]
    exact Nat.min_eq_left (Nat.mul_le_mul_right _ hk)
  obtain ⟨vs, e', b1, b2, b3, b4⟩ := hR.write (o := off) hb hob htk (by rw [htk.length, htl]; exact hfit)
  have hst := run_storeCells_at P b off e' (news.take (min ys.length len * m)) 0 vs w b1 (by simpa using b2) (fun x hx => hs.one x (List.mem_of_mem_take hx))
  simp only [Nat.add_zero] at hst
  obtain ⟨f1, f2, f3, f4, f5, f6⟩ := setRow_facts (us := (splice vs.toList off (news.take (min ys.length len * m))).toArray) b1
  obtain ⟨r1, r2⟩ := b4 _ f1 f2 f3 f4 f5 f6
  refine ⟨_, ?_, r1, r2⟩
  simp only [Builtin.copy_]
  have e1 : (#[t, u] : Array TypeId)[0]? = some t := rfl
  have e2 : (#[Value.slice (some ⟨b, off, none⟩) len cap, vy] : Array Value)[0]? = some (.slice (some ⟨b, off, none⟩) len cap) := rfl
  have e3 : (#[Value.slice (some ⟨b, off, none⟩) len cap, vy] : Array Value)[1]? = some vy := rfl
  rw [e1, e2, e3]
  simp only [Sem.run_bind, run_underlying h1, Result.andThen_ok, hs.len, sizeOf, typeInfo, h2, Sem.run_pure, Sem.run_map, Sem.run, program]
  have e4 : Nat.min ys.length len = min ys.length len := rfl
  rw [e4, h5, hft]
  simp only [Result.andThen_ok, hst]
  simp [splice, goInt]

/-! ### Elements that lie in a box -/
/-- So many elements of m cells. -/
def els (m : Nat) : Nat → List D → List D
  | 0, _ => []
  | n + 1, cs => .agg ((cs.take m).map D.er1) :: els m n (cs.drop m)
theorem els_length (m : Nat) : ∀ (n : Nat) (cs : List D), (els m n cs).length = n
  | 0, _ => rfl
  | n + 1, cs => by simp [els, els_length m n]
theorem els_cells (m : Nat) : ∀ (n : Nat) (cs : List D), n * m ≤ cs.length → ∀ d ∈ els m n cs, d.cells.length = m
  | 0, _, _, d, h => by simp [els] at h
  | n + 1, cs, hl, d, h => by
    rw [Nat.add_mul] at hl
    rcases List.mem_cons.1 h with rfl | h
    · simp [D.cells]; omega
    · exact els_cells m n (cs.drop m) (by rw [List.length_drop]; omega) d h
theorem els_flat (m : Nat) : ∀ (n : Nat) (cs : List D), flat (els m n cs) = (cs.take (n * m)).map D.er1
  | 0, cs => by simp [els, flat]
  | n + 1, cs => by
    have ih := els_flat m n (cs.drop m)
    simp only [flat] at ih ⊢
    simp only [els, List.flatMap_cons, ih, D.cells]
    rw [← List.map_append, show (n + 1) * m = m + n * m by rw [Nat.add_mul]; omega, List.take_add]

theorem box_read (hR : Rel G K β ω w) {b off k : Nat} {cs : List D} (hb : β b = some cs) (hob : isObj cs = false) (hfit : off + k ≤ cs.length) :
    ∃ vs : List Value, RepL K ((cs.drop off).take k) vs ∧ vs.length = k ∧ ∀ j v, vs[j]? = some v → w.cell? ((⟨b, off, none⟩ : Addr).add j) = some v := by
  obtain ⟨o, h1, h2⟩ := hR.box b cs hb
  obtain ⟨vs, e, rfl, hr⟩ := h2.plain hob
  have hl := hr.length
  refine ⟨(vs.toList.drop off).take k, RepL.of_get (by simp [hl]) fun i d v hd hv => ?_, by simp at hl ⊢; omega, fun j v hv => ?_⟩
  · rw [List.getElem?_take] at hd hv
    split at hd
    · rename_i hi
      rw [if_pos hi] at hv
      rw [List.getElem?_drop] at hd hv
      obtain ⟨v', h3, h4⟩ := hr.get _ _ hd
      rw [hv] at h3
      cases h3
      exact h4
    · cases hd
  · rw [add_none rfl, cell_of h1]
    rw [List.getElem?_take] at hv
    split at hv
    · rw [List.getElem?_drop] at hv
      simpa using hv
    · cases hv

theorem bsrc_sound (hR : Rel G K β ω w) {b off len cap m : Nat} {u e' : TypeId} (hu : P.underlying u = some (.slice e')) {cs : List D} (hb : β b = some cs) (hob : isObj cs = false) (hfit : off + len * m ≤ cs.length) (hone : ∀ d ∈ cs, d.one = true) :
    ∃ news, Src P m u (.slice (some ⟨b, off, none⟩) len cap) (els m len (cs.drop off)).length news w ∧ RepL K (flat (els m len (cs.drop off))) news ∧ (∀ d ∈ els m len (cs.drop off), d.cells.length = m) ∧
      (∀ k, k ≤ (els m len (cs.drop off)).length → (Builtin.firstCells m k (.slice (some ⟨b, off, none⟩) len cap)).run P w = .ok (news.take (k * m)).toArray w) := by
  obtain ⟨vs, h1, h2, h3⟩ := box_read hR (k := len * m) hb hob hfit
  refine ⟨vs, ?_, by rw [els_flat]; exact h1.map fun _ _ => Rep.er1, els_cells m len _ (by rw [List.length_drop]; omega), fun k hk => ?_⟩
  rotate_left
  · rw [els_length] at hk
    have hle : k * m ≤ vs.length := by rw [h2]; exact Nat.mul_le_mul_right _ hk
    exact run_firstCells_some w m k _ len cap (vs.take (k * m)) (by simp; omega) fun j v hj => by
      rw [List.getElem?_take] at hj
      split at hj
      · exact h3 j v hj
      · cases hj
  rw [els_length]
  refine Src.ofSlice w hu _ len cap vs h2 h3 fun x hx => ?_
  obtain ⟨i, hi, rfl⟩ := List.getElem_of_mem hx
  have hd := List.getElem?_eq_getElem (show i < ((cs.drop off).take (len * m)).length by have := h1.length; omega)
  obtain ⟨v, hv, hrv⟩ := h1.get i _ hd
  rw [List.getElem?_eq_getElem hi] at hv
  cases hv
  refine hrv.oneCell (hone _ ?_)
  exact List.mem_of_mem_drop (List.mem_of_mem_take (List.mem_of_getElem? hd))

theorem rep_zeros {z : Array Value} (hz : 0 < z.size) (K : Kn) (c : Nat) : RepL K (zeros (z.toList.map const1) c) (Builtin.zeroCells z c).toList := by
  refine RepL.of_get (by rw [zeros_length]; simp [Builtin.zeroCells]) fun j d v hd hv => ?_
  have hj : j < c * z.size := by
    have := (List.getElem?_eq_some_iff.1 hv).1
    simpa [Builtin.zeroCells] using this
  rw [zeros_get _ _ _ (by simpa using hj)] at hd
  simp only [List.length_map, Array.length_toList, List.getElem?_map, Option.map_eq_some_iff] at hd
  obtain ⟨u, hu, rfl⟩ := hd
  simp [Builtin.zeroCells, hj] at hv
  have hm : j % z.size < z.size := Nat.mod_lt _ hz
  rw [getElem!_pos z _ hm] at hv
  rw [List.getElem?_eq_getElem (by simpa using hm)] at hu
  simp at hu
  rw [← hv, hu]
  exact rep_const1 K u

/-- Elements are written behind those of a box. -/
theorem bapp_in (hR : Rel G K β ω w) {t u ty : TypeId} {m y : Nat} (he : elt P t = some (m, y)) {b off len cap : Nat} {ys : List D} {vy : Value} {news : List Value} (hs : Src P m u vy ys.length news w) (hnews : RepL K (flat ys) news) (hys : ∀ d ∈ ys, d.cells.length = m)
    {cs : List D} (hb : β b = some cs) (hob : isObj cs = false) (hfit : off + cap * m ≤ cs.length) (hroom : len + ys.length ≤ cap) :
    ∃ w', (Builtin.append_ #[t, u] ty #[.slice (some ⟨b, off, none⟩) len cap, vy]).run P w = .ok (.slice (some ⟨b, off, none⟩) (len + ys.length) cap) w' ∧
      Rel G K (β.set b (splice cs (off + len * m) (flat ys))) ω w' ∧ Evo K β ω w K (β.set b (splice cs (off + len * m) (flat ys))) ω w' := by
  obtain ⟨e, i, z, h1, h2, h3, h4, h5, h6⟩ := elt_some he
  have hfl := flat_length hys
  have hmul : len * m + ys.length * m ≤ cap * m := by rw [← Nat.add_mul]; exact Nat.mul_le_mul_right _ hroom
  obtain ⟨vs, e', b1, b2, b3, b4⟩ := hR.write (o := off + len * m) hb hob hnews (by rw [hfl]; omega)
  rw [← h5] at hs b2
  have hrun := run_append_in (ty := ty) h1 h2 hs hroom b1 b2
  rw [h5] at hrun
  obtain ⟨f1, f2, f3, f4, f5, f6⟩ := setRow_facts (us := (splice vs.toList (off + len * m) news).toArray) b1
  obtain ⟨r1, r2⟩ := b4 _ f1 f2 f3 f4 f5 f6
  exact ⟨_, hrun, r1, r2⟩

/-- Elements are written behind others, in a new box. -/
theorem bapp_new (hR : Rel G K β ω w) {t u ty : TypeId} {m y : Nat} (he : elt P t = some (m, y)) {zs : List D} (hz : zel P t = some (zs, y)) (hzs : 0 < zs.length) {ad : Option Addr} {len cap : Nat} {ys : List D} {vy : Value} {news : List Value} (hs : Src P m u vy ys.length news w) (hnews : RepL K (flat ys) news)
    {ds : List D} {olds : List Value} (hold : RepL K ds olds) (hol : (Builtin.firstCells m len (.slice ad len cap)).run P w.drew = .ok olds.toArray w.drew) (hfull : cap < len + ys.length) (hle : len ≤ cap) (hlen : (len + ys.length) * y ≤ 140737488355328) (hy0 : 0 < y) :
    ∃ w' cap', len + ys.length ≤ cap' ∧ (Builtin.append_ #[t, u] ty #[.slice ad len cap, vy]).run P w = .ok (.slice (some ⟨w.heap.size, 0, none⟩) (len + ys.length) cap') w' ∧
      Rel G K (β.set w.heap.size (ds ++ flat ys ++ zeros zs (cap' - (len + ys.length)))) ω w' ∧ Evo K β ω w K (β.set w.heap.size (ds ++ flat ys ++ zeros zs (cap' - (len + ys.length)))) ω w' := by
  obtain ⟨e, i, z, h1, h2, h3, h4, h5, h6⟩ := elt_some he
  obtain ⟨e', i', z', g1, g2, g3, g4, g5, g6⟩ := zel_some hz
  rw [h1] at g1; cases g1
  rw [h2] at g2; cases g2
  rw [h3] at g3; cases g3
  have hneed : len + ys.length ≤ 140737488355328 := Nat.le_trans (Nat.le_mul_of_pos_right _ hy0) hlen
  have hfit := growslice_fits (need := len + ys.length) (old := cap) (bytes := i.bytes) (by omega) (by rw [h6]; exact hlen)
  rw [← h5] at hs hol
  have hrun := run_append_grow_src (P := P) w t u ty e i z h1 h2 h3 ad len cap olds hol vy ys.length news hs (by omega) (by omega) hfit
  have hge := grownCap_ge w (len + ys.length) cap e
  have hRd : Rel G K β ω w.drew := hR.same rfl
  have harr : ((olds ++ news).toArray ++ Builtin.zeroCells z.cells (grownCap w (len + ys.length) cap e - (len + ys.length))) = ((olds ++ news) ++ (Builtin.zeroCells z.cells (grownCap w (len + ys.length) cap e - (len + ys.length))).toList).toArray := by
    apply Array.ext'
    simp
  rw [harr] at hrun
  have hzz : 0 < z.cells.size := by rw [g5] at hzs; simpa using hzs
  have hrep : RepL K (ds ++ flat ys ++ zeros zs (grownCap w (len + ys.length) cap e - (len + ys.length))) ((olds ++ news) ++ (Builtin.zeroCells z.cells (grownCap w (len + ys.length) cap e - (len + ys.length))).toList) := by
    rw [g5]
    exact (hold.append hnews).append (rep_zeros hzz K _)
  obtain ⟨r1, r2⟩ := hRd.new_box (e := e) hrep
  exact ⟨_, _, hge, hrun, r1, Evo.drew.trans r2⟩

/-- What an append's second argument yields, be it a row of a variable's cells. -/
def srcOf (P : Program) (β : Heap) (m : Nat) (u : TypeId) (y : D) : List D × Prop :=
  match y with
  | .so b off len cap => match cutk P u with
    | some (1, _, _) => match β b with
      | some cs => (els m len (cs.drop off), isObj cs = false ∧ off + len * m ≤ cs.length ∧ ∀ d ∈ cs, d.one = true)
      | none => ([], False)
    | _ => ([], False)
  | y => vsrc P m u y
theorem srcOf_sl (m : Nat) (u : TypeId) (tk : Tk) (ys : List D) : srcOf P β m u (.sl tk ys) = vsrc P m u (.sl tk ys) := (rfl)
theorem srcOf_str (m : Nat) (u : TypeId) (z : ByteArray) : srcOf P β m u (.str z) = vsrc P m u (.str z) := (rfl)
theorem srcOf_so {m : Nat} {u : TypeId} {b off len cap : Nat} {cs : List D} {i j : Nat} (hu : cutk P u = some (1, i, j)) (hb : β b = some cs) : srcOf P β m u (.so b off len cap) = (els m len (cs.drop off), isObj cs = false ∧ off + len * m ≤ cs.length ∧ ∀ d ∈ cs, d.one = true) := by
  simp only [srcOf, hu, hb]
theorem srcOf_vsrc {m : Nat} {u : TypeId} {y : D} (h : (vsrc P m u y).2) : srcOf P β m u y = vsrc P m u y := by
  cases y <;> first | rfl | skip
  exfalso
  unfold vsrc at h
  split at h <;> first | (rename_i hy; cases hy) | exact h

theorem srcOf_sound (hR : Rel G K β ω w) {m : Nat} {u : TypeId} {y : D} {v : Value} (hy : Rep K y v) (hc : (srcOf P β m u y).2) :
    ∃ news, Src P m u v (srcOf P β m u y).1.length news w ∧ RepL K (flat (srcOf P β m u y).1) news ∧ (∀ d ∈ (srcOf P β m u y).1, d.cells.length = m) ∧ (∀ k, k ≤ (srcOf P β m u y).1.length → (Builtin.firstCells m k v).run P w = .ok (news.take (k * m)).toArray w) := by
  cases y
  case so b off len cap =>
    simp only [srcOf] at hc ⊢
    split at hc
    · rename_i i j hu
      split at hc
      · rename_i cs hb
        obtain ⟨e, d, q1, q2, q3⟩ := cutk1 hu
        cases hy
        simp only [hu, hb]
        exact bsrc_sound hR q1 hb hc.1 hc.2.1 hc.2.2
      · exact hc.elim
    · exact hc.elim
  all_goals (
    exact vsrc_sound hR hy hc)

theorem bcopy_sound (hR : Rel G K β ω w) {t u ty : TypeId} {m y : Nat} (he : elt P t = some (m, y)) {b off len cap : Nat} {dy : D} {vy : Value} (hy : Rep K dy vy) (hsrc : (srcOf P β m u dy).2) {cs : List D} (hb : β b = some cs) (hob : isObj cs = false)
    (hfit : off + (min (srcOf P β m u dy).1.length len) * m ≤ cs.length) :
    ∃ w', (Builtin.copy_ #[t, u] ty #[.slice (some ⟨b, off, none⟩) len cap, vy]).run P w = .ok (.int .i64 (min (srcOf P β m u dy).1.length len : Nat)) w' ∧
      Rel G K (β.set b (splice cs off (flat ((srcOf P β m u dy).1.take (min (srcOf P β m u dy).1.length len))))) ω w' ∧ Evo K β ω w K (β.set b (splice cs off (flat ((srcOf P β m u dy).1.take (min (srcOf P β m u dy).1.length len))))) ω w' := by
  obtain ⟨e, i, z, h1, h2, h3, h4, h5, h6⟩ := elt_some he
  obtain ⟨news, hs, hnews, hys, hf⟩ := srcOf_sound hR hy hsrc
  generalize (srcOf P β m u dy).1 = ys at *
  have hk : min ys.length len ≤ ys.length := Nat.min_le_left _ _
  have hft := hf _ hk
  have hln : news.length = ys.length * m := hs.newsLen
  have htk : RepL K (flat (ys.take (min ys.length len))) (news.take (min ys.length len * m)) := by
    have hsplit : flat ys = flat (ys.take (min ys.length len)) ++ flat (ys.drop (min ys.length len)) := by rw [← flat_append, List.take_append_drop]
    have hfl : (flat (ys.take (min ys.length len))).length = min ys.length len * m := by
      rw [flat_length (fun d hd => hys d (List.mem_of_mem_take hd)), List.length_take]
      congr 1
      omega
    have := hnews.take (min ys.length len * m)
    rw [hsplit, ← hfl, List.take_left, hfl] at this
    exact this
  have htl : (news.take (min ys.length len * m)).length = min ys.length len * m := by
    rw [List.length_take, hln]
    exact Nat.min_eq_left (Nat.mul_le_mul_right _ hk)
  obtain ⟨vs, e', b1, b2, b3, b4⟩ := hR.write (o := off) hb hob htk (by rw [htk.length, htl]; exact hfit)
  have hst := run_storeCells_at P b off e' (news.take (min ys.length len * m)) 0 vs w b1 (by simpa using b2) (fun x hx => hs.one x (List.mem_of_mem_take hx))
  simp only [Nat.add_zero] at hst
  obtain ⟨f1, f2, f3, f4, f5, f6⟩ := setRow_facts (us := (splice vs.toList off (news.take (min ys.length len * m))).toArray) b1
  obtain ⟨r1, r2⟩ := b4 _ f1 f2 f3 f4 f5 f6
  refine ⟨_, ?_, r1, r2⟩
  simp only [Builtin.copy_]
  have e1 : (#[t, u] : Array TypeId)[0]? = some t := rfl
  have e2 : (#[Value.slice (some ⟨b, off, none⟩) len cap, vy] : Array Value)[0]? = some (.slice (some ⟨b, off, none⟩) len cap) := rfl
  have e3 : (#[Value.slice (some ⟨b, off, none⟩) len cap, vy] : Array Value)[1]? = some vy := rfl
  rw [e1, e2, e3]
  simp only [Sem.run_bind, run_underlying h1, Result.andThen_ok, hs.len, sizeOf, typeInfo, h2, Sem.run_pure, Sem.run_map, Sem.run, program]
  have e4 : Nat.min ys.length len = min ys.length len := rfl
  rw [e4, h5, hft]
  simp only [Result.andThen_ok, hst]
  simp [splice, goInt]

/-- An append into a row of a variable's cells, or (if asked for) of one to a row that has no room. -/
def bapR (β : Heap) (m by_ : Nat) (zs : List D) (new : Bool) (x : D) (ys : List D) (k : D → Heap → Prop) : Prop :=
  match x with
  | .so b off len cap => match β b with
    | some cs => isObj cs = false ∧ off + cap * m ≤ cs.length ∧ len ≤ cap ∧ (len + ys.length) * by_ ≤ 140737488355328 ∧
        (len + ys.length ≤ cap → k (.so b off (len + ys.length) cap) (β.set b (splice cs (off + len * m) (flat ys)))) ∧
        (cap < len + ys.length → ∀ cap', len + ys.length ≤ cap' → ∀ b', β b' = none → k (.so b' 0 (len + ys.length) cap') (β.set b' ((cs.drop off).take (len * m) ++ flat ys ++ zeros zs (cap' - (len + ys.length)))))
    | none => False
  | .sl .full xs => new = true ∧ (∀ x ∈ xs, x.cells.length = m) ∧ (xs.length + ys.length) * by_ ≤ 140737488355328 ∧ (ys.length = 0 → k (.sl .full xs) β) ∧
      (0 < ys.length → ∀ cap', xs.length + ys.length ≤ cap' → ∀ b', β b' = none → k (.so b' 0 (xs.length + ys.length) cap') (β.set b' (flat xs ++ flat ys ++ zeros zs (cap' - (xs.length + ys.length)))))
  | _ => False
def bapK (P : Program) (t u : TypeId) (x y : D) (ok : Prop) (new : Bool) (β : Heap) (k : D → Heap → Prop) : Prop :=
  match elt P t, zel P t with
  | some (m, by_), some (zs, by') => ok ∧ by_ = by' ∧ 0 < by_ ∧ 0 < zs.length ∧ (srcOf P β m u y).2 ∧ bapR β m by_ zs new x (srcOf P β m u y).1 k
  | _, _ => False
theorem bapK_at {t u : TypeId} {x y : D} {ok : Prop} {new : Bool} {k : D → Heap → Prop} {m by_ : Nat} {zs : List D} (h : elt P t = some (m, by_)) (h' : zel P t = some (zs, by_)) : bapK P t u x y ok new β k = (ok ∧ 0 < by_ ∧ 0 < zs.length ∧ (srcOf P β m u y).2 ∧ bapR β m by_ zs new x (srcOf P β m u y).1 k) := by
  simp only [bapK, h, h', true_and]

theorem bapK_sound (hR : Rel G K β ω w) {t u ty : TypeId} {x y : D} {ok : Prop} {new : Bool} {k : D → Heap → Prop} {vx vy : Value} (hx : ok → Rep K x vx) (hy : ok → Rep K y vy) (h : bapK P t u x y ok new β k) :
    ∃ d v β' w', k d β' ∧ (Builtin.append_ #[t, u] ty #[vx, vy]).run P w = .ok v w' ∧ Rel G K β' ω w' ∧ Evo K β ω w K β' ω w' ∧ Rep K d v := by
  unfold bapK at h
  split at h
  · rename_i m by_ zs by' he hz
    obtain ⟨h1, rfl, h3, h4, h5, h6⟩ := h
    replace hx := hx h1
    obtain ⟨news, hs, hnews, hys, _⟩ := srcOf_sound hR (hy h1) h5
    generalize (srcOf P β m u y).1 = ys at hs hnews hys h6
    unfold bapR at h6
    split at h6
    · rename_i b off len cap
      split at h6
      · rename_i cs hb
        obtain ⟨a1, a2, a3, a4, a5, a6⟩ := h6
        cases hx
        by_cases hr : len + ys.length ≤ cap
        · obtain ⟨w', r1, r2, r3⟩ := bapp_in (ty := ty) hR he hs hnews hys hb a1 a2 hr
          exact ⟨_, _, _, w', a5 hr, r1, r2, r3, .so _ _ _ _⟩
        · have hm : len * m ≤ cap * m := Nat.mul_le_mul_right _ a3
          have hRd : Rel G K β ω w.drew := hR.same rfl
          obtain ⟨olds, o1, o2, o3⟩ := box_read hRd (k := len * m) (off := off) hb a1 (by omega)
          obtain ⟨w', cap', r0, r1, r2, r3⟩ := bapp_new (ty := ty) (cap := cap) hR he hz h4 hs hnews o1 (run_firstCells_some w.drew m len _ len cap olds o2 o3) (by omega) a3 a4 h3
          exact ⟨_, _, _, w', a6 (by omega) cap' r0 _ (hR.box_none (Nat.le_refl _)), r1, r2, r3, .so _ _ _ _⟩
      · exact h6.elim
    · rename_i xs
      obtain ⟨a0, a2, a3, a5, a4⟩ := h6
      by_cases hz0 : ys.length = 0
      · have hx' := hx
        cases hx with
        | sl hn hcap hmax hl htk =>
          rename_i ad nn c sz
          obtain ⟨e, i, z, g1, g2, g3, g4, g5, g6⟩ := elt_some he
          have hys0 : ys = [] := List.eq_nil_of_length_eq_zero hz0
          subst hys0
          have hnil := Src.zero hs
          subst hnil
          rw [← g5] at hs
          exact ⟨_, _, β, w, a5 hz0, run_append_zero (ty := ty) g1 g2 hs hcap, hR, Evo.refl K β ω w, hx'⟩
      have a1 : 0 < ys.length := Nat.pos_of_ne_zero hz0
      cases hx with
      | sl hn hcap hmax hl htk =>
        rename_i ad nn c sz
        subst hn
        have hnc : xs.length = c := htk
        have hlm : Laid K ad m xs := fun j x hj => by
          obtain ⟨b, c1, c2, c3, c4⟩ := hl j x hj
          have : sz = m := by rw [← c3, a2 x (List.mem_of_getElem? hj)]
          exact ⟨b, c1, c2, by rw [c3, this], by rw [← this]; exact c4⟩
        have hRd : Rel G K β ω w.drew := hR.same rfl
        obtain ⟨olds, o1, o2, o3⟩ := laid_values hRd hlm a2
        have hol : (Builtin.firstCells m xs.length (.slice ad xs.length c)).run P w.drew = .ok olds.toArray w.drew := by
          cases ad with
          | none =>
            have hx0 : xs = [] := by
              cases xs with
              | nil => rfl
              | cons x xs => obtain ⟨_, q, _⟩ := hl 0 x rfl; cases q
            subst hx0
            simp at o2
            subst o2
            exact run_firstCells_none w.drew m 0 0 c
          | some b => exact run_firstCells_some w.drew m xs.length b xs.length c olds o2 (o3 b rfl)
        obtain ⟨w', cap', r0, r1, r2, r3⟩ := bapp_new (ty := ty) hR he hz h4 hs hnews o1 hol (by omega) (by omega) a3 h3
        exact ⟨_, _, _, w', a4 a1 cap' r0 _ (hR.box_none (Nat.le_refl _)), r1, r2, r3, .so _ _ _ _⟩
    · exact h6.elim
  · exact h.elim
theorem bapR_mono {m by_ : Nat} {zs : List D} {new : Bool} {x : D} {ys : List D} {k k' : D → Heap → Prop} (hk : ∀ d β, k d β → k' d β) (h : bapR β m by_ zs new x ys k) : bapR β m by_ zs new x ys k' := by
  unfold bapR at h ⊢
  split
  · split
    · rename_i cs hb
      simp only [hb] at h
      obtain ⟨a1, a2, a3, a4, a5, a6⟩ := h
      exact ⟨a1, a2, a3, a4, fun q => hk _ _ (a5 q), fun q c' q1 b' q2 => hk _ _ (a6 q c' q1 b' q2)⟩
    · rename_i hb; simp only [hb] at h
  · obtain ⟨a0, a1, a2, a3, a4⟩ := h
    exact ⟨a0, a1, a2, fun q => hk _ _ (a3 q), fun q c' q1 b' q2 => hk _ _ (a4 q c' q1 b' q2)⟩
  · rename_i h1 h2
    split at h
    · exact absurd rfl (h1 _ _ _ _)
    · exact absurd rfl (h2 _)
    · exact h
theorem bapK_mono {t u : TypeId} {x y : D} {ok : Prop} {new : Bool} {k k' : D → Heap → Prop} (hk : ∀ d β, k d β → k' d β) (h : bapK P t u x y ok new β k) : bapK P t u x y ok new β k' := by
  unfold bapK at h ⊢
  split at h
  · obtain ⟨h1, h2, h3, h4, h5, h6⟩ := h
    exact ⟨h1, h2, h3, h4, h5, bapR_mono hk h6⟩
  · exact h.elim

end Go.Proofs.YtgkfcgfobckaaaaV
