/-
  The tenth text of the program logic: slice literals, make, copy, the bytes of a string.
  Conditions: none; it speaks of every program.
-/
import Derived.Test.YtnoenipdooackaaDoorV9
import Derived.Great.FillDense
import Derived.IntWalk
set_option linter.unusedVariables false
set_option linter.unusedSimpArgs false
namespace Go.Proofs.YtnoenipdooackaaDoorV
open Go

variable {P : Program} {G : Heap} {n B : Nat} {K : Kn} {s : St} {a : Act} {w : World} {β : Heap} {ω : List Nat}

/-! ### A slice literal -/
def vlit (P : Program) (t : TypeId) (len : Nat) (parts : List (Nat × D)) : D × Prop :=
  match elt P t with
  | some (m, _) => (.sl .full ((parts.map (·.2)).map D.er), parts.map (·.1) = List.range len ∧ (∀ d ∈ parts.map (·.2), d.cells.length = m ∧ d.solid = true) ∧ len * m ≤ 16777216 ∧ 0 < m)
  | none => (.any, False)

theorem RepP.vals {K : Kn} : ∀ {ds : List (Nat × D)} {us : List (Nat × Value)}, RepP K ds us → RepL K (ds.map (·.2)) (us.map (·.2)) ∧ ds.map (·.1) = us.map (·.1)
  | _, _, .nil => ⟨.nil, rfl⟩
  | _, _, .cons h t => ⟨.cons h t.vals.1, by simp [t.vals.2]⟩

theorem zip_range : ∀ (us : List (Nat × Value)) (k : Nat), us.map (·.1) = List.range' k us.length → us = ((us.map (·.2)).zipIdx k).map fun x => (x.2, x.1)
  | [], _, _ => rfl
  | (i, u) :: us, k, h => by
    simp only [List.map_cons, List.length_cons, List.range'_succ, List.cons.injEq] at h
    obtain ⟨h1, h2⟩ := h
    subst h1
    simp only [List.map_cons, List.zipIdx_cons, List.map_cons]
    rw [← zip_range us (i + 1) h2]

theorem repl_flat {K : Kn} : ∀ {ds : List D} {us : List Value}, RepL K ds us → (∀ d ∈ ds, d.solid = true) → RepL K (flat (ds.map D.er)) (us.flatMap fun v => v.cells.toList)
  | _, _, .nil, _ => .nil
  | _, _, .cons (d := d) h t, hs => by
    have h1 := (h.cells_solid (hs d (by simp))).1.map (fun _ _ => Rep.er1)
    rw [← (er_cells (hs d (by simp))).1] at h1
    simp only [flat, List.map_cons, List.flatMap_cons]
    exact h1.append (repl_flat t fun e he => hs e (by simp [he]))

theorem vlit_sound (hR : Rel G K β ω w) {t : TypeId} {len : Nat} {parts : List (Nat × D)} {us : Array (Nat × Value)} (hp : RepP K parts us.toList) (hc : (vlit P t len parts).2) :
    ∃ v w' K', (Instr.buildSlice t len us).run P w = .ok v w' ∧ Rel G K' β ω w' ∧ Evo K β ω w K' β ω w' ∧ Rep K' (vlit P t len parts).1 v := by
  unfold vlit at hc ⊢
  split at hc
  · rename_i m y he
    obtain ⟨hidx, hds, hsmall, hm⟩ := hc
    obtain ⟨e, i, z, h1, h2, h3, h4, h5, h6⟩ := elt_some he
    obtain ⟨hv, hi⟩ := hp.vals
    generalize hdd : parts.map (·.2) = ds at *
    have hlen : us.toList.length = len := by
      have := congrArg List.length (hi.symm.trans hidx)
      simpa using this
    have hdl : ds.length = len := by rw [← hlen, hv.length]; simp
    have hflat := repl_flat hv fun d hd => (hds d hd).2
    have hrow := hR.new_row (e := e) (vs := (us.toList.map (·.2)).flatMap fun v => v.cells.toList) (ds := flat (ds.map D.er)) (by rw [hflat.length, List.take_length]; exact hflat)
    have hcl : ∀ d ∈ ds.map D.er, d.cells.length = m := fun d hd => by
      obtain ⟨x, hx, rfl⟩ := List.mem_map.1 hd
      rw [(er_cells (hds x hx).2).2]; exact (hds x hx).1
    have hrep : Rep (K.row w.heap.size (flat (ds.map D.er)) none) (.sl .full (ds.map D.er)) (.slice (some ⟨w.heap.size, 0, none⟩) len len) := by
      have hmost : len ≤ mostLen := by
        have : len ≤ len * m := Nat.le_mul_of_pos_right _ hm
        unfold mostLen; omega
      refine .sl (sz := m) (by simp [hdl]) (Nat.le_refl _) hmost (fun j x hj => ⟨_, rfl, rfl, hcl x (List.mem_of_getElem? hj), fun q d hq => ?_⟩) rfl
      have hf := flat_get hcl hj hq
      simpa [Kn.row] using hf
    refine ⟨_, _, _, ?_, hrow.1, hrow.2, hrep⟩
    have hvm : ∀ v ∈ us.toList.map (·.2), v.cells.size = i.size := fun v hvv => by
      obtain ⟨j, hj, rfl⟩ := List.getElem_of_mem hvv
      have hl2 := hv.length
      have hd := List.getElem?_eq_getElem (show j < ds.length by omega)
      obtain ⟨v', hv', hr⟩ := hv.get j _ hd
      rw [List.getElem?_eq_getElem hj] at hv'
      cases hv'
      have := ((hr.cells_solid (hds _ (List.mem_of_getElem? hd)).2).1).length
      rw [(hds _ (List.mem_of_getElem? hd)).1, Array.length_toList] at this
      rw [h5]; exact this.symm
    by_cases h0 : len = 0
    · subst h0
      have hnil : us.toList = [] := List.eq_nil_of_length_eq_zero hlen
      have hus : us = #[] := by apply Array.ext'; simpa using hnil
      subst hus
      simp [Instr.buildSlice, run_underlying h1, sizeOf, typeInfo, h2, Instr.fill, newRow]
      have h0 : Array.range 0 = #[] := by apply Array.ext'; simp
      rw [h0, Array.map_empty]
    · have hpos : ¬ len * i.size = 0 := by
        rw [h5]
        exact Nat.mul_ne_zero h0 (by omega)
      refine run_buildSlice w t e len us _ i z h1 h2 h3 (by rw [h5]; omega) hpos ?_
      have hz := zip_range us.toList 0 (by rw [← hi, hidx, hlen, List.range_eq_range'])
      have hfw := Great.fill_whole (s := i.size) (by omega) (us.toList.map (·.2)) ((Array.range (len * i.size)).map (z.cells[· % z.cells.size]!)) hvm (by rw [Array.size_map, Array.size_range, List.length_map, hlen])
      rw [← hz] at hfw
      exact hfw
  · exact hc.elim

/-! ### make -/
/-- Of a slice's type: the zero cells of an element, its bytes. -/
def zel (P : Program) (t : TypeId) : Option (List D × Nat) :=
  match P.underlying t with
  | some (.slice e) => match P.info? e with
    | some i => match i.zero with
      | some z => if z.cells.size = i.size then some (z.cells.toList.map const1, i.bytes) else none
      | none => none
    | none => none
  | _ => none

theorem zel_some {t : TypeId} {zs : List D} {y : Nat} (h : zel P t = some (zs, y)) : ∃ e i z, P.underlying t = some (.slice e) ∧ P.info? e = some i ∧ i.zero = some z ∧ z.cells.size = i.size ∧ zs = z.cells.toList.map const1 ∧ i.bytes = y := by
  unfold zel at h
  split at h
  · rename_i e hu
    split at h
    · rename_i i hi
      split at h
      · rename_i z hz
        split at h
        · rename_i hs
          cases h
          exact ⟨e, i, z, hu, hi, hz, hs, rfl, rfl⟩
        · cases h
      · cases h
    · cases h
  · cases h

/-- The cells of so many zero elements. -/
def zeros (zs : List D) (c : Nat) : List D := (List.replicate c zs).flatten

theorem zeros_length (zs : List D) (c : Nat) : (zeros zs c).length = c * zs.length := by
  simp [zeros, List.length_flatten, List.map_replicate, List.sum_replicate_nat]

theorem zeros_get (zs : List D) : ∀ (c k : Nat), k < c * zs.length → (zeros zs c)[k]? = zs[k % zs.length]?
  | 0, k, h => by simp at h
  | c + 1, k, h => by
    have hz : 0 < zs.length := by
      rcases Nat.eq_zero_or_pos zs.length with h0 | h0
      · rw [h0] at h; simp at h
      · exact h0
    unfold zeros
    rw [List.replicate_succ, List.flatten_cons]
    by_cases hk : k < zs.length
    · rw [List.getElem?_append_left hk, Nat.mod_eq_of_lt hk]
    · rw [List.getElem?_append_right (by omega)]
      have := zeros_get zs c (k - zs.length) (by rw [Nat.add_mul] at h; omega)
      unfold zeros at this
      rw [this, ← Nat.mod_eq_sub_mod (by omega)]

theorem run_make {t : TypeId} {zs : List D} {y : Nat} (hz : zel P t = some (zs, y)) (hzs : 0 < zs.length) {l c : Nat} {k1 k2 : IntKind} (hlc : l ≤ c) (hby : y * c ≤ 281474976710656) (hc : c ≤ 9223372036854775807) (w : World) :
    ∃ (vs : List Value) (e : TypeId), (Instr.makeSlice t (.int k1 l) (.int k2 c)).run P w = .ok (.slice (some ⟨w.heap.size, 0, none⟩) l c) (w.alloc (.cells vs.toArray e)) ∧ ∀ K, RepL K (zeros zs c) vs := by
  obtain ⟨e, i, z, h1, h2, h3, h4, rfl, h6⟩ := zel_some hz
  simp only [List.length_map, Array.length_toList] at hzs
  refine ⟨(List.range (c * i.size)).map fun j => z.cells[j % z.cells.size]!, e, ?_, fun K => RepL.of_get (by rw [zeros_length]; simp [h4]) fun j d v hd hv => ?_⟩
  · have hw1 : IntKind.i64.wrap (l : Int) = l := IntWalk.i64_in _ (by omega)
    have hw2 : IntKind.i64.wrap (c : Int) = c := IntWalk.i64_in _ (by omega)
    have hb1 : ¬ ((c : Int) < 0) := by omega
    have hb2 : ¬ ((281474976710656 : Int) < (i.bytes : Int) * (c : Int)) := by
      rw [h6]
      have : ((y * c : Nat) : Int) ≤ 281474976710656 := by omega
      simpa using this
    have hb3 : ¬ ((l : Int) < 0) := by omega
    have hb4 : ¬ ((c : Int) < (l : Int)) := by omega
    have hask : ∀ w : World, (askRoom (c * i.bytes)).run P w = .ok () w := fun w => by unfold askRoom; split <;> rfl
    by_cases h0 : c * i.size = 0
    · have hc0 : c = 0 := by
        rcases Nat.mul_eq_zero.1 h0 with h | h
        · exact h
        · omega
      subst hc0
      have hl0 : l = 0 := by omega
      subst hl0
      have hw0 : IntKind.i64.wrap 0 = 0 := IntWalk.i64_in 0 (by omega)
      have hask0 : ∀ w : World, (askRoom 0).run P w = .ok () w := fun w => by unfold askRoom; split <;> rfl
      simp [Instr.makeSlice, run_underlying h1, asInt, asIntOf, typeInfo, h2, hw0, hask0, sizeOf, newRow]
      have h0 : Array.range 0 = #[] := by apply Array.ext'; simp
      rw [h0, Array.map_empty]
    · simp [Instr.makeSlice, run_underlying h1, asInt, asIntOf, typeInfo, h2, hw1, hw2, hb1, hb2, hb3, hb4, hask, sizeOf, zeroValue, h3, h0, newRow]
      congr 2
      apply Array.ext'
      simp
  · have hj : j < c * i.size := by
      have := (List.getElem?_eq_some_iff.1 hv).1
      simpa using this
    rw [zeros_get _ _ _ (by simpa [h4] using hj)] at hd
    simp only [List.length_map, Array.length_toList, List.getElem?_map, Option.map_eq_some_iff] at hd
    obtain ⟨u, hu, rfl⟩ := hd
    simp [hj] at hv
    have hm : j % z.cells.size < z.cells.size := Nat.mod_lt _ hzs
    rw [getElem!_pos z.cells _ hm] at hv
    rw [List.getElem?_eq_getElem (by simpa using hm)] at hu
    simp at hu
    rw [← hv, hu]
    exact rep_const1 K u

/-! ### copy -/
theorem vcopy_sound (hR : Rel G K β ω w) {t u ty : TypeId} {m y : Nat} (he : elt P t = some (m, y)) {b off len cap : Nat} {dy : D} {vy : Value} (hy : Rep K dy vy) (hsrc : (vsrc P m u dy).2) {cs : List D} (hb : β b = some cs) (hob : isObj cs = false)
    (hfit : off + (min (vsrc P m u dy).1.length len) * m ≤ cs.length) :
    ∃ w', (Builtin.copy_ #[t, u] ty #[.slice (some ⟨b, off, none⟩) len cap, vy]).run P w = .ok (.int .i64 (min (vsrc P m u dy).1.length len : Nat)) w' ∧
      Rel G K (β.set b (splice cs off (flat ((vsrc P m u dy).1.take (min (vsrc P m u dy).1.length len))))) ω w' ∧ Evo K β ω w K (β.set b (splice cs off (flat ((vsrc P m u dy).1.take (min (vsrc P m u dy).1.length len))))) ω w' := by
  obtain ⟨e, i, z, h1, h2, h3, h4, h5, h6⟩ := elt_some he
  obtain ⟨news, hs, hnews, hys, hf⟩ := vsrc_sound hR hy hsrc
  generalize (vsrc P m u dy).1 = ys at *
  have hk : min ys.length len ≤ ys.length := Nat.min_le_left _ _
  have hft := hf _ hk
  have hln : news.length = ys.length * m := hs.newsLen
  have htk : RepL K (flat (ys.take (min ys.length len))) (news.take (min ys.length len * m)) := by
    have hsplit : flat ys = flat (ys.take (min ys.length len)) ++ flat (ys.drop (min ys.length len)) := by rw [← flat_append, List.take_append_drop]
    have hfl : (flat (ys.take (min ys.length len))).length = min ys.length len * m := by
      rw [flat_length (fun d hd => hys d (List.mem_of_mem_take hd)), List.length_take]
      congr 1
      omega
    have := hnews.take (min ys.length len * m)
    rw [hsplit, ← hfl, List.take_left, hfl] at this
    exact this
  have htl : (news.take (min ys.length len * m)).length = min ys.length len * m := by
    rw [List.length_take, hln]
    exact Nat.min_eq_left (Nat.mul_le_mul_right _ hk)
  obtain ⟨vs, e', b1, b2, b3, b4⟩ := hR.write (o := off) hb hob htk (by rw [htk.length, htl]; exact hfit)
  have hst := run_storeCells_at P b off e' (news.take (min ys.length len * m)) 0 vs w b1 (by simpa using b2) (fun x hx => hs.one x (List.mem_of_mem_take hx))
  simp only [Nat.add_zero] at hst
  obtain ⟨f1, f2, f3, f4, f5, f6⟩ := setRow_facts (us := (splice vs.toList off (news.take (min ys.length len * m))).toArray) b1
  obtain ⟨r1, r2⟩ := b4 _ f1 f2 f3 f4 f5 f6
  refine ⟨_, ?_, r1, r2⟩
  simp only [Builtin.copy_]
  have e1 : (#[t, u] : Array TypeId)[0]? = some t := rfl
  have e2 : (#[Value.slice (some ⟨b, off, none⟩) len cap, vy] : Array Value)[0]? = some (.slice (some ⟨b, off, none⟩) len cap) := rfl
  have e3 : (#[Value.slice (some ⟨b, off, none⟩) len cap, vy] : Array Value)[1]? = some vy := rfl
  rw [e1, e2, e3]
  simp only [Sem.run_bind, run_underlying h1, Result.andThen_ok, hs.len, sizeOf, typeInfo, h2, Sem.run_pure, Sem.run_map, Sem.run, program]
  have e4 : Nat.min ys.length len = min ys.length len := rfl
  rw [e4, h5, hft]
  simp only [Result.andThen_ok, hst]
  simp [splice, goInt]

end Go.Proofs.YtnoenipdooackaaDoorV
