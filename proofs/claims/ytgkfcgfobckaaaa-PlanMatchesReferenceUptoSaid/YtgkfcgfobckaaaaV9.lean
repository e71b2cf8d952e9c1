/-
  The ninth text of the program logic: slices that are made, appended to, copied.
  Conditions: none; it speaks of every program.
-/
import Derived.Test.YtgkfcgfobckaaaaV8
set_option linter.unusedVariables false
set_option linter.unusedSimpArgs false
namespace Go.Proofs.YtgkfcgfobckaaaaV
open Go

variable {P : Program} {G : Heap} {n B : Nat} {K : Kn} {s : St} {a : Act} {w : World}

/-! ### Rows of cells -/
def flat (xs : List D) : List D := xs.flatMap D.cells

theorem flat_length {m : Nat} : ∀ {xs : List D}, (∀ x ∈ xs, x.cells.length = m) → (flat xs).length = xs.length * m
  | [], _ => by simp [flat]
  | x :: xs, h => by
    have h1 := h x (by simp)
    have h2 := flat_length (xs := xs) fun y hy => h y (by simp [hy])
    simp only [flat, List.flatMap_cons, List.length_append, List.length_cons] at h2 ⊢
    rw [h1, h2, Nat.add_mul]; omega

theorem flat_get {m : Nat} : ∀ {xs : List D}, (∀ x ∈ xs, x.cells.length = m) → ∀ {i j : Nat} {x y : D}, xs[i]? = some x → x.cells[j]? = some y → (flat xs)[i * m + j]? = some y
  | [], _, i, j, x, y, h, _ => by simp at h
  | z :: xs, h, 0, j, x, y, hx, hy => by
    simp at hx
    subst hx
    simp only [flat, List.flatMap_cons, Nat.zero_mul, Nat.zero_add]
    rw [List.getElem?_append_left (List.getElem?_eq_some_iff.1 hy).1]
    exact hy
  | z :: xs, h, i + 1, j, x, y, hx, hy => by
    have h1 := h z (by simp)
    simp only [flat, List.flatMap_cons]
    rw [List.getElem?_append_right (by rw [h1, Nat.add_mul]; omega), h1]
    have := flat_get (xs := xs) (fun w hw => h w (by simp [hw])) (i := i) (by simpa using hx) hy
    rw [Nat.add_mul, Nat.one_mul, show i * m + m + j - m = i * m + j by omega]
    exact this

theorem flat_append (xs ys : List D) : flat (xs ++ ys) = flat xs ++ flat ys := by simp [flat]

variable {β : Heap} {ω : List Nat}

/-- The cells of a slice are known. -/
theorem laid_flat {ad : Option Addr} {sz m : Nat} {xs : List D} (h : Laid K ad sz xs) (hm : ∀ x ∈ xs, x.cells.length = m) : ∀ j y, (flat xs)[j]? = some y → ∃ b, ad = some b ∧ b.spot = none ∧ K.cells b.block (b.off + j) y := by
  intro j y hy
  have hj := (List.getElem?_eq_some_iff.1 hy).1
  rw [flat_length hm] at hj
  have hm0 : 0 < m := by
    rcases Nat.eq_zero_or_pos m with h0 | h0
    · subst h0; simp at hj
    · exact h0
  have hi : j / m < xs.length := Nat.div_lt_of_lt_mul (by rw [Nat.mul_comm]; exact hj)
  have hr : j % m < m := Nat.mod_lt _ hm0
  have hx := List.getElem?_eq_getElem hi
  have hxm := hm _ (List.getElem_mem hi)
  have hc := List.getElem?_eq_getElem (show j % m < (xs[j / m]).cells.length by omega)
  have hf := flat_get hm hx hc
  have hjj : j / m * m + j % m = j := by rw [Nat.mul_comm]; exact Nat.div_add_mod j m
  rw [hjj, hy] at hf
  cases hf
  obtain ⟨b, h1, h2, h3, h4⟩ := h _ _ hx
  have h5 := h4 _ _ hc
  rw [h3.symm.trans hxm, Nat.add_assoc, hjj] at h5
  exact ⟨b, h1, h2, h5⟩

/-- What is read there. -/
theorem laid_values (hR : Rel G K β ω w) {ad : Option Addr} {sz m : Nat} {xs : List D} (h : Laid K ad sz xs) (hm : ∀ x ∈ xs, x.cells.length = m) :
    ∃ vs : List Value, RepL K (flat xs) vs ∧ vs.length = xs.length * m ∧ ∀ b, ad = some b → ∀ j v, vs[j]? = some v → w.cell? (b.add j) = some v := by
  have hl := flat_length hm
  have hf := laid_flat h hm
  refine ⟨(List.range (xs.length * m)).map fun j => match ad with | some b => (w.cell? (b.add j)).getD undef | none => undef, RepL.of_get (by simp [hl]) fun i d v hd hv => ?_, by simp, fun b hb j v hv => ?_⟩
  · obtain ⟨b, rfl, hsp, hk⟩ := hf i d hd
    obtain ⟨u, hu, hr⟩ := hR.holds _ _ _ hk
    have hi := (List.getElem?_eq_some_iff.1 hd).1
    rw [hl] at hi
    simp [hi] at hv
    rw [add_none hsp, hu] at hv
    simp at hv
    exact hv ▸ hr
  · subst hb
    have hj : j < xs.length * m := by
      have := (List.getElem?_eq_some_iff.1 hv).1
      simpa using this
    have hd := List.getElem?_eq_getElem (show j < (flat xs).length by omega)
    obtain ⟨b', hb', hsp, hk⟩ := hf j _ hd
    cases hb'
    obtain ⟨u, hu, hr⟩ := hR.holds _ _ _ hk
    simp [hj] at hv
    rw [add_none hsp, hu] at hv ⊢
    simpa using hv

theorem er_cells {d : D} (h : d.solid = true) : d.er.cells = d.cells.map D.er1 ∧ d.er.cells.length = d.cells.length := by
  cases d <;> simp_all [D.solid, D.one, D.er, D.er1, D.cells]

theorem er_solid {d : D} (h : d.solid = true) : d.er.solid = true := by
  cases d <;> simp_all [D.solid, D.one, D.er, D.er1]
  intro x hx
  have := h x hx
  cases x <;> simp_all [D.one, D.er1]

theorem flat_er : ∀ {xs : List D}, (∀ x ∈ xs, x.solid = true) → flat (xs.map D.er) = (flat xs).map D.er1
  | [], _ => rfl
  | x :: xs, h => by
    have h1 := (er_cells (h x (by simp))).1
    have h2 := flat_er (xs := xs) fun y hy => h y (by simp [hy])
    simp only [flat, List.map_cons, List.flatMap_cons, List.map_append] at h2 ⊢
    rw [h1, h2]

theorem solid_cells {x : D} (h : x.solid = true) : ∀ y ∈ x.cells, y.one = true := by
  intro y hy
  cases x <;> simp_all [D.solid, D.one, D.cells]

theorem flat_one {K : Kn} : ∀ {xs : List D} {vs : List Value}, (∀ x ∈ xs, x.solid = true) → RepL K (flat xs) vs → ∀ u ∈ vs, u.oneCell' = true := by
  intro xs vs hs hr u hu
  obtain ⟨i, hi, rfl⟩ := List.getElem_of_mem hu
  have hl := hr.length
  have hd := List.getElem?_eq_getElem (show i < (flat xs).length by omega)
  obtain ⟨v, hv, hrv⟩ := hr.get i _ hd
  rw [List.getElem?_eq_getElem hi] at hv
  cases hv
  refine hrv.oneCell ?_
  have hmem := List.mem_of_getElem? hd
  generalize (flat xs)[i] = y at hmem
  simp only [flat, List.mem_flatMap] at hmem
  obtain ⟨x, hx, hm⟩ := hmem
  exact solid_cells (hs x hx) y hm

/-! ### What is appended -/
/-- Of a slice's type: the cells and the bytes of an element, which has a zero value. -/
def elt (P : Program) (t : TypeId) : Option (Nat × Nat) :=
  match P.underlying t with
  | some (.slice e) => match P.info? e with
    | some i => match i.zero with
      | some z => if z.cells.size = i.size then some (i.size, i.bytes) else none
      | none => none
    | none => none
  | _ => none

theorem elt_some {t : TypeId} {m y : Nat} (h : elt P t = some (m, y)) : ∃ e i z, P.underlying t = some (.slice e) ∧ P.info? e = some i ∧ i.zero = some z ∧ z.cells.size = m ∧ i.size = m ∧ i.bytes = y := by
  unfold elt at h
  split at h
  · rename_i e hu
    split at h
    · rename_i i hi
      split at h
      · rename_i z hz
        split at h
        · rename_i hs
          cases h
          exact ⟨e, i, z, hu, hi, hz, hs, rfl, rfl⟩
        · cases h
      · cases h
    · cases h
  · cases h

/-- The elements that the second argument of an append yields, and under what condition. -/
def vsrc (P : Program) (m : Nat) (u : TypeId) (y : D) : List D × Prop :=
  match cutk P u, y with
  | some (0, _, _), .str s => (s.data.toList.map fun b => .int .u8 b.toNat, m = 1)
  | some (1, _, _), .sl _ ys => (ys.map D.er, ∀ d ∈ ys, d.cells.length = m ∧ d.solid = true)
  | _, _ => ([], False)

theorem vsrc_sound (hR : Rel G K β ω w) {m : Nat} {u : TypeId} {y : D} {v : Value} (hy : Rep K y v) (hc : (vsrc P m u y).2) :
    ∃ news, Src P m u v (vsrc P m u y).1.length news w ∧ RepL K (flat (vsrc P m u y).1) news ∧ (∀ d ∈ (vsrc P m u y).1, d.cells.length = m) ∧ (∀ k, k ≤ (vsrc P m u y).1.length → (Builtin.firstCells m k v).run P w = .ok (news.take (k * m)).toArray w) := by
  unfold vsrc at hc ⊢
  split at hc
  · rename_i s ht
    have hu := cutk0 ht
    have hm1 : m = 1 := hc
    subst hm1
    cases hy with
    | str _ hs =>
      have hlen : (s.data.toList.map fun b => D.int .u8 b.toNat).length = s.size := by rw [List.length_map, Array.length_toList]; rfl
      refine ⟨byteCells s, by rw [hlen]; exact Src.ofString w hu s, ?_, fun d hd => ?_, fun k hk => ?_⟩
      · have : flat (s.data.toList.map fun b => D.int .u8 b.toNat) = s.data.toList.map fun b => D.int .u8 b.toNat := by
          unfold flat
          generalize s.data.toList = l
          induction l with
          | nil => rfl
          | cons b l ih => simp only [List.map_cons, List.flatMap_cons, ih]; rfl
        rw [this]
        unfold byteCells
        exact RepL.of_get (by simp) fun i d v hd hv => by
          simp only [List.getElem?_map, Option.map_eq_some_iff] at hd hv
          obtain ⟨b, h1, rfl⟩ := hd
          obtain ⟨b', h2, rfl⟩ := hv
          rw [h1] at h2; cases h2
          exact .int _ _
      · simp only [List.mem_map] at hd
        obtain ⟨b, _, rfl⟩ := hd
        rfl
      · simp [Builtin.firstCells, byteCells]
        apply Array.ext'
        simp [List.extract_eq_take_drop, List.map_take]
  · rename_i tk ys ht
    obtain ⟨e, d, hu, hd, hm⟩ := cutk1 ht
    have hc' : ∀ d ∈ ys, d.cells.length = m ∧ d.solid = true := hc
    cases hy with
    | sl hn hcap hmax hl htok =>
      rename_i ad nn c sz
      obtain ⟨vs, h1, h2, h3⟩ := laid_values hR hl (fun x hx => (hc' x hx).1)
      have hone := flat_one (fun x hx => (hc' x hx).2) h1
      have her : RepL K (flat (ys.map D.er)) vs := by rw [flat_er fun x hx => (hc' x hx).2]; exact h1.map fun _ _ => Rep.er1
      refine ⟨vs, ?_, her, fun d hd => ?_, fun k hk => ?_⟩
      · rw [List.length_map, hn]
        cases ad with
        | none =>
          have hys : ys = [] := by
            cases ys with
            | nil => rfl
            | cons y ys => obtain ⟨_, h0, _⟩ := hl 0 y rfl; cases h0
          subst hys
          simp at hn
          subst hn
          simp at h2
          subst h2
          exact Src.ofNil w hu c
        | some b => exact Src.ofSlice w hu b nn c vs (by rw [h2, hn]) (h3 b rfl) hone
      · simp only [List.mem_map] at hd
        obtain ⟨x, hx, rfl⟩ := hd
        rw [(er_cells (hc' x hx).2).2]
        exact (hc' x hx).1
      · rw [List.length_map] at hk
        cases ad with
        | none =>
          have hys : ys = [] := by
            cases ys with
            | nil => rfl
            | cons y ys => obtain ⟨_, h0, _⟩ := hl 0 y rfl; cases h0
          subst hys
          simp at hk h2
          subst hk h2
          rw [List.take_nil]
          exact run_firstCells_none w m 0 nn c
        | some b =>
          have hle : k * m ≤ vs.length := by rw [h2]; exact Nat.mul_le_mul_right _ hk
          exact run_firstCells_some w m k b nn c (vs.take (k * m)) (by simp; omega) fun j v hj => by
            rw [List.getElem?_take] at hj
            split at hj
            · exact h3 b rfl j v hj
            · cases hj
  · exact hc.elim

/-! ### append -/
/-- May the slice be appended to? -/
def tokOk (m : Nat) (ω : List Nat) : Tk → Prop
  | .none => False
  | .full => True
  | .live t m' => t ∈ ω ∧ m' = m

def tokGone (ω : List Nat) : Tk → List Nat
  | .live t _ => ω.filter (· ≠ t)
  | _ => ω

theorem tokGone_sub {u : Nat} {tk : Tk} (h : u ∈ tokGone ω tk) : u ∈ ω := by
  unfold tokGone at h
  split at h
  · simp at h; exact h.1
  · exact h

/-- The value of an append that keeps the header: nothing is appended, and there is no room or no token's block. -/
theorem append_same (hR : Rel G K β ω w) {tk : Tk} {xs : List D} {ad : Option Addr} {c m t' : Nat} (hcap : xs.length ≤ c) (hmax : xs.length ≤ mostLen) (hl : Laid K ad m xs) (hnc : xs.length = c) (ht' : K.tok t' = none) (htw : t' ∉ ω) :
    ∃ K', Rel G K' β (t' :: tokGone ω tk) w ∧ Evo K β ω w K' β (t' :: tokGone ω tk) w ∧ Rep K' (.sl (.live t' m) xs) (.slice ad xs.length c) := by
  obtain ⟨h1, h2⟩ := hR.reserve ht' htw
  have hsub : ∀ u, u ∈ t' :: tokGone ω tk → u ∈ t' :: ω := fun u hu => by
    rcases List.mem_cons.1 hu with rfl | hu
    · simp
    · exact List.mem_cons_of_mem _ (tokGone_sub hu)
  refine ⟨K.reserve t', h1.less (fun _ _ h => h) hsub, h2.trans (Evo.less (fun _ _ h => h) hsub), .sl rfl hcap hmax (hl.mono h2.le) ⟨rfl, none, by simp [Kn.reserve], hnc⟩⟩

theorem run_append_zero {t u ty e : TypeId} {i : TypeInfo} (ht : P.underlying t = some (.slice e)) (hi : P.info? e = some i) {base : Option Addr} {len cap : Nat} {x : Value} (hs : Src P i.size u x 0 [] w) (hc : len ≤ cap) :
    (Builtin.append_ #[t, u] ty #[.slice base len cap, x]).run P w = .ok (.slice base len cap) w := by
  rcases hs.kind with ⟨e', hk⟩ | hk <;> cases base <;> simp [Builtin.append_, run_underlying ht, run_underlying hk, sizeOf, typeInfo, hi, hs.len, hc, hs.cells, storeCells]

theorem run_append_in {t u ty e : TypeId} {i : TypeInfo} (ht : P.underlying t = some (.slice e)) (hi : P.info? e = some i) {b off len cap k : Nat} {x : Value} {news : List Value} (hs : Src P i.size u x k news w) (hc : len + k ≤ cap)
    {vs : Array Value} {e' : TypeId} (hb : w.heap[b]? = some (.cells vs e' (0, 0))) (hf : off + len * i.size + news.length ≤ vs.size) :
    (Builtin.append_ #[t, u] ty #[.slice (some ⟨b, off, none⟩) len cap, x]).run P w = .ok (.slice (some ⟨b, off, none⟩) (len + k) cap) (w.setRow b (splice vs.toList (off + len * i.size) news).toArray) := by
  have hst := run_storeCells_at P b (off + len * i.size) e' news 0 vs w hb (by simpa using hf) hs.one
  simp only [Nat.add_zero] at hst
  rcases hs.kind with ⟨e', hk⟩ | hk <;> simp [Builtin.append_, run_underlying ht, run_underlying hk, sizeOf, typeInfo, hi, hs.len, hc, hs.cells, Addr.add_lit, hst, splice]

theorem Src.zero {m : Nat} {u : TypeId} {x : Value} {news : List Value} (hs : Src P m u x 0 news w) : news = [] := by
  have := hs.newsLen
  simp at this
  exact this

theorem vappend_core (hR : Rel G K β ω w) {t u ty : TypeId} {m y : Nat} (he : elt P t = some (m, y)) {tk : Tk} {xs ys : List D} {vx vy : Value} (hx : Rep K (.sl tk xs) vx) {news : List Value} (hs : Src P m u vy ys.length news w) (hnews : RepL K (flat ys) news) (hys : ∀ d ∈ ys, d.cells.length = m)
    (htok : tokOk m ω tk) (hxs : ∀ x ∈ xs, x.cells.length = m) (hlen : (xs.length + ys.length) * y ≤ 140737488355328) (hy0 : 0 < y) :
    ∃ t' v w' K', t' ∉ ω ∧ (Builtin.append_ #[t, u] ty #[vx, vy]).run P w = .ok v w' ∧ Rel G K' β (t' :: tokGone ω tk) w' ∧ Evo K β ω w K' β (t' :: tokGone ω tk) w' ∧ Rep K' (.sl (.live t' m) (xs ++ ys)) v := by
  obtain ⟨e, i, z, h1, h2, h3, h4, h5, h6⟩ := elt_some he
  obtain ⟨t', ht1, ht2⟩ := hR.fresh
  have hneed : xs.length + ys.length ≤ 140737488355328 := Nat.le_trans (Nat.le_mul_of_pos_right _ hy0) hlen
  have hmost : xs.length + ys.length ≤ mostLen := by unfold mostLen; omega
  have hall : ∀ d ∈ xs ++ ys, d.cells.length = m := fun d hd => by
    rcases List.mem_append.1 hd with h | h
    · exact hxs d h
    · exact hys d h
  cases hx with
  | sl hn hcap hmax hl htk =>
    rename_i ad nn c sz
    subst hn
    rw [← h5] at hs
    -- the stride
    have hlm : Laid K ad m xs := fun j x hj => by
      obtain ⟨b, a1, a2, a3, a4⟩ := hl j x hj
      have : sz = m := by rw [← a3, hxs x (List.mem_of_getElem? hj)]
      exact ⟨b, a1, a2, by rw [a3, this], by rw [← this]; exact a4⟩
    by_cases hroom : xs.length + ys.length ≤ c
    · by_cases hnc : xs.length = c
      · -- nothing is appended
        have hys0 : ys = [] := List.eq_nil_of_length_eq_zero (by omega)
        subst hys0
        obtain ⟨K', k1, k2, k3⟩ := append_same (tk := tk) hR hcap hmax hlm hnc ht1 ht2
        have hnil := Src.zero hs
        subst hnil
        refine ⟨t', _, w, K', ht2, run_append_zero (ty := ty) h1 h2 hs hcap, k1, k2, by simpa using k3⟩
      · -- there is room: a token's row
        cases tk with
        | none => exact htok.elim
        | full => exact absurd htk hnc
        | live t0 m0 =>
          obtain ⟨hw, rfl⟩ := htok
          obtain ⟨hszm, x, hx1, hx2⟩ := htk
          subst hszm
          cases x with
          | none => exact absurd hx2 hnc
          | some hd =>
            obtain ⟨b, rfl, hsp, rfl⟩ := hx2
            obtain ⟨blk, off, sp⟩ := b
            simp at hsp
            subst hsp
            obtain ⟨vs, e', b1, b2, b3⟩ := hR.append_room (k := ys.length) hw hx1 hnews (by rw [flat_length hys]) hroom ht1
            have hrun := run_append_in (ty := ty) h1 h2 hs hroom b1 (by rw [h5]; exact b2)
            rw [h5] at hrun
            obtain ⟨f1, f2, f3, f4, f5, f6⟩ := setRow_facts (us := (splice vs.toList (off + xs.length * sz) news).toArray) b1
            obtain ⟨r1, r2⟩ := b3 _ f1 f2 f3 f4 f5 f6
            refine ⟨t', _, _, _, ht2, hrun, r1, r2, .sl (by simp) hroom hmost (fun j x hj => ?_) ⟨rfl, some ⟨blk, off, xs.length + ys.length, c, sz⟩, by simp [Kn.more], ⟨_, rfl, rfl, rfl⟩⟩⟩
            refine ⟨_, rfl, rfl, hall x (List.mem_of_getElem? hj), fun q d hq => ?_⟩
            rw [List.getElem?_append] at hj
            split at hj
            · obtain ⟨b', q1, q2, q3, q4⟩ := hlm j x hj
              cases q1
              exact r2.le.cells _ _ _ (q4 q d hq)
            · rename_i hjx
              have hf := flat_get hys hj hq
              have hlt := (List.getElem?_eq_some_iff.1 hf).1
              have hmul : j * sz = xs.length * sz + (j - xs.length) * sz := by rw [← Nat.add_mul]; congr 1; omega
              simp only [Kn.more, true_and]
              rw [if_pos (by omega)]
              rw [← hf]
              congr 1
              omega
    · -- a new row
      obtain ⟨olds, o1, o2, o3⟩ := laid_values hR hlm hxs
      have hold : (Builtin.firstCells i.size xs.length (.slice ad xs.length c)).run P w.drew = .ok olds.toArray w.drew := by
        cases ad with
        | none =>
          have hx0 : xs = [] := by
            cases xs with
            | nil => rfl
            | cons x xs => obtain ⟨_, q, _⟩ := hl 0 x rfl; cases q
          subst hx0
          simp at o2
          subst o2
          exact run_firstCells_none w.drew i.size 0 0 c
        | some b => exact run_firstCells_some w.drew i.size xs.length b xs.length c olds (by rw [o2, h5]) (by simpa using o3 b rfl)
      have hfit := growslice_fits (need := xs.length + ys.length) (old := c) (bytes := i.bytes) (by omega) (by rw [h6]; exact hlen)
      have hrun := run_append_grow_src (P := P) w t u ty e i z h1 h2 h3 ad xs.length c olds hold vy ys.length news hs (by omega) (by omega) hfit
      have hge := grownCap_ge w (xs.length + ys.length) c e
      have hRd : Rel G K β ω w.drew := hR.same rfl
      have hnl : news.length = ys.length * m := by rw [hs.newsLen, h5]
      have hRep : RepL K (flat (xs ++ ys)) (olds ++ news) := by rw [flat_append]; exact o1.append hnews
      have hlen2 : (olds ++ news).length = (flat (xs ++ ys)).length := hRep.length.symm
      have harr : ((olds ++ news).toArray ++ Builtin.zeroCells z.cells (grownCap w (xs.length + ys.length) c e - (xs.length + ys.length))) = ((olds ++ news) ++ (Builtin.zeroCells z.cells (grownCap w (xs.length + ys.length) c e - (xs.length + ys.length))).toList).toArray := by
        apply Array.ext'
        simp
      rw [harr] at hrun
      obtain ⟨r1, r2⟩ := hRd.new_live (e := e) (vs := (olds ++ news) ++ (Builtin.zeroCells z.cells (grownCap w (xs.length + ys.length) c e - (xs.length + ys.length))).toList) (ds := flat (xs ++ ys)) (t := t') (n := xs.length + ys.length) (c := grownCap w (xs.length + ys.length) c e) (sz := m)
        (by rw [← hlen2, List.take_left]; exact hRep) (by rw [flat_length hall, List.length_append]) hge
        (by simp only [List.length_append, Array.length_toList, size_zeroCells, h4, o2, hnl]; rw [← Nat.add_mul, ← Nat.add_mul]; exact Nat.mul_le_mul_right _ (by omega)) ht1 ht2
      have hsub : ∀ q, q ∈ t' :: tokGone ω tk → q ∈ t' :: ω := fun q hq => by
        rcases List.mem_cons.1 hq with rfl | hq
        · simp
        · exact List.mem_cons_of_mem _ (tokGone_sub hq)
      refine ⟨t', _, _, _, ht2, hrun, r1.less (fun _ _ h => h) hsub, (Evo.drew.trans r2).trans (Evo.less (fun _ _ h => h) hsub), .sl (by simp) hge hmost (fun j x hj => ?_) ⟨rfl, some ⟨w.drew.heap.size, 0, xs.length + ys.length, grownCap w (xs.length + ys.length) c e, m⟩, by simp [Kn.row], ⟨_, rfl, rfl, rfl⟩⟩⟩
      refine ⟨_, rfl, rfl, hall x (List.mem_of_getElem? hj), fun q d hq => ?_⟩
      have hf := flat_get hall hj hq
      simpa [Kn.row] using hf

theorem vappend_sound (hR : Rel G K β ω w) {t u ty : TypeId} {m y : Nat} (he : elt P t = some (m, y)) {tk : Tk} {xs : List D} {dy : D} {vx vy : Value} (hx : Rep K (.sl tk xs) vx) (hy : Rep K dy vy)
    (hsrc : (vsrc P m u dy).2) (htok : tokOk m ω tk) (hxs : ∀ x ∈ xs, x.cells.length = m) (hlen : (xs.length + (vsrc P m u dy).1.length) * y ≤ 140737488355328) (hy0 : 0 < y) :
    ∃ t' v w' K', t' ∉ ω ∧ (Builtin.append_ #[t, u] ty #[vx, vy]).run P w = .ok v w' ∧ Rel G K' β (t' :: tokGone ω tk) w' ∧ Evo K β ω w K' β (t' :: tokGone ω tk) w' ∧ Rep K' (.sl (.live t' m) (xs ++ (vsrc P m u dy).1)) v := by
  obtain ⟨news, hs, hnews, hys, _⟩ := vsrc_sound hR hy hsrc
  exact vappend_core hR he hx hs hnews hys htok hxs hlen hy0

end Go.Proofs.YtgkfcgfobckaaaaV
