import Derived.Test.YtpblgfgcoamgmaaVC
import Derived.Below
import Derived.Carry
import Derived.JoinedCond
import Derived.OpenShut
import Derived.ChangeArms
set_option linter.unusedVariables false
set_option linter.unusedSimpArgs false
/-
  The join, first text: what the data that a row reads say of memory: the abstract values of arguments.
  Conditions: none; it speaks of every program.
-/
namespace Go.Proofs.YtpblgfgcoamgmaaV
open Go Go.ChangeShapes Go.RowKit

/-- The abstract value stands for the machine's value in this world. -/
inductive RW (w : World) : D → Value → Prop
  | int (k : IntKind) (n : Int) : RW w (.int k n) (.int k n)
  | bool (b : Bool) : RW w (.bool b) (.bool b)
  | str (s : ByteArray) (h : s.size ≤ mostLen) : RW w (.str s) (.string s)
  | nil : RW w (.sl .none []) (.slice none 0 0)
  | sl {xs : List D} {ad : Addr} {n c sz : Nat} (vs : Nat → Nat → Value) (hn : xs.length = n) (hc : n ≤ c) (hm : n ≤ mostLen) (hs : ∀ (i : Nat) (x : D), xs[i]? = some x → ad.spot = none ∧ x.cells.length = sz)
      (h2 : ∀ (i : Nat) (x : D) (j : Nat) (y : D), xs[i]? = some x → x.cells[j]? = some y → w.cell? ⟨ad.block, ad.off + i * sz + j, none⟩ = some (vs i j))
      (h3 : ∀ (i : Nat) (x : D) (j : Nat) (y : D), xs[i]? = some x → x.cells[j]? = some y → RW w y (vs i j)) : RW w (.sl .none xs) (.slice (some ad) n c)

/-- All that is true of a world, known for good. -/
def K0 (w : World) : Kn where
  cells := fun b o d => ∃ v, w.cell? ⟨b, o, none⟩ = some v ∧ RW w d v
  tok := fun _ => none

theorem RW.rep {w : World} {d : D} {v : Value} (h : RW w d v) : Rep (K0 w) d v := by
  cases h with
  | int k n => exact .int k n
  | bool b => exact .bool b
  | str s h => exact .str s h
  | nil => exact .sl rfl (Nat.le_refl _) (Nat.zero_le _) (sz := 0) (fun i x h => by simp at h) trivial
  | sl vs hn hc hm hs h2 h3 =>
    rename_i xs ad n c sz
    refine .sl (sz := sz) hn hc hm (fun i x hx => ?_) trivial
    obtain ⟨q1, q2⟩ := hs i x hx
    exact ⟨_, rfl, q1, q2, fun j y hy => ⟨_, h2 i x j y hx hy, h3 i x j y hx hy⟩⟩

theorem K0.rel {G : Heap} {w : World} (hG : ∀ g cs, G g = some cs → ∀ (o : Nat) d, cs[o]? = some d → (K0 w).cells g o d) : Rel G (K0 w) Heap.nil [] w :=
  ⟨fun b o d ⟨v, h1, h2⟩ => ⟨v, h1, h2.rep⟩, fun b cs h => (nomatch h : False).elim, fun b cs h => (nomatch h : False).elim, fun t h => (List.not_mem_nil h).elim, fun t u h h' a => (List.not_mem_nil a).elim, hG, ⟨0, fun _ _ => rfl⟩⟩

/-! ### Cells of data, by types -/
def RWs (w : World) (ys : List D) (cs : List Value) : Prop := ys.length = cs.length ∧ ∀ (j : Nat) y v, ys[j]? = some y → cs[j]? = some v → RW w y v

theorem RWs.append {w : World} {ys zs : List D} {cs es : List Value} (h : RWs w ys cs) (h' : RWs w zs es) : RWs w (ys ++ zs) (cs ++ es) := by
  refine ⟨by simp [h.1, h'.1], fun j y v hy hv => ?_⟩
  by_cases hj : j < ys.length
  · rw [List.getElem?_append_left hj] at hy
    rw [List.getElem?_append_left (by have := h.1; omega)] at hv
    exact h.2 j y v hy hv
  · rw [List.getElem?_append_right (by omega)] at hy
    rw [List.getElem?_append_right (by have := h.1; omega), ← h.1] at hv
    exact h'.2 _ y v hy hv

theorem RWs.one {w : World} {y : D} {v : Value} (h : RW w y v) : RWs w [y] [v] := ⟨rfl, fun j y' v' hy hv => by
  cases j with
  | zero => cases hy; cases hv; exact h
  | succ j => simp at hy⟩

theorem RWs.rep {w : World} : ∀ {ys : List D} {cs : List Value}, RWs w ys cs → RepL (K0 w) ys cs := fun {ys cs} h =>
  RepL.of_get h.1 fun i d v hd hv => (h.2 i d v hd hv).rep

/-- Cells as one value of a type. -/
def pk (P : Program) (t : TypeId) (ys : List D) : D := match P.underlying t with
  | some (.struct _) | some (.array _ _) => .agg ys
  | _ => ys.headD .any

/-- The cells that data of a type may have. -/
def HasC (P : Program) : Nat → TypeId → List D → Prop
  | 0, _, _ => False
  | n + 1, t, ys => match P.underlying t with
    | some .bool => ∃ b, ys = [.bool b]
    | some (.int k) => ∃ i, ys = [.int k i] ∧ (Lit.int k i).wf = true
    | some .string => ∃ s : ByteArray, ys = [.str s] ∧ s.size ≤ mostLen
    | some (.slice e) => ∃ xs : List (List D), ys = [.sl .none (xs.map (pk P e))] ∧ xs.length ≤ mostLen ∧ ∀ x ∈ xs, HasC P n e x
    | some (.struct fs) => ∃ zs : List (List D), zs.length = fs.size ∧ (∀ (i : Nat) (f : Field) (z : List D), fs[i]? = some f → zs[i]? = some z → HasC P n f.type z) ∧ ys = zs.flatten
    | some (.array m e) => ∃ zs : List (List D), zs.length = m ∧ (∀ z ∈ zs, HasC P n e z) ∧ ys = zs.flatten
    | _ => False

/-- One type of which rows' data are made, its parts in T. -/
def okT (P : Program) (T : List TypeId) (t : TypeId) : Bool := match P.underlying t with
  | some .bool | some (.int _) | some .string => true
  | some (.slice e) => T.contains e && decide (0 < P.cellsOf e)
  | some (.struct fs) => fs.toList.all (fun f => T.contains f.type) && (fs.toList.map (·.offset) == (List.range fs.toList.length).map fun i => ((fs.toList.take i).map fun f => P.cellsOf f.type).sum) && (P.cellsOf t == (fs.toList.map fun f => P.cellsOf f.type).sum)
  | some (.array m e) => T.contains e && (P.cellsOf t == m * P.cellsOf e)
  | _ => false

mutual
def D.bulk : D → Nat
  | .str s => s.size + 1
  | .sl _ xs => bulkL xs + 1
  | .agg cs => bulkL cs
  | _ => 1
def bulkL : List D → Nat
  | [] => 0
  | d :: r => d.bulk + bulkL r
end

theorem bulkL_append (a b : List D) : bulkL (a ++ b) = bulkL a + bulkL b := by
  induction a with
  | nil => simp [bulkL]
  | cons x a ih => simp only [List.cons_append, bulkL, ih]; omega

mutual
def ub {H : Type} : DataW H → Nat
  | .lit (.string bytes) => bytes.length + 1
  | .lit _ => 1
  | .nil => 1
  | .ptr d => ub d + 1
  | .slice elems spare => ubs elems + ubs spare + 1
  | .agg parts => ubs parts + 1
  | .iface _ d => ub d + 1
  | .map entries => ube entries + 1
  | .held _ => 1
def ubs {H : Type} : List (DataW H) → Nat
  | [] => 0
  | d :: r => ub d + ubs r
def ube {H : Type} : List (Lit × DataW H) → Nat
  | [] => 0
  | x :: r => ubn x + ube r
def ubn {H : Type} : Lit × DataW H → Nat
  | (.string bytes, d) => bytes.length + ub d + 1
  | (_, d) => ub d + 1
end

theorem ubs_range {α H : Type} (f : α → DataW H) : ∀ (l : List α) (g : Nat → D), (∀ i a, l[i]? = some a → (g i).bulk ≤ ub (f a)) → bulkL ((List.range l.length).map g) ≤ ubs (l.map f)
  | [], g, _ => by simp [bulkL, ubs]
  | a :: l, g, h => by
    simp only [List.length_cons, List.range_succ_eq_map, List.map_cons, List.map_map, bulkL, ubs]
    have h0 := h 0 a rfl
    have ih := ubs_range f l (g ∘ Nat.succ) (fun i b hb => h (i + 1) b (by simpa using hb))
    omega

theorem ub_pos {H : Type} (d : DataW H) : 1 ≤ ub d := by
  cases d with
  | lit l => cases l <;> simp [ub]
  | _ => simp [ub]
theorem ubs_length {H : Type} : ∀ l : List (DataW H), l.length ≤ ubs l
  | [] => by simp [ubs]
  | d :: l => by have := ubs_length l; have := ub_pos d; simp only [List.length_cons, ubs]; omega
theorem ubs_get {H : Type} : ∀ {l : List (DataW H)} {i : Nat} {d : DataW H}, l[i]? = some d → ub d ≤ ubs l
  | [], i, d, h => by simp at h
  | e :: l, 0, d, h => by cases h; simp only [ubs]; omega
  | e :: l, i + 1, d, h => by have := ubs_get (l := l) (i := i) (by simpa using h); simp only [ubs]; omega

theorem HasC.cells {P : Program} {n : Nat} {t : TypeId} {ys : List D} (h : HasC P n t ys) : (pk P t ys).cells = ys := by
  cases n with
  | zero => exact h.elim
  | succ n =>
    simp only [HasC] at h
    unfold pk
    split at h <;> rename_i hu <;> simp only [hu]
    · obtain ⟨b, rfl⟩ := h; rfl
    · obtain ⟨b, rfl, _⟩ := h; rfl
    · obtain ⟨b, rfl, _⟩ := h; rfl
    · obtain ⟨b, rfl, _⟩ := h; rfl
    · rfl
    · rfl
    · exact h.elim

theorem HasC.bulk {P : Program} {n : Nat} {t : TypeId} {ys : List D} (h : HasC P n t ys) : (pk P t ys).bulk = bulkL ys := by
  cases n with
  | zero => exact h.elim
  | succ n =>
    simp only [HasC] at h
    unfold pk
    split at h <;> rename_i hu <;> simp only [hu]
    · obtain ⟨b, rfl⟩ := h; simp [bulkL]
    · obtain ⟨b, rfl, _⟩ := h; simp [bulkL]
    · obtain ⟨b, rfl, _⟩ := h; simp [bulkL]
    · obtain ⟨b, rfl, _⟩ := h; simp [bulkL]
    · simp [D.bulk]
    · simp [D.bulk]
    · exact h.elim

section
variable {H : Type} {enc : TypeId × Value → H} {P : Program} {w : World} {base : Nat} {T : List TypeId}

theorem parts_cells {n : Nat} (IH : ∀ (t : TypeId) (cs : List Value) (x : DataW H × List MemPlace), t ∈ T → DataW.trod enc P w base (fun _ => true) true n t cs = some x → ub x.1 ≤ mostLen → ∃ ys, HasC P n t ys ∧ RWs w ys cs ∧ bulkL ys ≤ ub x.1) :
    ∀ (l : List TypeId) (cs : List Value) (xs : List (DataW H × List MemPlace)), (∀ t ∈ l, t ∈ T) → xs.length = l.length → cs.length = (l.map P.cellsOf).sum →
    (∀ (i : Nat) t, l[i]? = some t → DataW.trod enc P w base (fun _ => true) true n t ((cs.drop (((l.take i).map P.cellsOf).sum)).take (P.cellsOf t)) = xs[i]?) → ubs (xs.map (·.1)) ≤ mostLen →
    ∃ zs : List (List D), zs.length = l.length ∧ (∀ (i : Nat) t z, l[i]? = some t → zs[i]? = some z → HasC P n t z) ∧ RWs w zs.flatten cs ∧ bulkL zs.flatten ≤ ubs (xs.map (·.1))
  | [], cs, xs, _, hx, hc, _, _ => ⟨[], rfl, fun i t z h => by simp at h, by
      simp only [List.map_nil, List.sum_nil, List.length_eq_zero_iff] at hc
      subst hc
      exact ⟨rfl, fun j y v h => by simp at h⟩, by simp [bulkL]⟩
  | t :: l, cs, [], _, hx, _, _, _ => by simp at hx
  | t :: l, cs, x :: xs, hm, hx, hc, h, hbk => by
    simp only [List.map_cons, ubs] at hbk
    have h0 := h 0 t rfl
    simp only [List.take_zero, List.map_nil, List.sum_nil, List.drop_zero, List.getElem?_cons_zero] at h0
    obtain ⟨ys, a1, a2, a3⟩ := IH t _ x (hm t (by simp)) h0 (by omega)
    simp only [List.map_cons, List.sum_cons] at hc
    obtain ⟨zs, b1, b2, b3, b4⟩ := parts_cells IH l (cs.drop (P.cellsOf t)) xs (fun t ht => hm t (by simp [ht])) (by simpa using hx) (by simp; omega) (fun i u hu => by
      have := h (i + 1) u (by simpa using hu)
      simpa [List.drop_drop] using this) (by omega)
    refine ⟨ys :: zs, by simp [b1], fun i u z hu hz => ?_, ?_, ?_⟩
    · cases i with
      | zero => cases hu; cases hz; exact a1
      | succ i => exact b2 i u z (by simpa using hu) (by simpa using hz)
    · have := a2.append b3
      rw [List.take_append_drop] at this
      simpa using this
    · simp only [List.flatten_cons, bulkL_append, List.map_cons, ubs]
      omega

theorem cells?_get {a : Addr} {k : Nat} {cs : List Value} (h : w.cells? base a k = some cs) : cs.length = k ∧ ∀ j, j < k → w.cell? (a.add j) = cs[j]? := by
  unfold World.cells? at h
  split at h
  · exact ⟨by simpa using mapM_some_length h, fun j hj => mapM_some_get h j j (by simp [hj])⟩
  · cases h

theorem cell_add {a : Addr} {j : Nat} {v : Value} (h : w.cell? (a.add j) = some v) : w.cell? ⟨a.block, a.off + j, none⟩ = some v ∧ (j = 0 → a.spot = none) := by
  unfold Addr.add at h
  split at h
  · rename_i hj
    subst hj
    have : a.spot = none := by
      unfold World.cell? at h
      split at h
      · cases hs : a.spot with
        | none => rfl
        | some x => simp [hs] at h
      · cases h
    refine ⟨?_, fun _ => this⟩
    rw [← h]
    cases a
    simp only at this
    subst this
    rfl
  · rename_i hj
    refine ⟨?_, fun h => absurd h hj⟩
    exact h

theorem trod_cells (hT : T.all (okT P T) = true) : ∀ (n : Nat) (t : TypeId) (cs : List Value) (x : DataW H × List MemPlace), t ∈ T → DataW.trod enc P w base (fun _ => true) true n t cs = some x → ub x.1 ≤ mostLen → ∃ ys, HasC P n t ys ∧ RWs w ys cs ∧ bulkL ys ≤ ub x.1
  | 0, t, cs, x, _, h, _ => by simp [DataW.trod] at h
  | n + 1, t, cs, x, ht, h, hbk => by
    have hok := List.all_eq_true.1 hT t ht
    simp only [HasC]
    unfold okT at hok
    split at hok <;> rename_i hu
    · obtain ⟨b, rfl, rfl⟩ := DataW.trod_bool hu h
      try simp only [hu]
      exact ⟨_, ⟨b, rfl⟩, RWs.one (.bool b), by simp [bulkL, D.bulk, ub]⟩
    · obtain ⟨i, rfl, rfl, hw⟩ := DataW.trod_int hu h
      try simp only [hu]
      exact ⟨_, ⟨i, rfl, hw⟩, RWs.one (.int _ i), by simp [bulkL, D.bulk, ub]⟩
    · obtain ⟨s, rfl, rfl, hs⟩ := DataW.trod_string hu h
      try simp only [hu]
      simp only [ub, Array.length_toList] at hbk
      have hs' : s.size ≤ mostLen := by have : s.size = s.data.size := rfl; omega
      refine ⟨_, ⟨s, rfl, hs'⟩, RWs.one (.str s hs'), ?_⟩
      simp only [bulkL, D.bulk, ub, Array.length_toList]
      exact Nat.le_refl _
    · rename_i e
      simp only [Bool.and_eq_true, List.contains_iff_mem, decide_eq_true_eq] at hok
      try simp only [hu]
      rcases DataW.trod_slice hu h with ⟨rfl, rfl⟩ | ⟨a, len, cap, elems, rest, m, hm, rfl, rfl, hba, hlc, hcm, hel, hget, hsp, _⟩
      · exact ⟨_, ⟨[], rfl, by simp, fun x hx => by simp at hx⟩, RWs.one .nil, by simp [bulkL, D.bulk, ub]⟩
      · cases hm
        simp only [ub] at hbk
        have hlen := ubs_length (elems.map (·.1))
        simp only [List.length_map] at hlen
        have key : ∀ i, ∃ p : List D × List Value, i < len → w.cells? base (a.add (i * P.cellsOf e)) (P.cellsOf e) = some p.2 ∧ HasC P n e p.1 ∧ RWs w p.1 p.2 ∧ ∀ y, elems[i]? = some y → bulkL p.1 ≤ ub y.1 := fun i => by
          by_cases hi : i < len
          · have h1 := hget i hi
            have h2 : elems[i]? = some elems[i] := List.getElem?_eq_getElem (by omega)
            rw [h2] at h1
            obtain ⟨cs', h3, h4⟩ := Option.bind_eq_some_iff.1 h1
            obtain ⟨ys, b1, b2, b3⟩ := trod_cells hT n e cs' _ hok.1 h4 (by have := ubs_get (l := elems.map (·.1)) (i := i) (d := elems[i].1) (by rw [List.getElem?_map, h2]; rfl); omega)
            exact ⟨(ys, cs'), fun _ => ⟨h3, b1, b2, fun y hy => by rw [h2] at hy; cases hy; exact b3⟩⟩
          · exact ⟨([], []), fun h => absurd h hi⟩
        obtain ⟨F, hF⟩ := Classical.axiomOfChoice key
        refine ⟨_, ⟨(List.range len).map fun i => (F i).1, rfl, by simp; omega, fun x hx => ?_⟩, RWs.one (.sl (sz := P.cellsOf e) (fun i j => ((F i).2).getD j undef) (by simp) hlc (by omega) (fun i x hx => ?_) (fun i x j y hx hy => ?_) (fun i x j y hx hy => ?_)), ?_⟩
        · simp only [List.mem_map, List.mem_range] at hx
          obtain ⟨i, hi, rfl⟩ := hx
          exact (hF i hi).2.1
        · have hi : i < len := by have := (List.getElem?_eq_some_iff.1 hx).1; simpa using this
          simp only [List.map_map, List.getElem?_map, List.getElem?_range hi, Option.map_some, Option.some.injEq, Function.comp] at hx
          subst hx
          obtain ⟨c1, c2, c3, c4⟩ := hF i hi
          obtain ⟨d1, d2⟩ := cells?_get c1
          have h0 : (F i).2[0]? = some ((F i).2)[0] := List.getElem?_eq_getElem (by omega)
          have h1 := d2 0 hok.2
          rw [h0] at h1
          refine ⟨?_, by rw [c2.cells, c3.1, d1]⟩
          have h2 := (cell_add h1).2 rfl
          unfold Addr.add at h2
          split at h2
          · exact h2
          · rename_i hne
            have hlen0 : 0 < len := by omega
            obtain ⟨e1, e2, e3, e4⟩ := hF 0 hlen0
            obtain ⟨g1, g2⟩ := cells?_get e1
            have h5 : (F 0).2[0]? = some ((F 0).2)[0] := List.getElem?_eq_getElem (by omega)
            have h6 := g2 0 hok.2
            rw [h5] at h6
            have h7 := (cell_add h6).2 rfl
            simpa [Addr.add] using h7
        · have hi : i < len := by have := (List.getElem?_eq_some_iff.1 hx).1; simpa using this
          simp only [List.map_map, List.getElem?_map, List.getElem?_range hi, Option.map_some, Option.some.injEq, Function.comp] at hx
          subst hx
          obtain ⟨c1, c2, c3, c4⟩ := hF i hi
          obtain ⟨d1, d2⟩ := cells?_get c1
          rw [c2.cells] at hy
          have hj : j < (F i).2.length := by have := (List.getElem?_eq_some_iff.1 hy).1; have := c3.1; omega
          have h0 : (F i).2[j]? = some ((F i).2)[j] := List.getElem?_eq_getElem hj
          have h1 := d2 j (by omega)
          rw [h0] at h1
          have h2 := (cell_add h1).1
          have e1 : (a.add (i * P.cellsOf e)).block = a.block := by unfold Addr.add; split <;> rfl
          have e2 : (a.add (i * P.cellsOf e)).off = a.off + i * P.cellsOf e := by
            unfold Addr.add; split
            · rename_i hz; simp [hz]
            · rfl
          rw [e1, e2] at h2
          rw [h2]
          simp [List.getD, h0]
        · have hi : i < len := by have := (List.getElem?_eq_some_iff.1 hx).1; simpa using this
          simp only [List.map_map, List.getElem?_map, List.getElem?_range hi, Option.map_some, Option.some.injEq, Function.comp] at hx
          subst hx
          obtain ⟨c1, c2, c3, c4⟩ := hF i hi
          rw [c2.cells] at hy
          have hj : j < (F i).2.length := by have := (List.getElem?_eq_some_iff.1 hy).1; have := c3.1; omega
          have h0 : (F i).2[j]? = some ((F i).2)[j] := List.getElem?_eq_getElem hj
          refine c3.2 j y _ hy ?_
          simp [List.getD, h0]
        · simp only [bulkL, D.bulk, ub, List.map_map]
          have := ubs_range (fun y : DataW H × List MemPlace => y.1) elems (fun i => pk P e (F i).1) (fun i y hy => by
            have hi : i < len := by have := (List.getElem?_eq_some_iff.1 hy).1; omega
            obtain ⟨c1, c2, c3, c4⟩ := hF i hi
            rw [c2.bulk]
            exact c4 y hy)
          rw [hel] at this
          have e : (pk P e ∘ fun i => (F i).1) = fun i => pk P e (F i).1 := rfl
          rw [e]
          omega
    · rename_i fs
      simp only [Bool.and_eq_true, List.all_eq_true, List.contains_iff_mem, beq_iff_eq] at hok
      obtain ⟨⟨k1, k2⟩, k3⟩ := hok
      try simp only [hu]
      obtain ⟨xs, m, hm, rfl, hcs, hxs, hget⟩ := DataW.trod_struct hu h
      cases hm
      obtain ⟨zs, z1, z2, z3, z4⟩ := parts_cells (n := n) (fun t cs x ht h hb => trod_cells hT n t cs x ht h hb) (fs.toList.map (·.type)) cs xs (fun t ht => by
        simp only [List.mem_map] at ht
        obtain ⟨f, hf, rfl⟩ := ht
        exact k1 f hf) (by simp [hxs]) (by rw [hcs, k3, List.map_map]; rfl) (fun i u hu' => by
          rw [List.getElem?_map] at hu'
          obtain ⟨f, hf, rfl⟩ := Option.map_eq_some_iff.1 hu'
          have hf' : fs[i]? = some f := by simpa using hf
          have := hget i f hf'
          have ho : (fs.toList.map (·.offset))[i]? = some f.offset := by rw [List.getElem?_map, hf]; rfl
          rw [k2, List.getElem?_map] at ho
          have hi : i < fs.toList.length := (List.getElem?_eq_some_iff.1 hf).1
          rw [List.getElem?_range hi] at ho
          simp only [Option.map_some, Option.some.injEq] at ho
          rw [← this, ← ho, List.map_take, List.map_take, List.map_map]
          rfl) (by simp only [ub] at hbk; omega)
      refine ⟨_, ⟨zs, by simpa using z1, fun i f z hf hz => z2 i f.type z (by rw [List.getElem?_map]; rw [show fs.toList[i]? = some f by simpa using hf]; rfl) hz, rfl⟩, z3, ?_⟩
      simp only [ub]
      omega
    · rename_i m e
      simp only [Bool.and_eq_true, List.contains_iff_mem, beq_iff_eq] at hok
      obtain ⟨k1, k3⟩ := hok
      try simp only [hu]
      obtain ⟨xs, m', hm, rfl, hcs, hxs, hget⟩ := DataW.trod_array hu h
      cases hm
      obtain ⟨zs, z1, z2, z3, z4⟩ := parts_cells (n := n) (fun t cs x ht h hb => trod_cells hT n t cs x ht h hb) (List.replicate m e) cs xs (fun t ht => by
        rw [List.eq_of_mem_replicate ht]; exact k1) (by simp [hxs]) (by rw [hcs, k3]; simp) (fun i u hu' => by
          have hi : i < m := by have := (List.getElem?_eq_some_iff.1 hu').1; simpa using this
          rw [List.getElem?_replicate, if_pos hi] at hu'
          cases hu'
          have := hget i hi
          rw [← this, List.take_replicate]
          simp [Nat.min_eq_left (Nat.le_of_lt hi)]) (by simp only [ub] at hbk; omega)
      refine ⟨_, ⟨zs, by simpa using z1, fun z hz => ?_, rfl⟩, z3, ?_⟩
      · obtain ⟨i, hi⟩ := List.getElem?_of_mem hz
        have hlt : i < m := by have := (List.getElem?_eq_some_iff.1 hi).1; simp at z1; omega
        exact z2 i e z (by rw [List.getElem?_replicate, if_pos hlt]) hi
      · simp only [ub]
        omega
    · cases hok
end

end Go.Proofs.YtpblgfgcoamgmaaV
/-
  The join, second text: from a law's contract to what its row asks.
  Conditions: none; it speaks of every program.
-/
namespace Go.Proofs.YtpblgfgcoamgmaaV
open Go Go.ChangeShapes Go.RowKit

section
variable {H : Type} {enc : TypeId × Value → H} {P : Program} {w : World} {T : List TypeId}

/-- A value of a type, its cells abstract. -/
def HasD (P : Program) (t : TypeId) (d : D) : Prop := ∃ n ys, HasC P n t ys ∧ d = pk P t ys

theorem value_rep {base : Nat} {n : Nat} {t : TypeId} {v : Value} {ys : List D} (h : HasC P n t ys) (hr : RWs w ys v.cells.toList) (hok : Value.okWide P w .any base t v) : Rep (K0 w) (pk P t ys) v := by
  cases n with
  | zero => exact h.elim
  | succ n =>
    simp only [HasC] at h
    unfold Value.okWide at hok
    unfold pk
    have one : ∀ y, ys = [y] → (∀ a, v ≠ .agg a) → Rep (K0 w) (ys.headD .any) v := fun y hy hv => by
      subst hy
      have : v.cells.toList = [v] := by cases v <;> first | rfl | exact absurd rfl (hv _)
      rw [this] at hr
      exact (hr.2 0 y v rfl rfl).rep
    have na : ∀ t, Cell.okWide P w .any base t v → (∀ fs, P.underlying t ≠ some (.struct fs)) → (∀ a, v ≠ .agg a) := fun t hc _ a hv => by
      subst hv
      unfold Cell.okWide at hc
      unfold Cell.ok at hc
      split at hc <;> simp_all
    split at h <;> rename_i hu <;> simp only [hu] at hok ⊢
    · obtain ⟨b, rfl⟩ := h; exact one _ rfl (na t hok (by simp [hu]))
    · obtain ⟨b, rfl, _⟩ := h; exact one _ rfl (na t hok (by simp [hu]))
    · obtain ⟨b, rfl, _⟩ := h; exact one _ rfl (na t hok (by simp [hu]))
    · obtain ⟨b, rfl, _⟩ := h; exact one _ rfl (na t hok (by simp [hu]))
    · obtain ⟨cs, rfl, _⟩ := hok
      have := Rep.agg hr.rep
      simpa [Value.cells] using this
    · obtain ⟨cs, rfl, _⟩ := hok
      have := Rep.agg hr.rep
      simpa [Value.cells] using this
    · exact h.elim

/-- Lists of types and of abstract values go together. -/
inductive HasDs (P : Program) : List TypeId → List D → Prop
  | nil : HasDs P [] []
  | cons {t : TypeId} {d : D} {ts : List TypeId} {ds : List D} (h : HasD P t d) (r : HasDs P ts ds) : HasDs P (t :: ts) (d :: ds)

theorem args_rep {base : Nat} (hT : T.all (okT P T) = true) : ∀ {ts : List TypeId} {vs : List Value} {ds : List (DataW H)} {ps : List MemPlace}, (∀ t ∈ ts, t ∈ T) → DataW.TrodAll enc P w 0 (fun _ => true) true ts vs ds ps →
    (∀ (j : Nat) t v, ts[j]? = some t → vs[j]? = some v → Value.okWide P w .any base t v) → ubs ds ≤ mostLen → ∃ das, HasDs P ts das ∧ RepL (K0 w) das vs ∧ bulkL das ≤ ubs ds
  | [], vs, ds, ps, _, h, _, _ => by
    obtain ⟨rfl, rfl, rfl⟩ := trodAll_nil h
    exact ⟨[], .nil, .nil, by simp [bulkL]⟩
  | t :: ts, vs, ds, ps, hm, h, hok, hbk => by
    obtain ⟨v, vs1, d, ds1, a, b, rfl, rfl, rfl, ⟨fuel, h1⟩, h2⟩ := trodAll_cons h
    simp only [ubs] at hbk ⊢
    obtain ⟨ys, c1, c2, c3⟩ := trod_cells hT fuel t _ _ (hm t (by simp)) h1 (by simp only; omega)
    obtain ⟨das, e1, e2, e3⟩ := args_rep hT (fun t ht => hm t (by simp [ht])) h2 (fun j t v ht hv => hok (j + 1) t v (by simpa using ht) (by simpa using hv)) (by omega)
    refine ⟨pk P t ys :: das, .cons ⟨fuel, ys, c1, rfl⟩ e1, .cons (value_rep c1 c2 (hok 0 t v rfl rfl)) e2, ?_⟩
    simp only [bulkL, c1.bulk]
    simp only at c3
    omega

/-- A law's contract, for the machine. -/
theorem law_calls {G : Heap} {f : FuncId} {fn : Func} {c : Code} {das : List D} {args : Array Value} (hf : P.funcs[f]? = some fn) (hb : fn.body = some c) (hname : (fn.name == "runtime.NumGoroutine") = false)
    (hG : ∀ g cs, G g = some cs → ∀ (o : Nat) d, cs[o]? = some d → (K0 w).cells g o d)
    (h : VC P G f das Heap.nil [] fun o _ _ => o = .ret (.bool true)) (ha : RepL (K0 w) das args.toList) :
    Calls P f args w fun e w' => e = .returned (.bool true) ∧ Below w.heap.size w w' := by
  rcases h (K0 w) w args.toList (K0.rel hG) ha with ⟨_, h2⟩ | ⟨v, w1, h1, _⟩
  · refine h2.mono fun e w' hb => ?_
    obtain ⟨K', o, β', ω', q1, rfl, q3, q4⟩ := hb
    cases e with
    | returned v =>
      cases q1
      refine ⟨rfl, q4.os, q4.tape, q4.output, q4.size, fun k hk => (q4.keep k hk ?_).1⟩
      rintro (h | ⟨t, _, h, _⟩)
      · exact h rfl
      · exact absurd h List.not_mem_nil
    | panicked _ => exact q1.elim
    | outgrown => exact q1.elim
  · exfalso
    simp only [beq_eq_false_iff_ne, ne_eq] at hname
    have : (callFunc f args.toList.toArray).run P w = .ok (.enter f args.toList.toArray) w := by simp [callFunc, program, Sem.run, hf, hname, hb]
    rw [this] at h1
    cases h1

theorem args_stay (hl : laidOutB P = true) {W W' : World} (hb : Below W.heap.size W W') {sp : Nat → Bool} : ∀ {ts : List TypeId} {vs : List Value} {ds : List (DataW H)} {ps : List MemPlace}, (∀ t ∈ ts, P.readableRec t = true ∧ t < P.types.size) →
    DataW.TrodAll enc P W 0 (fun _ => true) true ts vs ds ps → (∀ x ∈ ps, x.block < W.heap.size) → (∀ x ∈ ps, sp x.block = true) → DataW.TrodAll enc P W' 0 sp true ts vs ds ps
  | [], vs, ds, ps, _, h, _, _ => by
    obtain ⟨rfl, rfl, rfl⟩ := trodAll_nil h
    exact rfl
  | t :: ts, vs, ds, ps, hr, h, hlt, hsp => by
    obtain ⟨v, vs1, d, ds1, a, b, rfl, rfl, rfl, h1, h2⟩ := trodAll_cons h
    obtain ⟨r1, r2⟩ := hr t (by simp)
    exact ⟨a, b, WideElems.Trod_stays hl r1 r2 h1 (fun x hx => hb.same (hlt x (by simp [hx]))) (fun x hx => hsp x (by simp [hx])),
      args_stay hl hb (fun t ht => hr t (by simp [ht])) h2 (fun x hx => hlt x (by simp [hx])) (fun x hx => hsp x (by simp [hx])), rfl⟩

/-- What a law's row asks behind the call. -/
theorem post_law {f : Func} {s : ChangeSpec} {apart fresh handsOn again : Bool} {W W' : World} {args : Array Value} {ds gs : List (DataW H)} {before : List MemPlace} {tb : TypeId}
    (hl : laidOutB P = true) (hr : ∀ t ∈ f.params.toList, P.readableRec t = true ∧ t < P.types.size)
    (hW : DataW.Whole enc P f.params.toList s.vars apart W args.toList ds gs before) (hb : Below W.heap.size W W')
    (hv : s.vars = []) (hres : f.resultTypes = #[tb]) (htb : P.underlying tb = some .bool) (hs : (s.fn H (ds ++ gs)).results = [.lit (.bool true)]) (hsa : (s.fn H (ds ++ gs)).args = ds) (hsv : (s.fn H (ds ++ gs)).vars = []) :
    s.post enc P f apart fresh handsOn again W args (.bool true) W' := by
  have hlt := hW.lt
  have hW' := hW
  obtain ⟨p, q, hA, hV, hpq, hz, hn⟩ := hW
  rw [hv] at hV
  obtain ⟨rfl, rfl⟩ := trodVars_none hV
  simp only [List.append_nil] at hpq
  subst hpq
  have hargs : ∀ sp : Nat → Bool, (∀ p ∈ before, sp p.block = true) → DataW.TrodAll enc P W' 0 sp true f.params.toList args.toList ds before := fun sp hsp => args_stay hl hb hr hA hlt hsp
  have hrs : ∀ (b : Nat) (sp : Nat → Bool) (hd : Bool), DataW.TrodAll enc P W' b sp hd f.resultTypes.toList ((Value.bool true).resultList f.resultTypes.size) [.lit (.bool true)] [] := fun b sp hd => by
    rw [hres]
    exact trodAll_mk1 (shut_bool htb true)
  have hold : ∀ p ∈ before, (fun b => decide (b < W.heap.size)) p.block = true := fun p hp => by simpa using hlt p hp
  refine ⟨ds, [], before, [], before, [], hW', by rw [hs]; exact hrs _ _ _, by rw [hsa]; exact hargs _ hold, by rw [hv, hsv]; exact rfl, World.keptBut_mono (fun p hp => ⟨hp, ?_⟩) (hb.frame (· ∈ before)), fun _ => ?_⟩
  · exact .inr (.inl hp)
  · refine ⟨ok_one hres rfl (okWide_bool_mk htb true), [.lit (.bool true)] ++ ds, [], before, ⟨before, [], ?_, by rw [hv]; exact rfl, by simp, ?_, hn⟩, ?_⟩
    · have := trodAll_append (hargs (fun _ => true) fun _ _ => rfl) (hrs 0 (fun _ => true) true)
      simpa using this
    · intro b off hp
      rw [hb.frozen (hlt _ hp)]
      exact hz b off hp
    · intro p hp _
      exact hp
end

end Go.Proofs.YtpblgfgcoamgmaaV
/-
  The join, third text: what the data of a type are, type by type; a law's row from its contract.
  Conditions: none; it speaks of every program.
-/
namespace Go.Proofs.YtpblgfgcoamgmaaV
open Go Go.ChangeShapes Go.RowKit

section
variable {P : Program} {n : Nat} {t e : TypeId} {ys : List D}

theorem HasC.bool (hu : P.underlying t = some .bool) (h : HasC P n t ys) : ∃ b, ys = [.bool b] := by
  cases n with
  | zero => exact h.elim
  | succ n => simpa only [HasC, hu] using h
theorem HasC.str (hu : P.underlying t = some .string) (h : HasC P n t ys) : ∃ s : ByteArray, ys = [.str s] := by
  cases n with
  | zero => exact h.elim
  | succ n =>
    simp only [HasC, hu] at h
    obtain ⟨s, h, _⟩ := h
    exact ⟨s, h⟩
theorem HasC.i64 (hu : P.underlying t = some (.int .i64)) (h : HasC P n t ys) : ∃ i : Int, ys = [.int .i64 i] ∧ -9223372036854775808 ≤ i ∧ i < 9223372036854775808 := by
  cases n with
  | zero => exact h.elim
  | succ n =>
    simp only [HasC, hu] at h
    obtain ⟨i, h, hw⟩ := h
    have hx : -9223372036854775808 ≤ i ∧ i ≤ 9223372036854775807 := by simpa [Lit.wf, IntKind.min, IntKind.max, IntKind.signed, IntKind.bits] using hw
    exact ⟨i, h, by omega⟩
theorem HasC.u64 (hu : P.underlying t = some (.int .u64)) (h : HasC P n t ys) : ∃ i : Nat, ys = [.int .u64 i] ∧ i < 18446744073709551616 := by
  cases n with
  | zero => exact h.elim
  | succ n =>
    simp only [HasC, hu] at h
    obtain ⟨i, h, hw⟩ := h
    have hx : 0 ≤ i ∧ i ≤ 18446744073709551615 := by simpa [Lit.wf, IntKind.min, IntKind.max, IntKind.signed, IntKind.bits] using hw
    exact ⟨i.toNat, by rw [h, Int.toNat_of_nonneg hx.1], by omega⟩
theorem HasC.u8 (hu : P.underlying t = some (.int .u8)) (h : HasC P n t ys) : ∃ i : Nat, ys = [.int .u8 i] ∧ i < 256 := by
  cases n with
  | zero => exact h.elim
  | succ n =>
    simp only [HasC, hu] at h
    obtain ⟨i, h, hw⟩ := h
    have hx : 0 ≤ i ∧ i ≤ 255 := by simpa [Lit.wf, IntKind.min, IntKind.max, IntKind.signed, IntKind.bits] using hw
    exact ⟨i.toNat, by rw [h, Int.toNat_of_nonneg hx.1], by omega⟩

theorem list_of {α β : Type} {f : α → β} {Q : α → Prop} : ∀ (xs : List β), (∀ x ∈ xs, ∃ a, x = f a ∧ Q a) → ∃ as : List α, xs = as.map f ∧ ∀ a ∈ as, Q a
  | [], _ => ⟨[], rfl, fun a h => by simp at h⟩
  | x :: xs, h => by
    obtain ⟨a, h1, h2⟩ := h x (by simp)
    obtain ⟨as, h3, h4⟩ := list_of xs fun y hy => h y (by simp [hy])
    exact ⟨a :: as, by rw [h1, h3]; rfl, fun b hb => by
      rcases List.mem_cons.1 hb with rfl | hb
      · exact h2
      · exact h4 b hb⟩

theorem HasC.slice {α : Type} {f : α → List D} {Q : α → Prop} (hu : P.underlying t = some (.slice e)) (h : HasC P n t ys) (hx : ∀ m x, m + 1 = n → HasC P m e x → ∃ a, x = f a ∧ Q a) :
    ∃ as : List α, ys = [.sl .none (as.map fun a => pk P e (f a))] ∧ ∀ a ∈ as, Q a := by
  cases n with
  | zero => exact h.elim
  | succ n =>
    simp only [HasC, hu] at h
    obtain ⟨xs, rfl, _, h2⟩ := h
    obtain ⟨as, rfl, h4⟩ := list_of xs fun x h => hx n x rfl (h2 x h)
    exact ⟨as, by rw [List.map_map]; rfl, h4⟩

/-- The fields of a struct, one behind the other. -/
def HasFs (P : Program) (n : Nat) : List TypeId → List D → Prop
  | [], ys => ys = []
  | t :: ts, ys => ∃ z r, HasC P n t z ∧ HasFs P n ts r ∧ ys = z ++ r

theorem hasFs_of : ∀ (ts : List TypeId) (zs : List (List D)), zs.length = ts.length → (∀ (i : Nat) t z, ts[i]? = some t → zs[i]? = some z → HasC P n t z) → HasFs P n ts zs.flatten
  | [], [], _, _ => rfl
  | t :: ts, z :: zs, hl, h => ⟨z, zs.flatten, h 0 t z rfl rfl, hasFs_of ts zs (by simpa using hl) (fun i t z ht hz => h (i + 1) t z (by simpa using ht) (by simpa using hz)), by simp⟩
  | [], _ :: _, hl, _ => by simp at hl
  | _ :: _, [], hl, _ => by simp at hl

theorem HasC.struct {fs : Array Field} (hu : P.underlying t = some (.struct fs)) (h : HasC P n t ys) : ∃ m, n = m + 1 ∧ HasFs P m (fs.toList.map (·.type)) ys := by
  cases n with
  | zero => exact h.elim
  | succ n =>
    simp only [HasC, hu] at h
    obtain ⟨zs, h1, h2, rfl⟩ := h
    refine ⟨n, rfl, hasFs_of _ zs (by simpa using h1) fun i t z ht hz => ?_⟩
    rw [List.getElem?_map] at ht
    obtain ⟨f, hf, rfl⟩ := Option.map_eq_some_iff.1 ht
    exact h2 i f z (by simpa using hf) hz

theorem HasC.array {m : Nat} (hu : P.underlying t = some (.array m e)) (h : HasC P n t ys) : ∃ k, n = k + 1 ∧ HasFs P k (List.replicate m e) ys := by
  cases n with
  | zero => exact h.elim
  | succ n =>
    simp only [HasC, hu] at h
    obtain ⟨zs, h1, h2, rfl⟩ := h
    refine ⟨n, rfl, hasFs_of _ zs (by simpa using h1) fun i t z ht hz => ?_⟩
    have : t = e := List.eq_of_mem_replicate (List.mem_of_getElem? ht)
    exact this ▸ h2 z (List.mem_of_getElem? hz)

theorem pk_agg {fs : Array Field} (hu : P.underlying t = some (.struct fs)) (ys : List D) : pk P t ys = .agg ys := by simp only [pk, hu]
theorem pk_arr {m : Nat} (hu : P.underlying t = some (.array m e)) (ys : List D) : pk P t ys = .agg ys := by simp only [pk, hu]
theorem pk_int {k : IntKind} (hu : P.underlying t = some (.int k)) (y : D) : pk P t [y] = y := by simp only [pk, hu, List.headD_cons]
theorem pk_bool (hu : P.underlying t = some .bool) (y : D) : pk P t [y] = y := by simp only [pk, hu, List.headD_cons]
theorem pk_str (hu : P.underlying t = some .string) (y : D) : pk P t [y] = y := by simp only [pk, hu, List.headD_cons]
theorem pk_slice (hu : P.underlying t = some (.slice e)) (y : D) : pk P t [y] = y := by simp only [pk, hu, List.headD_cons]

theorem hasDs_nil {ds : List D} (h : HasDs P [] ds) : ds = [] := by cases h; rfl
theorem hasDs_cons {ts : List TypeId} {ds : List D} (h : HasDs P (t :: ts) ds) : ∃ d r, HasD P t d ∧ HasDs P ts r ∧ ds = d :: r := by cases h with | cons h r => exact ⟨_, _, h, r, rfl⟩

theorem bulk_mem : ∀ {l : List D} {d : D}, d ∈ l → d.bulk ≤ bulkL l
  | x :: l, d, h => by
    simp only [bulkL]
    rcases List.mem_cons.1 h with rfl | h
    · omega
    · have := bulk_mem h; omega
end

/-- A LAW's ROW: what is asked of the call, from its contract. -/
theorem law_row {H : Type} {enc : TypeId × Value → H} {P : Program} {T : List TypeId} {f : FuncId} {fn : Func} {c : Code} {s : ChangeSpec} {apart fresh handsOn again : Bool} {tb : TypeId} {B : Nat} (hT : T.all (okT P T) = true) (hl : laidOutB P = true)
    (hts : fn.params.toList.all (fun t => T.contains t && P.readableRec t && decide (t < P.types.size)) = true)
    (hf : P.funcs[f]? = some fn) (hb : fn.body = some c) (hname : (fn.name == "runtime.NumGoroutine") = false) (hv : s.vars = []) (hres : fn.resultTypes = #[tb]) (htb : P.underlying tb = some .bool)
    (hs : ∀ (ds : List (DataW H)), ds.length = fn.params.toList.length → (s.fn H ds).results = [.lit (.bool true)] ∧ (s.fn H ds).args = ds ∧ (s.fn H ds).vars = [])
    (hB : B ≤ mostLen) (hc : ∀ das, HasDs P fn.params.toList das → bulkL das ≤ B → VC P Heap.nil f das Heap.nil [] fun o _ _ => o = .ret (.bool true))
    (W : World) (base : Nat) (args : Array Value) (ds gs : List (DataW H)) (before : List MemPlace)
    (hval : ∀ (j : Nat) t v, fn.params[j]? = some t → args[j]? = some v → Value.okWide P W .any base t v)
    (hW : DataW.Whole enc P fn.params.toList s.vars apart W args.toList ds gs before) (hk : ubs (ds ++ gs) ≤ B) :
    Calls P f args W fun e W' => ∃ v, e = .returned v ∧ s.post enc P fn apart fresh handsOn again W args v W' := by
  have hW' := hW
  obtain ⟨p, q, hA, hV, hpq, hz, hn⟩ := hW
  rw [hv] at hV
  obtain ⟨rfl, rfl⟩ := trodVars_none hV
  simp only [List.append_nil] at hk
  simp only [List.all_eq_true, Bool.and_eq_true, List.contains_iff_mem, decide_eq_true_eq] at hts
  obtain ⟨das, e1, e2, e3⟩ := args_rep (T := T) hT (fun t ht => (hts t ht).1.1) hA (fun j t v ht hv => hval j t v (by simpa using ht) (by simpa using hv)) (by omega)
  have hlen : ds.length = fn.params.toList.length := by
    have : ∀ {ts : List TypeId} {vs : List Value} {ds : List (DataW H)} {ps : List MemPlace}, DataW.TrodAll enc P W 0 (fun _ => true) true ts vs ds ps → ds.length = ts.length := fun {ts} => by
      induction ts with
      | nil => intro vs ds ps h; obtain ⟨rfl, rfl, rfl⟩ := trodAll_nil h; rfl
      | cons t ts ih => intro vs ds ps h; obtain ⟨v, vs1, d, ds1, a, b, rfl, rfl, rfl, h1, h2⟩ := trodAll_cons h; simp [ih h2]
    exact this hA
  obtain ⟨s1, s2, s3⟩ := hs ds hlen
  refine (law_calls (G := Heap.nil) hf hb hname (fun g cs h => (nomatch h : False).elim) (hc das e1 (by omega)) e2).mono fun e W' ⟨he, hb'⟩ => ?_
  exact ⟨_, he, post_law hl (fun t ht => ⟨(hts t ht).1.2, (hts t ht).2⟩) hW' hb' hv hres htb (by simpa using s1) (by simpa using s2) (by simpa using s3)⟩

end Go.Proofs.YtpblgfgcoamgmaaV
/-
  The join, fourth text: a law's row where package-level variables hold what they are laid with.
  Conditions: none; it speaks of every program.
-/
namespace Go.Proofs.YtpblgfgcoamgmaaV
open Go Go.ChangeShapes Go.RowKit

/-- A LAW's ROW WHERE PACKAGE VARIABLES ARE KNOWN: what is asked of the call, from its contract. -/
theorem law_rowG {G : Heap} {H : Type} {enc : TypeId × Value → H} {P : Program} {T : List TypeId} {f : FuncId} {fn : Func} {c : Code} {s : ChangeSpec} {apart fresh handsOn again : Bool} {tb : TypeId} {B : Nat} (hT : T.all (okT P T) = true) (hl : laidOutB P = true)
    (hts : fn.params.toList.all (fun t => T.contains t && P.readableRec t && decide (t < P.types.size)) = true)
    (hf : P.funcs[f]? = some fn) (hb : fn.body = some c) (hname : (fn.name == "runtime.NumGoroutine") = false) (hv : s.vars = []) (hres : fn.resultTypes = #[tb]) (htb : P.underlying tb = some .bool)
    (hs : ∀ (ds : List (DataW H)), ds.length = fn.params.toList.length → (s.fn H ds).results = [.lit (.bool true)] ∧ (s.fn H ds).args = ds ∧ (s.fn H ds).vars = [])
    (hB : B ≤ mostLen) (hc : ∀ das, HasDs P fn.params.toList das → bulkL das ≤ B → VC P G f das Heap.nil [] fun o _ _ => o = .ret (.bool true))
    (W : World) (hG : ∀ g cs, G g = some cs → ∀ (o : Nat) d, cs[o]? = some d → (K0 W).cells g o d) (base : Nat) (args : Array Value) (ds gs : List (DataW H)) (before : List MemPlace)
    (hval : ∀ (j : Nat) t v, fn.params[j]? = some t → args[j]? = some v → Value.okWide P W .any base t v)
    (hW : DataW.Whole enc P fn.params.toList s.vars apart W args.toList ds gs before) (hk : ubs (ds ++ gs) ≤ B) :
    Calls P f args W fun e W' => ∃ v, e = .returned v ∧ s.post enc P fn apart fresh handsOn again W args v W' := by
  have hW' := hW
  obtain ⟨p, q, hA, hV, hpq, hz, hn⟩ := hW
  rw [hv] at hV
  obtain ⟨rfl, rfl⟩ := trodVars_none hV
  simp only [List.append_nil] at hk
  simp only [List.all_eq_true, Bool.and_eq_true, List.contains_iff_mem, decide_eq_true_eq] at hts
  obtain ⟨das, e1, e2, e3⟩ := args_rep (T := T) hT (fun t ht => (hts t ht).1.1) hA (fun j t v ht hv => hval j t v (by simpa using ht) (by simpa using hv)) (by omega)
  have hlen : ds.length = fn.params.toList.length := by
    have : ∀ {ts : List TypeId} {vs : List Value} {ds : List (DataW H)} {ps : List MemPlace}, DataW.TrodAll enc P W 0 (fun _ => true) true ts vs ds ps → ds.length = ts.length := fun {ts} => by
      induction ts with
      | nil => intro vs ds ps h; obtain ⟨rfl, rfl, rfl⟩ := trodAll_nil h; rfl
      | cons t ts ih => intro vs ds ps h; obtain ⟨v, vs1, d, ds1, a, b, rfl, rfl, rfl, h1, h2⟩ := trodAll_cons h; simp [ih h2]
    exact this hA
  obtain ⟨s1, s2, s3⟩ := hs ds hlen
  refine (law_calls (G := G) hf hb hname hG (hc das e1 (by omega)) e2).mono fun e W' ⟨he, hb'⟩ => ?_
  exact ⟨_, he, post_law hl (fun t ht => ⟨(hts t ht).1.2, (hts t ht).2⟩) hW' hb' hv hres htb (by simpa using s1) (by simpa using s2) (by simpa using s3)⟩

end Go.Proofs.YtpblgfgcoamgmaaV
