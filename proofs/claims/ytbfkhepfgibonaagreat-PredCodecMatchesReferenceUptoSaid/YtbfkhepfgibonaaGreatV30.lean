/-
  The thirtieth text of the program logic: the library's sort of numbers, by the shelf's contract.
  Conditions: none; it speaks of every program.
-/
import Derived.Test.YtbfkhepfgibonaaGreatVC
import Derived.Shelf.Sort.Plain
import Derived.Shelf.Slices.CompactI
import Derived.Shelf.Slices.In.SortNone
set_option linter.unusedVariables false
set_option linter.unusedSimpArgs false
namespace Go.Proofs.YtbfkhepfgibonaaGreatV
open Go

section
variable {P : Program} {G : Heap} {K : Kn} {β : Heap} {ω : List Nat} {w : World}

theorem Rel.grow (h : Rel G K β ω w) (os : Array Obj) : Rel G K β ω (Sort.grow w os) ∧ Evo K β ω w K β ω (Sort.grow w os) := by
  have hl : ∀ b, b < w.heap.size → (Sort.grow w os).heap[b]? = w.heap[b]? := fun b hb => by
    show (w.heap ++ os)[b]? = w.heap[b]?
    exact Array.getElem?_append_left hb
  have hb : ∀ b o, w.heap[b]? = some o → (Sort.grow w os).heap[b]? = some o := fun b o hb => by
    rw [hl b (Array.getElem?_eq_some_iff.1 hb).1]; exact hb
  have hc : ∀ b o v, w.cell? ⟨b, o, none⟩ = some v → (Sort.grow w os).cell? ⟨b, o, none⟩ = some v := fun b o v hv => by
    cases hx : w.heap[b]? with
    | none => simp [World.cell?, hx] at hv
    | some ob =>
      rw [← hv]
      simp [World.cell?, hx, hb b ob hx]
  refine ⟨⟨fun b o d hk => ?_, fun b cs hcs => ?_, h.boxK, fun t ht => ?_, h.tokne, h.glob, h.free⟩, ⟨.refl K, ?_, rfl, rfl, rfl, fun b hb' ho => ⟨hl b hb', fun _ => rfl, ho⟩, fun _ ht => .inl ht⟩⟩
  · obtain ⟨v, h1, h2⟩ := h.holds b o d hk
    exact ⟨v, hc b o v h1, h2⟩
  · obtain ⟨o, h1, h2⟩ := h.box b cs hcs
    exact ⟨o, hb b o h1, h2⟩
  · obtain ⟨x, h1, h2⟩ := h.tok t ht
    refine ⟨x, h1, fun y hy => ?_⟩
    obtain ⟨vs, e, h3, h4⟩ := h2 y hy
    exact ⟨vs, e, hb _ _ h3, h4⟩
  · show w.heap.size ≤ (w.heap ++ os).size
    simp

theorem putRow_facts {α : Type} [Inhabited α] (enc : α → Value) {b off n : Nat} {vs : Array Value} {e : TypeId} {fr : Nat × Nat} (d : Array α) (h : w.heap[b]? = some (.cells vs e fr)) :
    (∀ k, k ≠ b → (Sort.putRow enc (Sort.ahead w n) b off d).heap[k]? = w.heap[k]?) ∧ (Sort.putRow enc (Sort.ahead w n) b off d).heap[b]? = some (.cells (Sort.putCells enc off d vs) e fr) ∧ (Sort.putRow enc (Sort.ahead w n) b off d).heap.size = w.heap.size := by
  refine ⟨fun k hk => ?_, ?_, by simp⟩
  · show (w.heap.modify b (Sort.onCells (Sort.putCells enc off d)))[k]? = w.heap[k]?
    rw [Array.getElem?_modify, if_neg (fun e => hk e.symm)]
  · show (w.heap.modify b (Sort.onCells (Sort.putCells enc off d)))[b]? = _
    rw [Array.getElem?_modify, if_pos rfl, h]
    rfl

/-- A row of values that a library's function turns, in a variable's cells. -/
structure EncD (α : Type) (enc : α → Value) (encD : α → D) (ok : α → Prop) : Prop where
  one : ∀ a, (encD a).one = true
  nolp : ∀ a, isObj [encD a] = false
  back : ∀ {K : Kn} {a : α} {v : Value}, Rep K (encD a) v → v = enc a ∧ ok a
  rep : ∀ {K : Kn} {a : α}, ok a → Rep K (encD a) (enc a)

section
variable {α : Type} {enc : α → Value} {encD : α → D} {ok : α → Prop}
theorem EncD.obj (h : EncD α enc encD ok) (l : List α) : isObj (l.map encD) = false := by
  match l with
  | [] => rfl
  | [a] => exact h.nolp a
  | a :: b :: l => rw [List.map_cons, List.map_cons]; exact isObj_cons2 _ _ _
theorem EncD.vals (h : EncD α enc encD ok) {K : Kn} : ∀ {l : List α} {vs : List Value}, RepL K (l.map encD) vs → vs = l.map enc ∧ ∀ a ∈ l, ok a
  | [], _, hr => by cases hr; exact ⟨rfl, fun _ h => by cases h⟩
  | a :: l, _, hr => by
    cases hr with
    | cons x t =>
      obtain ⟨rfl, h1⟩ := h.back x
      obtain ⟨rfl, h2⟩ := h.vals t
      exact ⟨rfl, fun a ha => by rcases List.mem_cons.1 ha with rfl | ha; exact h1; exact h2 a ha⟩
theorem EncD.reps (h : EncD α enc encD ok) (K : Kn) : ∀ {l : List α}, (∀ a ∈ l, ok a) → RepL K (l.map encD) (l.map enc)
  | [], _ => .nil
  | a :: l, ho => .cons (h.rep (ho a (by simp))) (h.reps K fun a ha => ho a (by simp [ha]))
theorem put_list [Inhabited α] (g : List α) (vs : List Value) (hl : g.length ≤ vs.length) : Sort.putCells enc 0 g.toArray vs.toArray = (splice vs 0 (g.map enc)).toArray := by
  apply Array.ext
  · simp [Sort.putCells, splice]; omega
  · intro i h1 h2
    simp only [Sort.putCells, Array.getElem_mapIdx, Nat.zero_le, true_and, Nat.zero_add, Nat.sub_zero, List.getElem_toArray]
    by_cases hi : i < g.length
    · simp [hi, splice, List.getElem_append]
    · rw [if_neg (by simpa using hi)]
      simp [splice, List.getElem_append, hi, List.getElem_drop]
      congr 1; omega
/-- A function of the library's that turns a row of a variable's cells. -/
theorem put_vw [Inhabited α] (h : EncD α enc encD ok) {f : FuncId} {b n : Nat} {cs g : List α} {r : Value} {d : D} (hn : n ≤ cs.length) (hg : g.length ≤ n) (hog : (∀ a ∈ cs, ok a) → ∀ a ∈ g, ok a) (hd : ∀ K, Rep K d r)
    (hen : ∀ args w, (callFunc f args).run P w = .ok (.enter f args) w)
    (hc : ∀ w, Sort.Holds enc w b 0 (cs.take n).toArray → b < w.heap.size → (∀ a ∈ cs, ok a) → Calls P f #[.slice (some ⟨b, 0, none⟩) n cs.length] w fun e w' => e = .returned r ∧ ∃ m os, w' = Sort.grow (Sort.putRow enc (Sort.ahead w m) b 0 g.toArray) os) :
    VW P G f [.so b 0 n cs.length] b (cs.map encD) d ((g ++ cs.drop g.length).map encD) := by
  intro K w vargs hR hargs
  cases hargs with
  | cons hv ht =>
    cases ht
    cases hv with
    | so =>
      have hb : (Heap.nil.set b (cs.map encD)) b = some (cs.map encD) := by simp [Heap.set]
      obtain ⟨o, e1, e2⟩ := hR.box b _ hb
      obtain ⟨vs0, e, rfl, e3⟩ := e2.plain (h.obj cs)
      obtain ⟨hv0, hok⟩ := h.vals e3
      obtain ⟨vs, e', h1, h2, h3, h4⟩ := hR.write (o := 0) (ds := g.map encD) hb (h.obj cs) (h.reps K (hog hok)) (by simp; omega)
      have hvs : vs.toList = cs.map enc := (h.vals h3).1
      have hlt : b < w.heap.size := (Array.getElem?_eq_some_iff.1 h1).1
      have hH : Sort.Holds enc w b 0 (cs.take n).toArray := fun j hj => by
        have hj' : j < n ∧ j < cs.length := by simp at hj; omega
        have hcell : vs[j]? = some (enc cs[j]) := by
          rw [← Array.getElem?_toList, hvs]; simp [hj'.2]
        refine ⟨?_, ?_⟩
        · rw [cell_of h1, Nat.zero_add, hcell]
          have : (cs.take n).toArray[j]! = cs[j] := by
            rw [getElem!_pos _ _ (by simp; omega)]; simp
          rw [this]
        · simp [World.frozen?, h1]
      refine .inl ⟨hen _ _, ?_⟩
      refine (hc w hH hlt hok).mono fun e'' w' ⟨he, m, os, hw⟩ => ?_
      subst he hw
      obtain ⟨g1, g2, g3⟩ := putRow_facts (n := m) (off := 0) enc g.toArray h1
      have hcells : Sort.putCells enc 0 g.toArray vs = (splice vs.toList 0 (g.map enc)).toArray := by
        have := put_list (enc := enc) g vs.toList (by rw [hvs]; simp; omega)
        simpa using this
      rw [hcells] at g2
      obtain ⟨r1, r2⟩ := h4 _ g1 g2 g3 rfl rfl rfl
      obtain ⟨r3, r4⟩ := r1.grow os
      refine ⟨K, .ret d, _, [], hd K, ⟨rfl, ?_, rfl⟩, r3, r2.trans r4⟩
      funext i
      simp only [Heap.set]
      split
      · congr 1
        simp [splice, List.map_drop]
      · rfl
end
/-! Numbers. -/
def iE (k : Int) : D := .int .i64 k
theorem encI_ok : EncD Int (Value.int .i64) iE (fun _ => True) where
  one _ := rfl
  nolp _ := rfl
  back h := by cases h; exact ⟨rfl, trivial⟩
  rep _ := .int _ _
def sortI (l : List Int) : List Int := l.mergeSort fun x y => decide (x ≤ y)
theorem sortI_length (l : List Int) : (sortI l).length = l.length := by simp [sortI]
/-- THE LIBRARY's SORT of a row of numbers that lies in a variable's cells. -/
theorem sort_vw {ρ : Shelf.Ren} (Ly : Lays.n189 P ρ) (b n : Nat) (f : List Int) (hn : n ≤ f.length) (hsz : n < 4611686018427387904) :
    VW P G (ρ.f 189) [.so b 0 n f.length] b (f.map iE) (.tup []) ((sortI (f.take n) ++ f.drop n).map iE) := by
  have hl : (f.take n).length = n := by simp; omega
  have := put_vw (P := P) (G := G) encI_ok (f := ρ.f 189) (b := b) (n := n) (cs := f) (g := sortI (f.take n)) (r := .tuple #[]) (d := .tup []) hn (by rw [sortI_length, hl]; omega) (fun _ _ _ => trivial) (fun K => .tup .nil)
    (enters_of Ly.f189 (by kernel_rfl) rfl) (fun w hH hlt _ => by
      have h := Any.slices_Sort_int Ly b 0 f.length (f.take n) w hH hlt (by rw [hl]; exact hsz)
      rw [hl] at h
      exact h)
  rw [sortI_length, hl] at this
  exact this
/-- Of no numbers: nothing is done. -/
theorem sort0_vn {ρ : Shelf.Ren} (Ly : Lays.n189 P ρ) (tk : Tk) : VN P G (ρ.f 189) [.sl tk []] (.tup []) := by
  intro K w vargs hR hargs
  cases hargs with
  | cons hv ht =>
    cases ht
    cases hv with
    | sl hn hc hm hl ht =>
      rename_i a n c sz
      simp at hn
      subst hn
      refine .inl ⟨enters_of Ly.f189 (by kernel_rfl) rfl _ _, ?_⟩
      refine (Any.slices_Sort_int_none Ly a c w).mono fun e' w' ⟨he, hw⟩ => ?_
      subst he hw
      exact ⟨K, .ret (.tup []), _, [], .tup .nil, ⟨rfl, rfl, rfl⟩, hR, Evo.refl ..⟩
theorem compact_le (l : List Int) : (Lib.compact l).length ≤ l.length := by
  unfold Lib.compact Lib.compactUpTo
  rw [List.length_map]
  exact Nat.le_trans (List.length_filter_le _ _) (by simp)
theorem grow_nil (w : World) : Sort.grow w #[] = w := by simp [Sort.grow]
theorem compact_vw {ρ : Shelf.Ren} (Ly : Lays2.n20 P ρ) (b n : Nat) (f : List Int) (hn : n ≤ f.length) (hsz : n ≤ 9223372036854775807) :
    VW P G (ρ.f 20) [.so b 0 n f.length] b (f.map iE) (.so b 0 (Lib.compact (f.take n)).length f.length) ((Lib.compact (f.take n) ++ List.replicate (n - (Lib.compact (f.take n)).length) 0 ++ f.drop n).map iE) := by
  have hl : (f.take n).length = n := by simp; omega
  have hle := compact_le (f.take n)
  rw [hl] at hle
  have hlen : (Lib.compact (f.take n) ++ List.replicate (n - (Lib.compact (f.take n)).length) (0 : Int)).length = n := by simp; omega
  have := put_vw (P := P) (G := G) encI_ok (f := ρ.f 20) (b := b) (n := n) (cs := f) (g := Lib.compact (f.take n) ++ List.replicate (n - (Lib.compact (f.take n)).length) 0) (r := .slice (some ⟨b, 0, none⟩) (Lib.compact (f.take n)).length f.length) (d := .so b 0 (Lib.compact (f.take n)).length f.length) hn (by omega) (fun _ _ _ => trivial) (fun K => .so ..)
    (enters_of Ly.f20 (by kernel_rfl) rfl) (fun w hH hlt _ => by
      have h := Any.slices_Compact_int Ly b 0 f.length (f.take n) w hH (by rw [hl]; exact hsz) (by rw [hl]; exact hn)
      rw [hl] at h
      exact h.mono fun e w' ⟨h1, q, h2⟩ => ⟨h1, q, #[], by rw [grow_nil]; exact h2⟩)
  rw [hlen] at this
  exact this
theorem compact0_vn {ρ : Shelf.Ren} (Ly : Lays2.n20 P ρ) : VN P G (ρ.f 20) [.sl .full []] (.sl .full []) := by
  intro K w vargs hR hargs
  cases hargs with
  | cons hv ht =>
    cases ht
    cases hv with
    | sl hn hc hm hl ht =>
      rename_i a n c sz
      simp at hn
      subst hn
      refine .inl ⟨enters_of Ly.f20 (by kernel_rfl) rfl _ _, ?_⟩
      refine (Any.slices_Compact_int_empty Ly a c w).mono fun e' w' ⟨he, hw⟩ => ?_
      subst he hw
      exact ⟨K, .ret (.sl .full []), _, [], .sl rfl hc hm hl ht, ⟨rfl, rfl, rfl⟩, hR, Evo.refl ..⟩
end
end Go.Proofs.YtbfkhepfgibonaaGreatV
