/-
  Texts of this proof, merged: VA.
  Conditions: as said at each part.
-/
import Derived.CallsIn
import Derived.Deep.AppendSrc
import Derived.Laws.OwnMore
import Derived.Laws.Tables
import Derived.Laws.BytesString
import Derived.RangeFuncLeaves
import Derived.Great.BuildSlice
import Derived.Great.FillDense
import Derived.IntWalk
set_option linter.unusedVariables false
set_option linter.unusedSimpArgs false
namespace Go.Proofs.YtpblgfgcoamgmaaGreatV

inductive Tk where
  | none
  | full
  | live (t m : Nat)
  deriving DecidableEq

inductive D where
  | any
  | int (k : IntKind) (n : Int)
  | bool (b : Bool)
  | str (s : ByteArray)
  | sl (t : Tk) (xs : List D)
  | so (b off len cap : Nat)
  | agg (cs : List D)
  | tup (ds : List D)
  | pb (b o : Nat)
  | pf (cs : List D)
  | nilp
  | clo (fn : Fn) (first captured : List D)
  | nilfunc
  | iface (t : TypeId) (d : D)
  | nilif
  | nilmap
  | when (c : Bool) (d : D)
  | lp (r : Loop) (tm : Nat → D)
  deriving Inhabited

def D.one : D → Bool
  | .any | .agg _ | .tup _ | .when _ _ | .lp _ _ => false
  | _ => true

def D.cells : D → List D
  | .agg cs => cs
  | d => [d]

structure Head where
  b : Nat
  off : Nat
  n : Nat
  c : Nat
  sz : Nat

def kno : D → Prop := fun _ => False
theorem kno_of {ds : List D} {o : Nat} (h : ds.length ≤ o) : (fun d => ds[o]? = some d) = kno := by
  funext d
  simp [kno, List.getElem?_eq_none h]

structure Kn where
  cells : Nat → Nat → D → Prop
  tok : Nat → Option (Option Head)

structure Kn.le (K K' : Kn) : Prop where
  cells : ∀ b o d, K.cells b o d → K'.cells b o d
  tok : ∀ t h, K.tok t = some h → K'.tok t = some h

theorem Kn.le.refl (K : Kn) : K.le K := ⟨fun _ _ _ h => h, fun _ _ h => h⟩
theorem Kn.le.trans {K K' K'' : Kn} (h : K.le K') (h' : K'.le K'') : K.le K'' := ⟨fun b o d x => h'.cells b o d (h.cells b o d x), fun t x y => h'.tok t x (h.tok t x y)⟩

def Laid (K : Kn) (a : Option Addr) (sz : Nat) (xs : List D) : Prop :=
  ∀ i x, xs[i]? = some x → ∃ ad, a = some ad ∧ ad.spot = none ∧ x.cells.length = sz ∧ ∀ j y, x.cells[j]? = some y → K.cells ad.block (ad.off + i * sz + j) y

theorem Laid.mono {K K' : Kn} (hk : K.le K') {a : Option Addr} {sz : Nat} {xs : List D} (h : Laid K a sz xs) : Laid K' a sz xs := fun i x hx =>
  let ⟨ad, h1, h2, h3, h4⟩ := h i x hx
  ⟨ad, h1, h2, h3, fun j y hy => hk.cells _ _ _ (h4 j y hy)⟩

def TokOk (K : Kn) (a : Option Addr) (n c sz : Nat) : Tk → Prop
  | .none => True
  | .full => n = c
  | .live t m => sz = m ∧ ∃ x, K.tok t = some x ∧ match x with
    | none => n = c
    | some h => ∃ ad, a = some ad ∧ ad.spot = none ∧ h = ⟨ad.block, ad.off, n, c, sz⟩

theorem TokOk.mono {K K' : Kn} (hk : K.le K') {a : Option Addr} {n c sz : Nat} {t : Tk} (h : TokOk K a n c sz t) : TokOk K' a n c sz t := by
  cases t with
  | none => trivial
  | full => exact h
  | live t m => obtain ⟨h0, x, h1, h2⟩ := h; exact ⟨h0, x, hk.tok _ _ h1, h2⟩

def mostLen : Nat := 281474976710656

mutual
inductive Rep (K : Kn) : D → Value → Prop
  | any (v : Value) : Rep K .any v
  | int (k : IntKind) (n : Int) : Rep K (.int k n) (.int k n)
  | bool (b : Bool) : Rep K (.bool b) (.bool b)
  | str (s : ByteArray) (h : s.size ≤ mostLen) : Rep K (.str s) (.string s)
  | sl {t : Tk} {xs : List D} {a : Option Addr} {n c sz : Nat} (hn : xs.length = n) (hc : n ≤ c) (hm : n ≤ mostLen) (hl : Laid K a sz xs) (ht : TokOk K a n c sz t) : Rep K (.sl t xs) (.slice a n c)
  | so (b off len cap : Nat) : Rep K (.so b off len cap) (.slice (some ⟨b, off, none⟩) len cap)
  | agg {cs : List D} {vs : List Value} (h : RepL K cs vs) : Rep K (.agg cs) (.agg vs.toArray)
  | tup {cs : List D} {vs : List Value} (h : RepL K cs vs) : Rep K (.tup cs) (.tuple vs.toArray)
  | pb (b o : Nat) : Rep K (.pb b o) (.pointer (some ⟨b, o, none⟩))
  | pf {cs : List D} {b o : Nat} (h : ∀ j y, cs[j]? = some y → K.cells b (o + j) y) : Rep K (.pf cs) (.pointer (some ⟨b, o, none⟩))
  | nilp : Rep K .nilp (.pointer none)
  | clo {fn : Fn} {f c : List D} {vf vc : List Value} (hf : RepL K f vf) (hc : RepL K c vc) : Rep K (.clo fn f c) (.func fn vf.toArray vc.toArray)
  | nilfunc : Rep K .nilfunc .nilFunc
  | iface {t : TypeId} {d : D} {v : Value} (h : Rep K d v) : Rep K (.iface t d) (.iface t v)
  | nilif : Rep K .nilif .nilIface
  | nilmap : Rep K .nilmap (.map none)
  | when {c : Bool} {d : D} {v : Value} (h : c = true → Rep K d v) (h0 : c = false → v = undef) : Rep K (.when c d) v
inductive RepL (K : Kn) : List D → List Value → Prop
  | nil : RepL K [] []
  | cons {d : D} {v : Value} {ds : List D} {vs : List Value} (h : Rep K d v) (t : RepL K ds vs) : RepL K (d :: ds) (v :: vs)
end

mutual
theorem Rep.mono {K K' : Kn} (hk : K.le K') : ∀ {d : D} {v : Value}, Rep K d v → Rep K' d v
  | _, _, .any v => .any v
  | _, _, .int k n => .int k n
  | _, _, .bool b => .bool b
  | _, _, .str s h => .str s h
  | _, _, .sl hn hc hm hl ht => .sl hn hc hm (hl.mono hk) (ht.mono hk)
  | _, _, .so b o l c => .so b o l c
  | _, _, .agg h => .agg (RepL.mono hk h)
  | _, _, .tup h => .tup (RepL.mono hk h)
  | _, _, .pb b o => .pb b o
  | _, _, .pf h => .pf fun j y hy => hk.cells _ _ _ (h j y hy)
  | _, _, .nilp => .nilp
  | _, _, .clo hf hc => .clo (RepL.mono hk hf) (RepL.mono hk hc)
  | _, _, .nilfunc => .nilfunc
  | _, _, .iface h => .iface (Rep.mono hk h)
  | _, _, .nilif => .nilif
  | _, _, .nilmap => .nilmap
  | _, _, .when h h0 => .when (fun hc => Rep.mono hk (h hc)) h0
theorem RepL.mono {K K' : Kn} (hk : K.le K') : ∀ {ds : List D} {vs : List Value}, RepL K ds vs → RepL K' ds vs
  | _, _, .nil => .nil
  | _, _, .cons h t => .cons (Rep.mono hk h) (RepL.mono hk t)
end

theorem RepL.length {K : Kn} : ∀ {ds : List D} {vs : List Value}, RepL K ds vs → ds.length = vs.length
  | _, _, .nil => rfl
  | _, _, .cons _ t => by simp [RepL.length t]

theorem RepL.get {K : Kn} : ∀ {ds : List D} {vs : List Value}, RepL K ds vs → ∀ (i : Nat) (d : D), ds[i]? = some d → ∃ v, vs[i]? = some v ∧ Rep K d v
  | _, _, .nil, i, d, h => by simp at h
  | _, _, .cons (v := v) h t, 0, d, e => ⟨v, by simp, by simp at e; exact e ▸ h⟩
  | _, _, .cons h t, i + 1, d, e => by simpa using RepL.get t i d (by simpa using e)

theorem RepL.of_get {K : Kn} : ∀ {ds : List D} {vs : List Value}, ds.length = vs.length → (∀ (i : Nat) (d : D) (v : Value), ds[i]? = some d → vs[i]? = some v → Rep K d v) → RepL K ds vs
  | [], [], _, _ => .nil
  | d :: ds, v :: vs, hl, h => .cons (h 0 d v rfl rfl) (RepL.of_get (by simpa using hl) fun i d v hd hv => h (i + 1) d v (by simpa using hd) (by simpa using hv))
  | [], _ :: _, hl, _ => by simp at hl
  | _ :: _, [], hl, _ => by simp at hl

theorem RepL.append {K : Kn} : ∀ {ds : List D} {vs : List Value} {ds' : List D} {vs' : List Value}, RepL K ds vs → RepL K ds' vs' → RepL K (ds ++ ds') (vs ++ vs')
  | _, _, _, _, .nil, h => h
  | _, _, _, _, .cons a t, h => .cons a (RepL.append t h)

theorem RepL.take {K : Kn} : ∀ {ds : List D} {vs : List Value}, RepL K ds vs → ∀ n, RepL K (ds.take n) (vs.take n)
  | _, _, .nil, n => by simpa using RepL.nil
  | _, _, .cons a t, 0 => by simpa using RepL.nil
  | _, _, .cons a t, n + 1 => by simpa using RepL.cons a (RepL.take t n)

theorem RepL.drop {K : Kn} : ∀ {ds : List D} {vs : List Value}, RepL K ds vs → ∀ n, RepL K (ds.drop n) (vs.drop n)
  | _, _, .nil, n => by simpa using RepL.nil
  | _, _, .cons a t, 0 => by simpa using RepL.cons a t
  | _, _, .cons a t, n + 1 => by simpa using RepL.drop t n

theorem RepL.split {K : Kn} : ∀ {ds ds' : List D} {vs : List Value}, RepL K (ds ++ ds') vs → ∃ v1 v2, vs = v1 ++ v2 ∧ RepL K ds v1 ∧ RepL K ds' v2
  | [], _, vs, h => ⟨[], vs, rfl, .nil, h⟩
  | _ :: ds, ds', _, .cons a t => let ⟨v1, v2, e, h1, h2⟩ := RepL.split t; ⟨_ :: v1, v2, by rw [e]; rfl, .cons a h1, h2⟩

theorem RepL.one {K : Kn} {d : D} {vs : List Value} (h : RepL K [d] vs) : ∃ v, vs = [v] ∧ Rep K d v := by
  cases h with
  | cons h t => cases t; exact ⟨_, rfl, h⟩

theorem RepL.any {K : Kn} (vs : List Value) : RepL K (List.replicate vs.length .any) vs := by
  induction vs with
  | nil => exact .nil
  | cons v vs ih => exact .cons (.any v) ih

theorem Rep.oneCell {K : Kn} {d : D} {v : Value} (h : Rep K d v) (hd : d.one = true) : v.oneCell' = true := by
  cases h <;> simp_all [D.one, Value.oneCell']

theorem Rep.cells {K : Kn} {d : D} {v : Value} (h : Rep K d v) (hd : d ≠ .any) (ht : ∀ ds, d ≠ .tup ds) (hw : ∀ c x, d ≠ .when c x) : RepL K d.cells v.cells.toList := by
  cases h with
  | any => exact absurd rfl hd
  | tup h => exact absurd rfl (ht _)
  | agg h => simpa [D.cells, Value.cells] using h
  | int k n => exact .cons (.int k n) .nil
  | bool b => exact .cons (.bool b) .nil
  | str s h => exact .cons (.str s h) .nil
  | sl a b c d e => exact .cons (.sl a b c d e) .nil
  | so b o l c => exact .cons (.so b o l c) .nil
  | pb b o => exact .cons (.pb b o) .nil
  | pf h => exact .cons (.pf h) .nil
  | nilp => exact .cons .nilp .nil
  | clo a b => exact .cons (.clo a b) .nil
  | nilfunc => exact .cons .nilfunc .nil
  | iface h => exact .cons (.iface h) .nil
  | nilif => exact .cons .nilif .nil
  | nilmap => exact .cons .nilmap .nil
  | when h h0 => exact absurd rfl (hw _ _)

def solid (cs : List D) : Bool := cs.all D.one

def D.solid : D → Bool
  | .agg cs => cs.all D.one
  | d => d.one

theorem Rep.cells_solid {K : Kn} {d : D} {v : Value} (h : Rep K d v) (hd : d.solid = true) : RepL K d.cells v.cells.toList ∧ ∀ u ∈ v.cells.toList, u.oneCell' = true := by
  refine ⟨h.cells (fun e => by subst e; simp [D.solid, D.one] at hd) (fun ds e => by subst e; simp [D.solid, D.one] at hd) (fun c x e => by subst e; simp [D.solid, D.one] at hd), ?_⟩
  cases h with
  | agg h =>
    simp only [D.solid, List.all_eq_true] at hd
    intro u hu
    simp only [Value.cells, List.toList_toArray] at hu
    obtain ⟨i, hi, rfl⟩ := List.getElem_of_mem hu
    have hl := h.length
    obtain ⟨v', hv', hr⟩ := h.get i _ (List.getElem?_eq_getElem (by omega))
    rw [List.getElem?_eq_getElem hi] at hv'
    cases hv'
    exact hr.oneCell (hd _ (List.getElem_mem _))
  | _ => simp_all [D.solid, D.one, Value.cells, Value.oneCell']

def D.er1 : D → D
  | .sl _ xs => .sl .none xs
  | d => d

def D.er : D → D
  | .agg cs => .agg (cs.map D.er1)
  | .tup cs => .tup (cs.map fun | .agg ds => .agg (ds.map D.er1) | d => d.er1)
  | d => d.er1

theorem Rep.er1 {K : Kn} {d : D} {v : Value} (h : Rep K d v) : Rep K d.er1 v := by
  cases h with
  | sl hn hc hm hl ht => exact .sl hn hc hm hl trivial
  | any v => exact .any v
  | int k n => exact .int k n
  | bool b => exact .bool b
  | str s h => exact .str s h
  | so b o l c => exact .so b o l c
  | agg h => exact .agg h
  | tup h => exact .tup h
  | pb b o => exact .pb b o
  | pf h => exact .pf h
  | nilp => exact .nilp
  | clo a b => exact .clo a b
  | nilfunc => exact .nilfunc
  | iface h => exact .iface h
  | nilif => exact .nilif
  | nilmap => exact .nilmap
  | when h h0 => exact .when h h0

theorem RepL.map {K : Kn} {f : D → D} (hf : ∀ d v, Rep K d v → Rep K (f d) v) : ∀ {ds : List D} {vs : List Value}, RepL K ds vs → RepL K (ds.map f) vs
  | _, _, .nil => .nil
  | _, _, .cons a t => .cons (hf _ _ a) (RepL.map hf t)

theorem Rep.er {K : Kn} {d : D} {v : Value} (h : Rep K d v) : Rep K d.er v := by
  cases h with
  | agg h => exact .agg (h.map fun _ _ => Rep.er1)
  | tup h =>
    refine .tup (h.map fun d v hd => ?_)
    cases d with
    | agg cs => cases hd with | agg h => exact .agg (h.map fun _ _ => Rep.er1)
    | _ => exact hd.er1
  | sl hn hc hm hl ht => exact (Rep.sl hn hc hm hl ht).er1
  | any v => exact .any v
  | int k n => exact .int k n
  | bool b => exact .bool b
  | str s h => exact .str s h
  | so b o l c => exact .so b o l c
  | pb b o => exact .pb b o
  | pf h => exact .pf h
  | nilp => exact .nilp
  | clo a b => exact .clo a b
  | nilfunc => exact .nilfunc
  | iface h => exact .iface h
  | nilif => exact .nilif
  | nilmap => exact .nilmap
  | when h h0 => exact .when h h0

abbrev Heap := Nat → Option (List D)

def Heap.set (β : Heap) (b : Nat) (cs : List D) : Heap := fun i => if i = b then some cs else β i

def Heap.nil : Heap := fun _ => none

inductive BoxAt (K : Kn) : List D → Obj → Prop
  | cells {cs : List D} {vs : Array Value} {e : TypeId} (h : RepL K cs vs.toList) : BoxAt K cs (.cells vs e (0, 0))
  | loop {r : Loop} {tm : Nat → D} (h : ∀ t, Rep K (tm t) (r.tmps.getD t undef)) : BoxAt K [.lp r tm] (.loop r)

theorem BoxAt.mono {K K' : Kn} (hk : K.le K') {cs : List D} {o : Obj} (h : BoxAt K cs o) : BoxAt K' cs o := by
  cases h with
  | cells h => exact .cells (h.mono hk)
  | loop h => exact .loop fun t => (h t).mono hk

def isObj : List D → Bool
  | [.lp _ _] => true
  | _ => false

theorem BoxAt.plain {K : Kn} {cs : List D} {o : Obj} (h : BoxAt K cs o) (hc : isObj cs = false) : ∃ vs e, o = .cells vs e (0, 0) ∧ RepL K cs vs.toList := by
  cases h with
  | cells h => exact ⟨_, _, rfl, h⟩
  | loop h => simp [isObj] at hc

structure Rel (G : Heap) (K : Kn) (β : Heap) (ω : List Nat) (w : World) : Prop where
  holds : ∀ b o d, K.cells b o d → ∃ v, w.cell? ⟨b, o, none⟩ = some v ∧ Rep K d v
  box : ∀ b cs, β b = some cs → ∃ o, w.heap[b]? = some o ∧ BoxAt K cs o
  boxK : ∀ b cs, β b = some cs → ∀ o, K.cells b o = kno
  tok : ∀ t, t ∈ ω → ∃ x, K.tok t = some x ∧ ∀ h, x = some h → ∃ vs e, w.heap[h.b]? = some (.cells vs e (0, 0)) ∧ h.n ≤ h.c ∧ h.off + h.c * h.sz ≤ vs.size ∧ β h.b = none ∧ ∀ o, h.off + h.n * h.sz ≤ o → K.cells h.b o = kno
  tokne : ∀ t u h h', t ∈ ω → u ∈ ω → K.tok t = some (some h) → K.tok u = some (some h') → h.b = h'.b → t = u
  glob : ∀ g cs, G g = some cs → ∀ o d, cs[o]? = some d → K.cells g o d
  free : ∃ N, ∀ t, N ≤ t → K.tok t = none

def owns (K : Kn) (β : Heap) (ω : List Nat) (b : Nat) : Prop := β b ≠ none ∨ ∃ t h, t ∈ ω ∧ K.tok t = some (some h) ∧ h.b = b

structure Evo (K : Kn) (β : Heap) (ω : List Nat) (w : World) (K' : Kn) (β' : Heap) (ω' : List Nat) (w' : World) : Prop where
  le : K.le K'
  size : w.heap.size ≤ w'.heap.size
  os : w'.os = w.os
  tape : w'.tape = w.tape
  output : w'.output = w.output
  keep : ∀ b, b < w.heap.size → ¬ owns K β ω b → w'.heap[b]? = w.heap[b]? ∧ (∀ o, K'.cells b o = K.cells b o) ∧ ¬ owns K' β' ω' b
  tok : ∀ t, t ∈ ω' → t ∈ ω ∨ K.tok t = none

theorem Evo.refl (K : Kn) (β : Heap) (ω : List Nat) (w : World) : Evo K β ω w K β ω w := ⟨.refl K, Nat.le_refl _, rfl, rfl, rfl, fun _ _ h => ⟨rfl, fun _ => rfl, h⟩, fun _ h => .inl h⟩

theorem Evo.trans {K K' K'' : Kn} {β β' β'' : Heap} {ω ω' ω'' : List Nat} {w w' w'' : World} (h : Evo K β ω w K' β' ω' w') (h' : Evo K' β' ω' w' K'' β'' ω'' w'') : Evo K β ω w K'' β'' ω'' w'' :=
  ⟨h.le.trans h'.le, Nat.le_trans h.size h'.size, h'.os.trans h.os, h'.tape.trans h.tape, h'.output.trans h.output, fun b hb ho => by
    obtain ⟨a1, a2, a3⟩ := h.keep b hb ho
    obtain ⟨b1, b2, b3⟩ := h'.keep b (Nat.lt_of_lt_of_le hb h.size) a3
    exact ⟨b1.trans a1, fun o => (b2 o).trans (a2 o), b3⟩, fun t ht => by
    rcases h'.tok t ht with h1 | h1
    · exact h.tok t h1
    · refine .inr ?_
      cases hk : K.tok t with
      | none => rfl
      | some x => rw [h.le.tok t x hk] at h1; cases h1⟩

end Go.Proofs.YtpblgfgcoamgmaaGreatV
namespace Go.Proofs.YtpblgfgcoamgmaaGreatV
open Go

theorem cell_of {w : World} {b o : Nat} {vs : Array Value} {e : TypeId} {fr : Nat × Nat} (h : w.heap[b]? = some (.cells vs e fr)) : w.cell? ⟨b, o, none⟩ = vs[o]? := by
  simp [World.cell?, h]


theorem lt_of_cell {w : World} {b o : Nat} {v : Value} (h : w.cell? ⟨b, o, none⟩ = some v) : b < w.heap.size := World.block_lt_of_cell? w _ h

theorem lt_of_heap {w : World} {b : Nat} {x : Obj} (h : w.heap[b]? = some x) : b < w.heap.size := (Array.getElem?_eq_some_iff.1 h).1

variable {G : Heap} {K : Kn} {β : Heap} {ω : List Nat} {w w' : World}

theorem Rel.lt (h : Rel G K β ω w) {b o : Nat} {d : D} (hk : K.cells b o d) : b < w.heap.size := by
  obtain ⟨v, hv, _⟩ := h.holds b o d hk
  exact lt_of_cell hv

theorem Rel.none_of_ge (h : Rel G K β ω w) {b : Nat} (hb : w.heap.size ≤ b) (o : Nat) : K.cells b o = kno := by
  funext d
  simp only [kno, eq_iff_iff, iff_false]
  exact fun hk => absurd (h.lt hk) (by omega)

theorem Rel.box_lt (h : Rel G K β ω w) {b : Nat} {cs : List D} (hb : β b = some cs) : b < w.heap.size := by
  obtain ⟨o, hv, _⟩ := h.box b cs hb
  exact lt_of_heap hv

theorem Rel.box_none (h : Rel G K β ω w) {b : Nat} (hb : w.heap.size ≤ b) : β b = none := by
  cases hk : β b with
  | none => rfl
  | some d => exact absurd (h.box_lt hk) (by omega)

theorem Rel.tokAt (h : Rel G K β ω w) {t : Nat} {hd : Head} (ht : t ∈ ω) (hk : K.tok t = some (some hd)) :
    ∃ vs e, w.heap[hd.b]? = some (.cells vs e (0, 0)) ∧ hd.n ≤ hd.c ∧ hd.off + hd.c * hd.sz ≤ vs.size ∧ β hd.b = none ∧ ∀ o, hd.off + hd.n * hd.sz ≤ o → K.cells hd.b o = kno := by
  obtain ⟨x, hx, hv⟩ := h.tok t ht
  rw [hk] at hx; cases hx
  exact hv hd rfl

theorem Rel.same (h : Rel G K β ω w) (hh : w'.heap = w.heap) : Rel G K β ω w' := by
  have hc : ∀ a, w'.cell? a = w.cell? a := fun a => by simp [World.cell?, hh]
  exact ⟨fun b o d hk => by rw [hc]; exact h.holds b o d hk, fun b cs hb => by rw [hh]; exact h.box b cs hb, h.boxK, fun t ht => by rw [hh]; exact h.tok t ht, h.tokne, h.glob, h.free⟩

theorem Evo.same (hh : w'.heap = w.heap) (ho : w'.os = w.os) (ht : w'.tape = w.tape) (hp : w'.output = w.output) : Evo K β ω w K β ω w' :=
  ⟨.refl K, by rw [hh]; exact Nat.le_refl _, ho, ht, hp, fun _ _ h => ⟨by rw [hh], fun _ => rfl, h⟩, fun _ h => .inl h⟩

theorem Evo.drew : Evo K β ω w K β ω w.drew := Evo.same rfl rfl rfl rfl

theorem Rel.less (h : Rel G K β ω w) {β' : Heap} {ω' : List Nat} (hb : ∀ b cs, β' b = some cs → β b = some cs) (hw : ∀ t, t ∈ ω' → t ∈ ω) : Rel G K β' ω' w := by
  refine ⟨h.holds, fun b cs hc => h.box b cs (hb b cs hc), fun b cs hc => h.boxK b cs (hb b cs hc), fun t ht => ?_, fun t u hd hd' ht hu => h.tokne t u hd hd' (hw t ht) (hw u hu), h.glob, h.free⟩
  obtain ⟨x, a1, hx⟩ := h.tok t (hw t ht)
  refine ⟨x, a1, fun hd hxd => ?_⟩
  obtain ⟨vs, e, a2, a3, a4, a5, a6⟩ := hx hd hxd
  refine ⟨vs, e, a2, a3, a4, ?_, a6⟩
  cases hk : β' hd.b with
  | none => rfl
  | some cs => rw [hb _ _ hk] at a5; cases a5

theorem owns.less {β' : Heap} {ω' : List Nat} (hb : ∀ b cs, β' b = some cs → β b = some cs) (hw : ∀ t, t ∈ ω' → t ∈ ω) {b : Nat} (h : owns K β' ω' b) : owns K β ω b := by
  rcases h with h | ⟨t, hd, ht, hk, e⟩
  · left
    cases hk : β' b with
    | none => exact absurd hk h
    | some cs => rw [hb _ _ hk]; simp
  · exact .inr ⟨t, hd, hw t ht, hk, e⟩

theorem Evo.less {β' : Heap} {ω' : List Nat} (hb : ∀ b cs, β' b = some cs → β b = some cs) (hw : ∀ t, t ∈ ω' → t ∈ ω) : Evo K β ω w K β' ω' w :=
  ⟨.refl K, Nat.le_refl _, rfl, rfl, rfl, fun b _ h => ⟨rfl, fun _ => rfl, fun hn => h (hn.less hb hw)⟩, fun t h => .inl (hw t h)⟩

theorem free_set {tok : Nat → Option (Option Head)} (h : ∃ N, ∀ t, N ≤ t → tok t = none) (t : Nat) (x : Option Head) (tok' : Nat → Option (Option Head)) (h' : ∀ u, u ≠ t → tok' u = tok u) : ∃ N, ∀ t, N ≤ t → tok' t = none := by
  obtain ⟨N, hN⟩ := h
  exact ⟨max N (t + 1), fun u hu => by rw [h' u (by omega)]; exact hN u (by omega)⟩

theorem Rel.fresh (h : Rel G K β ω w) : ∃ t, K.tok t = none ∧ t ∉ ω := by
  obtain ⟨N, hN⟩ := h.free
  refine ⟨N, hN N (Nat.le_refl _), fun hm => ?_⟩
  obtain ⟨x, hx, _⟩ := h.tok N hm
  rw [hN N (Nat.le_refl _)] at hx
  cases hx

theorem heap_push_old (o : Obj) {b : Nat} (hb : b < w.heap.size) : (w.alloc o).heap[b]? = w.heap[b]? := by
  show (w.heap.push o)[b]? = _
  rw [Array.getElem?_push, if_neg (by omega)]

theorem heap_push_new (o : Obj) : (w.alloc o).heap[w.heap.size]? = some o := by
  show (w.heap.push o)[w.heap.size]? = _
  simp

theorem cell_push_old (o : Obj) {a : Addr} {v : Value} (h : w.cell? a = some v) : (w.alloc o).cell? a = some v := by
  have hb := World.block_lt_of_cell? w a h
  rw [← h]
  simp only [World.cell?, heap_push_old o hb]

theorem Rel.push (h : Rel G K β ω w) (o : Obj) : Rel G K β ω (w.alloc o) := by
  refine ⟨fun b o' d hk => ?_, fun b cs hb => ?_, h.boxK, fun t ht => ?_, h.tokne, h.glob, h.free⟩
  · obtain ⟨v, hv, hr⟩ := h.holds b o' d hk
    exact ⟨v, cell_push_old o hv, hr⟩
  · obtain ⟨x, hv, hr⟩ := h.box b cs hb
    exact ⟨x, by rw [heap_push_old o (lt_of_heap hv)]; exact hv, hr⟩
  · obtain ⟨x, a1, hx⟩ := h.tok t ht
    refine ⟨x, a1, fun hd hxd => ?_⟩
    obtain ⟨vs, e, a2, a3⟩ := hx hd hxd
    exact ⟨vs, e, by rw [heap_push_old o (lt_of_heap a2)]; exact a2, a3⟩

theorem size_push (o : Obj) : (w.alloc o).heap.size = w.heap.size + 1 := by
  show (w.heap.push o).size = _
  simp

theorem Evo.push (o : Obj) : Evo K β ω w K β ω (w.alloc o) :=
  ⟨.refl K, by rw [size_push]; omega, rfl, rfl, rfl, fun _ hb h => ⟨heap_push_old o hb, fun _ => rfl, h⟩, fun _ h => .inl h⟩

theorem Rel.new_box (h : Rel G K β ω w) {vs : List Value} {e : TypeId} {cs : List D} (hr : RepL K cs vs) :
    Rel G K (β.set w.heap.size cs) ω (w.alloc (.cells vs.toArray e)) ∧ Evo K β ω w K (β.set w.heap.size cs) ω (w.alloc (.cells vs.toArray e)) := by
  have hp := h.push (.cells vs.toArray e)
  constructor
  · refine ⟨hp.holds, fun b cs' hb => ?_, fun b cs' hb o => ?_, fun t ht => ?_, h.tokne, h.glob, h.free⟩
    · unfold Heap.set at hb
      split at hb
      · rename_i hbe
        subst hbe
        cases hb
        exact ⟨_, heap_push_new _, .cells (by simpa using hr)⟩
      · exact hp.box b cs' hb
    · unfold Heap.set at hb
      split at hb
      · rename_i hbe
        subst hbe
        exact h.none_of_ge (Nat.le_refl _) o
      · exact h.boxK b cs' hb o
    · obtain ⟨x, a1, hx⟩ := hp.tok t ht
      refine ⟨x, a1, fun hd hxd => ?_⟩
      obtain ⟨us, e', a2, a3, a4, a5, a6⟩ := hx hd hxd
      refine ⟨us, e', a2, a3, a4, ?_, a6⟩
      unfold Heap.set
      split
      · rename_i hbe
        subst hxd
        obtain ⟨us', e'', b2, _⟩ := h.tokAt ht a1
        have := lt_of_heap b2
        omega
      · exact a5
  · refine ⟨.refl K, by rw [size_push]; omega, rfl, rfl, rfl, fun b hb ho => ⟨heap_push_old _ hb, fun _ => rfl, fun hn => ho ?_⟩, fun _ h => .inl h⟩
    rcases hn with hn | hn
    · left
      unfold Heap.set at hn
      rwa [if_neg (by omega)] at hn
    · exact .inr hn

def Kn.row (K : Kn) (b : Nat) (ds : List D) (t : Option (Nat × Option Head)) : Kn where
  cells := fun b' o => if b' = b then (fun d => ds[o]? = some d) else K.cells b' o
  tok := fun u => match t with
    | some (t, h) => if u = t then some h else K.tok u
    | none => K.tok u

theorem Kn.row_le {b : Nat} {ds : List D} {t : Option (Nat × Option Head)} (hb : ∀ o, K.cells b o = kno) (ht : ∀ u h, t = some (u, h) → K.tok u = none) : K.le (K.row b ds t) := by
  refine ⟨fun b' o d h => ?_, fun u h hu => ?_⟩
  · unfold Kn.row
    simp only
    rw [if_neg (fun e => by subst e; rw [hb o] at h; cases h)]
    exact h
  · unfold Kn.row
    simp only
    split
    · rename_i t' h'
      rw [if_neg (fun e => by subst e; rw [ht _ _ rfl] at hu; cases hu)]
      exact hu
    · exact hu

theorem Rel.new_row (h : Rel G K β ω w) {vs : List Value} {e : TypeId} {ds : List D} (hr : RepL K ds (vs.take ds.length)) :
    Rel G (K.row w.heap.size ds none) β ω (w.alloc (.cells vs.toArray e)) ∧ Evo K β ω w (K.row w.heap.size ds none) β ω (w.alloc (.cells vs.toArray e)) := by
  have hp := h.push (.cells vs.toArray e)
  have hle : K.le (K.row w.heap.size ds none) := Kn.row_le (fun o => h.none_of_ge (Nat.le_refl _) o) (fun u h hu => by cases hu)
  have hold : ∀ b o, b ≠ w.heap.size → (K.row w.heap.size ds none).cells b o = K.cells b o := fun b o hb => by simp [Kn.row, hb]
  constructor
  · refine ⟨fun b o d hk => ?_, fun b cs hb => ?_, fun b cs hb o => ?_, fun t ht => ?_, fun t u hd hd' ht hu a b c => h.tokne t u hd hd' ht hu a b c, fun g cs hg o d hd => hle.cells _ _ _ (h.glob g cs hg o d hd), h.free⟩
    · by_cases hb : b = w.heap.size
      · subst hb
        simp only [Kn.row, if_true] at hk
        have ho : o < ds.length := (List.getElem?_eq_some_iff.1 hk).1
        obtain ⟨v, hv, hrv⟩ := hr.get o d hk
        rw [List.getElem?_take, if_pos ho] at hv
        exact ⟨v, by rw [cell_of (heap_push_new _)]; simpa using hv, hrv.mono hle⟩
      · rw [hold b o hb] at hk
        obtain ⟨v, hv, hrv⟩ := hp.holds b o d hk
        exact ⟨v, hv, hrv.mono hle⟩
    · obtain ⟨x, hv, hrv⟩ := hp.box b cs hb
      exact ⟨x, hv, hrv.mono hle⟩
    · have := h.box_lt hb
      rw [hold b o (by omega)]
      exact h.boxK b cs hb o
    · obtain ⟨x, a1, hx⟩ := hp.tok t ht
      refine ⟨x, a1, fun hd hxd => ?_⟩
      obtain ⟨us, e', a2, a3, a4, a5, a6⟩ := hx hd hxd
      subst hxd
      obtain ⟨us', e'', b2, _⟩ := h.tokAt ht a1
      have := lt_of_heap b2
      exact ⟨us, e', a2, a3, a4, a5, fun o ho => by rw [hold _ _ (by omega)]; exact a6 o ho⟩
  · exact ⟨hle, by rw [size_push]; omega, rfl, rfl, rfl, fun b hb ho => ⟨heap_push_old _ hb, fun o => hold b o (by omega), fun hn => ho hn⟩, fun _ h => .inl h⟩

theorem Rel.new_live (h : Rel G K β ω w) {vs : List Value} {e : TypeId} {ds : List D} (hr : RepL K ds (vs.take ds.length)) {t n c sz : Nat} (hn : n * sz = ds.length) (hc : n ≤ c) (hl : c * sz ≤ vs.length) (ht : K.tok t = none) (htw : t ∉ ω) :
    Rel G (K.row w.heap.size ds (some (t, some ⟨w.heap.size, 0, n, c, sz⟩))) β (t :: ω) (w.alloc (.cells vs.toArray e)) ∧ Evo K β ω w (K.row w.heap.size ds (some (t, some ⟨w.heap.size, 0, n, c, sz⟩))) β (t :: ω) (w.alloc (.cells vs.toArray e)) := by
  have hp := h.push (.cells vs.toArray e)
  have hnc : n * sz ≤ c * sz := Nat.mul_le_mul_right _ hc
  have hle : K.le (K.row w.heap.size ds (some (t, some ⟨w.heap.size, 0, n, c, sz⟩))) := Kn.row_le (fun o => h.none_of_ge (Nat.le_refl _) o) (fun u h hu => by cases hu; exact ht)
  have hold : ∀ b o, b ≠ w.heap.size → (K.row w.heap.size ds (some (t, some ⟨w.heap.size, 0, n, c, sz⟩))).cells b o = K.cells b o := fun b o hb => by simp [Kn.row, hb]
  have htok : (K.row w.heap.size ds (some (t, some ⟨w.heap.size, 0, n, c, sz⟩))).tok t = some (some ⟨w.heap.size, 0, n, c, sz⟩) := by simp [Kn.row]
  have hblk : ∀ u hd, u ∈ ω → K.tok u = some (some hd) → hd.b < w.heap.size := fun u hd hu hk => by
    obtain ⟨us', e'', b2, _⟩ := h.tokAt hu hk
    exact lt_of_heap b2
  have htk : ∀ u x, u ∈ ω → (K.row w.heap.size ds (some (t, some ⟨w.heap.size, 0, n, c, sz⟩))).tok u = some x → K.tok u = some x := fun u hd hu hk => by
    have hne : u ≠ t := fun e => htw (e ▸ hu)
    simpa [Kn.row, hne] using hk
  constructor
  · refine ⟨fun b o d hk => ?_, fun b cs hb => ?_, fun b cs hb o => ?_, fun u hu => ?_, fun u v hd hd' hu hv a b c => ?_, fun g cs hg o d hd => hle.cells _ _ _ (h.glob g cs hg o d hd), free_set h.free t none _ fun u hu => by simp [Kn.row, hu]⟩
    · by_cases hb : b = w.heap.size
      · subst hb
        simp only [Kn.row, if_true] at hk
        have ho : o < ds.length := (List.getElem?_eq_some_iff.1 hk).1
        obtain ⟨v, hv, hrv⟩ := hr.get o d hk
        rw [List.getElem?_take, if_pos ho] at hv
        exact ⟨v, by rw [cell_of (heap_push_new _)]; simpa using hv, hrv.mono hle⟩
      · rw [hold b o hb] at hk
        obtain ⟨v, hv, hrv⟩ := hp.holds b o d hk
        exact ⟨v, hv, hrv.mono hle⟩
    · obtain ⟨x, hv, hrv⟩ := hp.box b cs hb
      exact ⟨x, hv, hrv.mono hle⟩
    · have := h.box_lt hb
      rw [hold b o (by omega)]
      exact h.boxK b cs hb o
    · rcases List.mem_cons.1 hu with rfl | hu
      · refine ⟨_, htok, fun hd hxd => ?_⟩
        cases hxd
        exact ⟨vs.toArray, e, heap_push_new _, hc, by simpa using hl, h.box_none (Nat.le_refl _), fun o ho => by simp only [Kn.row, if_true]; refine kno_of ?_; simp at ho; omega⟩
      · obtain ⟨x, a1, hx⟩ := hp.tok u hu
        refine ⟨x, hle.tok _ _ a1, fun hd hxd => ?_⟩
        obtain ⟨us, e', a2, a3, a4, a5, a6⟩ := hx hd hxd
        subst hxd
        have := hblk u hd hu a1
        exact ⟨us, e', a2, a3, a4, a5, fun o ho => by rw [hold _ _ (by omega)]; exact a6 o ho⟩
    · rcases List.mem_cons.1 hu with rfl | hu1
      · rcases List.mem_cons.1 hv with rfl | hv1
        · rfl
        · rw [htok] at a; cases a
          have := hblk v hd' hv1 (htk v _ hv1 b)
          simp at c; omega
      · rcases List.mem_cons.1 hv with rfl | hv1
        · rw [htok] at b; cases b
          have := hblk u hd hu1 (htk u _ hu1 a)
          simp at c; omega
        · exact h.tokne u v hd hd' hu1 hv1 (htk u _ hu1 a) (htk v _ hv1 b) c
  · refine ⟨hle, by rw [size_push]; omega, rfl, rfl, rfl, fun b hb ho => ⟨heap_push_old _ hb, fun o => hold b o (by omega), fun hn => ho ?_⟩, fun u hu => ?_⟩
    · rcases hn with hn | ⟨u, hd, hu, hk, rfl⟩
      · exact .inl hn
      · rcases List.mem_cons.1 hu with rfl | hu
        · rw [htok] at hk; cases hk; simp at hb
        · exact .inr ⟨u, hd, hu, htk u _ hu hk, rfl⟩
    · rcases List.mem_cons.1 hu with rfl | hu
      · exact .inr ht
      · exact .inl hu

def splice {α : Type} (cs : List α) (o : Nat) (ds : List α) : List α := cs.take o ++ ds ++ cs.drop (o + ds.length)

theorem splice_length {α : Type} (cs : List α) (o : Nat) (ds : List α) (h : o + ds.length ≤ cs.length) : (splice cs o ds).length = cs.length := by
  simp [splice]; omega

theorem RepL.splice {cs ds : List D} {vs us : List Value} (h : RepL K cs vs) (h' : RepL K ds us) (o : Nat) : RepL K (splice cs o ds) (splice vs o us) := by
  unfold Go.Proofs.YtpblgfgcoamgmaaGreatV.splice
  rw [h'.length]
  exact ((h.take o).append h').append (h.drop _)

theorem Rel.write (h : Rel G K β ω w) {b o : Nat} {cs ds : List D} {us : List Value} (hb : β b = some cs) (hob : isObj cs = false) (hu : RepL K ds us) (ho : o + ds.length ≤ cs.length) :
    ∃ vs e, w.heap[b]? = some (.cells vs e (0, 0)) ∧ o + us.length ≤ vs.size ∧ RepL K cs vs.toList ∧
      (∀ w', (∀ k, k ≠ b → w'.heap[k]? = w.heap[k]?) → w'.heap[b]? = some (.cells (splice vs.toList o us).toArray e (0, 0)) → w'.heap.size = w.heap.size → w'.os = w.os → w'.tape = w.tape → w'.output = w.output →
        Rel G K (β.set b (splice cs o ds)) ω w' ∧ Evo K β ω w K (β.set b (splice cs o ds)) ω w') := by
  obtain ⟨x, hv, hx⟩ := h.box b cs hb
  obtain ⟨vs, e, rfl, hr⟩ := hx.plain hob
  have hl := hr.length
  simp at hl
  refine ⟨vs, e, hv, by rw [← hu.length]; omega, hr, fun w' hk hbw hs h1 h2 h3 => ⟨⟨fun b' o' d hkd => ?_, fun b' cs' hc => ?_, fun b' cs' hc o' => ?_, fun t ht => ?_, h.tokne, h.glob, h.free⟩, ⟨.refl K, by omega, h1, h2, h3, fun b' hb' hn => ⟨hk b' ?_, fun _ => rfl, fun hx => hn ?_⟩, fun _ h => .inl h⟩⟩⟩
  · obtain ⟨v, hv', hrv⟩ := h.holds b' o' d hkd
    have hne : b' ≠ b := fun e => by subst e; rw [h.boxK b' cs hb o'] at hkd; cases hkd
    exact ⟨v, by rw [← hv']; simp [World.cell?, hk b' hne], hrv⟩
  · unfold Heap.set at hc
    split at hc
    · rename_i hbe
      subst hbe
      cases hc
      exact ⟨_, hbw, .cells (by simpa using hr.splice hu o)⟩
    · rename_i hne
      rw [hk b' hne]
      exact h.box b' cs' hc
  · unfold Heap.set at hc
    split at hc
    · rename_i hbe
      subst hbe
      exact h.boxK b' cs hb o'
    · exact h.boxK b' cs' hc o'
  · obtain ⟨x, a1, hx⟩ := h.tok t ht
    refine ⟨x, a1, fun hd hxd => ?_⟩
    obtain ⟨us', e', a2, a3, a4, a5, a6⟩ := hx hd hxd
    have hne : hd.b ≠ b := fun e => by rw [e, hb] at a5; cases a5
    exact ⟨us', e', by rw [hk _ hne]; exact a2, a3, a4, by simp [Heap.set, hne, a5], a6⟩
  · intro hbe
    subst hbe
    exact hn (.inl (by rw [hb]; simp))
  · rcases hx with hx | hx
    · left
      unfold Heap.set at hx
      split at hx
      · rename_i hbe
        subst hbe
        rw [hb]; simp
      · exact hx
    · exact .inr hx

def Kn.more (K : Kn) (b o : Nat) (ds : List D) (t : Nat) (hd : Option Head) : Kn where
  cells := fun b' o' => if b' = b ∧ o ≤ o' ∧ o' < o + ds.length then (fun d => ds[o' - o]? = some d) else K.cells b' o'
  tok := fun u => if u = t then some hd else K.tok u

theorem Rel.append_room (h : Rel G K β ω w) {t t' : Nat} {hd : Head} {ds : List D} {us : List Value} {k : Nat} (ht : t ∈ ω) (hk : K.tok t = some (some hd)) (hu : RepL K ds us) (hl : ds.length = k * hd.sz) (hr : hd.n + k ≤ hd.c) (ht' : K.tok t' = none) :
    ∃ vs e, w.heap[hd.b]? = some (.cells vs e (0, 0)) ∧ hd.off + hd.n * hd.sz + us.length ≤ vs.size ∧
      (∀ w', (∀ j, j ≠ hd.b → w'.heap[j]? = w.heap[j]?) → w'.heap[hd.b]? = some (.cells (splice vs.toList (hd.off + hd.n * hd.sz) us).toArray e (0, 0)) → w'.heap.size = w.heap.size → w'.os = w.os → w'.tape = w.tape → w'.output = w.output →
        Rel G (K.more hd.b (hd.off + hd.n * hd.sz) ds t' (some { hd with n := hd.n + k })) β (t' :: ω.filter (· ≠ t)) w' ∧ Evo K β ω w (K.more hd.b (hd.off + hd.n * hd.sz) ds t' (some { hd with n := hd.n + k })) β (t' :: ω.filter (· ≠ t)) w') := by
  obtain ⟨vs, e, a2, a3, a4, a5, a6⟩ := h.tokAt ht hk
  have hul := hu.length
  have hmul : hd.n * hd.sz + k * hd.sz ≤ hd.c * hd.sz := by rw [← Nat.add_mul]; exact Nat.mul_le_mul_right _ hr
  have htt : t' ≠ t := fun e => by subst e; rw [hk] at ht'; cases ht'
  have hle : K.le (K.more hd.b (hd.off + hd.n * hd.sz) ds t' (some { hd with n := hd.n + k })) := by
    refine ⟨fun b o d hc => ?_, fun u x hx => ?_⟩
    · unfold Kn.more
      simp only
      rw [if_neg]
      · exact hc
      · rintro ⟨rfl, h1, h2⟩
        rw [a6 o h1] at hc
        cases hc
    · unfold Kn.more
      simp only
      rw [if_neg (fun e => by subst e; rw [ht'] at hx; cases hx)]
      exact hx
  have hmem : ∀ u, u ∈ ω.filter (· ≠ t) → u ∈ ω ∧ u ≠ t := fun u hu => by simpa using hu
  have htk : ∀ u x, u ∈ ω → (K.more hd.b (hd.off + hd.n * hd.sz) ds t' (some { hd with n := hd.n + k })).tok u = some x → K.tok u = some x := fun u x hu hx => by
    obtain ⟨y, b1, _⟩ := h.tok u hu
    have hne : u ≠ t' := fun e => by rw [e, ht'] at b1; cases b1
    simpa [Kn.more, hne] using hx
  refine ⟨vs, e, a2, by omega, fun w' hk' hbw hs h1 h2 h3 => ⟨⟨fun b' o' d hkd => ?_, fun b' cs' hc => ?_, fun b' cs' hc o' => ?_, fun u hu' => ?_, fun u v x x' hu' hv' p q r => ?_, fun g cs hg o d hd => hle.cells _ _ _ (h.glob g cs hg o d hd), free_set h.free t' none _ fun u hu => by simp [Kn.more, hu]⟩, ⟨hle, by omega, h1, h2, h3, fun b' hb' hn => ⟨hk' b' ?_, fun o' => ?_, fun hx => hn ?_⟩, fun u hu' => ?_⟩⟩⟩
  · by_cases hin : b' = hd.b ∧ hd.off + hd.n * hd.sz ≤ o' ∧ o' < hd.off + hd.n * hd.sz + ds.length
    · obtain ⟨rfl, i1, i2⟩ := hin
      simp only [Kn.more, true_and, i1, i2, and_self, if_true] at hkd
      obtain ⟨v, hv, hrv⟩ := hu.get _ d hkd
      refine ⟨v, ?_, hrv.mono hle⟩
      rw [cell_of hbw]
      simp only [splice, List.getElem?_toArray]
      rw [List.append_assoc, List.getElem?_append_right (by simp; omega), List.getElem?_append_left (by simp; omega)]
      rw [← hv]
      congr 1
      simp
      omega
    · have hkd' : K.cells b' o' d := by
        unfold Kn.more at hkd
        simp only at hkd
        rwa [if_neg hin] at hkd
      obtain ⟨v, hv, hrv⟩ := h.holds b' o' d hkd'
      refine ⟨v, ?_, hrv.mono hle⟩
      by_cases hb : b' = hd.b
      · subst hb
        have ho' : o' < hd.off + hd.n * hd.sz := by
          rcases Nat.lt_or_ge o' (hd.off + hd.n * hd.sz) with hlt | hge
          · exact hlt
          · rw [a6 o' hge] at hkd'; cases hkd'
        rw [cell_of a2] at hv
        rw [cell_of hbw]
        simp only [splice, List.getElem?_toArray]
        rw [List.append_assoc, List.getElem?_append_left (by simp; omega), List.getElem?_take, if_pos ho']
        simpa using hv
      · rw [← hv]
        simp [World.cell?, hk' b' hb]
  · have hne : b' ≠ hd.b := fun e => by rw [e, a5] at hc; cases hc
    obtain ⟨x, hv, hrv⟩ := h.box b' cs' hc
    exact ⟨x, by rw [hk' b' hne]; exact hv, hrv.mono hle⟩
  · have hne : b' ≠ hd.b := fun e => by rw [e, a5] at hc; cases hc
    simp only [Kn.more, hne, false_and, if_false]
    exact h.boxK b' cs' hc o'
  · rcases List.mem_cons.1 hu' with rfl | hu'
    · refine ⟨some { hd with n := hd.n + k }, by simp [Kn.more], fun hd1 hxd => ?_⟩
      cases hxd
      refine ⟨_, e, hbw, by simpa using hr, ?_, a5, fun o ho => ?_⟩
      · simp only [List.size_toArray]
        rw [splice_length _ _ _ (by simp; omega)]
        simpa using a4
      · simp only at ho
        rw [Nat.add_mul] at ho
        have : ¬ (o < hd.off + hd.n * hd.sz + ds.length) := by omega
        simp only [Kn.more, this, and_false, if_false]
        exact a6 o (by omega)
    · obtain ⟨hu1, hu2⟩ := hmem u hu'
      obtain ⟨y, b1, hy⟩ := h.tok u hu1
      refine ⟨y, hle.tok _ _ b1, fun x hxd => ?_⟩
      obtain ⟨us', e', b2, b3, b4, b5, b6⟩ := hy x hxd
      subst hxd
      have hne : x.b ≠ hd.b := fun e => hu2 (h.tokne u t x hd hu1 ht b1 hk e)
      exact ⟨us', e', by rw [hk' _ hne]; exact b2, b3, b4, b5, fun o ho => by simp only [Kn.more, hne, false_and, if_false]; exact b6 o ho⟩
  · have hself : (K.more hd.b (hd.off + hd.n * hd.sz) ds t' (some { hd with n := hd.n + k })).tok t' = some (some { hd with n := hd.n + k }) := by simp [Kn.more]
    rcases List.mem_cons.1 hu' with rfl | hu2
    · rcases List.mem_cons.1 hv' with rfl | hv2
      · rfl
      · obtain ⟨hv3, hv4⟩ := hmem v hv2
        rw [hself] at p; cases p
        exact absurd (h.tokne v t x' hd hv3 ht (htk v _ hv3 q) hk r.symm) hv4
    · obtain ⟨hu3, hu4⟩ := hmem u hu2
      rcases List.mem_cons.1 hv' with rfl | hv2
      · rw [hself] at q; cases q
        exact absurd (h.tokne u t x hd hu3 ht (htk u _ hu3 p) hk r) hu4
      · obtain ⟨hv3, hv4⟩ := hmem v hv2
        exact h.tokne u v x x' hu3 hv3 (htk u _ hu3 p) (htk v _ hv3 q) r
  · intro hbe
    subst hbe
    exact hn (.inr ⟨t, hd, ht, hk, rfl⟩)
  · have hne : b' ≠ hd.b := fun e => hn (.inr ⟨t, hd, ht, hk, e.symm⟩)
    simp [Kn.more, hne]
  · rcases hx with hx | ⟨u, x, hu', hk', rfl⟩
    · exact .inl hx
    · rcases List.mem_cons.1 hu' with rfl | hu'
      · simp [Kn.more] at hk'
        subst hk'
        exact .inr ⟨t, hd, ht, hk, rfl⟩
      · obtain ⟨hu1, _⟩ := hmem u hu'
        exact .inr ⟨u, x, hu1, htk u _ hu1 hk', rfl⟩
  · rcases List.mem_cons.1 hu' with rfl | hu'
    · exact .inr ht'
    · exact .inl (hmem u hu').1

def Kn.reserve (K : Kn) (t : Nat) : Kn where
  cells := K.cells
  tok := fun u => if u = t then some none else K.tok u

theorem Rel.reserve (h : Rel G K β ω w) {t : Nat} (ht : K.tok t = none) (htw : t ∉ ω) : Rel G (K.reserve t) β (t :: ω) w ∧ Evo K β ω w (K.reserve t) β (t :: ω) w := by
  have hle : K.le (K.reserve t) := ⟨fun _ _ _ h => h, fun u x hu => by
    unfold Kn.reserve
    simp only
    rw [if_neg (fun e => by subst e; rw [ht] at hu; cases hu)]
    exact hu⟩
  have htk : ∀ u x, u ∈ ω → (K.reserve t).tok u = some x → K.tok u = some x := fun u x hu hk => by
    have hne : u ≠ t := fun e => htw (e ▸ hu)
    simpa [Kn.reserve, hne] using hk
  have hself : (K.reserve t).tok t = some none := by simp [Kn.reserve]
  constructor
  · refine ⟨fun b o d hk => ?_, fun b cs hb => ?_, h.boxK, fun u hu => ?_, fun u v hd hd' hu hv p q r => ?_, h.glob, free_set h.free t none _ fun u hu => by simp [Kn.reserve, hu]⟩
    · obtain ⟨v, hv, hr⟩ := h.holds b o d hk
      exact ⟨v, hv, hr.mono hle⟩
    · obtain ⟨x, hv, hr⟩ := h.box b cs hb
      exact ⟨x, hv, hr.mono hle⟩
    · rcases List.mem_cons.1 hu with rfl | hu1
      · exact ⟨none, hself, fun _ h => by cases h⟩
      · obtain ⟨x, a1, hx⟩ := h.tok u hu1
        exact ⟨x, hle.tok _ _ a1, hx⟩
    · rcases List.mem_cons.1 hu with rfl | hu1
      · rw [hself] at p; cases p
      · rcases List.mem_cons.1 hv with rfl | hv1
        · rw [hself] at q; cases q
        · exact h.tokne u v hd hd' hu1 hv1 (htk u _ hu1 p) (htk v _ hv1 q) r
  · refine ⟨hle, Nat.le_refl _, rfl, rfl, rfl, fun b hb ho => ⟨rfl, fun _ => rfl, fun hn => ho ?_⟩, fun u hu => ?_⟩
    · rcases hn with hn | ⟨u, hd, hu, hk, rfl⟩
      · exact .inl hn
      · rcases List.mem_cons.1 hu with rfl | hu1
        · rw [hself] at hk; cases hk
        · exact .inr ⟨u, hd, hu1, htk u _ hu1 hk, rfl⟩
    · rcases List.mem_cons.1 hu with rfl | hu1
      · exact .inr ht
      · exact .inl hu1

end Go.Proofs.YtpblgfgcoamgmaaGreatV
namespace Go.Proofs.YtpblgfgcoamgmaaGreatV
open Go

structure St where
  σ : Nat → D
  β : Heap
  ω : List Nat

def St.put (s : St) (dst : Option Tmp) (d : D) : St :=
  match dst with
  | some t => { s with σ := fun i => if i = t then d else s.σ i }
  | none => s

@[simp] theorem St.put_β (s : St) (dst : Option Tmp) (d : D) : (s.put dst d).β = s.β := by cases dst <;> rfl
@[simp] theorem St.put_ω (s : St) (dst : Option Tmp) (d : D) : (s.put dst d).ω = s.ω := by cases dst <;> rfl
theorem St.put_σ (s : St) (t : Tmp) (d : D) (i : Nat) : (s.put (some t) d).σ i = if i = t then d else s.σ i := rfl
@[simp] theorem St.put_none (s : St) (d : D) : s.put none d = s := rfl

def const1 : Value → D
  | .int k n => .int k n
  | .bool b => .bool b
  | .string s => if s.size ≤ mostLen then .str s else .any
  | .slice none 0 0 => .sl .full []
  | .pointer none => .nilp
  | .nilFunc => .nilfunc
  | .nilIface => .nilif
  | .map none => .nilmap
  | _ => .any

def ofConst : Value → D
  | .agg vs => .agg (vs.toList.map const1)
  | v => const1 v

theorem Rep.empty (K : Kn) : Rep K (.sl .full []) (.slice none 0 0) :=
  .sl (sz := 0) rfl (Nat.le_refl _) (Nat.zero_le _) (fun i x h => by simp at h) rfl

theorem rep_const1 (K : Kn) (v : Value) : Rep K (const1 v) v := by
  unfold const1
  split <;> first
    | exact .int _ _
    | exact .bool _
    | (split <;> first | exact .str _ ‹_› | exact .any _)
    | exact Rep.empty K
    | exact .nilp
    | exact .nilfunc
    | exact .nilif
    | exact .nilmap
    | exact .any _

theorem rep_const1s (K : Kn) : ∀ vs : List Value, RepL K (vs.map const1) vs
  | [] => .nil
  | v :: vs => .cons (rep_const1 K v) (rep_const1s K vs)

theorem rep_const (K : Kn) (v : Value) : Rep K (ofConst v) v := by
  unfold ofConst
  split
  · rename_i vs
    have := Rep.agg (rep_const1s K vs.toList)
    simpa using this
  · exact rep_const1 K _

def St.raw (G : Heap) (s : St) : Operand → D
  | .tmp t => s.σ t
  | .const v => ofConst v
  | .global g => match G g with
    | some cs => .pf cs
    | none => .pb g 0
  | .func f => .clo (.func f) [] []

def D.strip : D → D
  | .when _ d => d
  | d => d

def D.ok : D → Prop
  | .when c _ => c = true
  | _ => True

theorem Rep.strip {K : Kn} {d : D} {v : Value} (h : Rep K d v) (hc : d.ok) : Rep K d.strip v := by
  cases h with
  | when h h0 => exact h hc
  | _ => simp only [D.strip]; first | exact .any _ | exact .int _ _ | exact .bool _ | exact .str _ ‹_› | exact .sl ‹_› ‹_› ‹_› ‹_› ‹_› | exact .so _ _ _ _ | exact .agg ‹_› | exact .tup ‹_› | exact .pb _ _ | exact .pf ‹_› | exact .nilp | exact .clo ‹_› ‹_› | exact .nilfunc | exact .iface ‹_› | exact .nilif | exact .nilmap

def D.wn (c : Bool) : D → D
  | .when c' d => .when (c && c') d
  | d => .when c d
theorem Rep.wn {K : Kn} {c : Bool} {d : D} {v : Value} (h1 : c = true → Rep K d v) (h0 : c = false → v = undef) : Rep K (D.wn c d) v := by
  unfold D.wn
  split
  · rename_i c' d
    cases c with
    | true =>
      cases h1 rfl with
      | when h h' => exact .when h h'
    | false => exact .when (fun h => by cases h) (fun _ => h0 rfl)
  · exact .when h1 h0

def D.stripT : D → D
  | .when true d => d
  | d => d
theorem Rep.stripT {K : Kn} {d : D} {v : Value} (h : Rep K d v) : Rep K d.stripT v := by
  unfold D.stripT
  split
  · cases h with
    | when h h0 => exact h rfl
  · exact h
def St.arg (G : Heap) (s : St) (x : Operand) : D := (s.raw G x).stripT

def St.ev (G : Heap) (s : St) (x : Operand) : D := (s.raw G x).strip
def St.has (G : Heap) (s : St) (x : Operand) : Prop := (s.raw G x).ok

structure Bs where
  b : Nat
  ds : List Deferred
  nr : Bool := false
def Marks (B : Bs) (w : World) (ds : List Deferred) : Prop :=
  ∃ rs : List Nat, (B.nr = true → rs = []) ∧ ds = rs.map (fun r => { target := .collected r, args := #[] }) ++ B.ds ∧ rs.Nodup ∧ ∀ r ∈ rs, B.b ≤ r ∧ w.heap[r]? = some (.deferred (some []))

structure SR (G : Heap) (n : Nat) (B : Bs) (K : Kn) (s : St) (a : Act) (w : World) : Prop where
  rel : Rel G K s.β s.ω w
  tmps : ∀ t, Rep K (s.σ t) (a.tmps.getD t undef)
  size : a.tmps.size = n
  marks : Marks B w a.defers

variable {P : Program} {G : Heap} {n : Nat} {B : Bs} {K : Kn} {s : St} {a : Act} {w : World}

theorem SR.raw (h : SR G n B K s a w) (x : Operand) : Rep K (s.raw G x) (a.eval x) := by
  cases x with
  | tmp t => exact h.tmps t
  | const v => exact rep_const K v
  | global g =>
    unfold St.raw Act.eval
    simp only
    cases hg : G g with
    | none => exact .pb g 0
    | some cs => exact .pf fun j y hy => by rw [Nat.zero_add]; exact h.rel.glob g cs hg j y hy
  | func f => exact Rep.clo (vf := []) (vc := []) .nil .nil

theorem SR.ev (h : SR G n B K s a w) (x : Operand) (hx : s.has G x) : Rep K (s.ev G x) (a.eval x) := (h.raw x).strip hx

theorem SR.put (h : SR G n B K s a w) {dst : Option Tmp} {d : D} {v : Value} (hd : Rep K d v) (hn : ∀ t, dst = some t → t < n) : SR G n B K (s.put dst d) (a.put dst v) w := by
  cases dst with
  | none => exact h
  | some t =>
    have ht := hn t rfl
    refine ⟨h.rel, fun i => ?_, by simp [Act.put, h.size], h.marks⟩
    simp only [St.put_σ, Act.put, Array.getD_eq_getD_getElem?, Array.getElem?_setIfInBounds]
    by_cases hi : t = i
    · subst hi
      simp [h.size, ht, hd]
    · have := h.tmps i
      rw [Array.getD_eq_getD_getElem?] at this
      rw [if_neg (fun e => hi e.symm), if_neg hi]
      exact this

theorem Rel.not_owns (h : Rel G K s.β s.ω w) {r : Nat} {ds : Option (List Deferred)} (hr : w.heap[r]? = some (.deferred ds)) : ¬ owns K s.β s.ω r := by
  rintro (hb | ⟨t, hd, ht, hk, rfl⟩)
  · cases hc : s.β r with
    | none => exact hb hc
    | some cs =>
      obtain ⟨o, ho, hx⟩ := h.box r cs hc
      rw [hr] at ho; cases ho
      cases hx
  · obtain ⟨vs, e, a2, _⟩ := h.tokAt ht hk
    rw [hr] at a2; cases a2

theorem Marks.keep {K' : Kn} {β' : Heap} {ω' : List Nat} {w' : World} (h : Rel G K s.β s.ω w) (he : Evo K s.β s.ω w K' β' ω' w') {ds : List Deferred} (hm : Marks B w ds) : Marks B w' ds := by
  obtain ⟨rs, h0, h1, h2, h3⟩ := hm
  refine ⟨rs, h0, h1, h2, fun r hr => ?_⟩
  obtain ⟨h4, h5⟩ := h3 r hr
  refine ⟨h4, ?_⟩
  rw [(he.keep r (lt_of_heap h5) (h.not_owns h5)).1]
  exact h5

theorem SR.move (h : SR G n B K s a w) {K' : Kn} {β' : Heap} {ω' : List Nat} {w' : World} (he : Evo K s.β s.ω w K' β' ω' w') (hr : Rel G K' β' ω' w') : SR G n B K' { s with β := β', ω := ω' } a w' :=
  ⟨hr, fun t => (h.tmps t).mono he.le, h.size, h.marks.keep h.rel he⟩

theorem info_of {t : TypeId} {d : TypeDesc} (h : P.underlying t = some d) : ∃ i, P.info? t = some i ∧ P.cellsOf t = i.size := by
  cases hi : P.info? t with
  | none => simp [Program.underlying, hi] at h
  | some i => exact ⟨i, rfl, by simp [Program.cellsOf, hi]⟩

theorem run_size {t : TypeId} {d : TypeDesc} (h : P.underlying t = some d) (w : World) : (sizeOf t).run P w = .ok (P.cellsOf t) w := by
  obtain ⟨i, hi, hs⟩ := info_of h
  simp [sizeOf, typeInfo, hi, hs]

def aggr : TypeDesc → Bool
  | .struct _ | .array _ _ => true
  | _ => false

theorem run_agg {t : TypeId} {d : TypeDesc} (h : P.underlying t = some d) (w : World) : (isAgg t).run P w = .ok (aggr d) w := by
  cases d <;> simp [isAgg, run_underlying h, aggr]

def lk (P : Program) (t : TypeId) : Option (Bool × Nat) :=
  match P.underlying t with
  | some d => some (aggr d, P.cellsOf t)
  | none => none

def vload (P : Program) (t : TypeId) (cs : List D) (o : Nat) : D × Prop :=
  match lk P t with
  | some (true, n) => (.agg ((cs.drop o).take n), o + n ≤ cs.length)
  | some (false, _) => (cs.getD o .any, o < cs.length)
  | none => (.any, False)

theorem lk_some {t : TypeId} {g : Bool} {n : Nat} (h : lk P t = some (g, n)) : ∃ d, P.underlying t = some d ∧ aggr d = g ∧ P.cellsOf t = n := by
  unfold lk at h
  cases hu : P.underlying t with
  | none => simp [hu] at h
  | some d => simp [hu] at h; exact ⟨d, rfl, h.1, h.2⟩

theorem vload_sound {t : TypeId} {cs : List D} {o b off : Nat} (hc : (vload P t cs o).2)
    (hm : ∀ j d, cs[j]? = some d → ∃ v, w.cell? ⟨b, off + j, none⟩ = some v ∧ Rep K d v) :
    ∃ v, (loadVar t ⟨b, off + o, none⟩).run P w = .ok v w ∧ Rep K (vload P t cs o).1 v := by
  unfold vload at hc ⊢
  split at hc
  · rename_i n hl
    obtain ⟨d, hu, hd, hn⟩ := lk_some hl
    let vs : List Value := (List.range n).map fun j => (w.cell? ⟨b, off + o + j, none⟩).getD undef
    have hv : ∀ j, j < n → w.cell? ⟨b, off + o + j, none⟩ = some ((w.cell? ⟨b, off + o + j, none⟩).getD undef) := fun j hj => by
      obtain ⟨v, hv, _⟩ := hm (o + j) _ (List.getElem?_eq_getElem (show o + j < cs.length by omega))
      rw [← Nat.add_assoc] at hv
      rw [hv]; rfl
    have hload := run_loadCells (P := P) w ⟨b, off + o, none⟩ n (fun j => (w.cell? ⟨b, off + o + j, none⟩).getD undef) (fun j hj => by rw [Addr.add_lit]; exact hv j hj)
    refine ⟨.agg vs.toArray, by simp [loadVar, run_agg hu, hd, run_size hu, hn, hload, vs], .agg (RepL.of_get (by simp [vs]; omega) fun i d' v' hd' hv' => ?_)⟩
    rw [List.getElem?_take] at hd'
    split at hd'
    · rename_i hi
      rw [List.getElem?_drop] at hd'
      obtain ⟨v, hv1, hv2⟩ := hm (o + i) d' hd'
      rw [← Nat.add_assoc] at hv1
      simp [vs, hi, hv1] at hv'
      exact hv' ▸ hv2
    · cases hd'
  · rename_i n hl
    obtain ⟨d, hu, hd, hn⟩ := lk_some hl
    obtain ⟨v, hv1, hv2⟩ := hm o _ (List.getElem?_eq_getElem hc)
    have hc' : o < cs.length := hc
    exact ⟨v, by simp [loadVar, run_agg hu, hd, hv1], by simpa [hc'] using hv2⟩
  · exact hc.elim

theorem part_sound {t : TypeId} {cs : List D} {vs : List Value} {o : Nat} (hr : RepL K cs vs) (hc : (vload P t cs o).2) (w : World) :
    ∃ v, (part t vs.toArray o).run P w = .ok v w ∧ Rep K (vload P t cs o).1 v := by
  unfold vload at hc ⊢
  split at hc
  · rename_i n hl
    obtain ⟨d, hu, hd, hn⟩ := lk_some hl
    refine ⟨.agg ((vs.drop o).take n).toArray, ?_, .agg ((hr.drop o).take n)⟩
    simp [part, run_agg hu, hd, run_size hu, hn, List.extract_eq_take_drop]
  · rename_i n hl
    obtain ⟨d, hu, hd, hn⟩ := lk_some hl
    have hc' : o < cs.length := hc
    obtain ⟨v, hv1, hv2⟩ := hr.get o _ (List.getElem?_eq_getElem hc')
    exact ⟨v, by simp [part, run_agg hu, hd, hv1], by simpa [hc'] using hv2⟩
  · exact hc.elim


mutual
def eqv (P : Program) : Nat → TypeId → D → D → Bool × Prop
  | 0, _, _, _ => (false, False)
  | n + 1, t, x, y => match P.underlying t with
    | some .bool => match x, y with
      | .bool a, .bool b => (a == b, True)
      | _, _ => (false, False)
    | some (.int _) => match x, y with
      | .int k a, .int k' b => (a == b, k = k')
      | _, _ => (false, False)
    | some .string => match x, y with
      | .str a, .str b => (a == b, True)
      | _, _ => (false, False)
    | some (.struct fs) => match x, y with
      | .agg xs, .agg ys => ((eqF P n fs.toList xs ys).1, P.stoodInHeld t = false ∧ (eqF P n fs.toList xs ys).2)
      | _, _ => (false, False)
    | _ => (false, False)
def eqF (P : Program) : Nat → List Field → List D → List D → Bool × Prop
  | _, [], _, _ => (true, True)
  | n, f :: r, xs, ys => ((eqv P n f.type (vload P f.type xs f.offset).1 (vload P f.type ys f.offset).1).1 && (eqF P n r xs ys).1,
      (f.name ≠ "_" ∧ (vload P f.type xs f.offset).2 ∧ (vload P f.type ys f.offset).2 ∧ (eqv P n f.type (vload P f.type xs f.offset).1 (vload P f.type ys f.offset).1).2) ∧ (eqF P n r xs ys).2)
end

theorem eqF_sound {n k : Nat} {xs ys : List D} {us vs : List Value} (hx : RepL K xs us) (hy : RepL K ys vs) (w : World)
    (IH : ∀ (t : TypeId) (x y : D) (u v : Value), Rep K x u → Rep K y v → (eqv P n t x y).2 → (Op.equalIn (k + n) t u v).run P w = .ok (eqv P n t x y).1 w) :
    ∀ fs : List Field, (eqF P n fs xs ys).2 →
    (do for f in fs do
          if f.name ≠ "_" then
            if !(← Op.equalIn (k + n) f.type (← part f.type us.toArray f.offset) (← part f.type vs.toArray f.offset)) then return false
        pure true : Sem Bool).run P w = .ok (eqF P n fs xs ys).1 w
  | [], _ => by simp [eqF]
  | f :: r, hc => by
    simp only [eqF] at hc ⊢
    obtain ⟨⟨h1, h2, h3, h4⟩, h5⟩ := hc
    obtain ⟨u, p1, p2⟩ := part_sound hx h2 w
    obtain ⟨v, q1, q2⟩ := part_sound hy h3 w
    have e := IH f.type _ _ u v p2 q2 h4
    have ih := eqF_sound hx hy w IH r h5
    cases hb : (eqv P n f.type (vload P f.type xs f.offset).1 (vload P f.type ys f.offset).1).1 with
    | false =>
      rw [hb] at e
      simp [h1, p1, q1, e]
    | true =>
      rw [hb] at e
      simp only [Bool.true_and]
      rw [← ih]
      simp [h1, p1, q1, e]

theorem eqv_sound (w : World) : ∀ (n k : Nat) (t : TypeId) (x y : D) (u v : Value), Rep K x u → Rep K y v → (eqv P n t x y).2 → (Op.equalIn (k + n) t u v).run P w = .ok (eqv P n t x y).1 w
  | 0, k, t, x, y, u, v, hx, hy, hc => by simp [eqv] at hc
  | n + 1, k, t, x, y, u, v, hx, hy, hc => by
    have e0 : k + (n + 1) = (k + n) + 1 := rfl
    rw [e0]
    unfold eqv at hc ⊢
    split at hc <;> rename_i hu <;> (try simp only [hu] at hc ⊢)
    · split at hc
      · cases hx; cases hy
        simp only [Op.equalIn, Sem.run_bind, run_underlying hu, Result.andThen_ok]; rfl
      · exact hc.elim
    · split at hc
      · cases hx; cases hy
        obtain rfl := hc
        simp [Op.equalIn, Sem.run_bind, run_underlying hu, Result.andThen_ok]
      · exact hc.elim
    · split at hc
      · cases hx; cases hy
        simp only [Op.equalIn, Sem.run_bind, run_underlying hu, Result.andThen_ok]; rfl
      · exact hc.elim
    · split at hc
      · rename_i xs ys
        cases hx; cases hy
        rename_i us hus vs hvs
        obtain ⟨h1, h2⟩ := hc
        have := eqF_sound (k := k) hus hvs w (fun t x y u v hx hy hc => eqv_sound w n k t x y u v hx hy hc) _ h2
        rw [← this]
        have hp : (program : Sem Program).run P w = .ok P w := rfl
        simp [Op.equalIn, run_underlying hu, h1, hp]
      · exact hc.elim

def vint (op : BinOp) (k : IntKind) (x y : Int) : D × Prop :=
  match op with
  | .add => (.int k (k.wrap (x + y)), True)
  | .sub => (.int k (k.wrap (x - y)), True)
  | .mul => (.int k (k.wrap (x * y)), True)
  | .quo => (.int k (k.wrap (x.tdiv y)), y ≠ 0)
  | .rem => (.int k (x.tmod y), y ≠ 0)
  | .and => (.int k (k.wrap ((BitVec.ofInt k.bits x &&& BitVec.ofInt k.bits y).toNat : Int)), True)
  | .or => (.int k (k.wrap ((BitVec.ofInt k.bits x ||| BitVec.ofInt k.bits y).toNat : Int)), True)
  | .xor => (.int k (k.wrap ((BitVec.ofInt k.bits x ^^^ BitVec.ofInt k.bits y).toNat : Int)), True)
  | .andNot => (.int k (k.wrap ((BitVec.ofInt k.bits x &&& ~~~ BitVec.ofInt k.bits y).toNat : Int)), True)
  | .eql => (.bool (x == y), True)
  | .neq => (.bool (x != y), True)
  | .lss => (.bool (decide (x < y)), True)
  | .leq => (.bool (decide (x ≤ y)), True)
  | .gtr => (.bool (decide (x > y)), True)
  | .geq => (.bool (decide (x ≥ y)), True)
  | .shl | .shr => (.any, False)

def vstr (op : BinOp) (x y : ByteArray) : D × Prop :=
  match op with
  | .add => (.str (x ++ y), x.size + y.size ≤ mostLen)
  | .eql => (.bool (x.toList == y.toList), True)
  | .neq => (.bool (!(x.toList == y.toList)), True)
  | .lss => (.bool (Op.bytesLess x.toList y.toList), True)
  | .leq => (.bool (Op.bytesLess x.toList y.toList || x.toList == y.toList), True)
  | .gtr => (.bool (!(Op.bytesLess x.toList y.toList || x.toList == y.toList)), True)
  | .geq => (.bool (!(Op.bytesLess x.toList y.toList)), True)
  | _ => (.any, False)

def litNil : Operand → Bool
  | .const _ => true
  | _ => false

def veq (P : Program) (t : TypeId) (lit : Bool) : D → D → Bool × Prop
  | .bool a, y => match y with
    | .bool b => (a == b, P.underlying t = some .bool)
    | _ => (false, False)
  | .nilif, y => match y with
    | .nilif => (true, lit = true ∧ ∃ ms, P.underlying t = some (.interface ms))
    | .iface _ _ => (false, ∃ ms, P.underlying t = some (.interface ms))
    | _ => (false, False)
  | .iface t1 d1, y => match y with
    | .nilif => (false, ∃ ms, P.underlying t = some (.interface ms))
    | .iface t2 d2 => match d1 with
      | .int k1 n1 => match d2 with
        | .int k2 n2 => (if t1 = t2 then n1 == n2 else false, (∃ ms, P.underlying t = some (.interface ms)) ∧ (t1 = t2 → k1 = k2 ∧ P.underlying t1 = some (.int k1) ∧ (P.info? t1).map (·.comparable) = some true))
        | _ => (false, False)
      | _ => (false, False)
    | _ => (false, False)
  | .nilp, y => match y with
    | .nilp => (true, ∃ e, P.underlying t = some (.pointer e))
    | .pb _ _ => (false, ∃ e, P.underlying t = some (.pointer e))
    | .pf _ => (false, ∃ e, P.underlying t = some (.pointer e))
    | _ => (false, False)
  | .pb _ _, y => match y with
    | .nilp => (false, ∃ e, P.underlying t = some (.pointer e))
    | _ => (false, False)
  | .pf _, y => match y with
    | .nilp => (false, ∃ e, P.underlying t = some (.pointer e))
    | _ => (false, False)
  | .nilfunc, y => match y with
    | .nilfunc => (true, ∃ p r v, P.underlying t = some (.func p r v))
    | .clo _ _ _ => (false, ∃ p r v, P.underlying t = some (.func p r v))
    | _ => (false, False)
  | .clo _ _ _, y => match y with
    | .nilfunc => (false, ∃ p r v, P.underlying t = some (.func p r v))
    | _ => (false, False)
  | .agg xs, .agg ys => ((eqv P 6 t (.agg xs) (.agg ys)).1, (eqv P 6 t (.agg xs) (.agg ys)).2 ∧ P.eqGuardType P.depth t = false)
  | _, _ => (false, False)

def veqop (op : BinOp) (r : Bool × Prop) : D × Prop :=
  match op with
  | .eql => (.bool r.1, r.2)
  | .neq => (.bool (!r.1), r.2)
  | _ => (.any, False)

def vbin (P : Program) (op : BinOp) (t : TypeId) (lit : Bool) (x y : D) : D × Prop :=
  match x, y with
  | .int k p, .int k' q =>
    match op with
    | .shl => (.int k (k.wrap (p * 2 ^ (min q.toNat k.bits))), 0 ≤ q)
    | .shr => (.int k (p.fdiv (2 ^ (min q.toNat k.bits))), 0 ≤ q)
    | op => ((vint op k p q).1, k = k' ∧ (vint op k p q).2)
  | .str p, .str q => vstr op p q
  | x, y => veqop op (veq P t lit x y)

theorem vint_sound {op : BinOp} {t : TypeId} {k : IntKind} {x y : Int} (hc : (vint op k x y).2) (w : World) :
    ∃ v, (binOp op t (.int k x) (.int k y)).run P w = .ok v w ∧ Rep K (vint op k x y).1 v := by
  cases op <;> simp only [vint] at hc ⊢ <;> first
    | exact hc.elim
    | (refine ⟨_, by simp only [binOp, Op.intArith, Op.intBits, Op.intCmp, Op.intDiv, ne_eq, not_true_eq_false, if_false, hc]; rfl, ?_⟩; first | exact .int _ _ | exact .bool _)

theorem vstr_sound {op : BinOp} {t : TypeId} {x y : ByteArray} (hc : (vstr op x y).2) (w : World) :
    ∃ v, (binOp op t (.string x) (.string y)).run P w = .ok v w ∧ Rep K (vstr op x y).1 v := by
  cases op <;> simp only [vstr] at hc ⊢ <;> first
    | exact hc.elim
    | exact ⟨_, rfl, .bool _⟩
    | (have h1 : ¬ (((x.size + y.size : Nat) : Int) > IntKind.i64.max) := by
         have : IntKind.i64.max = 9223372036854775807 := by decide
         unfold mostLen at hc
         omega
       exact ⟨_, by simp only [binOp, Op.stringOp, if_neg h1]; rfl, .str _ (by simpa using hc)⟩)

theorem vshift_sound {op : BinOp} {t : TypeId} {k k' : IntKind} {x y : Int} (ho : op = .shl ∨ op = .shr) (hc : 0 ≤ y) (w : World) :
    ∃ v, (binOp op t (.int k x) (.int k' y)).run P w = .ok v w ∧ Rep K (if op = .shl then .int k (k.wrap (x * 2 ^ (min y.toNat k.bits))) else .int k (x.fdiv (2 ^ (min y.toNat k.bits)))) v := by
  have h : ¬ y < 0 := by omega
  rcases ho with rfl | rfl
  · exact ⟨_, by simp only [binOp, Op.shift, if_neg h]; rfl, .int _ _⟩
  · exact ⟨_, by simp only [binOp, Op.shift, if_neg h]; rfl, .int _ _⟩

theorem equal_in (t : TypeId) (x y : Value) : Op.equal t x y = Op.equalIn (9998 + 2) t x y := rfl

theorem run_eqlIface {t t1 t2 : TypeId} {k1 k2 : IntKind} {n1 n2 : Int} (hi : ∃ ms, P.underlying t = some (.interface ms)) (h : t1 = t2 → k1 = k2 ∧ P.underlying t1 = some (.int k1) ∧ (P.info? t1).map (·.comparable) = some true) (d : Nat) (w : World) :
    (Op.equalIn (d + 2) t (.iface t1 (.int k1 n1)) (.iface t2 (.int k2 n2))).run P w = .ok (if t1 = t2 then n1 == n2 else false) w := by
  obtain ⟨ms, hi⟩ := hi
  by_cases e : t1 = t2
  · obtain ⟨rfl, h2, h3⟩ := h e
    subst e
    obtain ⟨i, h4, h5⟩ := Option.map_eq_some_iff.1 h3
    simp [Op.equalIn, run_underlying hi, typeInfo, h4, h5, run_underlying h2]
  · simp [Op.equalIn, run_underlying hi, e]

def eqPlain : Value → Value → Bool
  | .bool _, _ => true
  | .nilIface, _ => true
  | .iface _ _, _ => true
  | .pointer none, .pointer none => true
  | .pointer none, .pointer (some _) => true
  | .pointer (some _), .pointer none => true
  | .nilFunc, _ => true
  | .func _ _ _, _ => true
  | .agg _, .agg _ => true
  | _, _ => false

theorem binOp_eq {t : TypeId} {u v : Value} (h : eqPlain u v = true) :
    binOp .eql t u v = (do let b ← Op.equal t u v; pure (.bool b)) ∧ binOp .neq t u v = (do let b ← Op.equal t u v; pure (.bool (!b))) := by
  unfold eqPlain at h
  split at h <;> first | (constructor <;> rfl) | cases h

theorem guard_ok {t : TypeId} {op : BinOp} {xo yo : Operand} {u v : Value} (h : (∀ a, u ≠ .agg a)) (h' : u ≠ .nilIface ∨ v ≠ .nilIface) (w : World) : (eqGuard op t xo yo u v).run P w = .ok () w := by
  cases op <;> first
    | rfl
    | (cases u <;> first
        | rfl
        | exact absurd rfl (h _)
        | (cases v <;> first | rfl | (rcases h' with h' | h' <;> exact absurd rfl h')))

theorem guard_lit {t : TypeId} {op : BinOp} {xo yo : Operand} (h : (litNil xo || litNil yo) = true) (w : World) : (eqGuard op t xo yo .nilIface .nilIface).run P w = .ok () w := by
  cases op <;> first
    | rfl
    | (cases xo <;> cases yo <;> first | rfl | simp [litNil] at h)

theorem guard_agg {t : TypeId} {op : BinOp} {xo yo : Operand} {a b : Array Value} (h : P.eqGuardType P.depth t = false) (w : World) : (eqGuard op t xo yo (.agg a) (.agg b)).run P w = .ok () w := by
  have hp : (program : Sem Program).run P w = .ok P w := rfl
  cases op <;> first
    | rfl
    | simp [eqGuard, hp, h]

theorem eqIn_bool {t : TypeId} (h : P.underlying t = some .bool) (d : Nat) (a b : Bool) (w : World) : (Op.equalIn (d + 1) t (.bool a) (.bool b)).run P w = .ok (a == b) w := by
  simp only [Op.equalIn, Sem.run_bind, run_underlying h, Result.andThen_ok]; rfl

theorem eqIn_iface {t : TypeId} {ms : Array (String × TypeId)} (h : P.underlying t = some (.interface ms)) (d : Nat) (u : TypeId) (v : Value) (w : World) :
    (Op.equalIn (d + 1) t .nilIface .nilIface).run P w = .ok true w ∧ (Op.equalIn (d + 1) t .nilIface (.iface u v)).run P w = .ok false w ∧ (Op.equalIn (d + 1) t (.iface u v) .nilIface).run P w = .ok false w := by
  refine ⟨?_, ?_, ?_⟩ <;> (simp only [Op.equalIn, Sem.run_bind, run_underlying h, Result.andThen_ok]; rfl)

theorem eqIn_ptr {t e : TypeId} (h : P.underlying t = some (.pointer e)) (d : Nat) (a : Addr) (w : World) :
    (Op.equalIn (d + 1) t (.pointer none) (.pointer none)).run P w = .ok true w ∧ (Op.equalIn (d + 1) t (.pointer none) (.pointer (some a))).run P w = .ok false w ∧ (Op.equalIn (d + 1) t (.pointer (some a)) (.pointer none)).run P w = .ok false w := by
  refine ⟨?_, ?_, ?_⟩ <;> (simp only [Op.equalIn, Sem.run_bind, run_underlying h, Result.andThen_ok]; rfl)

theorem eqIn_func {t : TypeId} {p r : Array TypeId} {f : Bool} (h : P.underlying t = some (.func p r f)) (d : Nat) (fn : Fn) (a b : Array Value) (w : World) :
    (Op.equalIn (d + 1) t .nilFunc .nilFunc).run P w = .ok true w ∧ (Op.equalIn (d + 1) t .nilFunc (.func fn a b)).run P w = .ok false w ∧ (Op.equalIn (d + 1) t (.func fn a b) .nilFunc).run P w = .ok false w := by
  refine ⟨?_, ?_, ?_⟩ <;> (simp only [Op.equalIn, Sem.run_bind, run_underlying h, Result.andThen_ok]; rfl)

structure EqRuns (P : Program) (t : TypeId) (lit : Bool) (r : Bool) (u v : Value) (w : World) : Prop where
  eq : (Op.equalIn (9998 + 2) t u v).run P w = .ok r w
  plain : eqPlain u v = true
  guard : (u = .nilIface ∧ v = .nilIface ∧ lit = true) ∨ ((∀ a, u ≠ .agg a) ∧ (u ≠ .nilIface ∨ v ≠ .nilIface)) ∨ (∃ a b, u = .agg a ∧ v = .agg b ∧ P.eqGuardType P.depth t = false)

theorem veq_sound {t : TypeId} {lit : Bool} {x y : D} {u v : Value} (hx : Rep K x u) (hy : Rep K y v) (hc : (veq P t lit x y).2) (w : World) : EqRuns P t lit (veq P t lit x y).1 u v w := by
  cases hx with
  | bool a =>
    cases hy with
    | bool b => exact ⟨eqIn_bool hc 9999 a b w, rfl, .inr (.inl ⟨(fun _ e => by cases e), .inl (fun e => by cases e)⟩)⟩
    | _ => exact False.elim hc
  | nilif =>
    cases hy with
    | nilif => exact ⟨by obtain ⟨_, ms, he⟩ := hc; exact (eqIn_iface he 9999 0 .nilFunc w).1, rfl, .inl ⟨rfl, rfl, hc.1⟩⟩
    | iface h => exact ⟨by obtain ⟨ms, he⟩ := hc; exact (eqIn_iface he 9999 _ _ w).2.1, rfl, .inr (.inl ⟨(fun _ e => by cases e), .inr (fun e => by cases e)⟩)⟩
    | _ => exact False.elim hc
  | iface hx =>
    cases hy with
    | nilif => exact ⟨by obtain ⟨ms, he⟩ := (show ∃ ms, P.underlying t = some (.interface ms) from hc); exact (eqIn_iface he 9999 _ _ w).2.2, rfl, .inr (.inl ⟨(fun _ e => by cases e), .inl (fun e => by cases e)⟩)⟩
    | iface hy =>
      cases hx with
      | int k1 n1 =>
        cases hy with
        | int k2 n2 => exact ⟨run_eqlIface hc.1 hc.2 9998 w, rfl, .inr (.inl ⟨(fun _ e => by cases e), .inl (fun e => by cases e)⟩)⟩
        | _ => exact False.elim hc
      | _ => exact False.elim hc
    | _ => exact False.elim hc
  | nilp =>
    cases hy with
    | nilp => exact ⟨by obtain ⟨ms, he⟩ := hc; exact (eqIn_ptr he 9999 ⟨0, 0, none⟩ w).1, rfl, .inr (.inl ⟨(fun _ e => by cases e), .inl (fun e => by cases e)⟩)⟩
    | pb b o => exact ⟨by obtain ⟨ms, he⟩ := hc; exact (eqIn_ptr he 9999 _ w).2.1, rfl, .inr (.inl ⟨(fun _ e => by cases e), .inl (fun e => by cases e)⟩)⟩
    | pf h => exact ⟨by obtain ⟨ms, he⟩ := hc; exact (eqIn_ptr he 9999 _ w).2.1, rfl, .inr (.inl ⟨(fun _ e => by cases e), .inl (fun e => by cases e)⟩)⟩
    | _ => exact False.elim hc
  | pb b o =>
    cases hy with
    | nilp => exact ⟨by obtain ⟨ms, he⟩ := hc; exact (eqIn_ptr he 9999 _ w).2.2, rfl, .inr (.inl ⟨(fun _ e => by cases e), .inl (fun e => by cases e)⟩)⟩
    | _ => exact False.elim hc
  | pf h =>
    cases hy with
    | nilp => exact ⟨by obtain ⟨ms, he⟩ := hc; exact (eqIn_ptr he 9999 _ w).2.2, rfl, .inr (.inl ⟨(fun _ e => by cases e), .inl (fun e => by cases e)⟩)⟩
    | _ => exact False.elim hc
  | nilfunc =>
    cases hy with
    | nilfunc => exact ⟨by obtain ⟨p, r, f, he⟩ := hc; exact (eqIn_func he 9999 (.func 0) #[] #[] w).1, rfl, .inr (.inl ⟨(fun _ e => by cases e), .inl (fun e => by cases e)⟩)⟩
    | clo h1 h2 => exact ⟨by obtain ⟨p, r, f, he⟩ := hc; exact (eqIn_func he 9999 _ _ _ w).2.1, rfl, .inr (.inl ⟨(fun _ e => by cases e), .inl (fun e => by cases e)⟩)⟩
    | _ => exact False.elim hc
  | clo h1 h2 =>
    cases hy with
    | nilfunc => exact ⟨by obtain ⟨p, r, f, he⟩ := hc; exact (eqIn_func he 9999 _ _ _ w).2.2, rfl, .inr (.inl ⟨(fun _ e => by cases e), .inl (fun e => by cases e)⟩)⟩
    | _ => exact False.elim hc
  | agg hus =>
    cases hy with
    | agg hvs => exact ⟨eqv_sound w 6 9994 t _ _ _ _ (.agg hus) (.agg hvs) hc.1, rfl, .inr (.inr ⟨_, _, rfl, rfl, hc.2⟩)⟩
    | _ => exact False.elim hc
  | _ => exact False.elim hc

theorem vbin_eq {t : TypeId} {xo yo : Operand} {x y : D} {u v : Value} (hx : Rep K x u) (hy : Rep K y v) (hc : (veq P t (litNil xo || litNil yo) x y).2) (w : World) :
    (do eqGuard .eql t xo yo u v; binOp .eql t u v : Sem Value).run P w = .ok (.bool (veq P t (litNil xo || litNil yo) x y).1) w ∧
    (do eqGuard .neq t xo yo u v; binOp .neq t u v : Sem Value).run P w = .ok (.bool (!(veq P t (litNil xo || litNil yo) x y).1)) w := by
  obtain ⟨h1, h2, h3⟩ := veq_sound hx hy hc w
  obtain ⟨h4, h5⟩ := binOp_eq (t := t) h2
  have hg : ∀ op, (eqGuard op t xo yo u v).run P w = .ok () w := fun op => by
    rcases h3 with ⟨rfl, rfl, h3⟩ | ⟨h3, h3'⟩ | ⟨a, b, rfl, rfl, h3⟩
    · exact guard_lit h3 w
    · exact guard_ok h3 h3' w
    · exact guard_agg h3 w
  have he : (Op.equal t u v).run P w = .ok (veq P t (litNil xo || litNil yo) x y).1 w := by rw [equal_in]; exact h1
  constructor
  · rw [h4]; simp only [Sem.run_bind, hg, he, Result.andThen_ok]; rfl
  · rw [h5]; simp only [Sem.run_bind, hg, he, Result.andThen_ok]; rfl

theorem vbin_sound {op : BinOp} {t : TypeId} {xo yo : Operand} {x y : D} {u v : Value} (hx : Rep K x u) (hy : Rep K y v) (hc : (vbin P op t (litNil xo || litNil yo) x y).2) (w : World) :
    ∃ r, (do eqGuard op t xo yo u v; binOp op t u v : Sem Value).run P w = .ok r w ∧ Rep K (vbin P op t (litNil xo || litNil yo) x y).1 r := by
  have hpl : ∀ {u v : Value}, (∀ a, u ≠ .agg a) → (u ≠ .nilIface) → (∃ r, (binOp op t u v).run P w = .ok r w ∧ Rep K (vbin P op t (litNil xo || litNil yo) x y).1 r) → ∃ r, (do eqGuard op t xo yo u v; binOp op t u v : Sem Value).run P w = .ok r w ∧ Rep K (vbin P op t (litNil xo || litNil yo) x y).1 r := by
    intro u v h1 h2 ⟨r, h3, h4⟩
    exact ⟨r, by simp only [Sem.run_bind, guard_ok (P := P) (t := t) (op := op) (xo := xo) (yo := yo) h1 (.inl h2) w, h3, Result.andThen_ok], h4⟩
  by_cases hi : ∃ k p k' q, x = .int k p ∧ y = .int k' q
  · obtain ⟨k, p, k', q, rfl, rfl⟩ := hi
    cases hx; cases hy
    refine hpl (fun _ => by simp) (by simp) ?_
    by_cases hs : op = .shl ∨ op = .shr
    · have hq : 0 ≤ q := by rcases hs with rfl | rfl <;> exact hc
      obtain ⟨r, h1, h2⟩ := vshift_sound (P := P) (K := K) (t := t) (k := k) (k' := k') (x := p) hs hq w
      refine ⟨r, h1, ?_⟩
      rcases hs with rfl | rfl
      · simpa [vbin] using h2
      · simpa [vbin] using h2
    · have hop : vbin P op t (litNil xo || litNil yo) (.int k p) (.int k' q) = ((vint op k p q).1, k = k' ∧ (vint op k p q).2) := by
        cases op <;> first | rfl | simp at hs
      rw [hop] at hc ⊢
      obtain ⟨rfl, hc⟩ := hc
      exact vint_sound hc w
  by_cases hs : ∃ p q, x = .str p ∧ y = .str q
  · obtain ⟨p, q, rfl, rfl⟩ := hs
    cases hx; cases hy
    exact hpl (fun _ => by simp) (by simp) (vstr_sound (show (vstr op p q).2 from hc) w)
  have hv : vbin P op t (litNil xo || litNil yo) x y = veqop op (veq P t (litNil xo || litNil yo) x y) := by
    clear hc hpl
    unfold vbin
    split
    · exact absurd ⟨_, _, _, _, rfl, rfl⟩ hi
    · exact absurd ⟨_, _, rfl, rfl⟩ hs
    · rfl
  rw [hv] at hc ⊢
  cases op <;> first
    | exact ⟨_, (vbin_eq hx hy hc w).1, .bool _⟩
    | exact ⟨_, (vbin_eq hx hy hc w).2, .bool _⟩
    | exact hc.elim

end Go.Proofs.YtpblgfgcoamgmaaGreatV
namespace Go.Proofs.YtpblgfgcoamgmaaGreatV
open Go

variable {P : Program} {G : Heap} {n B : Nat} {K : Kn} {s : St} {a : Act} {w : World}

def vloadAt (P : Program) (β : Heap) (t : TypeId) : D → D × Prop
  | .pb b o => match β b with
    | some cs => ((vload P t cs o).1, isObj cs = false ∧ (vload P t cs o).2)
    | none => (.any, False)
  | .pf cs => vload P t cs 0
  | _ => (.any, False)

theorem vloadAt_sound {β : Heap} {ω : List Nat} (h : Rel G K β ω w) {t : TypeId} {d : D} {u : Value} (hd : Rep K d u) (hc : (vloadAt P β t d).2) :
    ∃ v, (Instr.loadAt t u).run P w = .ok v w ∧ Rep K (vloadAt P β t d).1 v := by
  cases hd with
  | pb b o =>
    unfold vloadAt at hc ⊢
    simp only at hc ⊢
    cases hb : β b with
    | none => simp [hb] at hc
    | some cs =>
      simp only [hb] at hc ⊢
      obtain ⟨x, hv, hx⟩ := h.box b cs hb
      obtain ⟨vs, e, rfl, hr⟩ := hx.plain hc.1
      have := vload_sound (P := P) (w := w) (K := K) (off := 0) (b := b) hc.2 (fun j d hj => by
        obtain ⟨v, hv1, hv2⟩ := hr.get j d hj
        exact ⟨v, by rw [Nat.zero_add, cell_of hv]; simpa using hv1, hv2⟩)
      simpa [Instr.loadAt, Instr.sureAddr] using this
  | pf hp =>
    rename_i cs b o
    unfold vloadAt at hc ⊢
    simp only at hc ⊢
    have := vload_sound (P := P) (w := w) (K := K) (off := o) (b := b) hc (fun j d hj => h.holds _ _ _ (hp j d hj))
    simpa [Instr.loadAt, Instr.sureAddr] using this
  | _ => exact False.elim hc

def foff (P : Program) (t : TypeId) (f : Nat) : Option Nat :=
  match P.underlying t with
  | some (.struct fs) => match fs[f]? with
    | some fd => match P.underlying fd.type with
      | some _ => if P.cellsOf fd.type = 0 then none else some fd.offset
      | none => none
    | none => none
  | _ => none

theorem foff_some {t : TypeId} {f off : Nat} (h : foff P t f = some off) : ∃ fs fd d, P.underlying t = some (.struct fs) ∧ fs[f]? = some fd ∧ P.underlying fd.type = some d ∧ P.cellsOf fd.type ≠ 0 ∧ fd.offset = off := by
  unfold foff at h
  split at h
  · rename_i fs hu
    split at h
    · rename_i fd hf
      split at h
      · rename_i d hd
        split at h
        · cases h
        · rename_i hz
          cases h
          exact ⟨fs, fd, d, hu, hf, hd, hz, rfl⟩
      · cases h
    · cases h
  · cases h

def vfaddr (P : Program) (t : TypeId) (f : Nat) (d : D) : D × Prop :=
  match foff P t f with
  | some off => match d with
    | .pb b o => (.pb b (o + off), True)
    | .pf cs => (.pf (cs.drop off), True)
    | _ => (.any, False)
  | none => (.any, False)

theorem vfaddr_sound {t : TypeId} {f : Nat} {d : D} {u : Value} (hd : Rep K d u) (hc : (vfaddr P t f d).2) (w : World) :
    ∃ v, (Instr.fieldAt t u f).run P w = .ok v w ∧ Rep K (vfaddr P t f d).1 v := by
  unfold vfaddr at hc ⊢
  split at hc
  · rename_i off hf
    obtain ⟨fs, fd, d', h1, h2, h3, h4, h5⟩ := foff_some hf
    have hrun : ∀ b o, (Instr.fieldAt t (.pointer (some ⟨b, o, none⟩)) f).run P w = .ok (.pointer (some ⟨b, o + off, none⟩)) w := fun b o => by
      simp [Instr.fieldAt, run_underlying h1, h2, Instr.sureAddr, fieldPlace, run_size h3, h4, Addr.add_lit, h5]
    cases hd with
    | pb b o => exact ⟨_, hrun b o, .pb b _⟩
    | pf hp =>
      rename_i cs b o
      exact ⟨_, hrun b o, .pf fun j y hy => by rw [Nat.add_assoc]; exact hp _ _ (by simpa using hy)⟩
    | _ => exact False.elim hc
  · exact hc.elim

def vfield (P : Program) (t : TypeId) (f : Nat) (d : D) : D × Prop :=
  match P.underlying t with
  | some (.struct fs) => match fs[f]? with
    | some fd => match d with
      | .agg cs => vload P fd.type cs fd.offset
      | _ => (.any, False)
    | none => (.any, False)
  | _ => (.any, False)

theorem vfield_sound {t : TypeId} {f : Nat} {d : D} {u : Value} (hd : Rep K d u) (hc : (vfield P t f d).2) (w : World) :
    ∃ v, (Instr.field t u f).run P w = .ok v w ∧ Rep K (vfield P t f d).1 v := by
  unfold vfield at hc ⊢
  split at hc
  · rename_i fs hu
    split at hc
    · rename_i fd hf
      cases hd with
      | agg hr =>
        obtain ⟨v, h1, h2⟩ := part_sound (P := P) hr hc w
        exact ⟨v, by simp [Instr.field, run_underlying hu, hf, asAgg, h1], h2⟩
      | _ => exact False.elim hc
    · exact hc.elim
  · exact hc.elim

def ixt (P : Program) (t : TypeId) : Option (Bool × Nat × Nat) :=
  match P.underlying t with
  | some (.slice e) => match P.underlying e with
    | some _ => some (false, 0, P.cellsOf e)
    | none => none
  | some (.array l e) => match P.underlying e with
    | some _ => some (true, l, P.cellsOf e)
    | none => none
  | _ => none

theorem ixt_slice {t : TypeId} {l m : Nat} (h : ixt P t = some (false, l, m)) : ∃ e d, P.underlying t = some (.slice e) ∧ P.underlying e = some d ∧ P.cellsOf e = m := by
  unfold ixt at h
  split at h
  · rename_i e hu
    split at h
    · rename_i d hd
      cases h
      exact ⟨e, d, hu, hd, rfl⟩
    · cases h
  · rename_i l e hu
    split at h <;> cases h
  · cases h

theorem ixt_array {t : TypeId} {l m : Nat} (h : ixt P t = some (true, l, m)) : ∃ e d, P.underlying t = some (.array l e) ∧ P.underlying e = some d ∧ P.cellsOf e = m := by
  unfold ixt at h
  split at h
  · rename_i e hu
    split at h <;> cases h
  · rename_i l' e hu
    split at h
    · rename_i d hd
      cases h
      exact ⟨e, d, hu, hd, rfl⟩
    · cases h
  · cases h

def viaddr (P : Program) (t : TypeId) (x i : D) : D × Prop :=
  match i with
  | .int _ i => match ixt P t with
    | some (false, _, m) => match x with
      | .sl _ xs => (.pf (xs.getD i.toNat .any).cells, 0 ≤ i ∧ i < xs.length ∧ (xs.getD i.toNat .any).cells.length = m)
      | .so b off len _ => (.pb b (off + i.toNat * m), 0 ≤ i ∧ i < len)
      | _ => (.any, False)
    | some (true, l, m) => match x with
      | .pb b o => (.pb b (o + i.toNat * m), 0 ≤ i ∧ i < l)
      | .pf cs => (.pf (cs.drop (i.toNat * m)), 0 ≤ i ∧ i < l)
      | _ => (.any, False)
    | none => (.any, False)
  | _ => (.any, False)

theorem add_none {ad : Addr} (h : ad.spot = none) (m : Nat) : ad.add m = ⟨ad.block, ad.off + m, none⟩ := by
  cases ad with
  | mk b o sp => simp at h; subst h; exact Addr.add_lit b o m

theorem viaddr_sound {t : TypeId} {x i : D} {u v : Value} (hx : Rep K x u) (hi : Rep K i v) (hc : (viaddr P t x i).2) (w : World) :
    ∃ r, (Instr.indexAt t u v).run P w = .ok r w ∧ Rep K (viaddr P t x i).1 r := by
  cases hi with
  | int k i =>
    unfold viaddr at hc ⊢
    simp only at hc ⊢
    split at hc
    · rename_i l m ht
      obtain ⟨e, d, h1, h2, h3⟩ := ixt_slice ht
      cases hx with
      | sl hn hcap hm hl htok =>
        rename_i tk xs ad nn c sz
        obtain ⟨h4, h5, h6⟩ := hc
        have hlt : i.toNat < xs.length := by omega
        have hg : xs[i.toNat]? = some (xs.getD i.toNat .any) := by simp [hlt]
        obtain ⟨b, rfl, hsp, hsz, hcells⟩ := hl _ _ hg
        have hsz' : sz = m := by rw [← hsz, h6]
        subst hsz'
        refine ⟨.pointer (some (b.add (i.toNat * sz))), ?_, ?_⟩
        · have : i < nn := by omega
          simp [Instr.indexAt, asIntOf, run_underlying h1, h4, this, run_size h2, h3]
        · rw [add_none hsp]
          exact .pf hcells
      | so b off len cap =>
        obtain ⟨h4, h5⟩ := hc
        refine ⟨.pointer (some ⟨b, off + i.toNat * m, none⟩), ?_, .pb _ _⟩
        simp [Instr.indexAt, asIntOf, run_underlying h1, h4, h5, run_size h2, h3, Addr.add_lit]
      | _ => exact False.elim hc
    · rename_i l m ht
      obtain ⟨e, d, h1, h2, h3⟩ := ixt_array ht
      cases hx with
      | pb b o =>
        obtain ⟨h4, h5⟩ := hc
        refine ⟨.pointer (some ⟨b, o + i.toNat * m, none⟩), ?_, .pb _ _⟩
        simp [Instr.indexAt, asIntOf, run_underlying h1, Instr.sureAddr, h4, h5, run_size h2, h3, Addr.add_lit]
      | pf hp =>
        rename_i cs b o
        obtain ⟨h4, h5⟩ := hc
        refine ⟨.pointer (some ⟨b, o + i.toNat * m, none⟩), ?_, .pf fun j y hy => by rw [Nat.add_assoc]; exact hp _ _ (by simpa using hy)⟩
        simp [Instr.indexAt, asIntOf, run_underlying h1, Instr.sureAddr, h4, h5, run_size h2, h3, Addr.add_lit]
      | _ => exact False.elim hc
    · exact hc.elim
  | _ => exact False.elim hc

def sAt (s : ByteArray) (i : Int) : Int := ((s.data.toList.getD i.toNat 0).toNat : Int)

def vindex (P : Program) (t : TypeId) (x i : D) : D × Prop :=
  match i with
  | .int _ i => match x with
    | .agg cs => match P.underlying t with
      | some (.array l e) => ((vload P e cs (i.toNat * P.cellsOf e)).1, 0 ≤ i ∧ i < l ∧ (vload P e cs (i.toNat * P.cellsOf e)).2)
      | _ => (.any, False)
    | .str s => (.int .u8 (sAt s i), 0 ≤ i ∧ i < s.size ∧ P.underlying t = some .string)
    | _ => (.any, False)
  | _ => (.any, False)

theorem vload_has {t : TypeId} {cs : List D} {o : Nat} (h : (vload P t cs o).2) : ∃ d, P.underlying t = some d := by
  unfold vload at h
  split at h
  · rename_i hl; obtain ⟨d, hd, _⟩ := lk_some hl; exact ⟨d, hd⟩
  · rename_i hl; obtain ⟨d, hd, _⟩ := lk_some hl; exact ⟨d, hd⟩
  · exact h.elim

theorem vindex_sound {t : TypeId} {x i : D} {u v : Value} (hx : Rep K x u) (hi : Rep K i v) (hc : (vindex P t x i).2) (w : World) :
    ∃ r, (Instr.index t u v).run P w = .ok r w ∧ Rep K (vindex P t x i).1 r := by
  cases hi with
  | int k i =>
    cases hx with
    | agg hr =>
      rename_i cs vs
      unfold vindex at hc ⊢
      simp only at hc ⊢
      split at hc
      · rename_i l e hu
        obtain ⟨h1, h2, h3⟩ := hc
        obtain ⟨d, hd⟩ := vload_has h3
        obtain ⟨r, h4, h5⟩ := part_sound (P := P) hr h3 w
        refine ⟨r, ?_, h5⟩
        simp [Instr.index, asIntOf, run_underlying hu, h1, h2, run_size hd, h4]
      · exact hc.elim
    | str s hs =>
      unfold vindex at hc ⊢
      simp only at hc ⊢
      obtain ⟨h1, h2, h3⟩ := hc
      have hlt : i.toNat < s.size := by omega
      refine ⟨.int .u8 (sAt s i), ?_, .int _ _⟩
      have hlen : s.data.toList.length = s.size := by rw [Array.length_toList]; rfl
      have hg : s[i.toNat]? = some (s.data.toList.getD i.toNat 0) := by
        rw [getElem?_pos s i.toNat hlt]
        simp [List.getD, List.getElem?_eq_getElem (show i.toNat < s.data.toList.length by omega)]
        rfl
      simp [Instr.index, asIntOf, run_underlying h3, h1, hg, sAt]
    | _ => exact False.elim hc
  | _ => exact False.elim hc

end Go.Proofs.YtpblgfgcoamgmaaGreatV
namespace Go.Proofs.YtpblgfgcoamgmaaGreatV
open Go

variable {P : Program} {G : Heap} {n B : Nat} {K : Kn} {s : St} {a : Act} {w : World}

def ibnd (d : Option D) (dflt : Int) : Int × Prop :=
  match d with
  | none => (dflt, True)
  | some (.int _ i) => (i, True)
  | some _ => (0, False)

def cutk (P : Program) (t : TypeId) : Option (Nat × Nat × Nat) :=
  match P.underlying t with
  | some .string => some (0, 0, 0)
  | some (.slice e) => match P.underlying e with
    | some _ => some (1, P.cellsOf e, 0)
    | none => none
  | some (.array l e) => match P.underlying e with
    | some _ => some (2, P.cellsOf e, l)
    | none => none
  | _ => none

def cut0 : Tk → List D → Option D → Option D → Tk
  | .full, [], none, some _ => .full
  | _, _, _, _ => .none
theorem cut0_none (xs : List D) (l h : Option D) : cut0 .none xs l h = .none := rfl
theorem cut0_live (t m : Nat) (xs : List D) (l h : Option D) : cut0 (.live t m) xs l h = .none := rfl
theorem cut0_cons (tk : Tk) (x : D) (xs : List D) (l h : Option D) : cut0 tk (x :: xs) l h = .none := by cases tk <;> rfl
theorem cut0_lo (tk : Tk) (xs : List D) (d : D) (h : Option D) : cut0 tk xs (some d) h = .none := by cases tk <;> cases xs <;> rfl
theorem cut0_hi (tk : Tk) (xs : List D) (l : Option D) : cut0 tk xs l none = .none := by cases tk <;> cases xs <;> cases l <;> rfl
theorem cut0_nil (d : D) : cut0 .full [] none (some d) = .full := rfl

def vslice (P : Program) (t : TypeId) (x : D) (lo hi mx : Option D) : D × Prop :=
  match cutk P t, x with
  | some (0, _, _), .str s => (.str (s.extract (ibnd lo 0).1.toNat (ibnd hi s.size).1.toNat), (ibnd lo 0).2 ∧ (ibnd hi s.size).2 ∧ 0 ≤ (ibnd lo 0).1 ∧ (ibnd lo 0).1 ≤ (ibnd hi s.size).1 ∧ (ibnd hi s.size).1 ≤ s.size ∧ mx = none)
  | some (1, m, _), .sl tk xs => match mx with
    | none => (.sl (cut0 tk xs lo hi) ((xs.drop (ibnd lo 0).1.toNat).take ((ibnd hi xs.length).1.toNat - (ibnd lo 0).1.toNat)), (ibnd lo 0).2 ∧ (ibnd hi xs.length).2 ∧ 0 ≤ (ibnd lo 0).1 ∧ (ibnd lo 0).1 ≤ (ibnd hi xs.length).1 ∧ (ibnd hi xs.length).1 ≤ xs.length ∧ ∀ x ∈ xs, x.cells.length = m)
    | some (.int k i) => (.sl .full ((xs.drop (ibnd lo 0).1.toNat).take (i.toNat - (ibnd lo 0).1.toNat)), (ibnd lo 0).2 ∧ (∃ k', hi = some (.int k' i)) ∧ 0 ≤ (ibnd lo 0).1 ∧ (ibnd lo 0).1 ≤ i ∧ i ≤ xs.length ∧ ∀ x ∈ xs, x.cells.length = m)
    | some _ => (.any, False)
  | some (1, m, _), .so b off len cap => (.so b (if cap = (ibnd lo 0).1.toNat then off else off + (ibnd lo 0).1.toNat * m) ((ibnd hi len).1.toNat - (ibnd lo 0).1.toNat) (cap - (ibnd lo 0).1.toNat), (ibnd lo 0).2 ∧ (ibnd hi len).2 ∧ 0 ≤ (ibnd lo 0).1 ∧ (ibnd lo 0).1 ≤ (ibnd hi len).1 ∧ (ibnd hi len).1 ≤ cap ∧ mx = none)
  | some (2, m, l), .pb b o => (.so b (if l = (ibnd lo 0).1.toNat then o else o + (ibnd lo 0).1.toNat * m) ((ibnd hi l).1.toNat - (ibnd lo 0).1.toNat) (l - (ibnd lo 0).1.toNat), (ibnd lo 0).2 ∧ (ibnd hi l).2 ∧ 0 ≤ (ibnd lo 0).1 ∧ (ibnd lo 0).1 ≤ (ibnd hi l).1 ∧ (ibnd hi l).1 ≤ l ∧ mx = none)
  | _, _ => (.any, False)

def Bnd (v : Option Value) (dflt i : Int) : Prop := (v = none ∧ i = dflt) ∨ ∃ k, v = some (.int k i)

def RepO (K : Kn) (d : Option D) (v : Option Value) : Prop := (d = none ∧ v = none) ∨ ∃ x u, d = some x ∧ v = some u ∧ Rep K x u

theorem Bnd.of {d : Option D} {v : Option Value} {dflt : Int} (h : RepO K d v) (hc : (ibnd d dflt).2) : Bnd v dflt (ibnd d dflt).1 := by
  rcases h with ⟨rfl, rfl⟩ | ⟨x, u, rfl, rfl, h⟩
  · exact .inl ⟨rfl, rfl⟩
  · cases h with
    | int k i => exact .inr ⟨k, rfl⟩
    | _ => exact False.elim hc

theorem run_bounds {b : Bool} {len cap : Nat} {lo hi : Option Value} {l h : Int} (hl : Bnd lo 0 l) (hh : Bnd hi len h) (h0 : 0 ≤ l) (h1 : l ≤ h) (h2 : h ≤ cap) (w : World) :
    (Instr.sliceBounds b len cap lo hi none).run P w = .ok (l.toNat, h.toNat, cap) w := by
  have h3 : 0 ≤ h := by omega
  rcases hh with ⟨rfl, rfl⟩ | ⟨k, rfl⟩
  · rcases hl with ⟨rfl, rfl⟩ | ⟨k, rfl⟩
    · simp [Instr.sliceBounds]
    · simp [Instr.sliceBounds, Instr.sliceBound, asIntOf, h0, h1]
  · rcases hl with ⟨rfl, rfl⟩ | ⟨k', rfl⟩
    · simp [Instr.sliceBounds, Instr.sliceBound, asIntOf, h3, h2]
    · have hmx : max h 0 = h := by omega
      simp [Instr.sliceBounds, Instr.sliceBound, asIntOf, h0, h1, hmx, h3, h2]

theorem run_bounds3 {len cap : Nat} {lo : Option Value} {l h : Int} {k k' : IntKind} (hl : Bnd lo 0 l) (h0 : 0 ≤ l) (h1 : l ≤ h) (h2 : h ≤ cap) (w : World) :
    (Instr.sliceBounds true len cap lo (some (.int k h)) (some (.int k' h))).run P w = .ok (l.toNat, h.toNat, h.toNat) w := by
  have h3 : 0 ≤ h := by omega
  have hmx : max h 0 = h := by omega
  rcases hl with ⟨rfl, rfl⟩ | ⟨k'', rfl⟩
  · simp [Instr.sliceBounds, Instr.sliceBound, asIntOf, h3, h2, hmx]
  · simp [Instr.sliceBounds, Instr.sliceBound, asIntOf, h3, h2, hmx, h0, h1]

theorem Laid.cut {ad : Option Addr} {sz m l h : Nat} {xs : List D} (hl : Laid K ad sz xs) (hm : ∀ x ∈ xs, x.cells.length = m) (hlh : l ≤ h) (hh : h ≤ xs.length) (c : Nat) (hc : xs.length ≤ c) (c' : Nat) (hc' : c' = c ∨ c' = h) :
    Laid K (if c' = l then ad else ad.map (·.add (l * m))) sz ((xs.drop l).take (h - l)) := by
  intro i x hx
  rw [List.getElem?_take] at hx
  split at hx
  · rename_i hi
    rw [List.getElem?_drop] at hx
    obtain ⟨b, rfl, hsp, hsz, hcells⟩ := hl _ _ hx
    have hm' : m = sz := by rw [← hsz, hm x (List.mem_of_getElem? hx)]
    subst hm'
    have hne : c' ≠ l := by omega
    rw [if_neg hne]
    refine ⟨b.add (l * m), rfl, by rw [add_none hsp], hsz, fun j y hy => ?_⟩
    rw [add_none hsp]
    have := hcells j y hy
    rw [Nat.add_mul] at this
    rw [show b.off + l * m + i * m + j = b.off + (l * m + i * m) + j by omega]
    exact this
  · cases hx

theorem cutk0 {t : TypeId} {a b : Nat} (h : cutk P t = some (0, a, b)) : P.underlying t = some .string := by
  unfold cutk at h
  split at h
  · assumption
  · split at h <;> simp at h
  · split at h <;> simp at h
  · cases h

theorem cutk1 {t : TypeId} {m b : Nat} (h : cutk P t = some (1, m, b)) : ∃ e d, P.underlying t = some (.slice e) ∧ P.underlying e = some d ∧ P.cellsOf e = m := by
  unfold cutk at h
  split at h
  · simp at h
  · rename_i e hu
    split at h
    · rename_i d hd
      simp at h
      exact ⟨e, d, hu, hd, h.1⟩
    · simp at h
  · split at h <;> simp at h
  · cases h

theorem cutk2 {t : TypeId} {m l : Nat} (h : cutk P t = some (2, m, l)) : ∃ e d, P.underlying t = some (.array l e) ∧ P.underlying e = some d ∧ P.cellsOf e = m := by
  unfold cutk at h
  split at h
  · simp at h
  · split at h <;> simp at h
  · rename_i l' e hu
    split at h
    · rename_i d hd
      simp at h
      obtain ⟨h1, h2⟩ := h
      subst h2
      exact ⟨e, d, hu, hd, h1⟩
    · simp at h
  · cases h

theorem size_extract (s : ByteArray) (l h : Nat) : (s.extract l h).size ≤ s.size := by
  rw [ByteArray.size_extract]; omega

theorem vslice_sound {t : TypeId} {x : D} {u : Value} {lo hi mx : Option D} {vlo vhi vmx : Option Value} (hx : Rep K x u) (hlo : RepO K lo vlo) (hhi : RepO K hi vhi) (hmx : RepO K mx vmx) (hc : (vslice P t x lo hi mx).2) (w : World) :
    ∃ r, (Instr.sliceAt t u vlo vhi vmx).run P w = .ok r w ∧ Rep K (vslice P t x lo hi mx).1 r := by
  unfold vslice at hc ⊢
  split at hc
  · rename_i _ _ s ht
    have hu := cutk0 ht
    cases hx with
    | str _ hs =>
      obtain ⟨h1, h2, h3, h4, h5, rfl⟩ := hc
      rcases hmx with ⟨_, rfl⟩ | ⟨_, _, hq, _⟩
      · have hb := run_bounds (P := P) (b := false) (len := s.size) (cap := s.size) (Bnd.of hlo h1) (Bnd.of hhi h2) h3 h4 h5 w
        refine ⟨.string (s.extract (ibnd lo 0).1.toNat (ibnd hi s.size).1.toNat), ?_, .str _ (Nat.le_trans (size_extract _ _ _) hs)⟩
        simp [Instr.sliceAt, Instr.slice, run_underlying hu, hb]
      · cases hq
  · rename_i m _ tk xs ht
    obtain ⟨e, d, hu, hd, hm⟩ := cutk1 ht
    cases hx with
    | sl hn hcap hm' hl htok =>
      rename_i ad nn c sz
      subst hn
      split at hc
      · obtain ⟨h1, h2, h3, h4, h5, h6⟩ := hc
        rcases hmx with ⟨_, rfl⟩ | ⟨_, _, hq, _⟩
        · have hb := run_bounds (P := P) (b := true) (len := xs.length) (cap := c) (Bnd.of hlo h1) (Bnd.of hhi h2) h3 h4 (by omega) w
          refine ⟨.slice (if c = (ibnd lo 0).1.toNat then ad else ad.map (·.add ((ibnd lo 0).1.toNat * m))) ((ibnd hi xs.length).1.toNat - (ibnd lo 0).1.toNat) (c - (ibnd lo 0).1.toNat), ?_, ?_⟩
          · simp [Instr.sliceAt, Instr.slice, run_underlying hu, hb, run_size hd, hm]
          · refine .sl (by simp; omega) (by omega) (by omega) (hl.cut h6 (by omega) (by omega) c hcap c (.inl rfl)) ?_
            cases tk with
            | none => trivial
            | live t' m' => trivial
            | full =>
              cases xs with
              | cons x xs => trivial
              | nil =>
                have hc0 : ([] : List D).length = c := htok
                have hcut : cut0 .full [] lo hi = .full ∨ cut0 .full [] lo hi = .none := by cases lo <;> cases hi <;> simp [cut0]
                rcases hcut with hcut | hcut <;> rw [hcut]
                · show _ = _
                  simp only [List.length_nil] at h4 h5 hc0 ⊢
                  omega
                · trivial
        · cases hq
      · rename_i k i
        obtain ⟨h1, ⟨k', rfl⟩, h3, h4, h5, h6⟩ := hc
        rcases hmx with ⟨hq, _⟩ | ⟨_, vm, hq, rfl, hvm⟩
        · cases hq
        · cases hq
          cases hvm
          rcases hhi with ⟨hq, _⟩ | ⟨_, vh, hq, rfl, hvh⟩
          · cases hq
          · cases hq
            cases hvh
            have hb := run_bounds3 (P := P) (len := xs.length) (cap := c) (k := k') (k' := k) (Bnd.of hlo h1) h3 h4 (by omega) w
            refine ⟨.slice (if i.toNat = (ibnd lo 0).1.toNat then ad else ad.map (·.add ((ibnd lo 0).1.toNat * m))) (i.toNat - (ibnd lo 0).1.toNat) (i.toNat - (ibnd lo 0).1.toNat), ?_, ?_⟩
            · simp [Instr.sliceAt, Instr.slice, run_underlying hu, hb, run_size hd, hm]
            · exact .sl (by simp; omega) (Nat.le_refl _) (by omega) (hl.cut h6 (by omega) (by omega) c hcap i.toNat (.inr rfl)) rfl
      · exact hc.elim
  · rename_i m _ b off len cap ht
    obtain ⟨e, d, hu, hd, hm⟩ := cutk1 ht
    cases hx with
    | so =>
      obtain ⟨h1, h2, h3, h4, h5, rfl⟩ := hc
      rcases hmx with ⟨_, rfl⟩ | ⟨_, _, hq, _⟩
      · have hb := run_bounds (P := P) (b := true) (len := len) (cap := cap) (Bnd.of hlo h1) (Bnd.of hhi h2) h3 h4 (by omega) w
        refine ⟨.slice (some ⟨b, if cap = (ibnd lo 0).1.toNat then off else off + (ibnd lo 0).1.toNat * m, none⟩) ((ibnd hi len).1.toNat - (ibnd lo 0).1.toNat) (cap - (ibnd lo 0).1.toNat), ?_, .so _ _ _ _⟩
        simp only [Instr.sliceAt, Sem.run_bind, run_underlying hu, Result.andThen_ok, Instr.slice, hb, run_size hd, hm]
        split <;> simp [Addr.add_lit, *]
      · cases hq
  · rename_i m l b o ht
    obtain ⟨e, d, hu, hd, hm⟩ := cutk2 ht
    cases hx with
    | pb =>
      obtain ⟨h1, h2, h3, h4, h5, rfl⟩ := hc
      rcases hmx with ⟨_, rfl⟩ | ⟨_, _, hq, _⟩
      · have hb := run_bounds (P := P) (b := false) (len := l) (cap := l) (Bnd.of hlo h1) (Bnd.of hhi h2) h3 h4 (by omega) w
        refine ⟨.slice (some ⟨b, if l = (ibnd lo 0).1.toNat then o else o + (ibnd lo 0).1.toNat * m, none⟩) ((ibnd hi l).1.toNat - (ibnd lo 0).1.toNat) (l - (ibnd lo 0).1.toNat), ?_, .so _ _ _ _⟩
        simp only [Instr.sliceAt, Sem.run_bind, run_underlying hu, Result.andThen_ok, Instr.sureAddr, Sem.run_pure, hb, run_size hd, hm]
        split <;> simp [Addr.add_lit, *]
      · cases hq
  · exact hc.elim

end Go.Proofs.YtpblgfgcoamgmaaGreatV
namespace Go.Proofs.YtpblgfgcoamgmaaGreatV
open Go

variable {P : Program} {G : Heap} {n B : Nat} {K : Kn} {s : St} {a : Act} {w : World}

def vlen (P : Program) (t : Option TypeId) (x : D) : D × Prop :=
  match t with
  | some t => match cutk P t, x with
    | some (0, _, _), .str s => (.int .i64 s.size, True)
    | some (1, _, _), .sl _ xs => (.int .i64 xs.length, True)
    | some (1, _, _), .so _ _ len _ => (.int .i64 len, True)
    | some (2, _, l), _ => (.int .i64 l, True)
    | _, _ => (.any, False)
  | none => (.any, False)

theorem vlen_sound {ty : TypeId} {ts : Array TypeId} {x : D} {u : Value} (hx : Rep K x u) (hc : (vlen P ts[0]? x).2) (w : World) :
    ∃ v, (Builtin.len_ ts ty #[u]).run P w = .ok v w ∧ Rep K (vlen P ts[0]? x).1 v := by
  unfold vlen at hc ⊢
  split at hc
  · rename_i t h0
    split at hc
    · rename_i ht
      cases hx with | str => exact ⟨_, by simp only [Builtin.len_, h0]; simp [run_underlying (cutk0 ht), goInt], .int _ _⟩
    · rename_i ht
      obtain ⟨e, d, hu, _⟩ := cutk1 ht
      cases hx with | sl hn => exact ⟨_, by simp only [Builtin.len_, h0]; simp [run_underlying hu, goInt, hn], .int _ _⟩
    · rename_i ht
      obtain ⟨e, d, hu, _⟩ := cutk1 ht
      cases hx with | so => exact ⟨_, by simp only [Builtin.len_, h0]; simp [run_underlying hu, goInt], .int _ _⟩
    · rename_i ht
      obtain ⟨e, d, hu, _⟩ := cutk2 ht
      exact ⟨_, by simp only [Builtin.len_, h0]; simp [run_underlying hu, goInt], .int _ _⟩
    · exact hc.elim
  · exact hc.elim

def vcap (P : Program) (t : Option TypeId) (x : D) : D × Prop :=
  match t with
  | some t => match cutk P t, x with
    | some (1, _, _), .so _ _ _ c => (.int .i64 c, True)
    | some (1, _, _), .sl .full xs => (.int .i64 xs.length, True)
    | _, _ => (.any, False)
  | none => (.any, False)

theorem vcap_sound {ty : TypeId} {ts : Array TypeId} {x : D} {u : Value} (hx : Rep K x u) (hc : (vcap P ts[0]? x).2) (w : World) :
    ∃ v, (Builtin.cap_ ts ty #[u]).run P w = .ok v w ∧ Rep K (vcap P ts[0]? x).1 v := by
  unfold vcap at hc ⊢
  split at hc
  · rename_i t h0
    split at hc
    · rename_i ht
      obtain ⟨e, d, hu, _⟩ := cutk1 ht
      cases hx with | so => exact ⟨_, by simp only [Builtin.cap_, h0]; simp [run_underlying hu, goInt], .int _ _⟩
    · rename_i xs ht
      obtain ⟨e, d, hu, _⟩ := cutk1 ht
      cases hx with | sl hn hcap hm hl htok =>
        rename_i _ nn c _
        have : nn = c := htok
        exact ⟨.int .i64 xs.length, by simp only [Builtin.cap_, h0]; simp [run_underlying hu, goInt, hn, this], .int _ _⟩
    · exact hc.elim
  · exact hc.elim

def vmm (least : Bool) : List D → D × Prop
  | [.int k x, .int _ y] => (.int k (if least then (if y < x then y else x) else (if x < y then y else x)), True)
  | _ => (.any, False)

theorem vmm_sound {ts : Array TypeId} {ty : TypeId} {least : Bool} {ds : List D} {us : List Value} (hx : RepL K ds us) (hc : (vmm least ds).2) (w : World) :
    ∃ v, (if least then Builtin.min_ ts ty us.toArray else Builtin.max_ ts ty us.toArray).run P w = .ok v w ∧ Rep K (vmm least ds).1 v := by
  unfold vmm at hc ⊢
  split at hc
  · cases hx with | cons h1 t1 => cases t1 with | cons h2 t2 => cases t2 with | nil => cases h1; cases h2; cases least <;> exact ⟨_, rfl, .int _ _⟩
  · exact hc.elim

def byteOfD : D → Int
  | .int _ i => i
  | _ => 0

def isByte : D → Bool
  | .int .u8 _ => true
  | _ => false

def strOfI (ns : List Int) : ByteArray := ns.foldl (fun r n => r.push (UInt8.ofNat n.toNat)) ByteArray.empty

theorem foldl_push_size : ∀ (ns : List Int) (s : ByteArray), (ns.foldl (fun r n => r.push (UInt8.ofNat n.toNat)) s).size = s.size + ns.length
  | [], s => by simp
  | n :: ns, s => by simp only [List.foldl_cons, foldl_push_size ns, List.length_cons, ByteArray.size_push]; omega

theorem strOfI_size (ns : List Int) : (strOfI ns).size = ns.length := by
  unfold strOfI
  rw [foldl_push_size]
  simp

def cvk (P : Program) (src dst : TypeId) : Option (Nat × IntKind) :=
  match P.underlying src, P.underlying dst with
  | some (.int _), some (.int k) => some (0, k)
  | some .string, some .string => some (1, .u8)
  | some (.slice e), some .string => match P.underlying e with
    | some (.int .u8) => some (2, .u8)
    | _ => none
  | _, _ => none

def vconv (P : Program) (src dst : TypeId) (x : D) : D × Prop :=
  match cvk P src dst, x with
  | some (0, k), .int _ i => (.int k (k.wrap i), True)
  | some (1, _), .str s => (.str s, True)
  | some (2, _), .sl _ xs => (.str (strOfI (xs.map byteOfD)), xs.all isByte = true)
  | _, _ => (.any, False)

theorem bytes_of_D {xs : List D} (h : xs.all isByte = true) : xs = (xs.map byteOfD).map (.int .u8) := by
  induction xs with
  | nil => rfl
  | cons x xs ih =>
    simp only [List.all_cons, Bool.and_eq_true] at h
    obtain ⟨h1, h2⟩ := h
    simp only [List.map_cons]
    rw [← ih h2]
    unfold isByte at h1
    split at h1
    · rfl
    · cases h1

theorem cvk_cases {src dst : TypeId} {c : Nat} {k : IntKind} (h : cvk P src dst = some (c, k)) :
    (c = 0 ∧ ∃ k', P.underlying src = some (.int k') ∧ P.underlying dst = some (.int k)) ∨ (c = 1 ∧ P.underlying src = some .string ∧ P.underlying dst = some .string) ∨ (c = 2 ∧ ∃ e, P.underlying src = some (.slice e) ∧ P.underlying e = some (.int .u8) ∧ P.underlying dst = some .string) := by
  unfold cvk at h
  split at h
  · rename_i k' k'' h1 h2
    cases h
    exact .inl ⟨rfl, k', h1, h2⟩
  · rename_i h1 h2
    cases h
    exact .inr (.inl ⟨rfl, h1, h2⟩)
  · rename_i e h1 h2
    split at h
    · rename_i h3
      cases h
      exact .inr (.inr ⟨rfl, e, h1, h3, h2⟩)
    · cases h
  · cases h

theorem vconv_sound {β : Heap} {ω : List Nat} (h : Rel G K β ω w) {src dst : TypeId} {x : D} {u : Value} (hx : Rep K x u) (hc : (vconv P src dst x).2) :
    ∃ v, (convert src dst u).run P w = .ok v w ∧ Rep K (vconv P src dst x).1 v := by
  unfold vconv at hc ⊢
  split at hc
  · rename_i k k' i ht
    rcases cvk_cases ht with ⟨_, k'', h1, h2⟩ | ⟨h0, _⟩ | ⟨h0, _⟩
    · cases hx
      exact ⟨_, by simp only [convert, Sem.run_bind, run_underlying h1, run_underlying h2, Result.andThen_ok]; rfl, .int _ _⟩
    · cases h0
    · cases h0
  · rename_i k s ht
    rcases cvk_cases ht with ⟨h0, _⟩ | ⟨_, h1, h2⟩ | ⟨h0, _⟩
    · cases h0
    · cases hx with | str _ hs => exact ⟨_, by simp only [convert, Sem.run_bind, run_underlying h1, run_underlying h2, Result.andThen_ok]; rfl, .str _ hs⟩
    · cases h0
  · rename_i k tk xs ht
    rcases cvk_cases ht with ⟨h0, _⟩ | ⟨h0, _⟩ | ⟨_, e, h1, h2, h3⟩
    · cases h0
    · cases h0
    · cases hx with
      | sl hn hcap hm hl htok =>
        rename_i ad nn c sz
        have hb := bytes_of_D hc
        have hsize : (strOfI (xs.map byteOfD)).size ≤ mostLen := by rw [strOfI_size, List.length_map]; omega
        refine ⟨.string (strOfI (xs.map byteOfD)), ?_, .str _ hsize⟩
        rw [run_convert_bytes_string w src dst e ad nn c h1 h2 h3]
        cases ad with
        | none =>
          have hx0 : xs = [] := by
            cases xs with
            | nil => rfl
            | cons x xs => obtain ⟨_, h0, _⟩ := hl 0 x rfl; cases h0
          subst hx0
          rfl
        | some b =>
          refine run_bytesToString w b nn c (xs.map byteOfD) ?_
          have hcell : ∀ j v, ((xs.map byteOfD).map (Value.int .u8))[j]? = some v → w.cell? (b.add j) = some v := by
            intro j v hj
            simp only [List.getElem?_map, Option.map_map, Option.map_eq_some_iff] at hj
            obtain ⟨d, hd, rfl⟩ := hj
            obtain ⟨b', hb', hsp, hsz, hcs⟩ := hl j d hd
            cases hb'
            have hdb : d = .int .u8 (byteOfD d) := by
              have := List.all_eq_true.1 hc d (List.mem_of_getElem? hd)
              unfold isByte at this
              split at this
              · rfl
              · cases this
            have hone : d.cells = [d] := by rw [hdb]; rfl
            rw [hone] at hsz hcs
            simp at hsz
            subst hsz
            have := hcs 0 d rfl
            obtain ⟨v', hv', hr'⟩ := h.holds _ _ _ this
            rw [hdb] at hr'
            cases hr'
            rw [add_none hsp]
            simpa using hv'
          have := run_loadCells_list (P := P) w b _ hcell
          simpa [hn] using this
  · exact hc.elim

def zer (P : Program) (t : TypeId) : Option (List D) := ((P.info? t).bind (·.zero)).map fun z => z.cells.toList.map const1

def plc (P : Program) (t : TypeId) : Option (List (Nat × Nat)) :=
  match P.underlying t with
  | some (.struct fs) => fs.toList.mapM fun f => (P.info? f.type).map fun i => (f.offset, i.size)
  | some (.array l e) => (P.info? e).map fun i => (List.range l).map fun j => (j * i.size, i.size)
  | _ => none

def vfill (pl : List (Nat × Nat)) : List D → List (Nat × D) → Option (List D)
  | cs, [] => some cs
  | cs, (i, d) :: rest => match pl[i]? with
    | some (off, size) => if d.cells.length = size ∧ off + size ≤ cs.length ∧ d.solid = true then vfill pl (splice cs off d.cells) rest else none
    | none => none

def vbuild (P : Program) (t : TypeId) (parts : List (Nat × D)) : D × Prop :=
  match plc P t, zer P t with
  | some pl, some z => match vfill pl z parts with
    | some cs => (.agg cs, True)
    | none => (.any, False)
  | _, _ => (.any, False)

theorem foldl_splice : ∀ (us : List Value) (k off : Nat) (arr : Array Value), off + k + us.length ≤ arr.size →
    ((us.zipIdx k).foldl (fun cs (x : Value × Nat) => cs.setIfInBounds (off + x.2) x.1) arr).toList = splice arr.toList (off + k) us
  | [], k, off, arr, h => by simp [splice]
  | u :: us, k, off, arr, h => by
    simp only [List.zipIdx_cons, List.foldl_cons]
    rw [foldl_splice us (k + 1) off _ (by simp at h ⊢; omega)]
    have e := list_seg_step arr.toList (off + k) u us (by simp at h ⊢; omega)
    simpa [splice, Array.toList_setIfInBounds, Nat.add_assoc] using e

inductive RepP (K : Kn) : List (Nat × D) → List (Nat × Value) → Prop
  | nil : RepP K [] []
  | cons {i : Nat} {d : D} {v : Value} {ds : List (Nat × D)} {vs : List (Nat × Value)} (h : Rep K d v) (t : RepP K ds vs) : RepP K ((i, d) :: ds) ((i, v) :: vs)

theorem fill_sound {pl : List (Nat × Nat)} {place : Nat → Option (Nat × Nat)} (hp : ∀ i x, pl[i]? = some x → place i = some x) : ∀ {parts : List (Nat × D)} {us : List (Nat × Value)} {cs cs' : List D} {arr : Array Value}, RepP K parts us → vfill pl cs parts = some cs' → RepL K cs arr.toList →
    ∃ arr', Instr.fill place arr us = some arr' ∧ RepL K cs' arr'.toList
  | _, _, cs, cs', arr, .nil, h, hr => by
    simp [vfill] at h
    subst h
    exact ⟨arr, rfl, hr⟩
  | _, _, cs, cs', arr, .cons (i := i) (d := d) (v := v) hd ht, h, hr => by
    unfold vfill at h
    split at h
    · rename_i off size hpl
      split at h
      · rename_i hc
        obtain ⟨h1, h2, h3⟩ := hc
        obtain ⟨hcells, hone⟩ := hd.cells_solid h3
        have hl1 := hcells.length
        have hl2 := hr.length
        simp at hl1 hl2
        have hfold := foldl_splice v.cells.toList 0 off arr (by simp; omega)
        have hrs := hr.splice hcells off
        have harr : (v.cells.zipIdx.foldl (fun cs (x : Value × Nat) => cs.setIfInBounds (off + x.2) x.1) arr).toList = splice arr.toList off v.cells.toList := by
          rw [← Array.foldl_toList, Array.toList_zipIdx]
          simpa using hfold
        obtain ⟨arr', h4, h5⟩ := fill_sound hp ht h (arr := v.cells.zipIdx.foldl (fun cs (x : Value × Nat) => cs.setIfInBounds (off + x.2) x.1) arr) (by rw [harr]; exact hrs)
        refine ⟨arr', ?_, h5⟩
        simp only [Instr.fill, hp i _ hpl]
        rw [if_neg (by simp; omega)]
        exact h4
      · cases h
    · cases h

theorem vbuild_sound {t : TypeId} {parts : List (Nat × D)} {us : Array (Nat × Value)} (hp : RepP K parts us.toList) (hc : (vbuild P t parts).2) (w : World) :
    ∃ v, (Instr.build t us).run P w = .ok v w ∧ Rep K (vbuild P t parts).1 v := by
  unfold vbuild at hc ⊢
  split at hc
  · rename_i pl z h1 h2
    split at hc
    · rename_i cs h3
      unfold zer at h2
      obtain ⟨zv, hz, rfl⟩ := Option.map_eq_some_iff.1 h2
      obtain ⟨it, hit, hz⟩ := Option.bind_eq_some_iff.1 hz
      have hzr : RepL K (zv.cells.toList.map const1) zv.cells.toList := rep_const1s K _
      unfold plc at h1
      split at h1
      · rename_i fs hu
        obtain ⟨arr', h4, h5⟩ := fill_sound (place := (pl.toArray[·]?)) (fun i x hx => by simpa using hx) hp h3 hzr
        refine ⟨.agg arr', run_build w t us arr' ?_, ?_⟩
        · simp only [Program.built, hit, hu, hz, h1, h4]
        · have := Rep.agg h5
          simpa using this
      · rename_i l e hu
        obtain ⟨ie, hie, rfl⟩ := Option.map_eq_some_iff.1 h1
        obtain ⟨arr', h4, h5⟩ := fill_sound (place := fun i => some (i * ie.size, ie.size)) (fun i x hx => by
          simp [List.getElem?_map] at hx
          obtain ⟨j, hj, rfl⟩ := hx
          have := List.getElem?_eq_some_iff.1 hj
          obtain ⟨h, h'⟩ := this
          simp at h'
          subst h'
          rfl) hp h3 hzr
        refine ⟨.agg arr', run_build w t us arr' ?_, ?_⟩
        · simp only [Program.built, hit, hu, hz, hie, h4]
        · have := Rep.agg h5
          simpa using this
      · cases h1
    · exact hc.elim
  · exact hc.elim

end Go.Proofs.YtpblgfgcoamgmaaGreatV
namespace Go.Proofs.YtpblgfgcoamgmaaGreatV
open Go

variable {P : Program} {G : Heap} {n : Nat} {B : Bs} {K : Kn} {s : St} {a : Act} {w : World}

def selD (t : Bool) (x y : D) : D :=
  match x, y with
  | .bool p, .bool q => .bool (bif t then p else q)
  | x, y => if t then x else y

def vpick (c x y : D) : D × Prop :=
  match c with
  | .bool t => (selD t x.strip y.strip, (t = true → x.ok) ∧ (t = false → y.ok))
  | _ => (.any, False)

theorem selD_true (x y : D) : selD true x y = x := by
  unfold selD
  split <;> simp

theorem selD_false (x y : D) : selD false x y = y := by
  unfold selD
  split <;> simp

theorem vpick_sound {c x y : D} {uc ux uy : Value} (h : Rep K c uc) (hx : Rep K x ux) (hy : Rep K y uy) (hc : (vpick c x y).2) (w : World) :
    ∃ v, (do pure (if ← asBool uc then ux else uy) : Sem Value).run P w = .ok v w ∧ Rep K (vpick c x y).1 v := by
  cases h with
  | bool t =>
    obtain ⟨h1, h2⟩ := hc
    cases t with
    | true => exact ⟨ux, by simp [asBool], by simp only [vpick, selD_true]; exact hx.strip (h1 rfl)⟩
    | false => exact ⟨uy, by simp [asBool], by simp only [vpick, selD_false]; exact hy.strip (h2 rfl)⟩
  | _ => exact False.elim hc

def vun (op : UnOp) (x : D) : D × Prop :=
  match op, x with
  | .not, .bool b => (.bool (!b), True)
  | .neg, .int k i => (.int k (k.wrap (0 - i)), True)
  | .xor, .int k i => (.int k (k.wrap ((BitVec.ofInt k.bits (if k.signed then -1 else k.max) ^^^ BitVec.ofInt k.bits i).toNat : Int)), True)
  | _, _ => (.any, False)

theorem vun_sound {op : UnOp} {x : D} {u : Value} (hx : Rep K x u) (hc : (vun op x).2) (w : World) :
    ∃ v, (Op.unary op u).run P w = .ok v w ∧ Rep K (vun op x).1 v := by
  unfold vun at hc ⊢
  split at hc
  · cases hx; exact ⟨_, rfl, .bool _⟩
  · cases hx; exact ⟨_, rfl, .int _ _⟩
  · cases hx; exact ⟨_, rfl, .int _ _⟩
  · exact hc.elim

def concrete (P : Program) (t : TypeId) : Bool :=
  match P.underlying t with
  | some (.interface _) => false
  | some _ => true
  | none => false

theorem vmake_sound {t : TypeId} (h : concrete P t = true) (u : Value) (w : World) : (Instr.makeInterface t u).run P w = .ok (.iface t u) w := by
  unfold concrete at h
  split at h
  · cases h
  · rename_i d hne hu
    cases d <;> first
      | (simp [Instr.makeInterface, run_underlying hu]; done)
      | exact (hne _ rfl).elim
  · cases h

def vta (P : Program) (t : TypeId) (c : Bool) (x : D) : D × Prop :=
  match c, x with
  | false, .iface t' d => (d, t' = t ∧ concrete P t = true)
  | _, _ => (.any, False)

theorem vta_sound {K : Kn} {t xt : TypeId} {c : Bool} {x : D} {u : Value} (hx : Rep K x u) (h : (vta P t c x).2) (w : World) :
    ∃ v, (Instr.typeAssert u xt t c).run P w = .ok v w ∧ Rep K (vta P t c x).1 v := by
  unfold vta at h ⊢
  split at h
  · obtain ⟨rfl, hc⟩ := h
    cases hx with
    | iface hd =>
      refine ⟨_, ?_, hd⟩
      unfold concrete at hc
      split at hc
      · cases hc
      · rename_i d hne hu
        cases d <;> first
          | (simp [Instr.typeAssert, run_underlying hu]; done)
          | exact (hne _ rfl).elim
      · cases hc
  · exact h.elim

def vnil (x : D) : D × Prop :=
  match x with
  | .pb b o => (.pb b o, True)
  | .pf cs => (.pf cs, True)
  | .clo (.func f) x y => (.clo (.func f) x y, True)
  | .clo (.yield l) x y => (.clo (.yield l) x y, True)
  | _ => (.any, False)

def vext (x : D) (i : Nat) : D × Prop :=
  match x with
  | .tup ds => (ds.getD i .any, i < ds.length)
  | _ => (.any, False)

theorem vext_sound {x : D} {i : Nat} {u : Value} (hx : Rep K x u) (hc : (vext x i).2) (w : World) :
    ∃ v, (Instr.extract u i).run P w = .ok v w ∧ Rep K (vext x i).1 v := by
  cases hx with
  | tup h =>
    have hc' : i < _ := hc
    obtain ⟨v, h1, h2⟩ := h.get i _ (List.getElem?_eq_getElem hc')
    exact ⟨v, by simp [Instr.extract, h1], by simpa [vext, hc'] using h2⟩
  | _ => exact False.elim hc

def vbuiltin (P : Program) (b : Builtin) (ts : Array TypeId) (ds : List D) : D × Prop :=
  match b, ds with
  | .len, [x] => vlen P ts[0]? x
  | .cap, [x] => vcap P ts[0]? x
  | .min, ds => vmm true ds
  | .max, ds => vmm false ds
  | _, _ => (.any, False)

theorem vbuiltin_sound {b : Builtin} {ts : Array TypeId} {ty : TypeId} {cs : Array Bool} {ds : List D} {us : List Value} (h : RepL K ds us) (hc : (vbuiltin P b ts ds).2) (w : World) :
    ∃ v, (builtin b ts ty cs us.toArray).run P w = .ok (.value v) w ∧ Rep K (vbuiltin P b ts ds).1 v := by
  unfold vbuiltin at hc ⊢
  split at hc
  · obtain ⟨u, rfl, hu⟩ := h.one
    obtain ⟨v, h1, h2⟩ := vlen_sound (ty := ty) hu hc w
    exact ⟨v, by simp [builtin, h1], h2⟩
  · obtain ⟨u, rfl, hu⟩ := h.one
    obtain ⟨v, h1, h2⟩ := vcap_sound (ty := ty) hu hc w
    exact ⟨v, by simp [builtin, h1], h2⟩
  · obtain ⟨v, h1, h2⟩ := vmm_sound (P := P) (ts := ts) (ty := ty) (least := true) h hc w
    simp only [if_true] at h1
    exact ⟨v, by simp [builtin, h1], h2⟩
  · obtain ⟨v, h1, h2⟩ := vmm_sound (P := P) (ts := ts) (ty := ty) (least := false) h hc w
    simp only [Bool.false_eq_true, if_false] at h1
    exact ⟨v, by simp [builtin, h1], h2⟩
  · exact hc.elim

def St.hasAll (G : Heap) (s : St) (xs : List Operand) : Prop := ∀ x ∈ xs, s.has G x

def pv (P : Program) (G : Heap) (s : St) (o : Oper) : D × Prop :=
  match o.op with
  | .move x | .assign x => (s.raw G x, True)
  | .pick c x y => ((vpick (s.ev G c) (s.raw G x) (s.raw G y)).1, s.has G c ∧ (vpick (s.ev G c) (s.raw G x) (s.raw G y)).2)
  | .load t x => ((vloadAt P s.β t (s.ev G x)).1, s.has G x ∧ (vloadAt P s.β t (s.ev G x)).2)
  | .nilCheck x => ((vnil (s.ev G x)).1, s.has G x ∧ (vnil (s.ev G x)).2)
  | .binOp op t x y _ => ((vbin P op t (litNil x || litNil y) (s.ev G x) (s.ev G y)).1, s.has G x ∧ s.has G y ∧ (vbin P op t (litNil x || litNil y) (s.ev G x) (s.ev G y)).2)
  | .unOp op _ x => ((vun op (s.ev G x)).1, s.has G x ∧ (vun op (s.ev G x)).2)
  | .convert src dst x => ((vconv P src dst (s.ev G x)).1, s.has G x ∧ (vconv P src dst (s.ev G x)).2)
  | .makeInterface t x => (.iface t (s.ev G x), s.has G x ∧ concrete P t = true)
  | .typeAssert x _ t c => ((vta P t c (s.ev G x)).1, s.has G x ∧ (vta P t c (s.ev G x)).2)
  | .makeFunc fn first captured => (.clo fn (first.toList.map (s.raw G)) (captured.toList.map (s.raw G)), True)
  | .slice t x lo hi mx => ((vslice P t (s.ev G x) (lo.map (s.ev G)) (hi.map (s.ev G)) (mx.map (s.ev G))).1, s.has G x ∧ s.hasAll G (lo.toList ++ hi.toList ++ mx.toList) ∧ (vslice P t (s.ev G x) (lo.map (s.ev G)) (hi.map (s.ev G)) (mx.map (s.ev G))).2)
  | .fieldAddr t x f => ((vfaddr P t f (s.ev G x)).1, s.has G x ∧ (vfaddr P t f (s.ev G x)).2)
  | .field t x f => ((vfield P t f (s.ev G x)).1, s.has G x ∧ (vfield P t f (s.ev G x)).2)
  | .indexAddr t x i => ((viaddr P t (s.ev G x) (s.ev G i)).1, s.has G x ∧ s.has G i ∧ (viaddr P t (s.ev G x) (s.ev G i)).2)
  | .index t x i => ((vindex P t (s.ev G x) (s.ev G i)).1, s.has G x ∧ s.has G i ∧ (vindex P t (s.ev G x) (s.ev G i)).2)
  | .extract x i => ((vext (s.ev G x) i).1, s.has G x ∧ (vext (s.ev G x) i).2)
  | .build t parts => ((vbuild P t (parts.toList.map fun p => (p.1, s.ev G p.2))).1, s.hasAll G (parts.toList.map (·.2)) ∧ (vbuild P t (parts.toList.map fun p => (p.1, s.ev G p.2))).2)
  | .call c => match c.callee with
    | .builtin b => ((vbuiltin P b c.argTypes (c.args.toList.map (s.ev G))).1, s.hasAll G c.args.toList ∧ (vbuiltin P b c.argTypes (c.args.toList.map (s.ev G))).2)
    | _ => (.any, False)
  | _ => (.any, False)

theorem SR.evs (h : SR G n B K s a w) : ∀ xs : List Operand, s.hasAll G xs → RepL K (xs.map (s.ev G)) (xs.map a.eval)
  | [], _ => .nil
  | x :: xs, hx => .cons (h.ev x (hx x (by simp))) (h.evs xs fun y hy => hx y (by simp [hy]))

theorem SR.raws (h : SR G n B K s a w) : ∀ xs : List Operand, RepL K (xs.map (s.raw G)) (xs.map a.eval)
  | [] => .nil
  | x :: xs => .cons (h.raw x) (h.raws xs)

theorem SR.argsT (h : SR G n B K s a w) : ∀ xs : List Operand, RepL K (xs.map (s.arg G)) (xs.map a.eval)
  | [] => .nil
  | x :: xs => .cons (h.raw x).stripT (h.argsT xs)

theorem SR.opt (h : SR G n B K s a w) (x : Option Operand) (hx : ∀ y, x = some y → s.has G y) : RepO K (x.map (s.ev G)) (x.map a.eval) := by
  cases x with
  | none => exact .inl ⟨rfl, rfl⟩
  | some y => exact .inr ⟨_, _, rfl, rfl, h.ev y (hx y rfl)⟩

theorem SR.parts (h : SR G n B K s a w) : ∀ ps : List (Nat × Operand), (∀ p ∈ ps, s.has G p.2) → RepP K (ps.map fun p => (p.1, s.ev G p.2)) (ps.map fun p => (p.1, a.eval p.2))
  | [], _ => .nil
  | p :: ps, hp => .cons (h.ev p.2 (hp p (by simp))) (h.parts ps fun q hq => hp q (by simp [hq]))

theorem map_arr {α β : Type} (f : α → β) (xs : Array α) : (xs.toList.map f).toArray = xs.map f := by
  apply Array.ext'
  simp

theorem run_v (x : Sem Value) {v : Value} {w' : World} (h : x.run P w = .ok v w') : (do pure (Next.value (← x)) : Sem Next).run P w = .ok (.value v) w' := by
  simp [h]

theorem pv_sound (h : SR G n B K s a w) {o : Oper} (hc : (pv P G s o).2) :
    ∃ v, (execOp a.eval o).run P w = .ok (.value v) w ∧ Rep K (pv P G s o).1 v := by
  obtain ⟨dst, op, ty, pos, after, guard⟩ := o
  cases op with
  | move x => exact ⟨_, rfl, h.raw x⟩
  | assign x => exact ⟨_, rfl, h.raw x⟩
  | pick c x y =>
    obtain ⟨h1, h2⟩ := hc
    obtain ⟨v, h3, h4⟩ := vpick_sound (P := P) (h.ev c h1) (h.raw x) (h.raw y) h2 w
    refine ⟨v, ?_, h4⟩
    simp only [execOp]
    simp only [Sem.run_bind] at h3 ⊢
    cases hb : (asBool (a.eval c)).run P w with
    | ok t w' => simp [hb] at h3 ⊢; exact h3
    | halt e w' => simp [hb] at h3
  | load t x =>
    obtain ⟨h1, h2⟩ := hc
    obtain ⟨v, h3, h4⟩ := vloadAt_sound (P := P) h.rel (h.ev x h1) h2
    exact ⟨v, run_v _ h3, h4⟩
  | nilCheck x =>
    obtain ⟨h1, h2⟩ := hc
    have hx := h.ev x h1
    generalize hd : s.ev G x = d at hx
    have h2' : (vnil d).2 := by rw [← hd]; exact h2
    have hgoal : Rep K (vnil d).1 (a.eval x) → Rep K (pv P G s ⟨dst, .nilCheck x, ty, pos, after, guard⟩).1 (a.eval x) := fun hr => by
      show Rep K (vnil (s.ev G x)).1 (a.eval x)
      rw [hd]; exact hr
    unfold vnil at h2' hgoal
    split at h2'
    · refine ⟨a.eval x, ?_, hgoal hx⟩
      cases hv : a.eval x <;> rw [hv] at hx <;> cases hx
      simp [execOp, hv]
    · refine ⟨a.eval x, ?_, hgoal hx⟩
      cases hv : a.eval x <;> rw [hv] at hx <;> cases hx
      simp [execOp, hv]
    · refine ⟨a.eval x, ?_, hgoal hx⟩
      cases hv : a.eval x <;> rw [hv] at hx <;> cases hx
      simp [execOp, hv]
    · refine ⟨a.eval x, ?_, hgoal hx⟩
      cases hv : a.eval x <;> rw [hv] at hx <;> cases hx
      simp [execOp, hv]
    · exact h2'.elim
  | binOp op t x y ty =>
    obtain ⟨h1, h2, h3⟩ := hc
    obtain ⟨v, h4, h5⟩ := vbin_sound (P := P) (op := op) (t := t) (xo := x) (yo := y) (h.ev x h1) (h.ev y h2) h3 w
    exact ⟨v, run_v _ h4, h5⟩
  | unOp op t x =>
    obtain ⟨h1, h2⟩ := hc
    obtain ⟨v, h3, h4⟩ := vun_sound (P := P) (h.ev x h1) h2 w
    exact ⟨v, run_v _ h3, h4⟩
  | convert src dst x =>
    obtain ⟨h1, h2⟩ := hc
    obtain ⟨v, h3, h4⟩ := vconv_sound (P := P) h.rel (h.ev x h1) h2
    exact ⟨v, run_v _ h3, h4⟩
  | makeInterface t x =>
    obtain ⟨h1, h2⟩ := hc
    exact ⟨_, run_v _ (vmake_sound h2 _ w), .iface (h.ev x h1)⟩
  | typeAssert x xt t c =>
    obtain ⟨h1, h2⟩ := hc
    obtain ⟨v, h3, h4⟩ := vta_sound (P := P) (xt := xt) (h.ev x h1) h2 w
    exact ⟨v, run_v _ h3, h4⟩
  | makeFunc fn first captured =>
    refine ⟨_, rfl, ?_⟩
    have := Rep.clo (fn := fn) (h.raws first.toList) (h.raws captured.toList)
    rw [map_arr, map_arr] at this
    exact this
  | slice t x lo hi mx =>
    obtain ⟨h1, h2, h3⟩ := hc
    obtain ⟨v, h4, h5⟩ := vslice_sound (P := P) (h.ev x h1) (h.opt lo fun y hy => h2 y (by simp [hy])) (h.opt hi fun y hy => h2 y (by simp [hy])) (h.opt mx fun y hy => h2 y (by simp [hy])) h3 w
    exact ⟨v, run_v _ h4, h5⟩
  | fieldAddr t x f =>
    obtain ⟨h1, h2⟩ := hc
    obtain ⟨v, h3, h4⟩ := vfaddr_sound (P := P) (h.ev x h1) h2 w
    exact ⟨v, run_v _ h3, h4⟩
  | field t x f =>
    obtain ⟨h1, h2⟩ := hc
    obtain ⟨v, h3, h4⟩ := vfield_sound (P := P) (h.ev x h1) h2 w
    exact ⟨v, run_v _ h3, h4⟩
  | indexAddr t x i =>
    obtain ⟨h1, h2, h3⟩ := hc
    obtain ⟨v, h4, h5⟩ := viaddr_sound (P := P) (h.ev x h1) (h.ev i h2) h3 w
    exact ⟨v, run_v _ h4, h5⟩
  | index t x i =>
    obtain ⟨h1, h2, h3⟩ := hc
    obtain ⟨v, h4, h5⟩ := vindex_sound (P := P) (h.ev x h1) (h.ev i h2) h3 w
    exact ⟨v, run_v _ h4, h5⟩
  | extract x i =>
    obtain ⟨h1, h2⟩ := hc
    obtain ⟨v, h3, h4⟩ := vext_sound (P := P) (h.ev x h1) h2 w
    exact ⟨v, run_v _ h3, h4⟩
  | build t parts =>
    obtain ⟨h1, h2⟩ := hc
    obtain ⟨v, h3, h4⟩ := vbuild_sound (P := P) (us := parts.map fun (i, x) => (i, a.eval x)) (by simpa using h.parts parts.toList fun p hp => h1 p.2 (List.mem_map.2 ⟨p, hp, rfl⟩)) h2 w
    exact ⟨v, run_v _ h3, h4⟩
  | call c =>
    obtain ⟨callee, args, argTypes⟩ := c
    cases callee with
    | builtin b =>
      obtain ⟨h1, h2⟩ := hc
      obtain ⟨v, h3, h4⟩ := vbuiltin_sound (P := P) (ty := ty) (cs := args.map fun | .const _ => true | _ => false) (h.evs args.toList h1) h2 w
      refine ⟨v, ?_, h4⟩
      simp only [execOp, resolve, Sem.run_bind, Sem.run_pure, Result.andThen_ok, invoke]
      rw [map_arr] at h3
      exact h3
    | _ => exact False.elim hc
  | _ => exact False.elim hc

end Go.Proofs.YtpblgfgcoamgmaaGreatV
namespace Go.Proofs.YtpblgfgcoamgmaaGreatV
open Go

inductive Out where
  | ret (d : D)
  | pan (d : D)

def ORel (K : Kn) : Out → Ending → Prop
  | .ret d, .returned v => Rep K d v
  | .pan d, .panicked chain => ∃ v, chain = [{ v, recovered := false }] ∧ Rep K d v
  | _, _ => False

def Back (G : Heap) (Φ : Out → Heap → List Nat → Prop) (K : Kn) (β : Heap) (ω : List Nat) (w : World) (e : Ending) (w' : World) : Prop :=
  ∃ K' o β' ω', ORel K' o e ∧ Φ o β' ω' ∧ Rel G K' β' ω' w' ∧ Evo K β ω w K' β' ω' w'

def Upon (P : Program) (f : FuncId) (args : Array Value) (w : World) (R : Ending → World → Prop) : Prop :=
  ((callFunc f args).run P w = .ok (.enter f args) w ∧ Calls P f args w R) ∨ (∃ v w1, (callFunc f args).run P w = .ok (.value v) w1 ∧ R (.returned v) w1)

def VC (P : Program) (G : Heap) (f : FuncId) (args : List D) (β : Heap) (ω : List Nat) (Φ : Out → Heap → List Nat → Prop) : Prop :=
  ∀ K w vargs, Rel G K β ω w → RepL K args vargs → Upon P f vargs.toArray w (Back G Φ K β ω w)

def VY (P : Program) (G : Heap) (l : Nat) (args : List D) (β : Heap) (ω : List Nat) (Φ : Out → Heap → List Nat → Prop) : Prop :=
  ∀ K w vargs, Rel G K β ω w → RepL K args vargs → ∃ f tmps assign body, (Instr.yield l vargs.toArray).run P w = .ok (.round l f tmps assign body) w ∧
    RoundIn Fence.wide 0 P l f tmps assign body w (Back G Φ K β ω w)

def VCall (P : Program) (G : Heap) (d : D) (args : List D) (β : Heap) (ω : List Nat) (Φ : Out → Heap → List Nat → Prop) : Prop :=
  match d with
  | .clo (.func f) first captured => VC P G f (first ++ args ++ captured) β ω Φ
  | .clo (.yield l) first captured => VY P G l (first ++ args) β ω Φ
  | _ => False

variable {P : Program} {G : Heap} {n B : Nat} {K : Kn} {s : St} {a : Act} {w : World}

theorem Back.mono {Φ Ψ : Out → Heap → List Nat → Prop} (h : ∀ o β ω, Φ o β ω → Ψ o β ω) {β : Heap} {ω : List Nat} {e : Ending} {w' : World} (hb : Back G Φ K β ω w e w') : Back G Ψ K β ω w e w' :=
  let ⟨K', o, β', ω', h1, h2, h3⟩ := hb
  ⟨K', o, β', ω', h1, h _ _ _ h2, h3⟩

theorem Upon.mono {f : FuncId} {args : Array Value} {R R' : Ending → World → Prop} (h : ∀ e w', R e w' → R' e w') (hu : Upon P f args w R) : Upon P f args w R' := by
  rcases hu with ⟨h1, h2⟩ | ⟨v, w1, h1, h2⟩
  · exact .inl ⟨h1, h2.mono h⟩
  · exact .inr ⟨v, w1, h1, h _ _ h2⟩

theorem VC.mono {f : FuncId} {args : List D} {β : Heap} {ω : List Nat} {Φ Ψ : Out → Heap → List Nat → Prop} (hc : VC P G f args β ω Φ) (h : ∀ o β ω, Φ o β ω → Ψ o β ω) : VC P G f args β ω Ψ :=
  fun K w vargs hr ha => (hc K w vargs hr ha).mono fun e w' => Back.mono h

theorem VY.mono {l : Nat} {args : List D} {β : Heap} {ω : List Nat} {Φ Ψ : Out → Heap → List Nat → Prop} (hc : VY P G l args β ω Φ) (h : ∀ o β ω, Φ o β ω → Ψ o β ω) : VY P G l args β ω Ψ :=
  fun K w vargs hr ha => let ⟨f, t, as, b, h1, h2⟩ := hc K w vargs hr ha; ⟨f, t, as, b, h1, h2.mono fun e w' => Back.mono h⟩

theorem VCall.mono {d : D} {args : List D} {β : Heap} {ω : List Nat} {Φ Ψ : Out → Heap → List Nat → Prop} (hc : VCall P G d args β ω Φ) (h : ∀ o β ω, Φ o β ω → Ψ o β ω) : VCall P G d args β ω Ψ := by
  unfold VCall at hc ⊢
  split at hc
  · exact VC.mono hc h
  · exact VY.mono hc h
  · exact hc.elim

def W (ro : Option Nat) : Fence := { Fence.wide with round := ro }

theorem callsIn_W {ro : Option Nat} {k : Nat} {f : FuncId} {args : Array Value} {R : Ending → World → Prop} (h : Calls P f args w R) : CallsIn (W ro) k P f args w R := by
  have := callsIn_wide (n := k).2 h
  exact this

theorem about_W {ro : Option Nat} {o : Oper} : ∀ f, o.about P w a.eval = some f → (W ro).fn f := fun _ _ => trivial

section
variable {ro : Option Nat} {o : Oper} {next : Act → World → Prop} {Q : Exit → Act → World → Prop}

theorem wpIn_value (hd : ∀ c, o.op ≠ .defer c) {v : Value} {w' : World} (hr : (execOp a.eval o).run P w = .ok (.value v) w') (hn : next (a.put o.dst v) w') : o.wpIn (W ro) 0 P a w next Q := by
  refine ⟨about_W, ?_⟩
  rw [Oper.semAt_eq _ _ _ hd, hr]
  exact hn

theorem wpIn_none (hd : ∀ c, o.op ≠ .defer c) {w' : World} (hr : (execOp a.eval o).run P w = .ok .skip w') (hn : next (a.put o.dst undef) w') : o.wpIn (W ro) 0 P a w next Q := by
  refine ⟨about_W, ?_⟩
  rw [Oper.semAt_eq _ _ _ hd, hr]
  exact hn

theorem wpIn_panic (hd : ∀ c, o.op ≠ .defer c) {v : Value} {w' : World} (hr : (execOp a.eval o).run P w = .halt (.panic v) w') (hn : Q (.panic [{ v, recovered := false }]) a w') : o.wpIn (W ro) 0 P a w next Q := by
  refine ⟨about_W, ?_⟩
  rw [Oper.semAt_eq _ _ _ hd, hr]
  exact hn

theorem wpIn_enter (hd : ∀ c, o.op ≠ .defer c) {f : FuncId} {args : Array Value} {w' : World} {R : Ending → World → Prop} (hr : (execOp a.eval o).run P w = .ok (.enter f args) w') (hc : Calls P f args w' R)
    (hv : ∀ v w'', R (.returned v) w'' → next (a.put o.dst v) w'') (hp : ∀ ch w'', R (.panicked ch) w'' → Q (.panic ch) a w'') (ho : ∀ w'', ¬ R .outgrown w'') : o.wpIn (W ro) 0 P a w next Q := by
  refine ⟨about_W, ?_⟩
  rw [Oper.semAt_eq _ _ _ hd, hr]
  refine ⟨fun h => ?_, ?_⟩
  · simp [W, Fence.wide] at h
  · refine callsIn_W (hc.mono fun e w'' hR => ?_)
    cases e with
    | returned v => exact hv v w'' hR
    | panicked ch => exact hp ch w'' hR
    | outgrown => exact absurd hR (ho w'')

theorem wpIn_round (hd : ∀ c, o.op ≠ .defer c) {l : Nat} {f : FuncId} {tmps : Array Value} {as body : Code} {w' : World} {R : Ending → World → Prop} (hr : (execOp a.eval o).run P w = .ok (.round l f tmps as body) w') (hc : RoundIn Fence.wide 0 P l f tmps as body w' R)
    (hv : ∀ v w'', R (.returned v) w'' → next (a.put o.dst v) w'') (hp : ∀ ch w'', R (.panicked ch) w'' → Q (.panic ch) a w'') (ho : ∀ w'', ¬ R .outgrown w'') : o.wpIn (W ro) 0 P a w next Q := by
  refine ⟨about_W, ?_⟩
  rw [Oper.semAt_eq _ _ _ hd, hr]
  refine ⟨fun h => ?_, ?_⟩
  · simp [W, Fence.wide] at h
  · have : RoundIn (W ro) 0 P l f tmps as body w' R := hc
    refine this.mono fun e w'' hR => ?_
    cases e with
    | returned v => exact hv v w'' hR
    | panicked ch => exact hp ch w'' hR
    | outgrown => exact absurd hR (ho w'')
end

def D.whole : D → Bool
  | .any | .tup _ | .when _ _ | .lp _ _ => false
  | _ => true

theorem Rep.cells_whole {d : D} {v : Value} (h : Rep K d v) (hd : d.whole = true) : RepL K d.cells v.cells.toList :=
  h.cells (fun e => by subst e; simp [D.whole] at hd) (fun ds e => by subst e; simp [D.whole] at hd) (fun c x e => by subst e; simp [D.whole] at hd)

theorem run_alloc {t : TypeId} {cs : List D} (h : zer P t = some cs) (w : World) : ∃ vs : List Value, (Instr.alloc t true (.tuple #[])).run P w = .ok (.pointer (some ⟨w.heap.size, 0, none⟩)) (w.alloc (.cells vs.toArray t)) ∧ ∀ K, RepL K cs vs := by
  unfold zer at h
  obtain ⟨z, hz, rfl⟩ := Option.map_eq_some_iff.1 h
  obtain ⟨i, hi, hz⟩ := Option.bind_eq_some_iff.1 hz
  refine ⟨z.cells.toList, ?_, fun K => rep_const1s K _⟩
  simp [Instr.alloc, zeroValue, typeInfo, hi, hz, newVar, newRow]

theorem run_box {t : TypeId} (u : Value) (w : World) : (Instr.box t u).run P w = .ok (.pointer (some ⟨w.heap.size, 0, none⟩)) (w.alloc (.cells u.cells t)) := by
  simp [Instr.box, newVar, newRow]

theorem setRow_facts {b : Nat} {vs us : Array Value} {e : TypeId} {fr : Nat × Nat} (h : w.heap[b]? = some (.cells vs e fr)) :
    (∀ k, k ≠ b → (w.setRow b us).heap[k]? = w.heap[k]?) ∧ (w.setRow b us).heap[b]? = some (.cells us e fr) ∧ (w.setRow b us).heap.size = w.heap.size ∧ (w.setRow b us).os = w.os ∧ (w.setRow b us).tape = w.tape ∧ (w.setRow b us).output = w.output := by
  refine ⟨fun k hk => ?_, setRow_heap w b vs us e fr h, by simp [World.setRow], rfl, rfl, rfl⟩
  simp only [World.setRow, Array.getElem?_modify]
  rw [if_neg (fun e => hk e.symm)]

theorem run_storeVar {t : TypeId} {d : TypeDesc} (hu : P.underlying t = some d) {b o : Nat} {vs : Array Value} {e : TypeId} {v : Value} (hb : w.heap[b]? = some (.cells vs e (0, 0))) (hs : v.cells.size = P.cellsOf t) (ho : o + v.cells.size ≤ vs.size) (h1 : ∀ u ∈ v.cells.toList, u.oneCell' = true) :
    (storeVar t ⟨b, o, none⟩ v).run P w = .ok () (w.setRow b (splice vs.toList o v.cells.toList).toArray) := by
  have := run_storeCells_at P b o e v.cells.toList 0 vs w hb (by simpa using ho) h1
  simp only [Nat.add_zero] at this
  simp [storeVar, run_size hu, hs, this, splice]

end Go.Proofs.YtpblgfgcoamgmaaGreatV
namespace Go.Proofs.YtpblgfgcoamgmaaGreatV
open Go

variable {P : Program} {G : Heap} {n B : Nat} {K : Kn} {s : St} {a : Act} {w : World}

def flat (xs : List D) : List D := xs.flatMap D.cells

theorem flat_length {m : Nat} : ∀ {xs : List D}, (∀ x ∈ xs, x.cells.length = m) → (flat xs).length = xs.length * m
  | [], _ => by simp [flat]
  | x :: xs, h => by
    have h1 := h x (by simp)
    have h2 := flat_length (xs := xs) fun y hy => h y (by simp [hy])
    simp only [flat, List.flatMap_cons, List.length_append, List.length_cons] at h2 ⊢
    rw [h1, h2, Nat.add_mul]; omega

theorem flat_get {m : Nat} : ∀ {xs : List D}, (∀ x ∈ xs, x.cells.length = m) → ∀ {i j : Nat} {x y : D}, xs[i]? = some x → x.cells[j]? = some y → (flat xs)[i * m + j]? = some y
  | [], _, i, j, x, y, h, _ => by simp at h
  | z :: xs, h, 0, j, x, y, hx, hy => by
    simp at hx
    subst hx
    simp only [flat, List.flatMap_cons, Nat.zero_mul, Nat.zero_add]
    rw [List.getElem?_append_left (List.getElem?_eq_some_iff.1 hy).1]
    exact hy
  | z :: xs, h, i + 1, j, x, y, hx, hy => by
    have h1 := h z (by simp)
    simp only [flat, List.flatMap_cons]
    rw [List.getElem?_append_right (by rw [h1, Nat.add_mul]; omega), h1]
    have := flat_get (xs := xs) (fun w hw => h w (by simp [hw])) (i := i) (by simpa using hx) hy
    rw [Nat.add_mul, Nat.one_mul, show i * m + m + j - m = i * m + j by omega]
    exact this

theorem flat_append (xs ys : List D) : flat (xs ++ ys) = flat xs ++ flat ys := by simp [flat]

variable {β : Heap} {ω : List Nat}

theorem laid_flat {ad : Option Addr} {sz m : Nat} {xs : List D} (h : Laid K ad sz xs) (hm : ∀ x ∈ xs, x.cells.length = m) : ∀ j y, (flat xs)[j]? = some y → ∃ b, ad = some b ∧ b.spot = none ∧ K.cells b.block (b.off + j) y := by
  intro j y hy
  have hj := (List.getElem?_eq_some_iff.1 hy).1
  rw [flat_length hm] at hj
  have hm0 : 0 < m := by
    rcases Nat.eq_zero_or_pos m with h0 | h0
    · subst h0; simp at hj
    · exact h0
  have hi : j / m < xs.length := Nat.div_lt_of_lt_mul (by rw [Nat.mul_comm]; exact hj)
  have hr : j % m < m := Nat.mod_lt _ hm0
  have hx := List.getElem?_eq_getElem hi
  have hxm := hm _ (List.getElem_mem hi)
  have hc := List.getElem?_eq_getElem (show j % m < (xs[j / m]).cells.length by omega)
  have hf := flat_get hm hx hc
  have hjj : j / m * m + j % m = j := by rw [Nat.mul_comm]; exact Nat.div_add_mod j m
  rw [hjj, hy] at hf
  cases hf
  obtain ⟨b, h1, h2, h3, h4⟩ := h _ _ hx
  have h5 := h4 _ _ hc
  rw [h3.symm.trans hxm, Nat.add_assoc, hjj] at h5
  exact ⟨b, h1, h2, h5⟩

theorem laid_values (hR : Rel G K β ω w) {ad : Option Addr} {sz m : Nat} {xs : List D} (h : Laid K ad sz xs) (hm : ∀ x ∈ xs, x.cells.length = m) :
    ∃ vs : List Value, RepL K (flat xs) vs ∧ vs.length = xs.length * m ∧ ∀ b, ad = some b → ∀ j v, vs[j]? = some v → w.cell? (b.add j) = some v := by
  have hl := flat_length hm
  have hf := laid_flat h hm
  refine ⟨(List.range (xs.length * m)).map fun j => match ad with | some b => (w.cell? (b.add j)).getD undef | none => undef, RepL.of_get (by simp [hl]) fun i d v hd hv => ?_, by simp, fun b hb j v hv => ?_⟩
  · obtain ⟨b, rfl, hsp, hk⟩ := hf i d hd
    obtain ⟨u, hu, hr⟩ := hR.holds _ _ _ hk
    have hi := (List.getElem?_eq_some_iff.1 hd).1
    rw [hl] at hi
    simp [hi] at hv
    rw [add_none hsp, hu] at hv
    simp at hv
    exact hv ▸ hr
  · subst hb
    have hj : j < xs.length * m := by
      have := (List.getElem?_eq_some_iff.1 hv).1
      simpa using this
    have hd := List.getElem?_eq_getElem (show j < (flat xs).length by omega)
    obtain ⟨b', hb', hsp, hk⟩ := hf j _ hd
    cases hb'
    obtain ⟨u, hu, hr⟩ := hR.holds _ _ _ hk
    simp [hj] at hv
    rw [add_none hsp, hu] at hv ⊢
    simpa using hv

theorem er_cells {d : D} (h : d.solid = true) : d.er.cells = d.cells.map D.er1 ∧ d.er.cells.length = d.cells.length := by
  cases d <;> simp_all [D.solid, D.one, D.er, D.er1, D.cells]

theorem flat_er : ∀ {xs : List D}, (∀ x ∈ xs, x.solid = true) → flat (xs.map D.er) = (flat xs).map D.er1
  | [], _ => rfl
  | x :: xs, h => by
    have h1 := (er_cells (h x (by simp))).1
    have h2 := flat_er (xs := xs) fun y hy => h y (by simp [hy])
    simp only [flat, List.map_cons, List.flatMap_cons, List.map_append] at h2 ⊢
    rw [h1, h2]

theorem solid_cells {x : D} (h : x.solid = true) : ∀ y ∈ x.cells, y.one = true := by
  intro y hy
  cases x <;> simp_all [D.solid, D.one, D.cells]

theorem flat_one {K : Kn} : ∀ {xs : List D} {vs : List Value}, (∀ x ∈ xs, x.solid = true) → RepL K (flat xs) vs → ∀ u ∈ vs, u.oneCell' = true := by
  intro xs vs hs hr u hu
  obtain ⟨i, hi, rfl⟩ := List.getElem_of_mem hu
  have hl := hr.length
  have hd := List.getElem?_eq_getElem (show i < (flat xs).length by omega)
  obtain ⟨v, hv, hrv⟩ := hr.get i _ hd
  rw [List.getElem?_eq_getElem hi] at hv
  cases hv
  refine hrv.oneCell ?_
  have hmem := List.mem_of_getElem? hd
  generalize (flat xs)[i] = y at hmem
  simp only [flat, List.mem_flatMap] at hmem
  obtain ⟨x, hx, hm⟩ := hmem
  exact solid_cells (hs x hx) y hm

def elt (P : Program) (t : TypeId) : Option (Nat × Nat) :=
  match P.underlying t with
  | some (.slice e) => match P.info? e with
    | some i => match i.zero with
      | some z => if z.cells.size = i.size then some (i.size, i.bytes) else none
      | none => none
    | none => none
  | _ => none

theorem elt_some {t : TypeId} {m y : Nat} (h : elt P t = some (m, y)) : ∃ e i z, P.underlying t = some (.slice e) ∧ P.info? e = some i ∧ i.zero = some z ∧ z.cells.size = m ∧ i.size = m ∧ i.bytes = y := by
  unfold elt at h
  split at h
  · rename_i e hu
    split at h
    · rename_i i hi
      split at h
      · rename_i z hz
        split at h
        · rename_i hs
          cases h
          exact ⟨e, i, z, hu, hi, hz, hs, rfl, rfl⟩
        · cases h
      · cases h
    · cases h
  · cases h

def vsrc (P : Program) (m : Nat) (u : TypeId) (y : D) : List D × Prop :=
  match cutk P u, y with
  | some (0, _, _), .str s => (s.data.toList.map fun b => .int .u8 b.toNat, m = 1)
  | some (1, _, _), .sl _ ys => (ys.map D.er, ∀ d ∈ ys, d.cells.length = m ∧ d.solid = true)
  | _, _ => ([], False)

theorem vsrc_sound (hR : Rel G K β ω w) {m : Nat} {u : TypeId} {y : D} {v : Value} (hy : Rep K y v) (hc : (vsrc P m u y).2) :
    ∃ news, Src P m u v (vsrc P m u y).1.length news w ∧ RepL K (flat (vsrc P m u y).1) news ∧ (∀ d ∈ (vsrc P m u y).1, d.cells.length = m) ∧ (∀ k, k ≤ (vsrc P m u y).1.length → (Builtin.firstCells m k v).run P w = .ok (news.take (k * m)).toArray w) := by
  unfold vsrc at hc ⊢
  split at hc
  · rename_i s ht
    have hu := cutk0 ht
    have hm1 : m = 1 := hc
    subst hm1
    cases hy with
    | str _ hs =>
      have hlen : (s.data.toList.map fun b => D.int .u8 b.toNat).length = s.size := by rw [List.length_map, Array.length_toList]; rfl
      refine ⟨byteCells s, by rw [hlen]; exact Src.ofString w hu s, ?_, fun d hd => ?_, fun k hk => ?_⟩
      · have : flat (s.data.toList.map fun b => D.int .u8 b.toNat) = s.data.toList.map fun b => D.int .u8 b.toNat := by
          unfold flat
          generalize s.data.toList = l
          induction l with
          | nil => rfl
          | cons b l ih => simp only [List.map_cons, List.flatMap_cons, ih]; rfl
        rw [this]
        unfold byteCells
        exact RepL.of_get (by simp) fun i d v hd hv => by
          simp only [List.getElem?_map, Option.map_eq_some_iff] at hd hv
          obtain ⟨b, h1, rfl⟩ := hd
          obtain ⟨b', h2, rfl⟩ := hv
          rw [h1] at h2; cases h2
          exact .int _ _
      · simp only [List.mem_map] at hd
        obtain ⟨b, _, rfl⟩ := hd
        rfl
      · simp [Builtin.firstCells, byteCells]
        apply Array.ext'
        simp [List.extract_eq_take_drop, List.map_take]
  · rename_i tk ys ht
    obtain ⟨e, d, hu, hd, hm⟩ := cutk1 ht
    have hc' : ∀ d ∈ ys, d.cells.length = m ∧ d.solid = true := hc
    cases hy with
    | sl hn hcap hmax hl htok =>
      rename_i ad nn c sz
      obtain ⟨vs, h1, h2, h3⟩ := laid_values hR hl (fun x hx => (hc' x hx).1)
      have hone := flat_one (fun x hx => (hc' x hx).2) h1
      have her : RepL K (flat (ys.map D.er)) vs := by rw [flat_er fun x hx => (hc' x hx).2]; exact h1.map fun _ _ => Rep.er1
      refine ⟨vs, ?_, her, fun d hd => ?_, fun k hk => ?_⟩
      · rw [List.length_map, hn]
        cases ad with
        | none =>
          have hys : ys = [] := by
            cases ys with
            | nil => rfl
            | cons y ys => obtain ⟨_, h0, _⟩ := hl 0 y rfl; cases h0
          subst hys
          simp at hn
          subst hn
          simp at h2
          subst h2
          exact Src.ofNil w hu c
        | some b => exact Src.ofSlice w hu b nn c vs (by rw [h2, hn]) (h3 b rfl) hone
      · simp only [List.mem_map] at hd
        obtain ⟨x, hx, rfl⟩ := hd
        rw [(er_cells (hc' x hx).2).2]
        exact (hc' x hx).1
      · rw [List.length_map] at hk
        cases ad with
        | none =>
          have hys : ys = [] := by
            cases ys with
            | nil => rfl
            | cons y ys => obtain ⟨_, h0, _⟩ := hl 0 y rfl; cases h0
          subst hys
          simp at hk h2
          subst hk h2
          rw [List.take_nil]
          exact run_firstCells_none w m 0 nn c
        | some b =>
          have hle : k * m ≤ vs.length := by rw [h2]; exact Nat.mul_le_mul_right _ hk
          exact run_firstCells_some w m k b nn c (vs.take (k * m)) (by simp; omega) fun j v hj => by
            rw [List.getElem?_take] at hj
            split at hj
            · exact h3 b rfl j v hj
            · cases hj
  · exact hc.elim

def tokOk (m : Nat) (ω : List Nat) : Tk → Prop
  | .none => False
  | .full => True
  | .live t m' => t ∈ ω ∧ m' = m

def tokGone (ω : List Nat) : Tk → List Nat
  | .live t _ => ω.filter (· ≠ t)
  | _ => ω

theorem tokGone_sub {u : Nat} {tk : Tk} (h : u ∈ tokGone ω tk) : u ∈ ω := by
  unfold tokGone at h
  split at h
  · simp at h; exact h.1
  · exact h

theorem append_same (hR : Rel G K β ω w) {tk : Tk} {xs : List D} {ad : Option Addr} {c m t' : Nat} (hcap : xs.length ≤ c) (hmax : xs.length ≤ mostLen) (hl : Laid K ad m xs) (hnc : xs.length = c) (ht' : K.tok t' = none) (htw : t' ∉ ω) :
    ∃ K', Rel G K' β (t' :: tokGone ω tk) w ∧ Evo K β ω w K' β (t' :: tokGone ω tk) w ∧ Rep K' (.sl (.live t' m) xs) (.slice ad xs.length c) := by
  obtain ⟨h1, h2⟩ := hR.reserve ht' htw
  have hsub : ∀ u, u ∈ t' :: tokGone ω tk → u ∈ t' :: ω := fun u hu => by
    rcases List.mem_cons.1 hu with rfl | hu
    · simp
    · exact List.mem_cons_of_mem _ (tokGone_sub hu)
  refine ⟨K.reserve t', h1.less (fun _ _ h => h) hsub, h2.trans (Evo.less (fun _ _ h => h) hsub), .sl rfl hcap hmax (hl.mono h2.le) ⟨rfl, none, by simp [Kn.reserve], hnc⟩⟩

theorem run_append_zero {t u ty e : TypeId} {i : TypeInfo} (ht : P.underlying t = some (.slice e)) (hi : P.info? e = some i) {base : Option Addr} {len cap : Nat} {x : Value} (hs : Src P i.size u x 0 [] w) (hc : len ≤ cap) :
    (Builtin.append_ #[t, u] ty #[.slice base len cap, x]).run P w = .ok (.slice base len cap) w := by
  rcases hs.kind with ⟨e', hk⟩ | hk <;> cases base <;> simp [Builtin.append_, run_underlying ht, run_underlying hk, sizeOf, typeInfo, hi, hs.len, hc, hs.cells, storeCells]

theorem run_append_in {t u ty e : TypeId} {i : TypeInfo} (ht : P.underlying t = some (.slice e)) (hi : P.info? e = some i) {b off len cap k : Nat} {x : Value} {news : List Value} (hs : Src P i.size u x k news w) (hc : len + k ≤ cap)
    {vs : Array Value} {e' : TypeId} (hb : w.heap[b]? = some (.cells vs e' (0, 0))) (hf : off + len * i.size + news.length ≤ vs.size) :
    (Builtin.append_ #[t, u] ty #[.slice (some ⟨b, off, none⟩) len cap, x]).run P w = .ok (.slice (some ⟨b, off, none⟩) (len + k) cap) (w.setRow b (splice vs.toList (off + len * i.size) news).toArray) := by
  have hst := run_storeCells_at P b (off + len * i.size) e' news 0 vs w hb (by simpa using hf) hs.one
  simp only [Nat.add_zero] at hst
  rcases hs.kind with ⟨e', hk⟩ | hk <;> simp [Builtin.append_, run_underlying ht, run_underlying hk, sizeOf, typeInfo, hi, hs.len, hc, hs.cells, Addr.add_lit, hst, splice]

theorem Src.zero {m : Nat} {u : TypeId} {x : Value} {news : List Value} (hs : Src P m u x 0 news w) : news = [] := by
  have := hs.newsLen
  simp at this
  exact this

theorem vappend_core (hR : Rel G K β ω w) {t u ty : TypeId} {m y : Nat} (he : elt P t = some (m, y)) {tk : Tk} {xs ys : List D} {vx vy : Value} (hx : Rep K (.sl tk xs) vx) {news : List Value} (hs : Src P m u vy ys.length news w) (hnews : RepL K (flat ys) news) (hys : ∀ d ∈ ys, d.cells.length = m)
    (htok : tokOk m ω tk) (hxs : ∀ x ∈ xs, x.cells.length = m) (hlen : (xs.length + ys.length) * y ≤ 140737488355328) (hy0 : 0 < y) :
    ∃ t' v w' K', t' ∉ ω ∧ (Builtin.append_ #[t, u] ty #[vx, vy]).run P w = .ok v w' ∧ Rel G K' β (t' :: tokGone ω tk) w' ∧ Evo K β ω w K' β (t' :: tokGone ω tk) w' ∧ Rep K' (.sl (.live t' m) (xs ++ ys)) v := by
  obtain ⟨e, i, z, h1, h2, h3, h4, h5, h6⟩ := elt_some he
  obtain ⟨t', ht1, ht2⟩ := hR.fresh
  have hneed : xs.length + ys.length ≤ 140737488355328 := Nat.le_trans (Nat.le_mul_of_pos_right _ hy0) hlen
  have hmost : xs.length + ys.length ≤ mostLen := by unfold mostLen; omega
  have hall : ∀ d ∈ xs ++ ys, d.cells.length = m := fun d hd => by
    rcases List.mem_append.1 hd with h | h
    · exact hxs d h
    · exact hys d h
  cases hx with
  | sl hn hcap hmax hl htk =>
    rename_i ad nn c sz
    subst hn
    rw [← h5] at hs
    -- the stride
    have hlm : Laid K ad m xs := fun j x hj => by
      obtain ⟨b, a1, a2, a3, a4⟩ := hl j x hj
      have : sz = m := by rw [← a3, hxs x (List.mem_of_getElem? hj)]
      exact ⟨b, a1, a2, by rw [a3, this], by rw [← this]; exact a4⟩
    by_cases hroom : xs.length + ys.length ≤ c
    · by_cases hnc : xs.length = c
      · -- nothing is appended
        have hys0 : ys = [] := List.eq_nil_of_length_eq_zero (by omega)
        subst hys0
        obtain ⟨K', k1, k2, k3⟩ := append_same (tk := tk) hR hcap hmax hlm hnc ht1 ht2
        have hnil := Src.zero hs
        subst hnil
        refine ⟨t', _, w, K', ht2, run_append_zero (ty := ty) h1 h2 hs hcap, k1, k2, by simpa using k3⟩
      · -- there is room: a token's row
        cases tk with
        | none => exact htok.elim
        | full => exact absurd htk hnc
        | live t0 m0 =>
          obtain ⟨hw, rfl⟩ := htok
          obtain ⟨hszm, x, hx1, hx2⟩ := htk
          subst hszm
          cases x with
          | none => exact absurd hx2 hnc
          | some hd =>
            obtain ⟨b, rfl, hsp, rfl⟩ := hx2
            obtain ⟨blk, off, sp⟩ := b
            simp at hsp
            subst hsp
            obtain ⟨vs, e', b1, b2, b3⟩ := hR.append_room (k := ys.length) hw hx1 hnews (by rw [flat_length hys]) hroom ht1
            have hrun := run_append_in (ty := ty) h1 h2 hs hroom b1 (by rw [h5]; exact b2)
            rw [h5] at hrun
            obtain ⟨f1, f2, f3, f4, f5, f6⟩ := setRow_facts (us := (splice vs.toList (off + xs.length * sz) news).toArray) b1
            obtain ⟨r1, r2⟩ := b3 _ f1 f2 f3 f4 f5 f6
            refine ⟨t', _, _, _, ht2, hrun, r1, r2, .sl (by simp) hroom hmost (fun j x hj => ?_) ⟨rfl, some ⟨blk, off, xs.length + ys.length, c, sz⟩, by simp [Kn.more], ⟨_, rfl, rfl, rfl⟩⟩⟩
            refine ⟨_, rfl, rfl, hall x (List.mem_of_getElem? hj), fun q d hq => ?_⟩
            rw [List.getElem?_append] at hj
            split at hj
            · obtain ⟨b', q1, q2, q3, q4⟩ := hlm j x hj
              cases q1
              exact r2.le.cells _ _ _ (q4 q d hq)
            · rename_i hjx
              have hf := flat_get hys hj hq
              have hlt := (List.getElem?_eq_some_iff.1 hf).1
              have hmul : j * sz = xs.length * sz + (j - xs.length) * sz := by rw [← Nat.add_mul]; congr 1; omega
              simp only [Kn.more, true_and]
              rw [if_pos (by omega)]
              rw [← hf]
              congr 1
              omega
    · -- a new row
      obtain ⟨olds, o1, o2, o3⟩ := laid_values hR hlm hxs
      have hold : (Builtin.firstCells i.size xs.length (.slice ad xs.length c)).run P w.drew = .ok olds.toArray w.drew := by
        cases ad with
        | none =>
          have hx0 : xs = [] := by
            cases xs with
            | nil => rfl
            | cons x xs => obtain ⟨_, q, _⟩ := hl 0 x rfl; cases q
          subst hx0
          simp at o2
          subst o2
          exact run_firstCells_none w.drew i.size 0 0 c
        | some b => exact run_firstCells_some w.drew i.size xs.length b xs.length c olds (by rw [o2, h5]) (by simpa using o3 b rfl)
      have hfit := growslice_fits (need := xs.length + ys.length) (old := c) (bytes := i.bytes) (by omega) (by rw [h6]; exact hlen)
      have hrun := run_append_grow_src (P := P) w t u ty e i z h1 h2 h3 ad xs.length c olds hold vy ys.length news hs (by omega) (by omega) hfit
      have hge := grownCap_ge w (xs.length + ys.length) c e
      have hRd : Rel G K β ω w.drew := hR.same rfl
      have hnl : news.length = ys.length * m := by rw [hs.newsLen, h5]
      have hRep : RepL K (flat (xs ++ ys)) (olds ++ news) := by rw [flat_append]; exact o1.append hnews
      have hlen2 : (olds ++ news).length = (flat (xs ++ ys)).length := hRep.length.symm
      have harr : ((olds ++ news).toArray ++ Builtin.zeroCells z.cells (grownCap w (xs.length + ys.length) c e - (xs.length + ys.length))) = ((olds ++ news) ++ (Builtin.zeroCells z.cells (grownCap w (xs.length + ys.length) c e - (xs.length + ys.length))).toList).toArray := by
        apply Array.ext'
        simp
      rw [harr] at hrun
      obtain ⟨r1, r2⟩ := hRd.new_live (e := e) (vs := (olds ++ news) ++ (Builtin.zeroCells z.cells (grownCap w (xs.length + ys.length) c e - (xs.length + ys.length))).toList) (ds := flat (xs ++ ys)) (t := t') (n := xs.length + ys.length) (c := grownCap w (xs.length + ys.length) c e) (sz := m)
        (by rw [← hlen2, List.take_left]; exact hRep) (by rw [flat_length hall, List.length_append]) hge
        (by simp only [List.length_append, Array.length_toList, size_zeroCells, h4, o2, hnl]; rw [← Nat.add_mul, ← Nat.add_mul]; exact Nat.mul_le_mul_right _ (by omega)) ht1 ht2
      have hsub : ∀ q, q ∈ t' :: tokGone ω tk → q ∈ t' :: ω := fun q hq => by
        rcases List.mem_cons.1 hq with rfl | hq
        · simp
        · exact List.mem_cons_of_mem _ (tokGone_sub hq)
      refine ⟨t', _, _, _, ht2, hrun, r1.less (fun _ _ h => h) hsub, (Evo.drew.trans r2).trans (Evo.less (fun _ _ h => h) hsub), .sl (by simp) hge hmost (fun j x hj => ?_) ⟨rfl, some ⟨w.drew.heap.size, 0, xs.length + ys.length, grownCap w (xs.length + ys.length) c e, m⟩, by simp [Kn.row], ⟨_, rfl, rfl, rfl⟩⟩⟩
      refine ⟨_, rfl, rfl, hall x (List.mem_of_getElem? hj), fun q d hq => ?_⟩
      have hf := flat_get hall hj hq
      simpa [Kn.row] using hf

end Go.Proofs.YtpblgfgcoamgmaaGreatV
namespace Go.Proofs.YtpblgfgcoamgmaaGreatV
open Go

variable {P : Program} {G : Heap} {n B : Nat} {K : Kn} {s : St} {a : Act} {w : World} {β : Heap} {ω : List Nat}

def vlit (P : Program) (t : TypeId) (len : Nat) (parts : List (Nat × D)) : D × Prop :=
  match elt P t with
  | some (m, _) => (.sl .full ((parts.map (·.2)).map D.er), parts.map (·.1) = List.range len ∧ (∀ d ∈ parts.map (·.2), d.cells.length = m ∧ d.solid = true) ∧ len * m ≤ 16777216 ∧ 0 < m)
  | none => (.any, False)

theorem RepP.vals {K : Kn} : ∀ {ds : List (Nat × D)} {us : List (Nat × Value)}, RepP K ds us → RepL K (ds.map (·.2)) (us.map (·.2)) ∧ ds.map (·.1) = us.map (·.1)
  | _, _, .nil => ⟨.nil, rfl⟩
  | _, _, .cons h t => ⟨.cons h t.vals.1, by simp [t.vals.2]⟩

theorem zip_range : ∀ (us : List (Nat × Value)) (k : Nat), us.map (·.1) = List.range' k us.length → us = ((us.map (·.2)).zipIdx k).map fun x => (x.2, x.1)
  | [], _, _ => rfl
  | (i, u) :: us, k, h => by
    simp only [List.map_cons, List.length_cons, List.range'_succ, List.cons.injEq] at h
    obtain ⟨h1, h2⟩ := h
    subst h1
    simp only [List.map_cons, List.zipIdx_cons, List.map_cons]
    rw [← zip_range us (i + 1) h2]

theorem repl_flat {K : Kn} : ∀ {ds : List D} {us : List Value}, RepL K ds us → (∀ d ∈ ds, d.solid = true) → RepL K (flat (ds.map D.er)) (us.flatMap fun v => v.cells.toList)
  | _, _, .nil, _ => .nil
  | _, _, .cons (d := d) h t, hs => by
    have h1 := (h.cells_solid (hs d (by simp))).1.map (fun _ _ => Rep.er1)
    rw [← (er_cells (hs d (by simp))).1] at h1
    simp only [flat, List.map_cons, List.flatMap_cons]
    exact h1.append (repl_flat t fun e he => hs e (by simp [he]))

theorem vlit_sound (hR : Rel G K β ω w) {t : TypeId} {len : Nat} {parts : List (Nat × D)} {us : Array (Nat × Value)} (hp : RepP K parts us.toList) (hc : (vlit P t len parts).2) :
    ∃ v w' K', (Instr.buildSlice t len us).run P w = .ok v w' ∧ Rel G K' β ω w' ∧ Evo K β ω w K' β ω w' ∧ Rep K' (vlit P t len parts).1 v := by
  unfold vlit at hc ⊢
  split at hc
  · rename_i m y he
    obtain ⟨hidx, hds, hsmall, hm⟩ := hc
    obtain ⟨e, i, z, h1, h2, h3, h4, h5, h6⟩ := elt_some he
    obtain ⟨hv, hi⟩ := hp.vals
    generalize hdd : parts.map (·.2) = ds at *
    have hlen : us.toList.length = len := by
      have := congrArg List.length (hi.symm.trans hidx)
      simpa using this
    have hdl : ds.length = len := by rw [← hlen, hv.length]; simp
    have hflat := repl_flat hv fun d hd => (hds d hd).2
    have hrow := hR.new_row (e := e) (vs := (us.toList.map (·.2)).flatMap fun v => v.cells.toList) (ds := flat (ds.map D.er)) (by rw [hflat.length, List.take_length]; exact hflat)
    have hcl : ∀ d ∈ ds.map D.er, d.cells.length = m := fun d hd => by
      obtain ⟨x, hx, rfl⟩ := List.mem_map.1 hd
      rw [(er_cells (hds x hx).2).2]; exact (hds x hx).1
    have hrep : Rep (K.row w.heap.size (flat (ds.map D.er)) none) (.sl .full (ds.map D.er)) (.slice (some ⟨w.heap.size, 0, none⟩) len len) := by
      have hmost : len ≤ mostLen := by
        have : len ≤ len * m := Nat.le_mul_of_pos_right _ hm
        unfold mostLen; omega
      refine .sl (sz := m) (by simp [hdl]) (Nat.le_refl _) hmost (fun j x hj => ⟨_, rfl, rfl, hcl x (List.mem_of_getElem? hj), fun q d hq => ?_⟩) rfl
      have hf := flat_get hcl hj hq
      simpa [Kn.row] using hf
    refine ⟨_, _, _, ?_, hrow.1, hrow.2, hrep⟩
    have hvm : ∀ v ∈ us.toList.map (·.2), v.cells.size = i.size := fun v hvv => by
      obtain ⟨j, hj, rfl⟩ := List.getElem_of_mem hvv
      have hl2 := hv.length
      have hd := List.getElem?_eq_getElem (show j < ds.length by omega)
      obtain ⟨v', hv', hr⟩ := hv.get j _ hd
      rw [List.getElem?_eq_getElem hj] at hv'
      cases hv'
      have := ((hr.cells_solid (hds _ (List.mem_of_getElem? hd)).2).1).length
      rw [(hds _ (List.mem_of_getElem? hd)).1, Array.length_toList] at this
      rw [h5]; exact this.symm
    by_cases h0 : len = 0
    · subst h0
      have hnil : us.toList = [] := List.eq_nil_of_length_eq_zero hlen
      have hus : us = #[] := by apply Array.ext'; simpa using hnil
      subst hus
      simp [Instr.buildSlice, run_underlying h1, sizeOf, typeInfo, h2, Instr.fill, newRow]
      have h0 : Array.range 0 = #[] := by apply Array.ext'; simp
      rw [h0, Array.map_empty]
    · have hpos : ¬ len * i.size = 0 := by
        rw [h5]
        exact Nat.mul_ne_zero h0 (by omega)
      refine run_buildSlice w t e len us _ i z h1 h2 h3 (by rw [h5]; omega) hpos ?_
      have hz := zip_range us.toList 0 (by rw [← hi, hidx, hlen, List.range_eq_range'])
      have hfw := Great.fill_whole (s := i.size) (by omega) (us.toList.map (·.2)) ((Array.range (len * i.size)).map (z.cells[· % z.cells.size]!)) hvm (by rw [Array.size_map, Array.size_range, List.length_map, hlen])
      rw [← hz] at hfw
      exact hfw
  · exact hc.elim

def zel (P : Program) (t : TypeId) : Option (List D × Nat) :=
  match P.underlying t with
  | some (.slice e) => match P.info? e with
    | some i => match i.zero with
      | some z => if z.cells.size = i.size then some (z.cells.toList.map const1, i.bytes) else none
      | none => none
    | none => none
  | _ => none

theorem zel_some {t : TypeId} {zs : List D} {y : Nat} (h : zel P t = some (zs, y)) : ∃ e i z, P.underlying t = some (.slice e) ∧ P.info? e = some i ∧ i.zero = some z ∧ z.cells.size = i.size ∧ zs = z.cells.toList.map const1 ∧ i.bytes = y := by
  unfold zel at h
  split at h
  · rename_i e hu
    split at h
    · rename_i i hi
      split at h
      · rename_i z hz
        split at h
        · rename_i hs
          cases h
          exact ⟨e, i, z, hu, hi, hz, hs, rfl, rfl⟩
        · cases h
      · cases h
    · cases h
  · cases h

def zeros (zs : List D) (c : Nat) : List D := (List.replicate c zs).flatten

theorem zeros_length (zs : List D) (c : Nat) : (zeros zs c).length = c * zs.length := by
  simp [zeros, List.length_flatten, List.map_replicate, List.sum_replicate_nat]

theorem zeros_get (zs : List D) : ∀ (c k : Nat), k < c * zs.length → (zeros zs c)[k]? = zs[k % zs.length]?
  | 0, k, h => by simp at h
  | c + 1, k, h => by
    have hz : 0 < zs.length := by
      rcases Nat.eq_zero_or_pos zs.length with h0 | h0
      · rw [h0] at h; simp at h
      · exact h0
    unfold zeros
    rw [List.replicate_succ, List.flatten_cons]
    by_cases hk : k < zs.length
    · rw [List.getElem?_append_left hk, Nat.mod_eq_of_lt hk]
    · rw [List.getElem?_append_right (by omega)]
      have := zeros_get zs c (k - zs.length) (by rw [Nat.add_mul] at h; omega)
      unfold zeros at this
      rw [this, ← Nat.mod_eq_sub_mod (by omega)]

theorem run_make {t : TypeId} {zs : List D} {y : Nat} (hz : zel P t = some (zs, y)) (hzs : 0 < zs.length) {l c : Nat} {k1 k2 : IntKind} (hlc : l ≤ c) (hby : y * c ≤ 281474976710656) (hc : c ≤ 9223372036854775807) (w : World) :
    ∃ (vs : List Value) (e : TypeId), (Instr.makeSlice t (.int k1 l) (.int k2 c)).run P w = .ok (.slice (some ⟨w.heap.size, 0, none⟩) l c) (w.alloc (.cells vs.toArray e)) ∧ ∀ K, RepL K (zeros zs c) vs := by
  obtain ⟨e, i, z, h1, h2, h3, h4, rfl, h6⟩ := zel_some hz
  simp only [List.length_map, Array.length_toList] at hzs
  refine ⟨(List.range (c * i.size)).map fun j => z.cells[j % z.cells.size]!, e, ?_, fun K => RepL.of_get (by rw [zeros_length]; simp [h4]) fun j d v hd hv => ?_⟩
  · have hw1 : IntKind.i64.wrap (l : Int) = l := IntWalk.i64_in _ (by omega)
    have hw2 : IntKind.i64.wrap (c : Int) = c := IntWalk.i64_in _ (by omega)
    have hb1 : ¬ ((c : Int) < 0) := by omega
    have hb2 : ¬ ((281474976710656 : Int) < (i.bytes : Int) * (c : Int)) := by
      rw [h6]
      have : ((y * c : Nat) : Int) ≤ 281474976710656 := by omega
      simpa using this
    have hb3 : ¬ ((l : Int) < 0) := by omega
    have hb4 : ¬ ((c : Int) < (l : Int)) := by omega
    have hask : ∀ w : World, (askRoom (c * i.bytes)).run P w = .ok () w := fun w => by unfold askRoom; split <;> rfl
    by_cases h0 : c * i.size = 0
    · have hc0 : c = 0 := by
        rcases Nat.mul_eq_zero.1 h0 with h | h
        · exact h
        · omega
      subst hc0
      have hl0 : l = 0 := by omega
      subst hl0
      have hw0 : IntKind.i64.wrap 0 = 0 := IntWalk.i64_in 0 (by omega)
      have hask0 : ∀ w : World, (askRoom 0).run P w = .ok () w := fun w => by unfold askRoom; split <;> rfl
      simp [Instr.makeSlice, run_underlying h1, asInt, asIntOf, typeInfo, h2, hw0, hask0, sizeOf, newRow]
      have h0 : Array.range 0 = #[] := by apply Array.ext'; simp
      rw [h0, Array.map_empty]
    · simp [Instr.makeSlice, run_underlying h1, asInt, asIntOf, typeInfo, h2, hw1, hw2, hb1, hb2, hb3, hb4, hask, sizeOf, zeroValue, h3, h0, newRow]
      congr 2
      apply Array.ext'
      simp
  · have hj : j < c * i.size := by
      have := (List.getElem?_eq_some_iff.1 hv).1
      simpa using this
    rw [zeros_get _ _ _ (by simpa [h4] using hj)] at hd
    simp only [List.length_map, Array.length_toList, List.getElem?_map, Option.map_eq_some_iff] at hd
    obtain ⟨u, hu, rfl⟩ := hd
    simp [hj] at hv
    have hm : j % z.cells.size < z.cells.size := Nat.mod_lt _ hzs
    rw [getElem!_pos z.cells _ hm] at hv
    rw [List.getElem?_eq_getElem (by simpa using hm)] at hu
    simp at hu
    rw [← hv, hu]
    exact rep_const1 K u

def els (m : Nat) : Nat → List D → List D
  | 0, _ => []
  | n + 1, cs => .agg ((cs.take m).map D.er1) :: els m n (cs.drop m)
theorem els_length (m : Nat) : ∀ (n : Nat) (cs : List D), (els m n cs).length = n
  | 0, _ => rfl
  | n + 1, cs => by simp [els, els_length m n]
theorem els_cells (m : Nat) : ∀ (n : Nat) (cs : List D), n * m ≤ cs.length → ∀ d ∈ els m n cs, d.cells.length = m
  | 0, _, _, d, h => by simp [els] at h
  | n + 1, cs, hl, d, h => by
    rw [Nat.add_mul] at hl
    rcases List.mem_cons.1 h with rfl | h
    · simp [D.cells]; omega
    · exact els_cells m n (cs.drop m) (by rw [List.length_drop]; omega) d h
theorem els_flat (m : Nat) : ∀ (n : Nat) (cs : List D), flat (els m n cs) = (cs.take (n * m)).map D.er1
  | 0, cs => by simp [els, flat]
  | n + 1, cs => by
    have ih := els_flat m n (cs.drop m)
    simp only [flat] at ih ⊢
    simp only [els, List.flatMap_cons, ih, D.cells]
    rw [← List.map_append, show (n + 1) * m = m + n * m by rw [Nat.add_mul]; omega, List.take_add]

theorem box_read (hR : Rel G K β ω w) {b off k : Nat} {cs : List D} (hb : β b = some cs) (hob : isObj cs = false) (hfit : off + k ≤ cs.length) :
    ∃ vs : List Value, RepL K ((cs.drop off).take k) vs ∧ vs.length = k ∧ ∀ j v, vs[j]? = some v → w.cell? ((⟨b, off, none⟩ : Addr).add j) = some v := by
  obtain ⟨o, h1, h2⟩ := hR.box b cs hb
  obtain ⟨vs, e, rfl, hr⟩ := h2.plain hob
  have hl := hr.length
  refine ⟨(vs.toList.drop off).take k, RepL.of_get (by simp [hl]) fun i d v hd hv => ?_, by simp at hl ⊢; omega, fun j v hv => ?_⟩
  · rw [List.getElem?_take] at hd hv
    split at hd
    · rename_i hi
      rw [if_pos hi] at hv
      rw [List.getElem?_drop] at hd hv
      obtain ⟨v', h3, h4⟩ := hr.get _ _ hd
      rw [hv] at h3
      cases h3
      exact h4
    · cases hd
  · rw [add_none rfl, cell_of h1]
    rw [List.getElem?_take] at hv
    split at hv
    · rw [List.getElem?_drop] at hv
      simpa using hv
    · cases hv

theorem bsrc_sound (hR : Rel G K β ω w) {b off len cap m : Nat} {u e' : TypeId} (hu : P.underlying u = some (.slice e')) {cs : List D} (hb : β b = some cs) (hob : isObj cs = false) (hfit : off + len * m ≤ cs.length) (hone : ∀ d ∈ cs, d.one = true) :
    ∃ news, Src P m u (.slice (some ⟨b, off, none⟩) len cap) (els m len (cs.drop off)).length news w ∧ RepL K (flat (els m len (cs.drop off))) news ∧ (∀ d ∈ els m len (cs.drop off), d.cells.length = m) ∧
      (∀ k, k ≤ (els m len (cs.drop off)).length → (Builtin.firstCells m k (.slice (some ⟨b, off, none⟩) len cap)).run P w = .ok (news.take (k * m)).toArray w) := by
  obtain ⟨vs, h1, h2, h3⟩ := box_read hR (k := len * m) hb hob hfit
  refine ⟨vs, ?_, by rw [els_flat]; exact h1.map fun _ _ => Rep.er1, els_cells m len _ (by rw [List.length_drop]; omega), fun k hk => ?_⟩
  rotate_left
  · rw [els_length] at hk
    have hle : k * m ≤ vs.length := by rw [h2]; exact Nat.mul_le_mul_right _ hk
    exact run_firstCells_some w m k _ len cap (vs.take (k * m)) (by simp; omega) fun j v hj => by
      rw [List.getElem?_take] at hj
      split at hj
      · exact h3 j v hj
      · cases hj
  rw [els_length]
  refine Src.ofSlice w hu _ len cap vs h2 h3 fun x hx => ?_
  obtain ⟨i, hi, rfl⟩ := List.getElem_of_mem hx
  have hd := List.getElem?_eq_getElem (show i < ((cs.drop off).take (len * m)).length by have := h1.length; omega)
  obtain ⟨v, hv, hrv⟩ := h1.get i _ hd
  rw [List.getElem?_eq_getElem hi] at hv
  cases hv
  refine hrv.oneCell (hone _ ?_)
  exact List.mem_of_mem_drop (List.mem_of_mem_take (List.mem_of_getElem? hd))

theorem rep_zeros {z : Array Value} (hz : 0 < z.size) (K : Kn) (c : Nat) : RepL K (zeros (z.toList.map const1) c) (Builtin.zeroCells z c).toList := by
  refine RepL.of_get (by rw [zeros_length]; simp [Builtin.zeroCells]) fun j d v hd hv => ?_
  have hj : j < c * z.size := by
    have := (List.getElem?_eq_some_iff.1 hv).1
    simpa [Builtin.zeroCells] using this
  rw [zeros_get _ _ _ (by simpa using hj)] at hd
  simp only [List.length_map, Array.length_toList, List.getElem?_map, Option.map_eq_some_iff] at hd
  obtain ⟨u, hu, rfl⟩ := hd
  simp [Builtin.zeroCells, hj] at hv
  have hm : j % z.size < z.size := Nat.mod_lt _ hz
  rw [getElem!_pos z _ hm] at hv
  rw [List.getElem?_eq_getElem (by simpa using hm)] at hu
  simp at hu
  rw [← hv, hu]
  exact rep_const1 K u

theorem bapp_in (hR : Rel G K β ω w) {t u ty : TypeId} {m y : Nat} (he : elt P t = some (m, y)) {b off len cap : Nat} {ys : List D} {vy : Value} {news : List Value} (hs : Src P m u vy ys.length news w) (hnews : RepL K (flat ys) news) (hys : ∀ d ∈ ys, d.cells.length = m)
    {cs : List D} (hb : β b = some cs) (hob : isObj cs = false) (hfit : off + cap * m ≤ cs.length) (hroom : len + ys.length ≤ cap) :
    ∃ w', (Builtin.append_ #[t, u] ty #[.slice (some ⟨b, off, none⟩) len cap, vy]).run P w = .ok (.slice (some ⟨b, off, none⟩) (len + ys.length) cap) w' ∧
      Rel G K (β.set b (splice cs (off + len * m) (flat ys))) ω w' ∧ Evo K β ω w K (β.set b (splice cs (off + len * m) (flat ys))) ω w' := by
  obtain ⟨e, i, z, h1, h2, h3, h4, h5, h6⟩ := elt_some he
  have hfl := flat_length hys
  have hmul : len * m + ys.length * m ≤ cap * m := by rw [← Nat.add_mul]; exact Nat.mul_le_mul_right _ hroom
  obtain ⟨vs, e', b1, b2, b3, b4⟩ := hR.write (o := off + len * m) hb hob hnews (by rw [hfl]; omega)
  rw [← h5] at hs b2
  have hrun := run_append_in (ty := ty) h1 h2 hs hroom b1 b2
  rw [h5] at hrun
  obtain ⟨f1, f2, f3, f4, f5, f6⟩ := setRow_facts (us := (splice vs.toList (off + len * m) news).toArray) b1
  obtain ⟨r1, r2⟩ := b4 _ f1 f2 f3 f4 f5 f6
  exact ⟨_, hrun, r1, r2⟩

theorem bapp_new (hR : Rel G K β ω w) {t u ty : TypeId} {m y : Nat} (he : elt P t = some (m, y)) {zs : List D} (hz : zel P t = some (zs, y)) (hzs : 0 < zs.length) {ad : Option Addr} {len cap : Nat} {ys : List D} {vy : Value} {news : List Value} (hs : Src P m u vy ys.length news w) (hnews : RepL K (flat ys) news)
    {ds : List D} {olds : List Value} (hold : RepL K ds olds) (hol : (Builtin.firstCells m len (.slice ad len cap)).run P w.drew = .ok olds.toArray w.drew) (hfull : cap < len + ys.length) (hle : len ≤ cap) (hlen : (len + ys.length) * y ≤ 140737488355328) (hy0 : 0 < y) :
    ∃ w' cap', len + ys.length ≤ cap' ∧ (Builtin.append_ #[t, u] ty #[.slice ad len cap, vy]).run P w = .ok (.slice (some ⟨w.heap.size, 0, none⟩) (len + ys.length) cap') w' ∧
      Rel G K (β.set w.heap.size (ds ++ flat ys ++ zeros zs (cap' - (len + ys.length)))) ω w' ∧ Evo K β ω w K (β.set w.heap.size (ds ++ flat ys ++ zeros zs (cap' - (len + ys.length)))) ω w' := by
  obtain ⟨e, i, z, h1, h2, h3, h4, h5, h6⟩ := elt_some he
  obtain ⟨e', i', z', g1, g2, g3, g4, g5, g6⟩ := zel_some hz
  rw [h1] at g1; cases g1
  rw [h2] at g2; cases g2
  rw [h3] at g3; cases g3
  have hneed : len + ys.length ≤ 140737488355328 := Nat.le_trans (Nat.le_mul_of_pos_right _ hy0) hlen
  have hfit := growslice_fits (need := len + ys.length) (old := cap) (bytes := i.bytes) (by omega) (by rw [h6]; exact hlen)
  rw [← h5] at hs hol
  have hrun := run_append_grow_src (P := P) w t u ty e i z h1 h2 h3 ad len cap olds hol vy ys.length news hs (by omega) (by omega) hfit
  have hge := grownCap_ge w (len + ys.length) cap e
  have hRd : Rel G K β ω w.drew := hR.same rfl
  have harr : ((olds ++ news).toArray ++ Builtin.zeroCells z.cells (grownCap w (len + ys.length) cap e - (len + ys.length))) = ((olds ++ news) ++ (Builtin.zeroCells z.cells (grownCap w (len + ys.length) cap e - (len + ys.length))).toList).toArray := by
    apply Array.ext'
    simp
  rw [harr] at hrun
  have hzz : 0 < z.cells.size := by rw [g5] at hzs; simpa using hzs
  have hrep : RepL K (ds ++ flat ys ++ zeros zs (grownCap w (len + ys.length) cap e - (len + ys.length))) ((olds ++ news) ++ (Builtin.zeroCells z.cells (grownCap w (len + ys.length) cap e - (len + ys.length))).toList) := by
    rw [g5]
    exact (hold.append hnews).append (rep_zeros hzz K _)
  obtain ⟨r1, r2⟩ := hRd.new_box (e := e) hrep
  exact ⟨_, _, hge, hrun, r1, Evo.drew.trans r2⟩

def srcOf (P : Program) (β : Heap) (m : Nat) (u : TypeId) (y : D) : List D × Prop :=
  match y with
  | .so b off len cap => match cutk P u with
    | some (1, _, _) => match β b with
      | some cs => (els m len (cs.drop off), isObj cs = false ∧ off + len * m ≤ cs.length ∧ ∀ d ∈ cs, d.one = true)
      | none => ([], False)
    | _ => ([], False)
  | y => vsrc P m u y
theorem srcOf_sl (m : Nat) (u : TypeId) (tk : Tk) (ys : List D) : srcOf P β m u (.sl tk ys) = vsrc P m u (.sl tk ys) := (rfl)
theorem srcOf_str (m : Nat) (u : TypeId) (z : ByteArray) : srcOf P β m u (.str z) = vsrc P m u (.str z) := (rfl)
theorem srcOf_vsrc {m : Nat} {u : TypeId} {y : D} (h : (vsrc P m u y).2) : srcOf P β m u y = vsrc P m u y := by
  cases y <;> first | rfl | skip
  exfalso
  unfold vsrc at h
  split at h <;> first | (rename_i hy; cases hy) | exact h

theorem srcOf_sound (hR : Rel G K β ω w) {m : Nat} {u : TypeId} {y : D} {v : Value} (hy : Rep K y v) (hc : (srcOf P β m u y).2) :
    ∃ news, Src P m u v (srcOf P β m u y).1.length news w ∧ RepL K (flat (srcOf P β m u y).1) news ∧ (∀ d ∈ (srcOf P β m u y).1, d.cells.length = m) ∧ (∀ k, k ≤ (srcOf P β m u y).1.length → (Builtin.firstCells m k v).run P w = .ok (news.take (k * m)).toArray w) := by
  cases y
  case so b off len cap =>
    simp only [srcOf] at hc ⊢
    split at hc
    · rename_i i j hu
      split at hc
      · rename_i cs hb
        obtain ⟨e, d, q1, q2, q3⟩ := cutk1 hu
        cases hy
        simp only [hu, hb]
        exact bsrc_sound hR q1 hb hc.1 hc.2.1 hc.2.2
      · exact hc.elim
    · exact hc.elim
  all_goals (
    exact vsrc_sound hR hy hc)

theorem bcopy_sound (hR : Rel G K β ω w) {t u ty : TypeId} {m y : Nat} (he : elt P t = some (m, y)) {b off len cap : Nat} {dy : D} {vy : Value} (hy : Rep K dy vy) (hsrc : (srcOf P β m u dy).2) {cs : List D} (hb : β b = some cs) (hob : isObj cs = false)
    (hfit : off + (min (srcOf P β m u dy).1.length len) * m ≤ cs.length) :
    ∃ w', (Builtin.copy_ #[t, u] ty #[.slice (some ⟨b, off, none⟩) len cap, vy]).run P w = .ok (.int .i64 (min (srcOf P β m u dy).1.length len : Nat)) w' ∧
      Rel G K (β.set b (splice cs off (flat ((srcOf P β m u dy).1.take (min (srcOf P β m u dy).1.length len))))) ω w' ∧ Evo K β ω w K (β.set b (splice cs off (flat ((srcOf P β m u dy).1.take (min (srcOf P β m u dy).1.length len))))) ω w' := by
  obtain ⟨e, i, z, h1, h2, h3, h4, h5, h6⟩ := elt_some he
  obtain ⟨news, hs, hnews, hys, hf⟩ := srcOf_sound hR hy hsrc
  generalize (srcOf P β m u dy).1 = ys at *
  have hk : min ys.length len ≤ ys.length := Nat.min_le_left _ _
  have hft := hf _ hk
  have hln : news.length = ys.length * m := hs.newsLen
  have htk : RepL K (flat (ys.take (min ys.length len))) (news.take (min ys.length len * m)) := by
    have hsplit : flat ys = flat (ys.take (min ys.length len)) ++ flat (ys.drop (min ys.length len)) := by rw [← flat_append, List.take_append_drop]
    have hfl : (flat (ys.take (min ys.length len))).length = min ys.length len * m := by
      rw [flat_length (fun d hd => hys d (List.mem_of_mem_take hd)), List.length_take]
      congr 1
      omega
    have := hnews.take (min ys.length len * m)
    rw [hsplit, ← hfl, List.take_left, hfl] at this
    exact this
  have htl : (news.take (min ys.length len * m)).length = min ys.length len * m := by
    rw [List.length_take, hln]
    exact Nat.min_eq_left (Nat.mul_le_mul_right _ hk)
  obtain ⟨vs, e', b1, b2, b3, b4⟩ := hR.write (o := off) hb hob htk (by rw [htk.length, htl]; exact hfit)
  have hst := run_storeCells_at P b off e' (news.take (min ys.length len * m)) 0 vs w b1 (by simpa using b2) (fun x hx => hs.one x (List.mem_of_mem_take hx))
  simp only [Nat.add_zero] at hst
  obtain ⟨f1, f2, f3, f4, f5, f6⟩ := setRow_facts (us := (splice vs.toList off (news.take (min ys.length len * m))).toArray) b1
  obtain ⟨r1, r2⟩ := b4 _ f1 f2 f3 f4 f5 f6
  refine ⟨_, ?_, r1, r2⟩
  simp only [Builtin.copy_]
  have e1 : (#[t, u] : Array TypeId)[0]? = some t := rfl
  have e2 : (#[Value.slice (some ⟨b, off, none⟩) len cap, vy] : Array Value)[0]? = some (.slice (some ⟨b, off, none⟩) len cap) := rfl
  have e3 : (#[Value.slice (some ⟨b, off, none⟩) len cap, vy] : Array Value)[1]? = some vy := rfl
  rw [e1, e2, e3]
  simp only [Sem.run_bind, run_underlying h1, Result.andThen_ok, hs.len, sizeOf, typeInfo, h2, Sem.run_pure, Sem.run_map, Sem.run, program]
  have e4 : Nat.min ys.length len = min ys.length len := rfl
  rw [e4, h5, hft]
  simp only [Result.andThen_ok, hst]
  simp [splice, goInt]

def bapR (β : Heap) (m by_ : Nat) (zs : List D) (new : Bool) (x : D) (ys : List D) (k : D → Heap → Prop) : Prop :=
  match x with
  | .so b off len cap => match β b with
    | some cs => isObj cs = false ∧ off + cap * m ≤ cs.length ∧ len ≤ cap ∧ (len + ys.length) * by_ ≤ 140737488355328 ∧
        (len + ys.length ≤ cap → k (.so b off (len + ys.length) cap) (β.set b (splice cs (off + len * m) (flat ys)))) ∧
        (cap < len + ys.length → ∀ cap', len + ys.length ≤ cap' → ∀ b', β b' = none → k (.so b' 0 (len + ys.length) cap') (β.set b' ((cs.drop off).take (len * m) ++ flat ys ++ zeros zs (cap' - (len + ys.length)))))
    | none => False
  | .sl .full xs => new = true ∧ (∀ x ∈ xs, x.cells.length = m) ∧ (xs.length + ys.length) * by_ ≤ 140737488355328 ∧ (ys.length = 0 → k (.sl .full xs) β) ∧
      (0 < ys.length → ∀ cap', xs.length + ys.length ≤ cap' → ∀ b', β b' = none → k (.so b' 0 (xs.length + ys.length) cap') (β.set b' (flat xs ++ flat ys ++ zeros zs (cap' - (xs.length + ys.length)))))
  | _ => False
def bapK (P : Program) (t u : TypeId) (x y : D) (ok : Prop) (new : Bool) (β : Heap) (k : D → Heap → Prop) : Prop :=
  match elt P t, zel P t with
  | some (m, by_), some (zs, by') => ok ∧ by_ = by' ∧ 0 < by_ ∧ 0 < zs.length ∧ (srcOf P β m u y).2 ∧ bapR β m by_ zs new x (srcOf P β m u y).1 k
  | _, _ => False
theorem bapK_sound (hR : Rel G K β ω w) {t u ty : TypeId} {x y : D} {ok : Prop} {new : Bool} {k : D → Heap → Prop} {vx vy : Value} (hx : ok → Rep K x vx) (hy : ok → Rep K y vy) (h : bapK P t u x y ok new β k) :
    ∃ d v β' w', k d β' ∧ (Builtin.append_ #[t, u] ty #[vx, vy]).run P w = .ok v w' ∧ Rel G K β' ω w' ∧ Evo K β ω w K β' ω w' ∧ Rep K d v := by
  unfold bapK at h
  split at h
  · rename_i m by_ zs by' he hz
    obtain ⟨h1, rfl, h3, h4, h5, h6⟩ := h
    replace hx := hx h1
    obtain ⟨news, hs, hnews, hys, _⟩ := srcOf_sound hR (hy h1) h5
    generalize (srcOf P β m u y).1 = ys at hs hnews hys h6
    unfold bapR at h6
    split at h6
    · rename_i b off len cap
      split at h6
      · rename_i cs hb
        obtain ⟨a1, a2, a3, a4, a5, a6⟩ := h6
        cases hx
        by_cases hr : len + ys.length ≤ cap
        · obtain ⟨w', r1, r2, r3⟩ := bapp_in (ty := ty) hR he hs hnews hys hb a1 a2 hr
          exact ⟨_, _, _, w', a5 hr, r1, r2, r3, .so _ _ _ _⟩
        · have hm : len * m ≤ cap * m := Nat.mul_le_mul_right _ a3
          have hRd : Rel G K β ω w.drew := hR.same rfl
          obtain ⟨olds, o1, o2, o3⟩ := box_read hRd (k := len * m) (off := off) hb a1 (by omega)
          obtain ⟨w', cap', r0, r1, r2, r3⟩ := bapp_new (ty := ty) (cap := cap) hR he hz h4 hs hnews o1 (run_firstCells_some w.drew m len _ len cap olds o2 o3) (by omega) a3 a4 h3
          exact ⟨_, _, _, w', a6 (by omega) cap' r0 _ (hR.box_none (Nat.le_refl _)), r1, r2, r3, .so _ _ _ _⟩
      · exact h6.elim
    · rename_i xs
      obtain ⟨a0, a2, a3, a5, a4⟩ := h6
      by_cases hz0 : ys.length = 0
      · have hx' := hx
        cases hx with
        | sl hn hcap hmax hl htk =>
          rename_i ad nn c sz
          obtain ⟨e, i, z, g1, g2, g3, g4, g5, g6⟩ := elt_some he
          have hys0 : ys = [] := List.eq_nil_of_length_eq_zero hz0
          subst hys0
          have hnil := Src.zero hs
          subst hnil
          rw [← g5] at hs
          exact ⟨_, _, β, w, a5 hz0, run_append_zero (ty := ty) g1 g2 hs hcap, hR, Evo.refl K β ω w, hx'⟩
      have a1 : 0 < ys.length := Nat.pos_of_ne_zero hz0
      cases hx with
      | sl hn hcap hmax hl htk =>
        rename_i ad nn c sz
        subst hn
        have hnc : xs.length = c := htk
        have hlm : Laid K ad m xs := fun j x hj => by
          obtain ⟨b, c1, c2, c3, c4⟩ := hl j x hj
          have : sz = m := by rw [← c3, a2 x (List.mem_of_getElem? hj)]
          exact ⟨b, c1, c2, by rw [c3, this], by rw [← this]; exact c4⟩
        have hRd : Rel G K β ω w.drew := hR.same rfl
        obtain ⟨olds, o1, o2, o3⟩ := laid_values hRd hlm a2
        have hol : (Builtin.firstCells m xs.length (.slice ad xs.length c)).run P w.drew = .ok olds.toArray w.drew := by
          cases ad with
          | none =>
            have hx0 : xs = [] := by
              cases xs with
              | nil => rfl
              | cons x xs => obtain ⟨_, q, _⟩ := hl 0 x rfl; cases q
            subst hx0
            simp at o2
            subst o2
            exact run_firstCells_none w.drew m 0 0 c
          | some b => exact run_firstCells_some w.drew m xs.length b xs.length c olds o2 (o3 b rfl)
        obtain ⟨w', cap', r0, r1, r2, r3⟩ := bapp_new (ty := ty) hR he hz h4 hs hnews o1 hol (by omega) (by omega) a3 h3
        exact ⟨_, _, _, w', a4 a1 cap' r0 _ (hR.box_none (Nat.le_refl _)), r1, r2, r3, .so _ _ _ _⟩
    · exact h6.elim
  · exact h.elim
theorem bapR_mono {m by_ : Nat} {zs : List D} {new : Bool} {x : D} {ys : List D} {k k' : D → Heap → Prop} (hk : ∀ d β, k d β → k' d β) (h : bapR β m by_ zs new x ys k) : bapR β m by_ zs new x ys k' := by
  unfold bapR at h ⊢
  split
  · split
    · rename_i cs hb
      simp only [hb] at h
      obtain ⟨a1, a2, a3, a4, a5, a6⟩ := h
      exact ⟨a1, a2, a3, a4, fun q => hk _ _ (a5 q), fun q c' q1 b' q2 => hk _ _ (a6 q c' q1 b' q2)⟩
    · rename_i hb; simp only [hb] at h
  · obtain ⟨a0, a1, a2, a3, a4⟩ := h
    exact ⟨a0, a1, a2, fun q => hk _ _ (a3 q), fun q c' q1 b' q2 => hk _ _ (a4 q c' q1 b' q2)⟩
  · rename_i h1 h2
    split at h
    · exact absurd rfl (h1 _ _ _ _)
    · exact absurd rfl (h2 _)
    · exact h
theorem bapK_mono {t u : TypeId} {x y : D} {ok : Prop} {new : Bool} {k k' : D → Heap → Prop} (hk : ∀ d β, k d β → k' d β) (h : bapK P t u x y ok new β k) : bapK P t u x y ok new β k' := by
  unfold bapK at h ⊢
  split at h
  · obtain ⟨h1, h2, h3, h4, h5, h6⟩ := h
    exact ⟨h1, h2, h3, h4, h5, bapR_mono hk h6⟩
  · exact h.elim

end Go.Proofs.YtpblgfgcoamgmaaGreatV
