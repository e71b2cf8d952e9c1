/-
  The first text of a program logic over the model: abstract values, what is known of memory, and the relation of the two.
  Conditions: none; it speaks of every program.
-/
import Derived.CallsIn
import Derived.Deep.AppendSrc
import Derived.Laws.OwnMore
namespace Go.Proofs.YtgkfcgfobckaaaaV

/-- May a slice be appended to? 'full': its capacity is its length · 'live t m': by the token t, m cells an element · 'none': it is only read. -/
inductive Tk where
  | none
  | full
  | live (t m : Nat)
  deriving DecidableEq

/-- Abstract values: a slice is the list of its elements. -/
inductive D where
  | any
  | int (k : IntKind) (n : Int)
  | bool (b : Bool)
  | str (s : ByteArray)
  | sl (t : Tk) (xs : List D)
  | so (b off len cap : Nat)
  | agg (cs : List D)
  | tup (ds : List D)
  | pb (b o : Nat)
  | pf (cs : List D)
  | nilp
  | clo (fn : Fn) (first captured : List D)
  | nilfunc
  | iface (t : TypeId) (d : D)
  | nilif
  | nilmap
  | when (c : Bool) (d : D)
  | lp (r : Loop) (tm : Nat → D)
  deriving Inhabited

/-- A value that takes one cell. -/
def D.one : D → Bool
  | .any | .agg _ | .tup _ | .when _ _ | .lp _ _ => false
  | _ => true

def D.cells : D → List D
  | .agg cs => cs
  | d => [d]

/-- A slice's header behind a token: block, offset, length, capacity, cells of an element. -/
structure Head where
  b : Nat
  off : Nat
  n : Nat
  c : Nat
  sz : Nat

/-- Nothing is known. -/
def kno : D → Prop := fun _ => False
theorem kno_of {ds : List D} {o : Nat} (h : ds.length ≤ o) : (fun d => ds[o]? = some d) = kno := by
  funext d
  simp [kno, List.getElem?_eq_none h]

/-- What is known of memory for good: cells that will not turn, and the headers of tokens. -/
structure Kn where
  cells : Nat → Nat → D → Prop
  tok : Nat → Option (Option Head)

structure Kn.le (K K' : Kn) : Prop where
  cells : ∀ b o d, K.cells b o d → K'.cells b o d
  tok : ∀ t h, K.tok t = some h → K'.tok t = some h

theorem Kn.le.refl (K : Kn) : K.le K := ⟨fun _ _ _ h => h, fun _ _ h => h⟩
theorem Kn.le.trans {K K' K'' : Kn} (h : K.le K') (h' : K'.le K'') : K.le K'' := ⟨fun b o d x => h'.cells b o d (h.cells b o d x), fun t x y => h'.tok t x (h.tok t x y)⟩

/-- The elements of a slice lie at its address, 'sz' cells each. -/
def Laid (K : Kn) (a : Option Addr) (sz : Nat) (xs : List D) : Prop :=
  ∀ i x, xs[i]? = some x → ∃ ad, a = some ad ∧ ad.spot = none ∧ x.cells.length = sz ∧ ∀ j y, x.cells[j]? = some y → K.cells ad.block (ad.off + i * sz + j) y

theorem Laid.mono {K K' : Kn} (hk : K.le K') {a : Option Addr} {sz : Nat} {xs : List D} (h : Laid K a sz xs) : Laid K' a sz xs := fun i x hx =>
  let ⟨ad, h1, h2, h3, h4⟩ := h i x hx
  ⟨ad, h1, h2, h3, fun j y hy => hk.cells _ _ _ (h4 j y hy)⟩

/-- What a slice's mark says. -/
def TokOk (K : Kn) (a : Option Addr) (n c sz : Nat) : Tk → Prop
  | .none => True
  | .full => n = c
  | .live t m => sz = m ∧ ∃ x, K.tok t = some x ∧ match x with
    | none => n = c
    | some h => ∃ ad, a = some ad ∧ ad.spot = none ∧ h = ⟨ad.block, ad.off, n, c, sz⟩

theorem TokOk.mono {K K' : Kn} (hk : K.le K') {a : Option Addr} {n c sz : Nat} {t : Tk} (h : TokOk K a n c sz t) : TokOk K' a n c sz t := by
  cases t with
  | none => trivial
  | full => exact h
  | live t m => obtain ⟨h0, x, h1, h2⟩ := h; exact ⟨h0, x, hk.tok _ _ h1, h2⟩

/-- No slice of the logic is longer. -/
def mostLen : Nat := 281474976710656

mutual
/-- The abstract value stands for the machine's value. -/
inductive Rep (K : Kn) : D → Value → Prop
  | any (v : Value) : Rep K .any v
  | int (k : IntKind) (n : Int) : Rep K (.int k n) (.int k n)
  | bool (b : Bool) : Rep K (.bool b) (.bool b)
  | str (s : ByteArray) (h : s.size ≤ mostLen) : Rep K (.str s) (.string s)
  | sl {t : Tk} {xs : List D} {a : Option Addr} {n c sz : Nat} (hn : xs.length = n) (hc : n ≤ c) (hm : n ≤ mostLen) (hl : Laid K a sz xs) (ht : TokOk K a n c sz t) : Rep K (.sl t xs) (.slice a n c)
  | so (b off len cap : Nat) : Rep K (.so b off len cap) (.slice (some ⟨b, off, none⟩) len cap)
  | agg {cs : List D} {vs : List Value} (h : RepL K cs vs) : Rep K (.agg cs) (.agg vs.toArray)
  | tup {cs : List D} {vs : List Value} (h : RepL K cs vs) : Rep K (.tup cs) (.tuple vs.toArray)
  | pb (b o : Nat) : Rep K (.pb b o) (.pointer (some ⟨b, o, none⟩))
  | pf {cs : List D} {b o : Nat} (h : ∀ j y, cs[j]? = some y → K.cells b (o + j) y) : Rep K (.pf cs) (.pointer (some ⟨b, o, none⟩))
  | nilp : Rep K .nilp (.pointer none)
  | clo {fn : Fn} {f c : List D} {vf vc : List Value} (hf : RepL K f vf) (hc : RepL K c vc) : Rep K (.clo fn f c) (.func fn vf.toArray vc.toArray)
  | nilfunc : Rep K .nilfunc .nilFunc
  | iface {t : TypeId} {d : D} {v : Value} (h : Rep K d v) : Rep K (.iface t d) (.iface t v)
  | nilif : Rep K .nilif .nilIface
  | nilmap : Rep K .nilmap (.map none)
  | when {c : Bool} {d : D} {v : Value} (h : c = true → Rep K d v) (h0 : c = false → v = undef) : Rep K (.when c d) v
inductive RepL (K : Kn) : List D → List Value → Prop
  | nil : RepL K [] []
  | cons {d : D} {v : Value} {ds : List D} {vs : List Value} (h : Rep K d v) (t : RepL K ds vs) : RepL K (d :: ds) (v :: vs)
end

mutual
theorem Rep.mono {K K' : Kn} (hk : K.le K') : ∀ {d : D} {v : Value}, Rep K d v → Rep K' d v
  | _, _, .any v => .any v
  | _, _, .int k n => .int k n
  | _, _, .bool b => .bool b
  | _, _, .str s h => .str s h
  | _, _, .sl hn hc hm hl ht => .sl hn hc hm (hl.mono hk) (ht.mono hk)
  | _, _, .so b o l c => .so b o l c
  | _, _, .agg h => .agg (RepL.mono hk h)
  | _, _, .tup h => .tup (RepL.mono hk h)
  | _, _, .pb b o => .pb b o
  | _, _, .pf h => .pf fun j y hy => hk.cells _ _ _ (h j y hy)
  | _, _, .nilp => .nilp
  | _, _, .clo hf hc => .clo (RepL.mono hk hf) (RepL.mono hk hc)
  | _, _, .nilfunc => .nilfunc
  | _, _, .iface h => .iface (Rep.mono hk h)
  | _, _, .nilif => .nilif
  | _, _, .nilmap => .nilmap
  | _, _, .when h h0 => .when (fun hc => Rep.mono hk (h hc)) h0
theorem RepL.mono {K K' : Kn} (hk : K.le K') : ∀ {ds : List D} {vs : List Value}, RepL K ds vs → RepL K' ds vs
  | _, _, .nil => .nil
  | _, _, .cons h t => .cons (Rep.mono hk h) (RepL.mono hk t)
end

/-! ### Lists of values -/
theorem RepL.length {K : Kn} : ∀ {ds : List D} {vs : List Value}, RepL K ds vs → ds.length = vs.length
  | _, _, .nil => rfl
  | _, _, .cons _ t => by simp [RepL.length t]

theorem RepL.get {K : Kn} : ∀ {ds : List D} {vs : List Value}, RepL K ds vs → ∀ (i : Nat) (d : D), ds[i]? = some d → ∃ v, vs[i]? = some v ∧ Rep K d v
  | _, _, .nil, i, d, h => by simp at h
  | _, _, .cons (v := v) h t, 0, d, e => ⟨v, by simp, by simp at e; exact e ▸ h⟩
  | _, _, .cons h t, i + 1, d, e => by simpa using RepL.get t i d (by simpa using e)

theorem RepL.of_get {K : Kn} : ∀ {ds : List D} {vs : List Value}, ds.length = vs.length → (∀ (i : Nat) (d : D) (v : Value), ds[i]? = some d → vs[i]? = some v → Rep K d v) → RepL K ds vs
  | [], [], _, _ => .nil
  | d :: ds, v :: vs, hl, h => .cons (h 0 d v rfl rfl) (RepL.of_get (by simpa using hl) fun i d v hd hv => h (i + 1) d v (by simpa using hd) (by simpa using hv))
  | [], _ :: _, hl, _ => by simp at hl
  | _ :: _, [], hl, _ => by simp at hl

theorem RepL.append {K : Kn} : ∀ {ds : List D} {vs : List Value} {ds' : List D} {vs' : List Value}, RepL K ds vs → RepL K ds' vs' → RepL K (ds ++ ds') (vs ++ vs')
  | _, _, _, _, .nil, h => h
  | _, _, _, _, .cons a t, h => .cons a (RepL.append t h)

theorem RepL.take {K : Kn} : ∀ {ds : List D} {vs : List Value}, RepL K ds vs → ∀ n, RepL K (ds.take n) (vs.take n)
  | _, _, .nil, n => by simpa using RepL.nil
  | _, _, .cons a t, 0 => by simpa using RepL.nil
  | _, _, .cons a t, n + 1 => by simpa using RepL.cons a (RepL.take t n)

theorem RepL.drop {K : Kn} : ∀ {ds : List D} {vs : List Value}, RepL K ds vs → ∀ n, RepL K (ds.drop n) (vs.drop n)
  | _, _, .nil, n => by simpa using RepL.nil
  | _, _, .cons a t, 0 => by simpa using RepL.cons a t
  | _, _, .cons a t, n + 1 => by simpa using RepL.drop t n

theorem RepL.split {K : Kn} : ∀ {ds ds' : List D} {vs : List Value}, RepL K (ds ++ ds') vs → ∃ v1 v2, vs = v1 ++ v2 ∧ RepL K ds v1 ∧ RepL K ds' v2
  | [], _, vs, h => ⟨[], vs, rfl, .nil, h⟩
  | _ :: ds, ds', _, .cons a t => let ⟨v1, v2, e, h1, h2⟩ := RepL.split t; ⟨_ :: v1, v2, by rw [e]; rfl, .cons a h1, h2⟩

theorem RepL.one {K : Kn} {d : D} {vs : List Value} (h : RepL K [d] vs) : ∃ v, vs = [v] ∧ Rep K d v := by
  cases h with
  | cons h t => cases t; exact ⟨_, rfl, h⟩

theorem RepL.any {K : Kn} (vs : List Value) : RepL K (List.replicate vs.length .any) vs := by
  induction vs with
  | nil => exact .nil
  | cons v vs ih => exact .cons (.any v) ih

/-! ### One value -/
theorem Rep.oneCell {K : Kn} {d : D} {v : Value} (h : Rep K d v) (hd : d.one = true) : v.oneCell' = true := by
  cases h <;> simp_all [D.one, Value.oneCell']

theorem Rep.cells {K : Kn} {d : D} {v : Value} (h : Rep K d v) (hd : d ≠ .any) (ht : ∀ ds, d ≠ .tup ds) (hw : ∀ c x, d ≠ .when c x) : RepL K d.cells v.cells.toList := by
  cases h with
  | any => exact absurd rfl hd
  | tup h => exact absurd rfl (ht _)
  | agg h => simpa [D.cells, Value.cells] using h
  | int k n => exact .cons (.int k n) .nil
  | bool b => exact .cons (.bool b) .nil
  | str s h => exact .cons (.str s h) .nil
  | sl a b c d e => exact .cons (.sl a b c d e) .nil
  | so b o l c => exact .cons (.so b o l c) .nil
  | pb b o => exact .cons (.pb b o) .nil
  | pf h => exact .cons (.pf h) .nil
  | nilp => exact .cons .nilp .nil
  | clo a b => exact .cons (.clo a b) .nil
  | nilfunc => exact .cons .nilfunc .nil
  | iface h => exact .cons (.iface h) .nil
  | nilif => exact .cons .nilif .nil
  | nilmap => exact .cons .nilmap .nil
  | when h h0 => exact absurd rfl (hw _ _)

/-- All cells are one cell wide and known. -/
def solid (cs : List D) : Bool := cs.all D.one

/-- A value whose cells may be stored. -/
def D.solid : D → Bool
  | .agg cs => cs.all D.one
  | d => d.one

theorem Rep.cells_solid {K : Kn} {d : D} {v : Value} (h : Rep K d v) (hd : d.solid = true) : RepL K d.cells v.cells.toList ∧ ∀ u ∈ v.cells.toList, u.oneCell' = true := by
  refine ⟨h.cells (fun e => by subst e; simp [D.solid, D.one] at hd) (fun ds e => by subst e; simp [D.solid, D.one] at hd) (fun c x e => by subst e; simp [D.solid, D.one] at hd), ?_⟩
  cases h with
  | agg h =>
    simp only [D.solid, List.all_eq_true] at hd
    intro u hu
    simp only [Value.cells, List.toList_toArray] at hu
    obtain ⟨i, hi, rfl⟩ := List.getElem_of_mem hu
    have hl := h.length
    obtain ⟨v', hv', hr⟩ := h.get i _ (List.getElem?_eq_getElem (by omega))
    rw [List.getElem?_eq_getElem hi] at hv'
    cases hv'
    exact hr.oneCell (hd _ (List.getElem_mem _))
  | _ => simp_all [D.solid, D.one, Value.cells, Value.oneCell']

/-! ### The weaker value: no right to append -/
def D.er1 : D → D
  | .sl _ xs => .sl .none xs
  | d => d

def D.er : D → D
  | .agg cs => .agg (cs.map D.er1)
  | .tup cs => .tup (cs.map fun | .agg ds => .agg (ds.map D.er1) | d => d.er1)
  | d => d.er1

theorem Rep.er1 {K : Kn} {d : D} {v : Value} (h : Rep K d v) : Rep K d.er1 v := by
  cases h with
  | sl hn hc hm hl ht => exact .sl hn hc hm hl trivial
  | any v => exact .any v
  | int k n => exact .int k n
  | bool b => exact .bool b
  | str s h => exact .str s h
  | so b o l c => exact .so b o l c
  | agg h => exact .agg h
  | tup h => exact .tup h
  | pb b o => exact .pb b o
  | pf h => exact .pf h
  | nilp => exact .nilp
  | clo a b => exact .clo a b
  | nilfunc => exact .nilfunc
  | iface h => exact .iface h
  | nilif => exact .nilif
  | nilmap => exact .nilmap
  | when h h0 => exact .when h h0

theorem RepL.map {K : Kn} {f : D → D} (hf : ∀ d v, Rep K d v → Rep K (f d) v) : ∀ {ds : List D} {vs : List Value}, RepL K ds vs → RepL K (ds.map f) vs
  | _, _, .nil => .nil
  | _, _, .cons a t => .cons (hf _ _ a) (RepL.map hf t)

theorem Rep.er {K : Kn} {d : D} {v : Value} (h : Rep K d v) : Rep K d.er v := by
  cases h with
  | agg h => exact .agg (h.map fun _ _ => Rep.er1)
  | tup h =>
    refine .tup (h.map fun d v hd => ?_)
    cases d with
    | agg cs => cases hd with | agg h => exact .agg (h.map fun _ _ => Rep.er1)
    | _ => exact hd.er1
  | sl hn hc hm hl ht => exact (Rep.sl hn hc hm hl ht).er1
  | any v => exact .any v
  | int k n => exact .int k n
  | bool b => exact .bool b
  | str s h => exact .str s h
  | so b o l c => exact .so b o l c
  | pb b o => exact .pb b o
  | pf h => exact .pf h
  | nilp => exact .nilp
  | clo a b => exact .clo a b
  | nilfunc => exact .nilfunc
  | iface h => exact .iface h
  | nilif => exact .nilif
  | nilmap => exact .nilmap
  | when h h0 => exact .when h h0

/-! ### The heap of the logic, and the relation -/
/-- Variables in memory: the block's number, and what its cells stand for. -/
abbrev Heap := Nat → Option (List D)

def Heap.set (β : Heap) (b : Nat) (cs : List D) : Heap := fun i => if i = b then some cs else β i

def Heap.nil : Heap := fun _ => none

/-- What a block of memory holds, of a variable's: its cells; or the record of a range over a function. -/
inductive BoxAt (K : Kn) : List D → Obj → Prop
  | cells {cs : List D} {vs : Array Value} {e : TypeId} (h : RepL K cs vs.toList) : BoxAt K cs (.cells vs e (0, 0))
  | loop {r : Loop} {tm : Nat → D} (h : ∀ t, Rep K (tm t) (r.tmps.getD t undef)) : BoxAt K [.lp r tm] (.loop r)

theorem BoxAt.mono {K K' : Kn} (hk : K.le K') {cs : List D} {o : Obj} (h : BoxAt K cs o) : BoxAt K' cs o := by
  cases h with
  | cells h => exact .cells (h.mono hk)
  | loop h => exact .loop fun t => (h t).mono hk

/-- Is it no plain variable? -/
def isObj : List D → Bool
  | [.lp _ _] => true
  | _ => false

theorem BoxAt.plain {K : Kn} {cs : List D} {o : Obj} (h : BoxAt K cs o) (hc : isObj cs = false) : ∃ vs e, o = .cells vs e (0, 0) ∧ RepL K cs vs.toList := by
  cases h with
  | cells h => exact ⟨_, _, rfl, h⟩
  | loop h => simp [isObj] at hc

structure Rel (G : Heap) (K : Kn) (β : Heap) (ω : List Nat) (w : World) : Prop where
  holds : ∀ b o d, K.cells b o d → ∃ v, w.cell? ⟨b, o, none⟩ = some v ∧ Rep K d v
  box : ∀ b cs, β b = some cs → ∃ o, w.heap[b]? = some o ∧ BoxAt K cs o
  boxK : ∀ b cs, β b = some cs → ∀ o, K.cells b o = kno
  tok : ∀ t, t ∈ ω → ∃ x, K.tok t = some x ∧ ∀ h, x = some h → ∃ vs e, w.heap[h.b]? = some (.cells vs e (0, 0)) ∧ h.n ≤ h.c ∧ h.off + h.c * h.sz ≤ vs.size ∧ β h.b = none ∧ ∀ o, h.off + h.n * h.sz ≤ o → K.cells h.b o = kno
  tokne : ∀ t u h h', t ∈ ω → u ∈ ω → K.tok t = some (some h) → K.tok u = some (some h') → h.b = h'.b → t = u
  glob : ∀ g cs, G g = some cs → ∀ o d, cs[o]? = some d → K.cells g o d
  free : ∃ N, ∀ t, N ≤ t → K.tok t = none

/-- The blocks that may be written: variables and rows with a token. -/
def owns (K : Kn) (β : Heap) (ω : List Nat) (b : Nat) : Prop := β b ≠ none ∨ ∃ t h, t ∈ ω ∧ K.tok t = some (some h) ∧ h.b = b

/-- How the world has gone on. -/
structure Evo (K : Kn) (β : Heap) (ω : List Nat) (w : World) (K' : Kn) (β' : Heap) (ω' : List Nat) (w' : World) : Prop where
  le : K.le K'
  size : w.heap.size ≤ w'.heap.size
  os : w'.os = w.os
  tape : w'.tape = w.tape
  output : w'.output = w.output
  keep : ∀ b, b < w.heap.size → ¬ owns K β ω b → w'.heap[b]? = w.heap[b]? ∧ (∀ o, K'.cells b o = K.cells b o) ∧ ¬ owns K' β' ω' b
  tok : ∀ t, t ∈ ω' → t ∈ ω ∨ K.tok t = none

theorem Evo.refl (K : Kn) (β : Heap) (ω : List Nat) (w : World) : Evo K β ω w K β ω w := ⟨.refl K, Nat.le_refl _, rfl, rfl, rfl, fun _ _ h => ⟨rfl, fun _ => rfl, h⟩, fun _ h => .inl h⟩

theorem Evo.trans {K K' K'' : Kn} {β β' β'' : Heap} {ω ω' ω'' : List Nat} {w w' w'' : World} (h : Evo K β ω w K' β' ω' w') (h' : Evo K' β' ω' w' K'' β'' ω'' w'') : Evo K β ω w K'' β'' ω'' w'' :=
  ⟨h.le.trans h'.le, Nat.le_trans h.size h'.size, h'.os.trans h.os, h'.tape.trans h.tape, h'.output.trans h.output, fun b hb ho => by
    obtain ⟨a1, a2, a3⟩ := h.keep b hb ho
    obtain ⟨b1, b2, b3⟩ := h'.keep b (Nat.lt_of_lt_of_le hb h.size) a3
    exact ⟨b1.trans a1, fun o => (b2 o).trans (a2 o), b3⟩, fun t ht => by
    rcases h'.tok t ht with h1 | h1
    · exact h.tok t h1
    · refine .inr ?_
      cases hk : K.tok t with
      | none => rfl
      | some x => rw [h.le.tok t x hk] at h1; cases h1⟩

end Go.Proofs.YtgkfcgfobckaaaaV
