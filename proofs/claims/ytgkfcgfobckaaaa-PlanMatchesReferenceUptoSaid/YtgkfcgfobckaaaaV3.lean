/-
  The third text of the program logic: the state of a function's run, and the operations that only compute.
  Conditions: none; it speaks of every program.
-/
import Derived.Test.YtgkfcgfobckaaaaV2
set_option linter.unusedVariables false
set_option linter.unusedSimpArgs false
namespace Go.Proofs.YtgkfcgfobckaaaaV
open Go

/-- Where a function's run stands: what its slots, the variables and the tokens stand for. -/
structure St where
  σ : Nat → D
  β : Heap
  ω : List Nat

def St.put (s : St) (dst : Option Tmp) (d : D) : St :=
  match dst with
  | some t => { s with σ := fun i => if i = t then d else s.σ i }
  | none => s

@[simp] theorem St.put_β (s : St) (dst : Option Tmp) (d : D) : (s.put dst d).β = s.β := by cases dst <;> rfl
@[simp] theorem St.put_ω (s : St) (dst : Option Tmp) (d : D) : (s.put dst d).ω = s.ω := by cases dst <;> rfl
theorem St.put_σ (s : St) (t : Tmp) (d : D) (i : Nat) : (s.put (some t) d).σ i = if i = t then d else s.σ i := rfl
@[simp] theorem St.put_none (s : St) (d : D) : s.put none d = s := rfl

def const1 : Value → D
  | .int k n => .int k n
  | .bool b => .bool b
  | .string s => if s.size ≤ mostLen then .str s else .any
  | .slice none 0 0 => .sl .full []
  | .pointer none => .nilp
  | .nilFunc => .nilfunc
  | .nilIface => .nilif
  | .map none => .nilmap
  | _ => .any

def ofConst : Value → D
  | .agg vs => .agg (vs.toList.map const1)
  | v => const1 v

theorem Rep.empty (K : Kn) : Rep K (.sl .full []) (.slice none 0 0) :=
  .sl (sz := 0) rfl (Nat.le_refl _) (Nat.zero_le _) (fun i x h => by simp at h) rfl

theorem rep_const1 (K : Kn) (v : Value) : Rep K (const1 v) v := by
  unfold const1
  split <;> first
    | exact .int _ _
    | exact .bool _
    | (split <;> first | exact .str _ ‹_› | exact .any _)
    | exact Rep.empty K
    | exact .nilp
    | exact .nilfunc
    | exact .nilif
    | exact .nilmap
    | exact .any _

theorem rep_const1s (K : Kn) : ∀ vs : List Value, RepL K (vs.map const1) vs
  | [] => .nil
  | v :: vs => .cons (rep_const1 K v) (rep_const1s K vs)

theorem rep_const (K : Kn) (v : Value) : Rep K (ofConst v) v := by
  unfold ofConst
  split
  · rename_i vs
    have := Rep.agg (rep_const1s K vs.toList)
    simpa using this
  · exact rep_const1 K _

/-- An operand's value as it stands. -/
def St.raw (G : Heap) (s : St) : Operand → D
  | .tmp t => s.σ t
  | .const v => ofConst v
  | .global g => match G g with
    | some cs => .pf cs
    | none => .pb g 0
  | .func f => .clo (.func f) [] []

def D.strip : D → D
  | .when _ d => d
  | d => d

def D.ok : D → Prop
  | .when c _ => c = true
  | _ => True

theorem Rep.strip {K : Kn} {d : D} {v : Value} (h : Rep K d v) (hc : d.ok) : Rep K d.strip v := by
  cases h with
  | when h h0 => exact h hc
  | _ => simp only [D.strip]; first | exact .any _ | exact .int _ _ | exact .bool _ | exact .str _ ‹_› | exact .sl ‹_› ‹_› ‹_› ‹_› ‹_› | exact .so _ _ _ _ | exact .agg ‹_› | exact .tup ‹_› | exact .pb _ _ | exact .pf ‹_› | exact .nilp | exact .clo ‹_› ‹_› | exact .nilfunc | exact .iface ‹_› | exact .nilif | exact .nilmap

/-- A value behind a guard. -/
def D.wn (c : Bool) : D → D
  | .when c' d => .when (c && c') d
  | d => .when c d
theorem Rep.wn {K : Kn} {c : Bool} {d : D} {v : Value} (h1 : c = true → Rep K d v) (h0 : c = false → v = undef) : Rep K (D.wn c d) v := by
  unfold D.wn
  split
  · rename_i c' d
    cases c with
    | true =>
      cases h1 rfl with
      | when h h' => exact .when h h'
    | false => exact .when (fun h => by cases h) (fun _ => h0 rfl)
  · exact .when h1 h0

/-- A call's argument: what is there for sure is no more said to be guarded. -/
def D.stripT : D → D
  | .when true d => d
  | d => d
theorem Rep.stripT {K : Kn} {d : D} {v : Value} (h : Rep K d v) : Rep K d.stripT v := by
  unfold D.stripT
  split
  · cases h with
    | when h h0 => exact h rfl
  · exact h
def St.arg (G : Heap) (s : St) (x : Operand) : D := (s.raw G x).stripT

/-- An operand's value, and that it is there. -/
def St.ev (G : Heap) (s : St) (x : Operand) : D := (s.raw G x).strip
def St.has (G : Heap) (s : St) (x : Operand) : Prop := (s.raw G x).ok

/-- The deferred calls of a run: marks of loops over functions alone, each with its empty block. -/
def Marks (B : Nat) (w : World) (ds : List Deferred) : Prop :=
  ∃ rs : List Nat, ds = rs.map (fun r => { target := .collected r, args := #[] }) ∧ rs.Nodup ∧ ∀ r ∈ rs, B ≤ r ∧ w.heap[r]? = some (.deferred (some []))

structure SR (G : Heap) (n B : Nat) (K : Kn) (s : St) (a : Act) (w : World) : Prop where
  rel : Rel G K s.β s.ω w
  tmps : ∀ t, Rep K (s.σ t) (a.tmps.getD t undef)
  size : a.tmps.size = n
  marks : Marks B w a.defers

variable {P : Program} {G : Heap} {n B : Nat} {K : Kn} {s : St} {a : Act} {w : World}

theorem SR.raw (h : SR G n B K s a w) (x : Operand) : Rep K (s.raw G x) (a.eval x) := by
  cases x with
  | tmp t => exact h.tmps t
  | const v => exact rep_const K v
  | global g =>
    unfold St.raw Act.eval
    simp only
    cases hg : G g with
    | none => exact .pb g 0
    | some cs => exact .pf fun j y hy => by rw [Nat.zero_add]; exact h.rel.glob g cs hg j y hy
  | func f => exact Rep.clo (vf := []) (vc := []) .nil .nil

theorem SR.ev (h : SR G n B K s a w) (x : Operand) (hx : s.has G x) : Rep K (s.ev G x) (a.eval x) := (h.raw x).strip hx

theorem SR.put (h : SR G n B K s a w) {dst : Option Tmp} {d : D} {v : Value} (hd : Rep K d v) (hn : ∀ t, dst = some t → t < n) : SR G n B K (s.put dst d) (a.put dst v) w := by
  cases dst with
  | none => exact h
  | some t =>
    have ht := hn t rfl
    refine ⟨h.rel, fun i => ?_, by simp [Act.put, h.size], h.marks⟩
    simp only [St.put_σ, Act.put, Array.getD_eq_getD_getElem?, Array.getElem?_setIfInBounds]
    by_cases hi : t = i
    · subst hi
      simp [h.size, ht, hd]
    · have := h.tmps i
      rw [Array.getD_eq_getD_getElem?] at this
      rw [if_neg (fun e => hi e.symm), if_neg hi]
      exact this

/-- A block that is no row of cells and no variable is not the logic's. -/
theorem Rel.not_owns (h : Rel G K s.β s.ω w) {r : Nat} {ds : Option (List Deferred)} (hr : w.heap[r]? = some (.deferred ds)) : ¬ owns K s.β s.ω r := by
  rintro (hb | ⟨t, hd, ht, hk, rfl⟩)
  · cases hc : s.β r with
    | none => exact hb hc
    | some cs =>
      obtain ⟨o, ho, hx⟩ := h.box r cs hc
      rw [hr] at ho; cases ho
      cases hx
  · obtain ⟨vs, e, a2, _⟩ := h.tokAt ht hk
    rw [hr] at a2; cases a2

theorem Marks.keep {K' : Kn} {β' : Heap} {ω' : List Nat} {w' : World} (h : Rel G K s.β s.ω w) (he : Evo K s.β s.ω w K' β' ω' w') {ds : List Deferred} (hm : Marks B w ds) : Marks B w' ds := by
  obtain ⟨rs, h1, h2, h3⟩ := hm
  refine ⟨rs, h1, h2, fun r hr => ?_⟩
  obtain ⟨h4, h5⟩ := h3 r hr
  refine ⟨h4, ?_⟩
  rw [(he.keep r (lt_of_heap h5) (h.not_owns h5)).1]
  exact h5

/-- More is known, memory has gone on, the slots stand. -/
theorem SR.move (h : SR G n B K s a w) {K' : Kn} {β' : Heap} {ω' : List Nat} {w' : World} (he : Evo K s.β s.ω w K' β' ω' w') (hr : Rel G K' β' ω' w') : SR G n B K' { s with β := β', ω := ω' } a w' :=
  ⟨hr, fun t => (h.tmps t).mono he.le, h.size, h.marks.keep h.rel he⟩

/-! ### The program's tables -/
theorem info_of {t : TypeId} {d : TypeDesc} (h : P.underlying t = some d) : ∃ i, P.info? t = some i ∧ P.cellsOf t = i.size := by
  cases hi : P.info? t with
  | none => simp [Program.underlying, hi] at h
  | some i => exact ⟨i, rfl, by simp [Program.cellsOf, hi]⟩

theorem run_size {t : TypeId} {d : TypeDesc} (h : P.underlying t = some d) (w : World) : (sizeOf t).run P w = .ok (P.cellsOf t) w := by
  obtain ⟨i, hi, hs⟩ := info_of h
  simp [sizeOf, typeInfo, hi, hs]

def aggr : TypeDesc → Bool
  | .struct _ | .array _ _ => true
  | _ => false

theorem run_agg {t : TypeId} {d : TypeDesc} (h : P.underlying t = some d) (w : World) : (isAgg t).run P w = .ok (aggr d) w := by
  cases d <;> simp [isAgg, run_underlying h, aggr]

/-! ### Loads -/
/-- Of a type: is it held as a row of cells (a struct, an array), and how many cells. -/
def lk (P : Program) (t : TypeId) : Option (Bool × Nat) :=
  match P.underlying t with
  | some d => some (aggr d, P.cellsOf t)
  | none => none

def vload (P : Program) (t : TypeId) (cs : List D) (o : Nat) : D × Prop :=
  match lk P t with
  | some (true, n) => (.agg ((cs.drop o).take n), o + n ≤ cs.length)
  | some (false, _) => (cs.getD o .any, o < cs.length)
  | none => (.any, False)

theorem lk_some {t : TypeId} {g : Bool} {n : Nat} (h : lk P t = some (g, n)) : ∃ d, P.underlying t = some d ∧ aggr d = g ∧ P.cellsOf t = n := by
  unfold lk at h
  cases hu : P.underlying t with
  | none => simp [hu] at h
  | some d => simp [hu] at h; exact ⟨d, rfl, h.1, h.2⟩

theorem vload_sound {t : TypeId} {cs : List D} {o b off : Nat} (hc : (vload P t cs o).2)
    (hm : ∀ j d, cs[j]? = some d → ∃ v, w.cell? ⟨b, off + j, none⟩ = some v ∧ Rep K d v) :
    ∃ v, (loadVar t ⟨b, off + o, none⟩).run P w = .ok v w ∧ Rep K (vload P t cs o).1 v := by
  unfold vload at hc ⊢
  split at hc
  · rename_i n hl
    obtain ⟨d, hu, hd, hn⟩ := lk_some hl
    let vs : List Value := (List.range n).map fun j => (w.cell? ⟨b, off + o + j, none⟩).getD undef
    have hv : ∀ j, j < n → w.cell? ⟨b, off + o + j, none⟩ = some ((w.cell? ⟨b, off + o + j, none⟩).getD undef) := fun j hj => by
      obtain ⟨v, hv, _⟩ := hm (o + j) _ (List.getElem?_eq_getElem (show o + j < cs.length by omega))
      rw [← Nat.add_assoc] at hv
      rw [hv]; rfl
    have hload := run_loadCells (P := P) w ⟨b, off + o, none⟩ n (fun j => (w.cell? ⟨b, off + o + j, none⟩).getD undef) (fun j hj => by rw [Addr.add_lit]; exact hv j hj)
    refine ⟨.agg vs.toArray, by simp [loadVar, run_agg hu, hd, run_size hu, hn, hload, vs], .agg (RepL.of_get (by simp [vs]; omega) fun i d' v' hd' hv' => ?_)⟩
    rw [List.getElem?_take] at hd'
    split at hd'
    · rename_i hi
      rw [List.getElem?_drop] at hd'
      obtain ⟨v, hv1, hv2⟩ := hm (o + i) d' hd'
      rw [← Nat.add_assoc] at hv1
      simp [vs, hi, hv1] at hv'
      exact hv' ▸ hv2
    · cases hd'
  · rename_i n hl
    obtain ⟨d, hu, hd, hn⟩ := lk_some hl
    obtain ⟨v, hv1, hv2⟩ := hm o _ (List.getElem?_eq_getElem hc)
    have hc' : o < cs.length := hc
    exact ⟨v, by simp [loadVar, run_agg hu, hd, hv1], by simpa [hc'] using hv2⟩
  · exact hc.elim

/-! ### '==' of structs -/
theorem part_sound {t : TypeId} {cs : List D} {vs : List Value} {o : Nat} (hr : RepL K cs vs) (hc : (vload P t cs o).2) (w : World) :
    ∃ v, (part t vs.toArray o).run P w = .ok v w ∧ Rep K (vload P t cs o).1 v := by
  unfold vload at hc ⊢
  split at hc
  · rename_i n hl
    obtain ⟨d, hu, hd, hn⟩ := lk_some hl
    refine ⟨.agg ((vs.drop o).take n).toArray, ?_, .agg ((hr.drop o).take n)⟩
    simp [part, run_agg hu, hd, run_size hu, hn, List.extract_eq_take_drop]
  · rename_i n hl
    obtain ⟨d, hu, hd, hn⟩ := lk_some hl
    have hc' : o < cs.length := hc
    obtain ⟨v, hv1, hv2⟩ := hr.get o _ (List.getElem?_eq_getElem hc')
    exact ⟨v, by simp [part, run_agg hu, hd, hv1], by simpa [hc'] using hv2⟩
  · exact hc.elim


mutual
/-- '==' of values of a type made of numbers, strings, truth values and structs of such. -/
def eqv (P : Program) : Nat → TypeId → D → D → Bool × Prop
  | 0, _, _, _ => (false, False)
  | n + 1, t, x, y => match P.underlying t with
    | some .bool => match x, y with
      | .bool a, .bool b => (a == b, True)
      | _, _ => (false, False)
    | some (.int _) => match x, y with
      | .int k a, .int k' b => (a == b, k = k')
      | _, _ => (false, False)
    | some .string => match x, y with
      | .str a, .str b => (a == b, True)
      | _, _ => (false, False)
    | some (.struct fs) => match x, y with
      | .agg xs, .agg ys => ((eqF P n fs.toList xs ys).1, P.stoodInHeld t = false ∧ (eqF P n fs.toList xs ys).2)
      | _, _ => (false, False)
    | _ => (false, False)
def eqF (P : Program) : Nat → List Field → List D → List D → Bool × Prop
  | _, [], _, _ => (true, True)
  | n, f :: r, xs, ys => ((eqv P n f.type (vload P f.type xs f.offset).1 (vload P f.type ys f.offset).1).1 && (eqF P n r xs ys).1,
      (f.name ≠ "_" ∧ (vload P f.type xs f.offset).2 ∧ (vload P f.type ys f.offset).2 ∧ (eqv P n f.type (vload P f.type xs f.offset).1 (vload P f.type ys f.offset).1).2) ∧ (eqF P n r xs ys).2)
end

theorem eqF_sound {n k : Nat} {xs ys : List D} {us vs : List Value} (hx : RepL K xs us) (hy : RepL K ys vs) (w : World)
    (IH : ∀ (t : TypeId) (x y : D) (u v : Value), Rep K x u → Rep K y v → (eqv P n t x y).2 → (Op.equalIn (k + n) t u v).run P w = .ok (eqv P n t x y).1 w) :
    ∀ fs : List Field, (eqF P n fs xs ys).2 →
    (do for f in fs do
          if f.name ≠ "_" then
            if !(← Op.equalIn (k + n) f.type (← part f.type us.toArray f.offset) (← part f.type vs.toArray f.offset)) then return false
        pure true : Sem Bool).run P w = .ok (eqF P n fs xs ys).1 w
  | [], _ => by simp [eqF]
  | f :: r, hc => by
    simp only [eqF] at hc ⊢
    obtain ⟨⟨h1, h2, h3, h4⟩, h5⟩ := hc
    obtain ⟨u, p1, p2⟩ := part_sound hx h2 w
    obtain ⟨v, q1, q2⟩ := part_sound hy h3 w
    have e := IH f.type _ _ u v p2 q2 h4
    have ih := eqF_sound hx hy w IH r h5
    cases hb : (eqv P n f.type (vload P f.type xs f.offset).1 (vload P f.type ys f.offset).1).1 with
    | false =>
      rw [hb] at e
      simp [h1, p1, q1, e]
    | true =>
      rw [hb] at e
      simp only [Bool.true_and]
      rw [← ih]
      simp [h1, p1, q1, e]

theorem eqv_sound (w : World) : ∀ (n k : Nat) (t : TypeId) (x y : D) (u v : Value), Rep K x u → Rep K y v → (eqv P n t x y).2 → (Op.equalIn (k + n) t u v).run P w = .ok (eqv P n t x y).1 w
  | 0, k, t, x, y, u, v, hx, hy, hc => by simp [eqv] at hc
  | n + 1, k, t, x, y, u, v, hx, hy, hc => by
    have e0 : k + (n + 1) = (k + n) + 1 := rfl
    rw [e0]
    unfold eqv at hc ⊢
    split at hc <;> rename_i hu <;> (try simp only [hu] at hc ⊢)
    · split at hc
      · cases hx; cases hy
        simp only [Op.equalIn, Sem.run_bind, run_underlying hu, Result.andThen_ok]; rfl
      · exact hc.elim
    · split at hc
      · cases hx; cases hy
        obtain rfl := hc
        simp [Op.equalIn, Sem.run_bind, run_underlying hu, Result.andThen_ok]
      · exact hc.elim
    · split at hc
      · cases hx; cases hy
        simp only [Op.equalIn, Sem.run_bind, run_underlying hu, Result.andThen_ok]; rfl
      · exact hc.elim
    · split at hc
      · rename_i xs ys
        cases hx; cases hy
        rename_i us hus vs hvs
        obtain ⟨h1, h2⟩ := hc
        have := eqF_sound (k := k) hus hvs w (fun t x y u v hx hy hc => eqv_sound w n k t x y u v hx hy hc) _ h2
        rw [← this]
        have hp : (program : Sem Program).run P w = .ok P w := rfl
        simp [Op.equalIn, run_underlying hu, h1, hp]
      · exact hc.elim

/-! ### Numbers, strings, truth values -/
def vint (op : BinOp) (k : IntKind) (x y : Int) : D × Prop :=
  match op with
  | .add => (.int k (k.wrap (x + y)), True)
  | .sub => (.int k (k.wrap (x - y)), True)
  | .mul => (.int k (k.wrap (x * y)), True)
  | .quo => (.int k (k.wrap (x.tdiv y)), y ≠ 0)
  | .rem => (.int k (x.tmod y), y ≠ 0)
  | .and => (.int k (k.wrap ((BitVec.ofInt k.bits x &&& BitVec.ofInt k.bits y).toNat : Int)), True)
  | .or => (.int k (k.wrap ((BitVec.ofInt k.bits x ||| BitVec.ofInt k.bits y).toNat : Int)), True)
  | .xor => (.int k (k.wrap ((BitVec.ofInt k.bits x ^^^ BitVec.ofInt k.bits y).toNat : Int)), True)
  | .andNot => (.int k (k.wrap ((BitVec.ofInt k.bits x &&& ~~~ BitVec.ofInt k.bits y).toNat : Int)), True)
  | .eql => (.bool (x == y), True)
  | .neq => (.bool (x != y), True)
  | .lss => (.bool (decide (x < y)), True)
  | .leq => (.bool (decide (x ≤ y)), True)
  | .gtr => (.bool (decide (x > y)), True)
  | .geq => (.bool (decide (x ≥ y)), True)
  | .shl | .shr => (.any, False)

def vstr (op : BinOp) (x y : ByteArray) : D × Prop :=
  match op with
  | .add => (.str (x ++ y), x.size + y.size ≤ mostLen)
  | .eql => (.bool (x.toList == y.toList), True)
  | .neq => (.bool (!(x.toList == y.toList)), True)
  | .lss => (.bool (Op.bytesLess x.toList y.toList), True)
  | .leq => (.bool (Op.bytesLess x.toList y.toList || x.toList == y.toList), True)
  | .gtr => (.bool (!(Op.bytesLess x.toList y.toList || x.toList == y.toList)), True)
  | .geq => (.bool (!(Op.bytesLess x.toList y.toList)), True)
  | _ => (.any, False)

def litNil : Operand → Bool
  | .const _ => true
  | _ => false

/-- '==' of what is no number and no string. -/
def veq (P : Program) (t : TypeId) (lit : Bool) : D → D → Bool × Prop
  | .bool a, y => match y with
    | .bool b => (a == b, P.underlying t = some .bool)
    | _ => (false, False)
  | .nilif, y => match y with
    | .nilif => (true, lit = true ∧ ∃ ms, P.underlying t = some (.interface ms))
    | .iface _ _ => (false, ∃ ms, P.underlying t = some (.interface ms))
    | _ => (false, False)
  | .iface t1 d1, y => match y with
    | .nilif => (false, ∃ ms, P.underlying t = some (.interface ms))
    | .iface t2 d2 => match d1 with
      | .int k1 n1 => match d2 with
        | .int k2 n2 => (if t1 = t2 then n1 == n2 else false, (∃ ms, P.underlying t = some (.interface ms)) ∧ (t1 = t2 → k1 = k2 ∧ P.underlying t1 = some (.int k1) ∧ (P.info? t1).map (·.comparable) = some true))
        | _ => (false, False)
      | _ => (false, False)
    | _ => (false, False)
  | .nilp, y => match y with
    | .nilp => (true, ∃ e, P.underlying t = some (.pointer e))
    | .pb _ _ => (false, ∃ e, P.underlying t = some (.pointer e))
    | .pf _ => (false, ∃ e, P.underlying t = some (.pointer e))
    | _ => (false, False)
  | .pb _ _, y => match y with
    | .nilp => (false, ∃ e, P.underlying t = some (.pointer e))
    | _ => (false, False)
  | .pf _, y => match y with
    | .nilp => (false, ∃ e, P.underlying t = some (.pointer e))
    | _ => (false, False)
  | .nilfunc, y => match y with
    | .nilfunc => (true, ∃ p r v, P.underlying t = some (.func p r v))
    | .clo _ _ _ => (false, ∃ p r v, P.underlying t = some (.func p r v))
    | _ => (false, False)
  | .clo _ _ _, y => match y with
    | .nilfunc => (false, ∃ p r v, P.underlying t = some (.func p r v))
    | _ => (false, False)
  | .agg xs, .agg ys => ((eqv P 6 t (.agg xs) (.agg ys)).1, (eqv P 6 t (.agg xs) (.agg ys)).2 ∧ P.eqGuardType P.depth t = false)
  | _, _ => (false, False)

def veqop (op : BinOp) (r : Bool × Prop) : D × Prop :=
  match op with
  | .eql => (.bool r.1, r.2)
  | .neq => (.bool (!r.1), r.2)
  | _ => (.any, False)

def vbin (P : Program) (op : BinOp) (t : TypeId) (lit : Bool) (x y : D) : D × Prop :=
  match x, y with
  | .int k p, .int k' q =>
    match op with
    | .shl => (.int k (k.wrap (p * 2 ^ (min q.toNat k.bits))), 0 ≤ q)
    | .shr => (.int k (p.fdiv (2 ^ (min q.toNat k.bits))), 0 ≤ q)
    | op => ((vint op k p q).1, k = k' ∧ (vint op k p q).2)
  | .str p, .str q => vstr op p q
  | x, y => veqop op (veq P t lit x y)

theorem vint_sound {op : BinOp} {t : TypeId} {k : IntKind} {x y : Int} (hc : (vint op k x y).2) (w : World) :
    ∃ v, (binOp op t (.int k x) (.int k y)).run P w = .ok v w ∧ Rep K (vint op k x y).1 v := by
  cases op <;> simp only [vint] at hc ⊢ <;> first
    | exact hc.elim
    | (refine ⟨_, by simp only [binOp, Op.intArith, Op.intBits, Op.intCmp, Op.intDiv, ne_eq, not_true_eq_false, if_false, hc]; rfl, ?_⟩; first | exact .int _ _ | exact .bool _)

theorem vstr_sound {op : BinOp} {t : TypeId} {x y : ByteArray} (hc : (vstr op x y).2) (w : World) :
    ∃ v, (binOp op t (.string x) (.string y)).run P w = .ok v w ∧ Rep K (vstr op x y).1 v := by
  cases op <;> simp only [vstr] at hc ⊢ <;> first
    | exact hc.elim
    | exact ⟨_, rfl, .bool _⟩
    | (have h1 : ¬ (((x.size + y.size : Nat) : Int) > IntKind.i64.max) := by
         have : IntKind.i64.max = 9223372036854775807 := by decide
         unfold mostLen at hc
         omega
       exact ⟨_, by simp only [binOp, Op.stringOp, if_neg h1]; rfl, .str _ (by simpa using hc)⟩)

theorem vshift_sound {op : BinOp} {t : TypeId} {k k' : IntKind} {x y : Int} (ho : op = .shl ∨ op = .shr) (hc : 0 ≤ y) (w : World) :
    ∃ v, (binOp op t (.int k x) (.int k' y)).run P w = .ok v w ∧ Rep K (if op = .shl then .int k (k.wrap (x * 2 ^ (min y.toNat k.bits))) else .int k (x.fdiv (2 ^ (min y.toNat k.bits)))) v := by
  have h : ¬ y < 0 := by omega
  rcases ho with rfl | rfl
  · exact ⟨_, by simp only [binOp, Op.shift, if_neg h]; rfl, .int _ _⟩
  · exact ⟨_, by simp only [binOp, Op.shift, if_neg h]; rfl, .int _ _⟩

theorem equal_in (t : TypeId) (x y : Value) : Op.equal t x y = Op.equalIn (9998 + 2) t x y := rfl

theorem run_eqlIface {t t1 t2 : TypeId} {k1 k2 : IntKind} {n1 n2 : Int} (hi : ∃ ms, P.underlying t = some (.interface ms)) (h : t1 = t2 → k1 = k2 ∧ P.underlying t1 = some (.int k1) ∧ (P.info? t1).map (·.comparable) = some true) (d : Nat) (w : World) :
    (Op.equalIn (d + 2) t (.iface t1 (.int k1 n1)) (.iface t2 (.int k2 n2))).run P w = .ok (if t1 = t2 then n1 == n2 else false) w := by
  obtain ⟨ms, hi⟩ := hi
  by_cases e : t1 = t2
  · obtain ⟨rfl, h2, h3⟩ := h e
    subst e
    obtain ⟨i, h4, h5⟩ := Option.map_eq_some_iff.1 h3
    simp [Op.equalIn, run_underlying hi, typeInfo, h4, h5, run_underlying h2]
  · simp [Op.equalIn, run_underlying hi, e]

/-- A value that is no number and no string and no address: '==' goes to 'equal'. -/
def eqPlain : Value → Value → Bool
  | .bool _, _ => true
  | .nilIface, _ => true
  | .iface _ _, _ => true
  | .pointer none, .pointer none => true
  | .pointer none, .pointer (some _) => true
  | .pointer (some _), .pointer none => true
  | .nilFunc, _ => true
  | .func _ _ _, _ => true
  | .agg _, .agg _ => true
  | _, _ => false

theorem binOp_eq {t : TypeId} {u v : Value} (h : eqPlain u v = true) :
    binOp .eql t u v = (do let b ← Op.equal t u v; pure (.bool b)) ∧ binOp .neq t u v = (do let b ← Op.equal t u v; pure (.bool (!b))) := by
  unfold eqPlain at h
  split at h <;> first | (constructor <;> rfl) | cases h

theorem guard_ok {t : TypeId} {op : BinOp} {xo yo : Operand} {u v : Value} (h : (∀ a, u ≠ .agg a)) (h' : u ≠ .nilIface ∨ v ≠ .nilIface) (w : World) : (eqGuard op t xo yo u v).run P w = .ok () w := by
  cases op <;> first
    | rfl
    | (cases u <;> first
        | rfl
        | exact absurd rfl (h _)
        | (cases v <;> first | rfl | (rcases h' with h' | h' <;> exact absurd rfl h')))

theorem guard_lit {t : TypeId} {op : BinOp} {xo yo : Operand} (h : (litNil xo || litNil yo) = true) (w : World) : (eqGuard op t xo yo .nilIface .nilIface).run P w = .ok () w := by
  cases op <;> first
    | rfl
    | (cases xo <;> cases yo <;> first | rfl | simp [litNil] at h)

theorem guard_agg {t : TypeId} {op : BinOp} {xo yo : Operand} {a b : Array Value} (h : P.eqGuardType P.depth t = false) (w : World) : (eqGuard op t xo yo (.agg a) (.agg b)).run P w = .ok () w := by
  have hp : (program : Sem Program).run P w = .ok P w := rfl
  cases op <;> first
    | rfl
    | simp [eqGuard, hp, h]

theorem eqIn_bool {t : TypeId} (h : P.underlying t = some .bool) (d : Nat) (a b : Bool) (w : World) : (Op.equalIn (d + 1) t (.bool a) (.bool b)).run P w = .ok (a == b) w := by
  simp only [Op.equalIn, Sem.run_bind, run_underlying h, Result.andThen_ok]; rfl

theorem eqIn_iface {t : TypeId} {ms : Array (String × TypeId)} (h : P.underlying t = some (.interface ms)) (d : Nat) (u : TypeId) (v : Value) (w : World) :
    (Op.equalIn (d + 1) t .nilIface .nilIface).run P w = .ok true w ∧ (Op.equalIn (d + 1) t .nilIface (.iface u v)).run P w = .ok false w ∧ (Op.equalIn (d + 1) t (.iface u v) .nilIface).run P w = .ok false w := by
  refine ⟨?_, ?_, ?_⟩ <;> (simp only [Op.equalIn, Sem.run_bind, run_underlying h, Result.andThen_ok]; rfl)

theorem eqIn_ptr {t e : TypeId} (h : P.underlying t = some (.pointer e)) (d : Nat) (a : Addr) (w : World) :
    (Op.equalIn (d + 1) t (.pointer none) (.pointer none)).run P w = .ok true w ∧ (Op.equalIn (d + 1) t (.pointer none) (.pointer (some a))).run P w = .ok false w ∧ (Op.equalIn (d + 1) t (.pointer (some a)) (.pointer none)).run P w = .ok false w := by
  refine ⟨?_, ?_, ?_⟩ <;> (simp only [Op.equalIn, Sem.run_bind, run_underlying h, Result.andThen_ok]; rfl)

theorem eqIn_func {t : TypeId} {p r : Array TypeId} {f : Bool} (h : P.underlying t = some (.func p r f)) (d : Nat) (fn : Fn) (a b : Array Value) (w : World) :
    (Op.equalIn (d + 1) t .nilFunc .nilFunc).run P w = .ok true w ∧ (Op.equalIn (d + 1) t .nilFunc (.func fn a b)).run P w = .ok false w ∧ (Op.equalIn (d + 1) t (.func fn a b) .nilFunc).run P w = .ok false w := by
  refine ⟨?_, ?_, ?_⟩ <;> (simp only [Op.equalIn, Sem.run_bind, run_underlying h, Result.andThen_ok]; rfl)

/-- What is asked of '==' at two values: it comes to r, it is no comparison of numbers, strings or addresses, its guard lets it by. -/
structure EqRuns (P : Program) (t : TypeId) (lit : Bool) (r : Bool) (u v : Value) (w : World) : Prop where
  eq : (Op.equalIn (9998 + 2) t u v).run P w = .ok r w
  plain : eqPlain u v = true
  guard : (u = .nilIface ∧ v = .nilIface ∧ lit = true) ∨ ((∀ a, u ≠ .agg a) ∧ (u ≠ .nilIface ∨ v ≠ .nilIface)) ∨ (∃ a b, u = .agg a ∧ v = .agg b ∧ P.eqGuardType P.depth t = false)

theorem veq_sound {t : TypeId} {lit : Bool} {x y : D} {u v : Value} (hx : Rep K x u) (hy : Rep K y v) (hc : (veq P t lit x y).2) (w : World) : EqRuns P t lit (veq P t lit x y).1 u v w := by
  cases hx with
  | bool a =>
    cases hy with
    | bool b => exact ⟨eqIn_bool hc 9999 a b w, rfl, .inr (.inl ⟨(fun _ e => by cases e), .inl (fun e => by cases e)⟩)⟩
    | _ => exact False.elim hc
  | nilif =>
    cases hy with
    | nilif => exact ⟨by obtain ⟨_, ms, he⟩ := hc; exact (eqIn_iface he 9999 0 .nilFunc w).1, rfl, .inl ⟨rfl, rfl, hc.1⟩⟩
    | iface h => exact ⟨by obtain ⟨ms, he⟩ := hc; exact (eqIn_iface he 9999 _ _ w).2.1, rfl, .inr (.inl ⟨(fun _ e => by cases e), .inr (fun e => by cases e)⟩)⟩
    | _ => exact False.elim hc
  | iface hx =>
    cases hy with
    | nilif => exact ⟨by obtain ⟨ms, he⟩ := (show ∃ ms, P.underlying t = some (.interface ms) from hc); exact (eqIn_iface he 9999 _ _ w).2.2, rfl, .inr (.inl ⟨(fun _ e => by cases e), .inl (fun e => by cases e)⟩)⟩
    | iface hy =>
      cases hx with
      | int k1 n1 =>
        cases hy with
        | int k2 n2 => exact ⟨run_eqlIface hc.1 hc.2 9998 w, rfl, .inr (.inl ⟨(fun _ e => by cases e), .inl (fun e => by cases e)⟩)⟩
        | _ => exact False.elim hc
      | _ => exact False.elim hc
    | _ => exact False.elim hc
  | nilp =>
    cases hy with
    | nilp => exact ⟨by obtain ⟨ms, he⟩ := hc; exact (eqIn_ptr he 9999 ⟨0, 0, none⟩ w).1, rfl, .inr (.inl ⟨(fun _ e => by cases e), .inl (fun e => by cases e)⟩)⟩
    | pb b o => exact ⟨by obtain ⟨ms, he⟩ := hc; exact (eqIn_ptr he 9999 _ w).2.1, rfl, .inr (.inl ⟨(fun _ e => by cases e), .inl (fun e => by cases e)⟩)⟩
    | pf h => exact ⟨by obtain ⟨ms, he⟩ := hc; exact (eqIn_ptr he 9999 _ w).2.1, rfl, .inr (.inl ⟨(fun _ e => by cases e), .inl (fun e => by cases e)⟩)⟩
    | _ => exact False.elim hc
  | pb b o =>
    cases hy with
    | nilp => exact ⟨by obtain ⟨ms, he⟩ := hc; exact (eqIn_ptr he 9999 _ w).2.2, rfl, .inr (.inl ⟨(fun _ e => by cases e), .inl (fun e => by cases e)⟩)⟩
    | _ => exact False.elim hc
  | pf h =>
    cases hy with
    | nilp => exact ⟨by obtain ⟨ms, he⟩ := hc; exact (eqIn_ptr he 9999 _ w).2.2, rfl, .inr (.inl ⟨(fun _ e => by cases e), .inl (fun e => by cases e)⟩)⟩
    | _ => exact False.elim hc
  | nilfunc =>
    cases hy with
    | nilfunc => exact ⟨by obtain ⟨p, r, f, he⟩ := hc; exact (eqIn_func he 9999 (.func 0) #[] #[] w).1, rfl, .inr (.inl ⟨(fun _ e => by cases e), .inl (fun e => by cases e)⟩)⟩
    | clo h1 h2 => exact ⟨by obtain ⟨p, r, f, he⟩ := hc; exact (eqIn_func he 9999 _ _ _ w).2.1, rfl, .inr (.inl ⟨(fun _ e => by cases e), .inl (fun e => by cases e)⟩)⟩
    | _ => exact False.elim hc
  | clo h1 h2 =>
    cases hy with
    | nilfunc => exact ⟨by obtain ⟨p, r, f, he⟩ := hc; exact (eqIn_func he 9999 _ _ _ w).2.2, rfl, .inr (.inl ⟨(fun _ e => by cases e), .inl (fun e => by cases e)⟩)⟩
    | _ => exact False.elim hc
  | agg hus =>
    cases hy with
    | agg hvs => exact ⟨eqv_sound w 6 9994 t _ _ _ _ (.agg hus) (.agg hvs) hc.1, rfl, .inr (.inr ⟨_, _, rfl, rfl, hc.2⟩)⟩
    | _ => exact False.elim hc
  | _ => exact False.elim hc

theorem vbin_eq {t : TypeId} {xo yo : Operand} {x y : D} {u v : Value} (hx : Rep K x u) (hy : Rep K y v) (hc : (veq P t (litNil xo || litNil yo) x y).2) (w : World) :
    (do eqGuard .eql t xo yo u v; binOp .eql t u v : Sem Value).run P w = .ok (.bool (veq P t (litNil xo || litNil yo) x y).1) w ∧
    (do eqGuard .neq t xo yo u v; binOp .neq t u v : Sem Value).run P w = .ok (.bool (!(veq P t (litNil xo || litNil yo) x y).1)) w := by
  obtain ⟨h1, h2, h3⟩ := veq_sound hx hy hc w
  obtain ⟨h4, h5⟩ := binOp_eq (t := t) h2
  have hg : ∀ op, (eqGuard op t xo yo u v).run P w = .ok () w := fun op => by
    rcases h3 with ⟨rfl, rfl, h3⟩ | ⟨h3, h3'⟩ | ⟨a, b, rfl, rfl, h3⟩
    · exact guard_lit h3 w
    · exact guard_ok h3 h3' w
    · exact guard_agg h3 w
  have he : (Op.equal t u v).run P w = .ok (veq P t (litNil xo || litNil yo) x y).1 w := by rw [equal_in]; exact h1
  constructor
  · rw [h4]; simp only [Sem.run_bind, hg, he, Result.andThen_ok]; rfl
  · rw [h5]; simp only [Sem.run_bind, hg, he, Result.andThen_ok]; rfl

theorem vbin_sound {op : BinOp} {t : TypeId} {xo yo : Operand} {x y : D} {u v : Value} (hx : Rep K x u) (hy : Rep K y v) (hc : (vbin P op t (litNil xo || litNil yo) x y).2) (w : World) :
    ∃ r, (do eqGuard op t xo yo u v; binOp op t u v : Sem Value).run P w = .ok r w ∧ Rep K (vbin P op t (litNil xo || litNil yo) x y).1 r := by
  have hpl : ∀ {u v : Value}, (∀ a, u ≠ .agg a) → (u ≠ .nilIface) → (∃ r, (binOp op t u v).run P w = .ok r w ∧ Rep K (vbin P op t (litNil xo || litNil yo) x y).1 r) → ∃ r, (do eqGuard op t xo yo u v; binOp op t u v : Sem Value).run P w = .ok r w ∧ Rep K (vbin P op t (litNil xo || litNil yo) x y).1 r := by
    intro u v h1 h2 ⟨r, h3, h4⟩
    exact ⟨r, by simp only [Sem.run_bind, guard_ok (P := P) (t := t) (op := op) (xo := xo) (yo := yo) h1 (.inl h2) w, h3, Result.andThen_ok], h4⟩
  by_cases hi : ∃ k p k' q, x = .int k p ∧ y = .int k' q
  · obtain ⟨k, p, k', q, rfl, rfl⟩ := hi
    cases hx; cases hy
    refine hpl (fun _ => by simp) (by simp) ?_
    by_cases hs : op = .shl ∨ op = .shr
    · have hq : 0 ≤ q := by rcases hs with rfl | rfl <;> exact hc
      obtain ⟨r, h1, h2⟩ := vshift_sound (P := P) (K := K) (t := t) (k := k) (k' := k') (x := p) hs hq w
      refine ⟨r, h1, ?_⟩
      rcases hs with rfl | rfl
      · simpa [vbin] using h2
      · simpa [vbin] using h2
    · have hop : vbin P op t (litNil xo || litNil yo) (.int k p) (.int k' q) = ((vint op k p q).1, k = k' ∧ (vint op k p q).2) := by
        cases op <;> first | rfl | simp at hs
      rw [hop] at hc ⊢
      obtain ⟨rfl, hc⟩ := hc
      exact vint_sound hc w
  by_cases hs : ∃ p q, x = .str p ∧ y = .str q
  · obtain ⟨p, q, rfl, rfl⟩ := hs
    cases hx; cases hy
    exact hpl (fun _ => by simp) (by simp) (vstr_sound (show (vstr op p q).2 from hc) w)
  have hv : vbin P op t (litNil xo || litNil yo) x y = veqop op (veq P t (litNil xo || litNil yo) x y) := by
    clear hc hpl
    unfold vbin
    split
    · exact absurd ⟨_, _, _, _, rfl, rfl⟩ hi
    · exact absurd ⟨_, _, rfl, rfl⟩ hs
    · rfl
  rw [hv] at hc ⊢
  cases op <;> first
    | exact ⟨_, (vbin_eq hx hy hc w).1, .bool _⟩
    | exact ⟨_, (vbin_eq hx hy hc w).2, .bool _⟩
    | exact hc.elim

end Go.Proofs.YtgkfcgfobckaaaaV
