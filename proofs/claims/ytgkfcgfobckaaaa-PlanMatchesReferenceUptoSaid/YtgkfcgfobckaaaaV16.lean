/-
  The sixteenth text of the program logic: an operation looks at its operands alone; operations of a region whose order is drawn.
  Conditions: none; it speaks of every program.
-/
import Derived.Test.YtgkfcgfobckaaaaV15
import Derived.OrdersIn
set_option linter.unusedVariables false
set_option linter.unusedSimpArgs false
namespace Go.Proofs.YtgkfcgfobckaaaaV
open Go

variable {P : Program} {G : Heap} {n B : Nat} {K : Kn} {s s' : St} {a : Act} {w : World}

/-- The two states agree on an operand. -/
def Same (G : Heap) (s s' : St) (xs : List Operand) : Prop := ∀ x ∈ xs, s'.raw G x = s.raw G x

theorem Same.raws {xs : List Operand} (h : Same G s s' xs) : xs.map (s'.raw G) = xs.map (s.raw G) := List.map_congr_left h
theorem Same.argsT {xs : List Operand} (h : Same G s s' xs) : xs.map (s'.arg G) = xs.map (s.arg G) := List.map_congr_left fun x hx => by unfold St.arg; rw [h x hx]
theorem Same.evs {xs : List Operand} (h : Same G s s' xs) : xs.map (s'.ev G) = xs.map (s.ev G) := List.map_congr_left fun x hx => by unfold St.ev; rw [h x hx]
theorem Same.hass {xs : List Operand} (h : Same G s s' xs) : s'.hasAll G xs = s.hasAll G xs := by
  unfold St.hasAll St.has
  exact propext ⟨fun hh x hx => by rw [← h x hx]; exact hh x hx, fun hh x hx => by rw [h x hx]; exact hh x hx⟩
theorem Same.ev {x : Operand} {xs : List Operand} (h : Same G s s' xs) (hx : x ∈ xs) : s'.ev G x = s.ev G x := by unfold St.ev; rw [h x hx]
theorem Same.has {x : Operand} {xs : List Operand} (h : Same G s s' xs) (hx : x ∈ xs) : s'.has G x = s.has G x := by unfold St.has; rw [h x hx]
theorem Same.parts {ps : List (Nat × Operand)} (h : Same G s s' (ps.map (·.2))) : (ps.map fun p => (p.1, s'.ev G p.2)) = ps.map fun p => (p.1, s.ev G p.2) :=
  List.map_congr_left fun p hp => by
    have := h p.2 (List.mem_map.2 ⟨p, hp, rfl⟩)
    unfold St.ev
    rw [this]

/-- The operands of an operation, as a list. -/
def opers (o : Oper) : List Operand := o.op.operands.toList

theorem pv_same {o : Oper} (hb : s'.β = s.β) (h : Same G s s' (opers o)) : pv P G s' o = pv P G s o := by
  obtain ⟨dst, op, ty, pos, after, guard⟩ := o
  cases op <;> simp only [opers, Op.operands] at h <;> simp only [pv]
  case move x => rw [h x (by simp)]
  case assign x => rw [h x (by simp)]
  case pick c x y => rw [h.ev (x := c) (by simp), h.has (x := c) (by simp), h x (by simp), h y (by simp)]
  case load t x => rw [h.ev (x := x) (by simp), h.has (x := x) (by simp), hb]
  case nilCheck x => rw [h.ev (x := x) (by simp), h.has (x := x) (by simp)]
  case binOp op t x y u => rw [h.ev (x := x) (by simp), h.has (x := x) (by simp), h.ev (x := y) (by simp), h.has (x := y) (by simp)]
  case unOp op t x => rw [h.ev (x := x) (by simp), h.has (x := x) (by simp)]
  case convert t u x => rw [h.ev (x := x) (by simp), h.has (x := x) (by simp)]
  case makeInterface t x => rw [h.ev (x := x) (by simp), h.has (x := x) (by simp)]
  case makeFunc fn f c =>
    have h1 : Same G s s' f.toList := fun x hx => h x (by simp at hx ⊢; exact .inl hx)
    have h2 : Same G s s' c.toList := fun x hx => h x (by simp at hx ⊢; exact .inr hx)
    rw [h1.raws, h2.raws]
  case slice t x lo hi mx =>
    have h1 : Same G s s' (lo.toList ++ hi.toList ++ mx.toList) := fun y hy => h y (by simp at hy ⊢; simp [hy])
    have e : ∀ z : Option Operand, Same G s s' z.toList → z.map (s'.ev G) = z.map (s.ev G) := fun z hz => by
      cases z with
      | none => rfl
      | some z => simp [hz.ev (x := z) (by simp)]
    rw [h.ev (x := x) (by simp), h.has (x := x) (by simp), h1.hass, e lo fun y hy => h1 y (by simp [hy]), e hi fun y hy => h1 y (by simp [hy]), e mx fun y hy => h1 y (by simp [hy])]
  case fieldAddr t x f => rw [h.ev (x := x) (by simp), h.has (x := x) (by simp)]
  case field t x f => rw [h.ev (x := x) (by simp), h.has (x := x) (by simp)]
  case indexAddr t x i => rw [h.ev (x := x) (by simp), h.has (x := x) (by simp), h.ev (x := i) (by simp), h.has (x := i) (by simp)]
  case index t x i => rw [h.ev (x := x) (by simp), h.has (x := x) (by simp), h.ev (x := i) (by simp), h.has (x := i) (by simp)]
  case extract x i => rw [h.ev (x := x) (by simp), h.has (x := x) (by simp)]
  case build t ps =>
    have h1 : Same G s s' (ps.toList.map (·.2)) := fun y hy => h y (by simpa using hy)
    rw [h1.hass, h1.parts]
  case call c =>
    have h1 : Same G s s' c.args.toList := fun x hx => h x (by simp only [Call.operands, Array.toList_append, List.mem_append]; exact .inr hx)
    cases c.callee <;> simp only [h1.evs, h1.hass]

/-- What kind of operation is it, in a region whose order is drawn? -/
inductive Cls where
  | e | r | c | t | a | s | no
  deriving DecidableEq

def cls : Op → Cls
  | .load .. => .r
  | .alloc _ | .box .. | .makeSlice .. => .a
  | .store .. => .s
  | .call c => match c.callee with
    | .value _ => .c
    | .builtin b => match b with
      | .append => .t
      | .copy => .no
      | _ => .e
    | .invoke _ _ => .no
  | .panic _ | .defer _ | .go _ => .no
  | _ => .e

/-- The value of an operation that only computes; a literal's row is none the less of the memory that is known. -/
def pu (P : Program) (G : Heap) (s : St) (o : Oper) : D × Prop :=
  match o.op with
  | .buildSlice t len parts => ((vlit P t len (parts.toList.map fun p => (p.1, s.ev G p.2))).1, s.hasAll G (parts.toList.map (·.2)) ∧ (vlit P t len (parts.toList.map fun p => (p.1, s.ev G p.2))).2)
  | _ => pv P G s o

/-- A new variable: what it asks, its cells, its value. -/
def al (P : Program) (G : Heap) (s : St) (o : Oper) : Prop × List D × (Nat → D) :=
  match o.op with
  | .alloc t => ((zer P t).isSome = true, (zer P t).getD [], fun b => .pb b 0)
  | .box t x => (s.has G x ∧ (s.ev G x).whole = true, (s.ev G x).cells, fun b => .pb b 0)
  | .makeSlice t l c => match zel P t, s.ev G l, s.ev G c with
    | some (zs, y), .int _ l', .int _ c' => (s.has G l ∧ s.has G c ∧ 0 < zs.length ∧ 0 ≤ l' ∧ l' ≤ c' ∧ y * c'.toNat ≤ 281474976710656 ∧ c' ≤ 9223372036854775807, zeros zs c'.toNat, fun b => .so b 0 l'.toNat c'.toNat)
    | _, _, _ => (False, [], fun _ => .any)
  | _ => (False, [], fun _ => .any)

theorem pu_same {o : Oper} (hb : s'.β = s.β) (h : Same G s s' (opers o)) : pu P G s' o = pu P G s o := by
  unfold pu
  split
  · rename_i t len parts ho
    have h1 : Same G s s' (parts.toList.map (·.2)) := fun y hy => h y (by simp only [opers, ho, Op.operands]; simpa using hy)
    rw [h1.hass, h1.parts]
  · exact pv_same hb h

theorem pu_mem {o : Oper} (hc : cls o.op = .e) (β : Heap) (ω : List Nat) : pu P G { s with β, ω } o = pu P G s o := by
  obtain ⟨dst, op, ty, pos, after, guard⟩ := o
  cases op <;> first
    | rfl
    | (simp [cls] at hc)

theorem al_same {o : Oper} (h : Same G s s' (opers o)) : al P G s' o = al P G s o := by
  obtain ⟨dst, op, ty, pos, after, guard⟩ := o
  cases op <;> simp only [opers, Op.operands] at h <;> simp only [al]
  case box t x => rw [h.ev (x := x) (by simp), h.has (x := x) (by simp)]
  case makeSlice t l c => rw [h.ev (x := l) (by simp), h.has (x := l) (by simp), h.ev (x := c) (by simp), h.has (x := c) (by simp)]

theorem vstep_pu {o : Oper} {k pn : D → St → Prop} (hc : cls o.op = .e ∨ cls o.op = .r) : vstep P G s o k pn ↔ (pu P G s o).2 ∧ k (pu P G s o).1 s := by
  obtain ⟨dst, op, ty, pos, after, guard⟩ := o
  cases op
  case buildSlice t len parts => simp only [vstep, pu]; exact and_assoc.symm
  case call c =>
    obtain ⟨cal, args, ts⟩ := c
    cases cal
    case builtin b => cases b <;> first | exact Iff.rfl | (simp [cls] at hc)
    all_goals simp [cls] at hc
  all_goals first
    | exact Iff.rfl
    | (simp [cls] at hc)

theorem vstep_al {o : Oper} {k pn : D → St → Prop} (hc : cls o.op = .a) (h1 : (al P G s o).1) (h2 : ∀ b, s.β b = none → k ((al P G s o).2.2 b) { s with β := s.β.set b (al P G s o).2.1 }) : vstep P G s o k pn := by
  obtain ⟨dst, op, ty, pos, after, guard⟩ := o
  cases op
  case alloc t =>
    simp only [al] at h1 h2
    simp only [vstep]
    cases hz : zer P t with
    | none => simp [hz] at h1
    | some cs => simpa [hz] using h2
  case box t x => exact ⟨h1.1, h1.2, h2⟩
  case makeSlice t l c =>
    simp only [al] at h1 h2
    simp only [vstep]
    split at h1
    · rename_i zs y k1 l' k2 c' q1 q2 q3
      simp only [q1, q2, q3] at h2 ⊢
      obtain ⟨a1, a2, a3, a4, a5, a6, a7⟩ := h1
      exact ⟨a1, a2, a3, a4, a5, a6, a7, h2⟩
    · exact h1.elim
  case call c =>
    obtain ⟨cal, args, ts⟩ := c
    cases cal
    case builtin b => cases b <;> simp [cls] at hc
    all_goals simp [cls] at hc
  all_goals simp [cls] at hc

end Go.Proofs.YtgkfcgfobckaaaaV
