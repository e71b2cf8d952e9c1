/-
  The seventh text of the program logic: all operations that only compute, as one function of the state, and that the machine does just that.
  Conditions: none; it speaks of every program.
-/
import Derived.Test.YtgkfcgfobckaaaaV6
set_option linter.unusedVariables false
set_option linter.unusedSimpArgs false
namespace Go.Proofs.YtgkfcgfobckaaaaV
open Go

variable {P : Program} {G : Heap} {n B : Nat} {K : Kn} {s : St} {a : Act} {w : World}

def selD (t : Bool) (x y : D) : D :=
  match x, y with
  | .bool p, .bool q => .bool (bif t then p else q)
  | x, y => if t then x else y

def vpick (c x y : D) : D × Prop :=
  match c with
  | .bool t => (selD t x.strip y.strip, (t = true → x.ok) ∧ (t = false → y.ok))
  | _ => (.any, False)

theorem selD_true (x y : D) : selD true x y = x := by
  unfold selD
  split <;> simp

theorem selD_false (x y : D) : selD false x y = y := by
  unfold selD
  split <;> simp

theorem vpick_sound {c x y : D} {uc ux uy : Value} (h : Rep K c uc) (hx : Rep K x ux) (hy : Rep K y uy) (hc : (vpick c x y).2) (w : World) :
    ∃ v, (do pure (if ← asBool uc then ux else uy) : Sem Value).run P w = .ok v w ∧ Rep K (vpick c x y).1 v := by
  cases h with
  | bool t =>
    obtain ⟨h1, h2⟩ := hc
    cases t with
    | true => exact ⟨ux, by simp [asBool], by simp only [vpick, selD_true]; exact hx.strip (h1 rfl)⟩
    | false => exact ⟨uy, by simp [asBool], by simp only [vpick, selD_false]; exact hy.strip (h2 rfl)⟩
  | _ => exact False.elim hc

def vun (op : UnOp) (x : D) : D × Prop :=
  match op, x with
  | .not, .bool b => (.bool (!b), True)
  | .neg, .int k i => (.int k (k.wrap (0 - i)), True)
  | .xor, .int k i => (.int k (k.wrap ((BitVec.ofInt k.bits (if k.signed then -1 else k.max) ^^^ BitVec.ofInt k.bits i).toNat : Int)), True)
  | _, _ => (.any, False)

theorem vun_sound {op : UnOp} {x : D} {u : Value} (hx : Rep K x u) (hc : (vun op x).2) (w : World) :
    ∃ v, (Op.unary op u).run P w = .ok v w ∧ Rep K (vun op x).1 v := by
  unfold vun at hc ⊢
  split at hc
  · cases hx; exact ⟨_, rfl, .bool _⟩
  · cases hx; exact ⟨_, rfl, .int _ _⟩
  · cases hx; exact ⟨_, rfl, .int _ _⟩
  · exact hc.elim

/-- A type that is no interface. -/
def concrete (P : Program) (t : TypeId) : Bool :=
  match P.underlying t with
  | some (.interface _) => false
  | some _ => true
  | none => false

theorem vmake_sound {t : TypeId} (h : concrete P t = true) (u : Value) (w : World) : (Instr.makeInterface t u).run P w = .ok (.iface t u) w := by
  unfold concrete at h
  split at h
  · cases h
  · rename_i d hne hu
    cases d <;> first
      | (simp [Instr.makeInterface, run_underlying hu]; done)
      | exact (hne _ rfl).elim
  · cases h

def vnil (x : D) : D × Prop :=
  match x with
  | .pb b o => (.pb b o, True)
  | .pf cs => (.pf cs, True)
  | .clo (.func f) x y => (.clo (.func f) x y, True)
  | .clo (.yield l) x y => (.clo (.yield l) x y, True)
  | _ => (.any, False)

def vext (x : D) (i : Nat) : D × Prop :=
  match x with
  | .tup ds => (ds.getD i .any, i < ds.length)
  | _ => (.any, False)

theorem vext_sound {x : D} {i : Nat} {u : Value} (hx : Rep K x u) (hc : (vext x i).2) (w : World) :
    ∃ v, (Instr.extract u i).run P w = .ok v w ∧ Rep K (vext x i).1 v := by
  cases hx with
  | tup h =>
    have hc' : i < _ := hc
    obtain ⟨v, h1, h2⟩ := h.get i _ (List.getElem?_eq_getElem hc')
    exact ⟨v, by simp [Instr.extract, h1], by simpa [vext, hc'] using h2⟩
  | _ => exact False.elim hc

/-- A builtin function that only computes. -/
def vbuiltin (P : Program) (b : Builtin) (ts : Array TypeId) (ds : List D) : D × Prop :=
  match b, ds with
  | .len, [x] => vlen P ts[0]? x
  | .cap, [x] => vcap P ts[0]? x
  | .min, ds => vmm true ds
  | .max, ds => vmm false ds
  | _, _ => (.any, False)

theorem vbuiltin_sound {b : Builtin} {ts : Array TypeId} {ty : TypeId} {cs : Array Bool} {ds : List D} {us : List Value} (h : RepL K ds us) (hc : (vbuiltin P b ts ds).2) (w : World) :
    ∃ v, (builtin b ts ty cs us.toArray).run P w = .ok (.value v) w ∧ Rep K (vbuiltin P b ts ds).1 v := by
  unfold vbuiltin at hc ⊢
  split at hc
  · obtain ⟨u, rfl, hu⟩ := h.one
    obtain ⟨v, h1, h2⟩ := vlen_sound (ty := ty) hu hc w
    exact ⟨v, by simp [builtin, h1], h2⟩
  · obtain ⟨u, rfl, hu⟩ := h.one
    obtain ⟨v, h1, h2⟩ := vcap_sound (ty := ty) hu hc w
    exact ⟨v, by simp [builtin, h1], h2⟩
  · obtain ⟨v, h1, h2⟩ := vmm_sound (P := P) (ts := ts) (ty := ty) (least := true) h hc w
    simp only [if_true] at h1
    exact ⟨v, by simp [builtin, h1], h2⟩
  · obtain ⟨v, h1, h2⟩ := vmm_sound (P := P) (ts := ts) (ty := ty) (least := false) h hc w
    simp only [Bool.false_eq_true, if_false] at h1
    exact ⟨v, by simp [builtin, h1], h2⟩
  · exact hc.elim

def St.hasAll (G : Heap) (s : St) (xs : List Operand) : Prop := ∀ x ∈ xs, s.has G x

/-- WHAT AN OPERATION THAT ONLY COMPUTES COMES TO, and under what condition. -/
def pv (P : Program) (G : Heap) (s : St) (o : Oper) : D × Prop :=
  match o.op with
  | .move x | .assign x => (s.raw G x, True)
  | .pick c x y => ((vpick (s.ev G c) (s.raw G x) (s.raw G y)).1, s.has G c ∧ (vpick (s.ev G c) (s.raw G x) (s.raw G y)).2)
  | .load t x => ((vloadAt P s.β t (s.ev G x)).1, s.has G x ∧ (vloadAt P s.β t (s.ev G x)).2)
  | .nilCheck x => ((vnil (s.ev G x)).1, s.has G x ∧ (vnil (s.ev G x)).2)
  | .binOp op t x y _ => ((vbin P op t (litNil x || litNil y) (s.ev G x) (s.ev G y)).1, s.has G x ∧ s.has G y ∧ (vbin P op t (litNil x || litNil y) (s.ev G x) (s.ev G y)).2)
  | .unOp op _ x => ((vun op (s.ev G x)).1, s.has G x ∧ (vun op (s.ev G x)).2)
  | .convert src dst x => ((vconv P src dst (s.ev G x)).1, s.has G x ∧ (vconv P src dst (s.ev G x)).2)
  | .makeInterface t x => (.iface t (s.ev G x), s.has G x ∧ concrete P t = true)
  | .makeFunc fn first captured => (.clo fn (first.toList.map (s.raw G)) (captured.toList.map (s.raw G)), True)
  | .slice t x lo hi mx => ((vslice P t (s.ev G x) (lo.map (s.ev G)) (hi.map (s.ev G)) (mx.map (s.ev G))).1, s.has G x ∧ s.hasAll G (lo.toList ++ hi.toList ++ mx.toList) ∧ (vslice P t (s.ev G x) (lo.map (s.ev G)) (hi.map (s.ev G)) (mx.map (s.ev G))).2)
  | .fieldAddr t x f => ((vfaddr P t f (s.ev G x)).1, s.has G x ∧ (vfaddr P t f (s.ev G x)).2)
  | .field t x f => ((vfield P t f (s.ev G x)).1, s.has G x ∧ (vfield P t f (s.ev G x)).2)
  | .indexAddr t x i => ((viaddr P t (s.ev G x) (s.ev G i)).1, s.has G x ∧ s.has G i ∧ (viaddr P t (s.ev G x) (s.ev G i)).2)
  | .index t x i => ((vindex P t (s.ev G x) (s.ev G i)).1, s.has G x ∧ s.has G i ∧ (vindex P t (s.ev G x) (s.ev G i)).2)
  | .extract x i => ((vext (s.ev G x) i).1, s.has G x ∧ (vext (s.ev G x) i).2)
  | .build t parts => ((vbuild P t (parts.toList.map fun p => (p.1, s.ev G p.2))).1, s.hasAll G (parts.toList.map (·.2)) ∧ (vbuild P t (parts.toList.map fun p => (p.1, s.ev G p.2))).2)
  | .call c => match c.callee with
    | .builtin b => ((vbuiltin P b c.argTypes (c.args.toList.map (s.ev G))).1, s.hasAll G c.args.toList ∧ (vbuiltin P b c.argTypes (c.args.toList.map (s.ev G))).2)
    | _ => (.any, False)
  | _ => (.any, False)

theorem SR.evs (h : SR G n B K s a w) : ∀ xs : List Operand, s.hasAll G xs → RepL K (xs.map (s.ev G)) (xs.map a.eval)
  | [], _ => .nil
  | x :: xs, hx => .cons (h.ev x (hx x (by simp))) (h.evs xs fun y hy => hx y (by simp [hy]))

theorem SR.raws (h : SR G n B K s a w) : ∀ xs : List Operand, RepL K (xs.map (s.raw G)) (xs.map a.eval)
  | [] => .nil
  | x :: xs => .cons (h.raw x) (h.raws xs)

theorem SR.argsT (h : SR G n B K s a w) : ∀ xs : List Operand, RepL K (xs.map (s.arg G)) (xs.map a.eval)
  | [] => .nil
  | x :: xs => .cons (h.raw x).stripT (h.argsT xs)

theorem SR.opt (h : SR G n B K s a w) (x : Option Operand) (hx : ∀ y, x = some y → s.has G y) : RepO K (x.map (s.ev G)) (x.map a.eval) := by
  cases x with
  | none => exact .inl ⟨rfl, rfl⟩
  | some y => exact .inr ⟨_, _, rfl, rfl, h.ev y (hx y rfl)⟩

theorem SR.parts (h : SR G n B K s a w) : ∀ ps : List (Nat × Operand), (∀ p ∈ ps, s.has G p.2) → RepP K (ps.map fun p => (p.1, s.ev G p.2)) (ps.map fun p => (p.1, a.eval p.2))
  | [], _ => .nil
  | p :: ps, hp => .cons (h.ev p.2 (hp p (by simp))) (h.parts ps fun q hq => hp q (by simp [hq]))

theorem map_arr {α β : Type} (f : α → β) (xs : Array α) : (xs.toList.map f).toArray = xs.map f := by
  apply Array.ext'
  simp

theorem run_v (x : Sem Value) {v : Value} {w' : World} (h : x.run P w = .ok v w') : (do pure (Next.value (← x)) : Sem Next).run P w = .ok (.value v) w' := by
  simp [h]

theorem pv_sound (h : SR G n B K s a w) {o : Oper} (hc : (pv P G s o).2) :
    ∃ v, (execOp a.eval o).run P w = .ok (.value v) w ∧ Rep K (pv P G s o).1 v := by
  obtain ⟨dst, op, ty, pos, after, guard⟩ := o
  cases op with
  | move x => exact ⟨_, rfl, h.raw x⟩
  | assign x => exact ⟨_, rfl, h.raw x⟩
  | pick c x y =>
    obtain ⟨h1, h2⟩ := hc
    obtain ⟨v, h3, h4⟩ := vpick_sound (P := P) (h.ev c h1) (h.raw x) (h.raw y) h2 w
    refine ⟨v, ?_, h4⟩
    simp only [execOp]
    simp only [Sem.run_bind] at h3 ⊢
    cases hb : (asBool (a.eval c)).run P w with
    | ok t w' => simp [hb] at h3 ⊢; exact h3
    | halt e w' => simp [hb] at h3
  | load t x =>
    obtain ⟨h1, h2⟩ := hc
    obtain ⟨v, h3, h4⟩ := vloadAt_sound (P := P) h.rel (h.ev x h1) h2
    exact ⟨v, run_v _ h3, h4⟩
  | nilCheck x =>
    obtain ⟨h1, h2⟩ := hc
    have hx := h.ev x h1
    generalize hd : s.ev G x = d at hx
    have h2' : (vnil d).2 := by rw [← hd]; exact h2
    have hgoal : Rep K (vnil d).1 (a.eval x) → Rep K (pv P G s ⟨dst, .nilCheck x, ty, pos, after, guard⟩).1 (a.eval x) := fun hr => by
      show Rep K (vnil (s.ev G x)).1 (a.eval x)
      rw [hd]; exact hr
    unfold vnil at h2' hgoal
    split at h2'
    · refine ⟨a.eval x, ?_, hgoal hx⟩
      cases hv : a.eval x <;> rw [hv] at hx <;> cases hx
      simp [execOp, hv]
    · refine ⟨a.eval x, ?_, hgoal hx⟩
      cases hv : a.eval x <;> rw [hv] at hx <;> cases hx
      simp [execOp, hv]
    · refine ⟨a.eval x, ?_, hgoal hx⟩
      cases hv : a.eval x <;> rw [hv] at hx <;> cases hx
      simp [execOp, hv]
    · refine ⟨a.eval x, ?_, hgoal hx⟩
      cases hv : a.eval x <;> rw [hv] at hx <;> cases hx
      simp [execOp, hv]
    · exact h2'.elim
  | binOp op t x y ty =>
    obtain ⟨h1, h2, h3⟩ := hc
    obtain ⟨v, h4, h5⟩ := vbin_sound (P := P) (op := op) (t := t) (xo := x) (yo := y) (h.ev x h1) (h.ev y h2) h3 w
    exact ⟨v, run_v _ h4, h5⟩
  | unOp op t x =>
    obtain ⟨h1, h2⟩ := hc
    obtain ⟨v, h3, h4⟩ := vun_sound (P := P) (h.ev x h1) h2 w
    exact ⟨v, run_v _ h3, h4⟩
  | convert src dst x =>
    obtain ⟨h1, h2⟩ := hc
    obtain ⟨v, h3, h4⟩ := vconv_sound (P := P) h.rel (h.ev x h1) h2
    exact ⟨v, run_v _ h3, h4⟩
  | makeInterface t x =>
    obtain ⟨h1, h2⟩ := hc
    exact ⟨_, run_v _ (vmake_sound h2 _ w), .iface (h.ev x h1)⟩
  | makeFunc fn first captured =>
    refine ⟨_, rfl, ?_⟩
    have := Rep.clo (fn := fn) (h.raws first.toList) (h.raws captured.toList)
    rw [map_arr, map_arr] at this
    exact this
  | slice t x lo hi mx =>
    obtain ⟨h1, h2, h3⟩ := hc
    obtain ⟨v, h4, h5⟩ := vslice_sound (P := P) (h.ev x h1) (h.opt lo fun y hy => h2 y (by simp [hy])) (h.opt hi fun y hy => h2 y (by simp [hy])) (h.opt mx fun y hy => h2 y (by simp [hy])) h3 w
    exact ⟨v, run_v _ h4, h5⟩
  | fieldAddr t x f =>
    obtain ⟨h1, h2⟩ := hc
    obtain ⟨v, h3, h4⟩ := vfaddr_sound (P := P) (h.ev x h1) h2 w
    exact ⟨v, run_v _ h3, h4⟩
  | field t x f =>
    obtain ⟨h1, h2⟩ := hc
    obtain ⟨v, h3, h4⟩ := vfield_sound (P := P) (h.ev x h1) h2 w
    exact ⟨v, run_v _ h3, h4⟩
  | indexAddr t x i =>
    obtain ⟨h1, h2, h3⟩ := hc
    obtain ⟨v, h4, h5⟩ := viaddr_sound (P := P) (h.ev x h1) (h.ev i h2) h3 w
    exact ⟨v, run_v _ h4, h5⟩
  | index t x i =>
    obtain ⟨h1, h2, h3⟩ := hc
    obtain ⟨v, h4, h5⟩ := vindex_sound (P := P) (h.ev x h1) (h.ev i h2) h3 w
    exact ⟨v, run_v _ h4, h5⟩
  | extract x i =>
    obtain ⟨h1, h2⟩ := hc
    obtain ⟨v, h3, h4⟩ := vext_sound (P := P) (h.ev x h1) h2 w
    exact ⟨v, run_v _ h3, h4⟩
  | build t parts =>
    obtain ⟨h1, h2⟩ := hc
    obtain ⟨v, h3, h4⟩ := vbuild_sound (P := P) (us := parts.map fun (i, x) => (i, a.eval x)) (by simpa using h.parts parts.toList fun p hp => h1 p.2 (List.mem_map.2 ⟨p, hp, rfl⟩)) h2 w
    exact ⟨v, run_v _ h3, h4⟩
  | call c =>
    obtain ⟨callee, args, argTypes⟩ := c
    cases callee with
    | builtin b =>
      obtain ⟨h1, h2⟩ := hc
      obtain ⟨v, h3, h4⟩ := vbuiltin_sound (P := P) (ty := ty) (cs := args.map fun | .const _ => true | _ => false) (h.evs args.toList h1) h2 w
      refine ⟨v, ?_, h4⟩
      simp only [execOp, resolve, Sem.run_bind, Sem.run_pure, Result.andThen_ok, invoke]
      rw [map_arr] at h3
      exact h3
    | _ => exact False.elim hc
  | _ => exact False.elim hc

end Go.Proofs.YtgkfcgfobckaaaaV
