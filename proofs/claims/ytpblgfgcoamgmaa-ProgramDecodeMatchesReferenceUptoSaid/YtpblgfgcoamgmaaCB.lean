
import Derived.Test.YtpblgfgcoamgmaaCA
set_option linter.unusedVariables false
set_option linter.unusedSimpArgs false
namespace Go.Proofs.YtpblgfgcoamgmaaS
open Go Go.Proofs.YtpblgfgcoamgmaaV

variable {G : Heap}

def mb (x : Int × Bool) : D := .agg [.int .i64 x.1, .bool x.2]
def bitsF (o : Int) (x : Int × Bool) : Int := if x.2 then bop .or .i64 o x.1 else o
/-- Which truth values are possible. -/
structure Tr where
  y : Bool
  n : Bool
  u : Bool
  deriving DecidableEq
def Tr.code (t : Tr) : Int := (if t.n then 1 else 0) + (if t.y then 2 else 0) + (if t.u then 4 else 0)
theorem bits2 (y n : Bool) : [((2 : Int), y), (1, n)].foldl bitsF 0 = (Tr.mk y n false).code := by cases y <;> cases n <;> decide
theorem bits1 (u : Bool) : [((4 : Int), u)].foldl bitsF 0 = (Tr.mk false false u).code := by cases u <;> decide
theorem bits3 (y n u : Bool) : [((2 : Int), y), (1, n), (4, u)].foldl bitsF 0 = (Tr.mk y n u).code := by cases y <;> cases n <;> cases u <;> decide
theorem code_or (a b : Tr) : bop .or .i64 a.code b.code = (Tr.mk (a.y || b.y) (a.n || b.n) (a.u || b.u)).code := by
  obtain ⟨a1, a2, a3⟩ := a; obtain ⟨b1, b2, b3⟩ := b
  cases a1 <;> cases a2 <;> cases a3 <;> cases b1 <;> cases b2 <;> cases b3 <;> decide
def fieldC (b : Bd) (p : Pr) : List D := [.int .i64 b.id, .int .i64 b.nulls, .bool b.min.null, .int .i64 b.min.n, .str b.min.s, .bool b.max.null, .int .i64 b.max.n, .str b.max.s, .int .i64 p.op, .int .i64 p.id, .int .i64 p.lo, .int .i64 p.hi, .sl .none (p.set.map Vl.d), .str p.text, .sl .none (p.kids.map Pr.d)]
/-- The range against the bounds. -/
def btw (b : Bd) (p : Pr) : Tr := ⟨decide ((p.lo ≤ p.hi ∧ p.lo ≤ b.max.n) ∧ b.min.n ≤ p.hi), decide (b.min.n < p.lo ∨ p.hi < b.max.n), false⟩
def inside (bd : Bd) (v : Vl) : Bool := !v.null && decide (cmpV bd.min v ≤ 0) && decide (cmpV v bd.max ≤ 0)
theorem ContainsFunc_ok (tk : Tk) (l : List Vl) (q : Vl → Bool) {f : FuncId} {fs cs : List D} (b : Nat) (X : List D) (hq : ∀ x ∈ l, VQ P G f (fs ++ [.agg x.cells] ++ cs) b X (.bool (q x))) :
    VQ P G 91 [.sl .none (l.map Vl.d), .clo (.func f) fs cs] b X (.int .i64 (idx q l)) := by
  refine VC.small2 fun hsm => ?_
  have z1 := hsm (.sl .none (l.map Vl.d)) (List.mem_cons_self ..) (.sl .none (l.map Vl.d)) (by simp [D.cells])
  simp only [Small, mostLen, List.length_map] at z1
  clear hsm
  refine VC.ofs (fun | 99999999 => [(0, [0, 1, 4, 5, 7, 8, 9, 16])] | _ => []) [4] mixed Try.func91 rfl rfl rfl rfl (by decide +kernel) (by simp) ?_
  simp only [go_sem, reduceIte, Nat.reduceEqDiff, Nat.reduceAdd, Nat.reduceSub, Nat.reduceMul, Nat.reduceLT, Nat.reduceLeDiff, Nat.reducePow, Int.reduceToNat, Int.reduceLT, Int.reduceLE, Int.reduceEq, Int.reduceNe, Int.reduceAdd, Int.reduceSub, Int.reduceMul, Int.reduceNeg]
  refine vwq_loop (fun u => ∃ (j : Nat), j ≤ l.length ∧ j ≤ l.findIdx q ∧ u.σ 0 = .sl .none (l.map Vl.d) ∧ u.σ 1 = .clo (.func f) fs cs ∧ u.σ 7 = .int .i64 l.length ∧ u.σ 8 = .int .i64 j ∧ u.β = Heap.nil.set b X ∧ u.ω = []) (fun u => l.length - (ival (u.σ 8)).toNat) ⟨0, by omega, by omega, rfl, rfl, by rw [← List.length_map (f := Vl.d)]; rfl, rfl, rfl, rfl⟩ ?_
  rintro σ β ω ⟨j, j1, j2, q0, q1, q7, q8, rfl, rfl⟩
  dsimp only at q0 q1 q7 q8
  simp only [go_sem, reduceIte, Nat.reduceEqDiff, Nat.reduceAdd, Nat.reduceSub, Nat.reduceMul, Nat.reduceLT, Nat.reduceLeDiff, Nat.reducePow, Int.reduceToNat, Int.reduceLT, Int.reduceLE, Int.reduceEq, Int.reduceNe, Int.reduceAdd, Int.reduceSub, Int.reduceMul, Int.reduceNeg, q0, q1, q7, q8]
  refine cd_dec (fun g => ?_) (fun g => ?_)
  · have g' : (j : Int) < ((l.map Vl.d).length : Nat) := by rw [List.length_map]; exact g
    obtain ⟨x, hx, ex⟩ := Vl_at g'
    simp only [go_sem, reduceIte, Nat.reduceEqDiff, Nat.reduceAdd, Nat.reduceSub, Nat.reduceMul, Nat.reduceLT, Nat.reduceLeDiff, Nat.reducePow, Int.reduceToNat, Int.reduceLT, Int.reduceLE, Int.reduceEq, Int.reduceNe, Int.reduceAdd, Int.reduceSub, Int.reduceMul, Int.reduceNeg, q0, q1, q7, q8, ex]
    refine ⟨by omega, cK_vq (hq x (List.mem_of_getElem? hx)) (by simp [Heap.set]) ?_⟩
    cases hqx : q x
    · simp only [go_sem, reduceIte, Nat.reduceEqDiff, Nat.reduceAdd, Nat.reduceSub, Nat.reduceMul, Nat.reduceLT, Nat.reduceLeDiff, Nat.reducePow, Int.reduceToNat, Int.reduceLT, Int.reduceLE, Int.reduceEq, Int.reduceNe, Int.reduceAdd, Int.reduceSub, Int.reduceMul, Int.reduceNeg, q0, q1, q7, q8, ex]
      rw [wrap_i64 (x := (j : Int) + 1) (by omega) (by omega)]
      have := idx_miss hx j2 hqx
      exact ⟨⟨j + 1, by omega, by omega, rfl⟩, by omega⟩
    · simp only [go_sem, reduceIte, Nat.reduceEqDiff, Nat.reduceAdd, Nat.reduceSub, Nat.reduceMul, Nat.reduceLT, Nat.reduceLeDiff, Nat.reducePow, Int.reduceToNat, Int.reduceLT, Int.reduceLE, Int.reduceEq, Int.reduceNe, Int.reduceAdd, Int.reduceSub, Int.reduceMul, Int.reduceNeg, q0, q1, q7, q8, ex]
      have e : idx q l = j := by
        have := idx_hit hx j2 hqx
        unfold idx
        rw [if_pos (by omega), this]
      refine finK_var (by simp [Heap.set]) ⟨by rw [e]; rfl, rfl, rfl⟩
  · simp only [go_sem, reduceIte, Nat.reduceEqDiff, Nat.reduceAdd, Nat.reduceSub, Nat.reduceMul, Nat.reduceLT, Nat.reduceLeDiff, Nat.reducePow, Int.reduceToNat, Int.reduceLT, Int.reduceLE, Int.reduceEq, Int.reduceNe, Int.reduceAdd, Int.reduceSub, Int.reduceMul, Int.reduceNeg, q0, q1, q7, q8]
    have e : idx q l = -1 := by
      unfold idx
      rw [if_neg]
      omega
    refine finK_var (by simp [Heap.set]) ⟨by rw [e]; rfl, rfl, rfl⟩
theorem idx_any {α : Type} (q : α → Bool) (l : List α) : decide (0 ≤ idx q l) = l.any q := by
  rcases idx_find q l with ⟨h1, h2⟩ | ⟨j, x, h1, h2, h3, h4⟩
  · rw [decide_eq_false (by omega)]
    symm
    rw [List.any_eq_false]
    exact fun x hx => by simpa using List.find?_eq_none.1 h2 x hx
  · rw [decide_eq_true (by omega)]
    symm
    rw [List.any_eq_true]
    exact ⟨x, List.mem_of_find?_eq_some h4, List.find?_some h4⟩
theorem ContainsF_ok (l : List Vl) (q : Vl → Bool) {f : FuncId} {fs cs : List D} (b : Nat) (X : List D) (hq : ∀ x ∈ l, VQ P G f (fs ++ [.agg x.cells] ++ cs) b X (.bool (q x))) :
    VQ P G 90 [.sl .none (l.map Vl.d), .clo (.func f) fs cs] b X (.bool (l.any q)) := by
  refine VC.ofs (fun | 99999999 => [(0, [0, 1, 4])] | _ => []) [4] mixed Try.func90 rfl rfl rfl rfl (by decide +kernel) (by simp) ?_
  simp only [go_sem, reduceIte, Nat.reduceEqDiff, Nat.reduceAdd, Nat.reduceSub, Nat.reduceMul, Nat.reduceLT, Nat.reduceLeDiff, Nat.reducePow, Int.reduceToNat, Int.reduceLT, Int.reduceLE, Int.reduceEq, Int.reduceNe, Int.reduceAdd, Int.reduceSub, Int.reduceMul, Int.reduceNeg]
  refine cK_vq (fs := []) (cs := []) (ContainsFunc_ok .none l q b X hq) (by simp [Heap.set]) ?_
  simp only [go_sem, reduceIte, Nat.reduceEqDiff, Nat.reduceAdd, Nat.reduceSub, Nat.reduceMul, Nat.reduceLT, Nat.reduceLeDiff, Nat.reducePow, Int.reduceToNat, Int.reduceLT, Int.reduceLE, Int.reduceEq, Int.reduceNe, Int.reduceAdd, Int.reduceSub, Int.reduceMul, Int.reduceNeg]
  exact finK_var (by simp [Heap.set]) ⟨by rw [idx_any]; rfl, rfl, rfl⟩
end Go.Proofs.YtpblgfgcoamgmaaS
namespace Go.Proofs.YtpblgfgcoamgmaaS
open Go Go.Proofs.YtpblgfgcoamgmaaV

variable {G : Heap}

theorem guardVl : P.eqGuardType P.depth 38 = false := by decide +kernel
theorem stoodVl : P.stoodInHeld 38 = false := by decide +kernel
theorem eqvVl (a a' : Bool) (b b' : Int) (s s' : ByteArray) : eqv P 6 38 (.agg [.bool a, .int .i64 b, .str s]) (.agg [.bool a', .int .i64 b', .str s']) = (decide (a = a' ∧ b = b' ∧ s = s'), True) := by
  simp only [eqv, eqF, Try.underlying38, Try.underlying4, Try.underlying2, Try.underlying9, stoodVl]
  simp only [go_sem, reduceIte, Nat.reduceEqDiff, Nat.reduceAdd, Nat.reduceSub, Nat.reduceMul, Nat.reduceLT, Nat.reduceLeDiff, Nat.reducePow, Int.reduceToNat, Int.reduceLT, Int.reduceLE, Int.reduceEq, Int.reduceNe, Int.reduceAdd, Int.reduceSub, Int.reduceMul, Int.reduceNeg]
  simp only [eqv, Try.underlying4, Try.underlying2, Try.underlying9]
  refine Prod.ext ?_ (by simp)
  dsimp only
  rw [Bool.eq_iff_iff]
  simp only [Bool.and_eq_true, beq_iff_eq, decide_eq_true_eq]
  have : (s == s') = true ↔ s = s' := by
    show (s.data == s'.data) = true ↔ _
    simp [ByteArray.ext_iff]
  rw [this]
attribute [go_sem] eqvVl guardVl
theorem vl_eq (a b : Vl) : (a.null = b.null ∧ a.n = b.n ∧ a.s = b.s) = (a = b) := by
  obtain ⟨a1, a2, a3⟩ := a; obtain ⟨b1, b2, b3⟩ := b
  simp
theorem Index_ok (l : List Vl) (v : Vl) : VN P G 86 [.sl .none (l.map Vl.d), .agg v.cells] (.int .i64 (idx (fun x => decide (v = x)) l)) := by
  simp only [Vl.cells]
  refine VC.small2 fun hsm => ?_
  have z1 := hsm (.sl .none (l.map Vl.d)) (List.mem_cons_self ..) (.sl .none (l.map Vl.d)) (by simp [D.cells])
  simp only [Small, mostLen, List.length_map] at z1
  clear hsm
  refine VC.ofs (fun | 4 => [(0, []), (1, []), (2, []), (3, []), (4, []), (5, [])] | 99999999 => [(0, [0, 1, 3, 4, 5, 7, 8, 9, 16])] | _ => []) [4] mixed Try.func86 rfl rfl rfl rfl (by decide +kernel) (by simp) ?_
  simp only [go_sem, reduceIte, Nat.reduceEqDiff, Nat.reduceAdd, Nat.reduceSub, Nat.reduceMul, Nat.reduceLT, Nat.reduceLeDiff, Nat.reducePow, Int.reduceToNat, Int.reduceLT, Int.reduceLE, Int.reduceEq, Int.reduceNe, Int.reduceAdd, Int.reduceSub, Int.reduceMul, Int.reduceNeg]
  intro b0
  refine vwq_loop (fun u => ∃ (j : Nat), j ≤ l.length ∧ j ≤ l.findIdx (fun x => decide (v = x)) ∧ u.σ 0 = .sl .none (l.map Vl.d) ∧ u.σ 3 = .pb b0 0 ∧ u.σ 7 = .int .i64 l.length ∧ u.σ 8 = .int .i64 j ∧ u.β = Heap.nil.set b0 [.bool v.null, .int .i64 v.n, .str v.s] ∧ u.ω = []) (fun u => l.length - (ival (u.σ 8)).toNat) ⟨0, by omega, by omega, rfl, rfl, by rw [← List.length_map (f := Vl.d)]; rfl, rfl, rfl, rfl⟩ ?_
  rintro σ β ω ⟨j, j1, j2, q0, q1, q7, q8, rfl, rfl⟩
  dsimp only at q0 q1 q7 q8
  simp only [go_sem, reduceIte, Nat.reduceEqDiff, Nat.reduceAdd, Nat.reduceSub, Nat.reduceMul, Nat.reduceLT, Nat.reduceLeDiff, Nat.reducePow, Int.reduceToNat, Int.reduceLT, Int.reduceLE, Int.reduceEq, Int.reduceNe, Int.reduceAdd, Int.reduceSub, Int.reduceMul, Int.reduceNeg, q0, q1, q7, q8]
  refine cd_dec (fun g => ?_) (fun g => ?_)
  · have g' : (j : Int) < ((l.map Vl.d).length : Nat) := by rw [List.length_map]; exact g
    obtain ⟨x, hx, ex⟩ := Vl_at g'
    simp only [go_sem, reduceIte, Nat.reduceEqDiff, Nat.reduceAdd, Nat.reduceSub, Nat.reduceMul, Nat.reduceLT, Nat.reduceLeDiff, Nat.reducePow, Int.reduceToNat, Int.reduceLT, Int.reduceLE, Int.reduceEq, Int.reduceNe, Int.reduceAdd, Int.reduceSub, Int.reduceMul, Int.reduceNeg, q0, q1, q7, q8, ex]
    refine ⟨by omega, cd_dec (fun g1 => ?_) (fun g1 => ?_)⟩
    · rw [vl_eq] at g1
      simp only [go_sem, reduceIte, Nat.reduceEqDiff, Nat.reduceAdd, Nat.reduceSub, Nat.reduceMul, Nat.reduceLT, Nat.reduceLeDiff, Nat.reducePow, Int.reduceToNat, Int.reduceLT, Int.reduceLE, Int.reduceEq, Int.reduceNe, Int.reduceAdd, Int.reduceSub, Int.reduceMul, Int.reduceNeg, q0, q1, q7, q8, ex]
      have e : idx (fun x => decide (v = x)) l = j := by
        have := idx_hit hx j2 (by simpa using g1)
        unfold idx
        rw [if_pos (by omega), this]
      exact finK_drop ⟨by rw [e]; rfl, rfl, rfl⟩
    · rw [vl_eq] at g1
      simp only [go_sem, reduceIte, Nat.reduceEqDiff, Nat.reduceAdd, Nat.reduceSub, Nat.reduceMul, Nat.reduceLT, Nat.reduceLeDiff, Nat.reducePow, Int.reduceToNat, Int.reduceLT, Int.reduceLE, Int.reduceEq, Int.reduceNe, Int.reduceAdd, Int.reduceSub, Int.reduceMul, Int.reduceNeg, q0, q1, q7, q8, ex]
      rw [wrap_i64 (x := (j : Int) + 1) (by omega) (by omega)]
      have := idx_miss hx j2 (by simpa using g1)
      exact ⟨⟨j + 1, by omega, by omega, rfl⟩, by omega⟩
  · simp only [go_sem, reduceIte, Nat.reduceEqDiff, Nat.reduceAdd, Nat.reduceSub, Nat.reduceMul, Nat.reduceLT, Nat.reduceLeDiff, Nat.reducePow, Int.reduceToNat, Int.reduceLT, Int.reduceLE, Int.reduceEq, Int.reduceNe, Int.reduceAdd, Int.reduceSub, Int.reduceMul, Int.reduceNeg, q0, q1, q7, q8]
    have e : idx (fun x => decide (v = x)) l = -1 := by
      unfold idx
      rw [if_neg]
      omega
    exact finK_drop ⟨by rw [e]; rfl, rfl, rfl⟩
theorem Contains_ok (l : List Vl) (v : Vl) : VN P G 72 [.sl .none (l.map Vl.d), .agg v.cells] (.bool (l.any fun x => decide (v = x))) := by
  simp only [Vl.cells]
  refine VC.ofs (fun | 99999999 => [(0, [0, 1, 3, 4])] | _ => []) [4] mixed Try.func72 rfl rfl rfl rfl (by decide +kernel) (by simp) ?_
  simp only [go_sem, reduceIte, Nat.reduceEqDiff, Nat.reduceAdd, Nat.reduceSub, Nat.reduceMul, Nat.reduceLT, Nat.reduceLeDiff, Nat.reducePow, Int.reduceToNat, Int.reduceLT, Int.reduceLE, Int.reduceEq, Int.reduceNe, Int.reduceAdd, Int.reduceSub, Int.reduceMul, Int.reduceNeg]
  intro b0
  refine cK_vn (Index_ok l v) ?_
  simp only [go_sem, reduceIte, Nat.reduceEqDiff, Nat.reduceAdd, Nat.reduceSub, Nat.reduceMul, Nat.reduceLT, Nat.reduceLeDiff, Nat.reducePow, Int.reduceToNat, Int.reduceLT, Int.reduceLE, Int.reduceEq, Int.reduceNe, Int.reduceAdd, Int.reduceSub, Int.reduceMul, Int.reduceNeg]
  exact finK_drop ⟨by rw [idx_any]; rfl, rfl, rfl⟩
/-- A set against the bounds. -/
def inn (b : Bd) (p : Pr) : Tr := ⟨p.set.any (inside b), !(decide (b.min = b.max) && p.set.any fun x => decide (b.min = x)), false⟩
/-- A beginning against the bounds. -/
def pfx (b : Bd) (p : Pr) : Tr := if b.min.n = b.max.n then
    ⟨decide (¬ b.max.s.data.toList < p.text.data.toList) && (pre b.min.s p.text || decide (¬ p.text.data.toList < b.min.s.data.toList)), !pre b.min.s p.text || !pre b.max.s p.text, false⟩
  else ⟨true, true, false⟩
theorem cmpS_ge (x y : ByteArray) : (0 ≤ cmpS x y) = ¬ x.data.toList < y.data.toList := by
  have := (compareBytes_lt x.data.toList y.data.toList).1
  unfold cmpS
  rw [← this]
  simp
theorem cmpS_le (x y : ByteArray) : (cmpS x y ≤ 0) = ¬ y.data.toList < x.data.toList := by
  have := (compareBytes_lt x.data.toList y.data.toList).2.1
  unfold cmpS
  rw [← this]
  simp
end Go.Proofs.YtpblgfgcoamgmaaS
namespace Go.Proofs.YtpblgfgcoamgmaaS
open Go Go.Proofs.YtpblgfgcoamgmaaV

variable {G : Heap}

/-- A set against the bounds, as the reference does it. -/
def innR1 (b : Bd) (t : Bool × Bool) (e : Vl) : Bool × Bool :=
  if e.null then t else (t.1 || (decide (0 ≤ cmpV e b.min) && decide (cmpV e b.max ≤ 0)), t.2 && !(decide (e = b.min) && decide (e = b.max)))
def innR (b : Bd) (p : Pr) : Bool × Bool := p.set.foldl (innR1 b) (false, true)
end Go.Proofs.YtpblgfgcoamgmaaS
namespace Go.Proofs.YtpblgfgcoamgmaaS
open Go Go.Proofs.YtpblgfgcoamgmaaV

variable {G : Heap}

theorem one_int (k : IntKind) (n : Int) : (D.int k n).one = true := (rfl)
theorem one_bool (b : Bool) : (D.bool b).one = true := (rfl)
theorem one_str (b : ByteArray) : (D.str b).one = true := (rfl)
theorem one_sl (t : Tk) (l : List D) : (D.sl t l).one = true := (rfl)
attribute [go_sem] one_int one_bool one_str one_sl List.all_cons List.all_nil Bool.and_true Bool.true_and
theorem cd_b {pb : Bool} {ct : Cert} {Q : VE → St → Prop} {b : Bool} {x y : Code} {s : St} (hx : b = true → vwq pb ct P G x Q s) (hy : b = false → vwq pb ct P G y Q s) : cdK (.bool b) True (vwq pb ct P G x Q (lk' s)) (vwq pb ct P G y Q (lk' s)) := ⟨trivial, hx, hy⟩
def atomT (u : Sm) (p : Pr) : Tr := match findB u.l p.id with
  | none => if p.op = 4 then ⟨true, true, false⟩ else ⟨true, true, true⟩
  | some b => if p.op = 4 then ⟨decide (0 < b.nulls), decide (b.nulls < u.rows), false⟩
    else if (u.rows ≤ b.nulls ∨ b.min.null = true) ∨ b.max.null = true then ⟨false, false, decide (0 < b.nulls)⟩
    else
      let t := if p.op = 2 then inn b p else if p.op = 3 then pfx b p else btw b p
      ⟨t.y, t.n, decide (0 < b.nulls)⟩
theorem inn_u (b : Bd) (p : Pr) : (inn b p).u = false := rfl
theorem btw_u (b : Bd) (p : Pr) : (btw b p).u = false := rfl
theorem pfx_u (b : Bd) (p : Pr) : (pfx b p).u = false := by unfold pfx; split <;> rfl
end Go.Proofs.YtpblgfgcoamgmaaS
namespace Go.Proofs.YtpblgfgcoamgmaaS
open Go Go.Proofs.YtpblgfgcoamgmaaV

variable {G : Heap}

theorem code_and (a b : Tr) : bop .and .i64 a.code b.code = (Tr.mk (a.y && b.y) (a.n && b.n) (a.u && b.u)).code := by
  obtain ⟨a1, a2, a3⟩ := a; obtain ⟨b1, b2, b3⟩ := b
  cases a1 <;> cases a2 <;> cases a3 <;> cases b1 <;> cases b2 <;> cases b3 <;> decide
theorem and_n (a : Tr) : decide (0 < bop .and .i64 a.code 1) = a.n := by obtain ⟨a1, a2, a3⟩ := a; cases a1 <;> cases a2 <;> cases a3 <;> decide
theorem and_y (a : Tr) : decide (0 < bop .and .i64 a.code 2) = a.y := by obtain ⟨a1, a2, a3⟩ := a; cases a1 <;> cases a2 <;> cases a3 <;> decide
theorem and_u (a : Tr) : decide (0 < bop .and .i64 a.code 4) = a.u := by obtain ⟨a1, a2, a3⟩ := a; cases a1 <;> cases a2 <;> cases a3 <;> decide
theorem and_yu (a : Tr) : decide (0 < bop .and .i64 a.code 6) = (a.y || a.u) := by obtain ⟨a1, a2, a3⟩ := a; cases a1 <;> cases a2 <;> cases a3 <;> decide
theorem pos_y (y : Bool) : decide (0 < (Tr.mk y false false).code) = y := by cases y <;> decide
def Tr.turn (t : Tr) : Tr := ⟨t.n, t.y, t.u⟩
def codeD (t : Tr) : D := .int .i64 t.code
def bothS (s : Tr × Bool) (t : Tr) : Tr × Bool := (⟨s.1.y && t.y, s.1.n || t.n, s.1.u || t.u⟩, s.2 && (t.y || t.u))
def bothT (l : List Tr) : Tr := let s := l.foldl bothS (⟨true, false, false⟩, true); ⟨s.1.y, s.1.n, s.2 && s.1.u⟩
end Go.Proofs.YtpblgfgcoamgmaaS
