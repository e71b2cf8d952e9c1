/-
  Values of types (package value) and predicates that are valid for a schema (package pred).
  Conditions: none.
-/
import Derived.Test.YtpblgfgcoamgmaaQ4
set_option linter.unusedVariables false
set_option linter.unusedSimpArgs false
namespace Go.Proofs.YtpblgfgcoamgmaaS
open Go Go.Proofs.YtpblgfgcoamgmaaV

variable {G : Heap}
attribute [local irreducible] VN VC VX VQ VP VY VW

def isTy (t : Int) : Bool := decide (1 ≤ t ∧ t ≤ 5)
def limT (t : Int) : Int × Int := if t = 1 then (0, 1) else if t = 2 then (-2147483648, 2147483647) else if t = 5 then (-1000000, 1000000) else (-9223372036854775808, 9223372036854775807)
/-- Is a value one of a type? -/
def valOk (v : Vl) (t : Int) : Bool := isTy t && (if v.null = true then decide (v = Vl.nul) else if t = 4 then decide (v.n = 0 ∧ v.s.size ≤ 200) else decide (v.s = ByteArray.empty ∧ (limT t).1 ≤ v.n ∧ v.n ≤ (limT t).2))
theorem valOk_nul (t : Int) : valOk Vl.nul t = isTy t := by simp [valOk, Vl.nul]
theorem bemp : (⟨#[]⟩ : ByteArray) = ByteArray.empty := rfl
/-- In strictly increasing order. -/
def incF : List Vl → Bool
  | a :: b :: l => decide (cmpV a b < 0) && incF (b :: l)
  | _ => true
def wrongV (t : Int) (v : Vl) : Bool := v.null || !valOk v t
def fitsF (p : Pr) (t : Int) : Bool := isTy t && (if p.op = 1 then decide (t ≠ 4) else if p.op = 3 then decide (t = 4) else if p.op = 2 then incF p.set && decide (0 < p.set.length) && !p.set.any (wrongV t) else true)
theorem incF_no {a c : Vl} {l : List Vl} (h : ¬ cmpV a c < 0) : incF (a :: c :: l) = false := by simp [incF, h]
theorem incF_yes {a c : Vl} {l : List Vl} (h : cmpV a c < 0) : incF (a :: c :: l) = incF (c :: l) := by simp [incF, h]
theorem incF_one (l : List Vl) (h : l.length ≤ 1) : incF l = true := by
  match l, h with
  | [], _ => rfl
  | [_], _ => rfl
  | _ :: _ :: _, h => simp at h
def fdC' (f : Fd) : List D := [.int .i64 f.id, .str f.name, .int .i64 f.type, .int .i64 f.parent]
/-- The type of a field, if there is one. -/
def typeOf (fs : List Fd) (id : Int) : Option Int := (fs.find? fun f => decide (f.id = id)).map (·.type)
def atomOk (fs : List Fd) (q : Pr) : Bool := !isAt q.op || match typeOf fs q.id with
  | none => false
  | some t => fitsF q t
def validF (fs : List Fd) (p : Pr) : Bool := wellF p && (subs p).all (atomOk fs)
end Go.Proofs.YtpblgfgcoamgmaaS
