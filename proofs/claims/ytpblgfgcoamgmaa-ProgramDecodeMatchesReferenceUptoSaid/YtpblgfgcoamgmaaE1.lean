
import Derived.Test.YtpblgfgcoamgmaaCD
set_option linter.unusedVariables false
set_option linter.unusedSimpArgs false
namespace Go.Proofs.YtpblgfgcoamgmaaS
open Go Go.Proofs.YtpblgfgcoamgmaaV

variable {G : Heap}
attribute [local irreducible] VN VC VX VQ

def truth (b : Bool) : Int := if b then 1 else 0
/-- The value of a field, as the reference looks it up. -/
def valV (r : Rw) (id : Int) : Vl := match r with
  | [] => Vl.nul
  | c :: l => if c.1 = id then c.2 else valV l id
theorem getV_valV (r : Rw) (id : Int) : getV r id = if (valV r id).null = true then Vl.nul else valV r id := by
  induction r with
  | nil => rfl
  | cons c l ih => simp only [getV, valV]; split <;> simp_all
def within (v : Vl) (l : List Vl) : Bool := l.any fun x => !x.null && decide (x.n = v.n) && decide (x.s = v.s)
def simpleF (p : Pr) (v : Vl) : Int := if p.op = 4 then truth v.null else if v.null = true then 2 else if p.op = 1 then truth (decide (p.lo ≤ v.n) && decide (v.n ≤ p.hi)) else if p.op = 2 then truth (within v p.set) else truth (pre v.s p.text)
def evK (op simple : Int) (ks : List Int) : Int :=
  if op = 0 then 1
  else if op = 1 ∨ op = 2 ∨ op = 3 ∨ op = 4 then simple
  else if op = 5 then (if 0 < (ks.count 0 : Int) ∨ (ks.count 1 : Int) = ks.length then truth (decide ((ks.count 0 : Int) = 0)) else 2)
  else if op = 6 then (if 0 < (ks.count 1 : Int) ∨ (ks.count 0 : Int) = ks.length then truth (decide (0 < (ks.count 1 : Int))) else 2)
  else if op = 7 then (if (ks.length : Int) = 1 ∧ (ks.count 1 : Int) + ks.count 0 = 1 then truth (decide ((ks.count 0 : Int) = 1)) else 2)
  else 2
mutual
def evalP (r : Rw) : Pr → Int
  | .mk op id lo hi set text kids => evK op (simpleF (.mk op id lo hi set text kids) (valV r id)) (evalPs r kids)
def evalPs (r : Rw) : List Pr → List Int
  | [] => []
  | p :: l => evalP r p :: evalPs r l
end
theorem evalPs_eq (r : Rw) : ∀ l : List Pr, evalPs r l = l.map (evalP r)
  | [] => by simp only [evalPs, List.map_nil]
  | p :: l => by simp only [evalPs, evalPs_eq r l, List.map_cons]
theorem evalP_eq (r : Rw) (p : Pr) : evalP r p = evK p.op (simpleF p (valV r p.id)) (p.kids.map (evalP r)) := by
  cases p; simp only [evalP, evalPs_eq]; rfl
theorem count_take {ks : List Int} {j : Nat} {x : Int} (h : ks[j]? = some x) (a : Int) : (ks.take (j + 1)).count a = (ks.take j).count a + if x = a then 1 else 0 := by
  rw [List.take_add_one, h, Option.toList_some, List.count_append]
  by_cases e : x = a <;> simp [e]
end Go.Proofs.YtpblgfgcoamgmaaS
