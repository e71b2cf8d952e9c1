
import Derived.Test.YtpblgfgcoamgmaaCC
import Derived.Test.YtpblgfgcoamgmaaVC
set_option linter.unusedVariables false
set_option linter.unusedSimpArgs false
namespace Go.Proofs.YtpblgfgcoamgmaaS
open Go Go.Proofs.YtpblgfgcoamgmaaV

variable {G : Heap}
theorem VN.er {P : Program} {f : FuncId} {args : List D} {d : D} (h : VN P G f (args.map D.er) d) : VN P G f args d :=
  fun K w vargs hr ha => h K w vargs hr (ha.map fun _ _ h => h.er)
attribute [local irreducible] VN VC VX VQ

theorem str_beq (s s' : ByteArray) : (s == s') = true ↔ s = s' := by
  show (s.data == s'.data) = true ↔ _
  simp [ByteArray.ext_iff]
def coversF (u : Sm) (r : Rw) : Bool := decide (0 < u.rows) && u.l.all fun b =>
  let v := getV r b.id
  if v.null = true then decide (0 < b.nulls) else !(decide (u.rows ≤ b.nulls) || b.min.null || b.max.null) && !(decide (cmpV v b.min < 0) || decide (0 < cmpV v b.max))
theorem getV_cells (r : Rw) (id : Int) : (getV r id).cells = [.bool (getV r id).null, .int .i64 (getV r id).n, .str (getV r id).s] := rfl
def smSame (a b : Sm) : Bool := decide (a.rows = b.rows ∧ a.l = b.l)
abbrev I64 (k : Int) : Prop := -9223372036854775808 ≤ k ∧ k < 9223372036854775808
def Bd.I (b : Bd) : Prop := I64 b.id ∧ I64 b.nulls ∧ I64 b.min.n ∧ I64 b.max.n
theorem Lim0 {p : Pr} (h : p.kids = []) : p.Lim := .mk p (by rw [h]; simp) fun k hk => by rw [h] at hk; cases hk
theorem Lims {p : Pr} (h1 : p.kids.length ≤ 1048576) (h : ∀ k ∈ p.kids, k.kids = []) : p.Lim := .mk p h1 fun k hk => Lim0 (h k hk)
def vN (n : Int) : Vl := ⟨false, n, ByteArray.empty⟩
def btwL (id lo hi : Int) : Pr := .mk 1 id lo hi [] ByteArray.empty []
def nulL (id : Int) : Pr := .mk 4 id 0 0 [] ByteArray.empty []
def truL : Pr := .mk 0 0 0 0 [] ByteArray.empty []
def notL (p : Pr) : Pr := .mk 7 0 0 0 [] ByteArray.empty [p]
def orL (p q : Pr) : Pr := .mk 6 0 0 0 [] ByteArray.empty [p, q]
end Go.Proofs.YtpblgfgcoamgmaaS
