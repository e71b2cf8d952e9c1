
import Derived.Test.YtpblgfgcoamgmaaCB
set_option linter.unusedVariables false
set_option linter.unusedSimpArgs false
namespace Go.Proofs.YtpblgfgcoamgmaaS
open Go Go.Proofs.YtpblgfgcoamgmaaV

variable {G : Heap}

mutual
def possT (u : Sm) : Pr → Tr
  | .mk op id lo hi set text kids =>
    if op = 0 then ⟨true, false, false⟩
    else if op = 1 ∨ op = 2 ∨ op = 3 ∨ op = 4 then atomT u (.mk op id lo hi set text kids)
    else if op = 5 then bothT (possTs u kids)
    else if op = 6 then (bothT ((possTs u kids).map Tr.turn)).turn
    else if op = 7 ∧ kids.length = 1 then (((possTs u kids).map Tr.turn)[0]?).getD ⟨false, false, true⟩
    else ⟨false, false, true⟩
def possTs (u : Sm) : List Pr → List Tr
  | [] => []
  | p :: l => possT u p :: possTs u l
end
theorem possTs_eq (u : Sm) : ∀ l : List Pr, possTs u l = l.map (possT u)
  | [] => by simp only [possTs, List.map_nil]
  | p :: l => by simp only [possTs, possTs_eq u l, List.map_cons]
theorem possT_eq (u : Sm) (p : Pr) : possT u p = if p.op = 0 then ⟨true, false, false⟩
    else if p.op = 1 ∨ p.op = 2 ∨ p.op = 3 ∨ p.op = 4 then atomT u p
    else if p.op = 5 then bothT (p.kids.map (possT u))
    else if p.op = 6 then (bothT ((p.kids.map (possT u)).map Tr.turn)).turn
    else if p.op = 7 ∧ p.kids.length = 1 then (((p.kids.map (possT u)).map Tr.turn)[0]?).getD ⟨false, false, true⟩
    else ⟨false, false, true⟩ := by
  cases p; simp only [possT, possTs_eq]; rfl
theorem codeD_one (l : List Tr) : ∀ x ∈ l.map codeD, x.cells.length = 1 := fun x hx => by
  obtain ⟨t, _, rfl⟩ := List.mem_map.1 hx; rfl
/-- No list of operands is very long. -/
inductive Pr.Lim : Pr → Prop where
  | mk (p : Pr) : p.kids.length ≤ 1048576 → (∀ k ∈ p.kids, Pr.Lim k) → Pr.Lim p
end Go.Proofs.YtpblgfgcoamgmaaS
namespace Go.Proofs.YtpblgfgcoamgmaaS
open Go Go.Proofs.YtpblgfgcoamgmaaV

variable {G : Heap}
attribute [local irreducible] VN VC VX VQ

theorem cmpB_anti : ∀ x y : List UInt8, (0 ≤ Lib.compareBytes x y ↔ Lib.compareBytes y x ≤ 0) := fun x y => by
  have h1 := compareBytes_lt x y
  have h2 := compareBytes_lt y x
  constructor
  · intro h
    rcases Int.lt_trichotomy (Lib.compareBytes y x) 0 with g | g | g
    · omega
    · omega
    · have := h1.1.2 (h2.2.1.1 g); omega
  · intro h
    rcases Int.lt_trichotomy (Lib.compareBytes x y) 0 with g | g | g
    · have := h2.2.1.2 (h1.1.1 g); omega
    · omega
    · omega
theorem cmpV_anti (a b : Vl) : (0 ≤ cmpV a b ↔ cmpV b a ≤ 0) := by
  obtain ⟨an, ai, as_⟩ := a
  obtain ⟨bn, bi, bs_⟩ := b
  have := cmpB_anti as_.data.toList bs_.data.toList
  simp only [cmpV, cmpN, cmpS]
  cases an <;> cases bn <;> simp
  all_goals repeat' split
  all_goals first | omega | simp_all
theorem innR_eq (b : Bd) (p : Pr) (hb : b.min.null = false) : innR b p = ((inn b p).y, (inn b p).n) := by
  have key : ∀ (l : List Vl) (t : Bool × Bool), l.foldl (innR1 b) t = (t.1 || l.any (inside b), t.2 && !(decide (b.min = b.max) && l.any fun x => decide (b.min = x))) := by
    intro l
    induction l with
    | nil => intro t; simp
    | cons e l ih =>
      intro t
      rw [List.foldl_cons, ih]
      have hd : (decide (e = b.min) && decide (e = b.max)) = (decide (b.min = b.max) && decide (b.min = e)) := by
        by_cases g : b.min = e
        · subst g; simp
        · have g' : ¬ e = b.min := fun x => g x.symm
          simp [g, g']
      cases hn : e.null with
      | true =>
        have g : ¬ b.min = e := fun x => by rw [x, hn] at hb; cases hb
        simp [innR1, hn, inside, g]
      | false =>
        simp only [innR1, hn, inside, List.any_cons, hd, cmpV_anti, Bool.false_eq_true, if_false, Bool.not_false, Bool.true_and]
        cases decide (b.min = b.max) <;> cases decide (b.min = e) <;> simp [Bool.or_assoc]
  rw [innR, key]
  simp [inn]
def Tr.cells (t : Tr) : List D := [.bool t.y, .bool t.n, .bool t.u]
end Go.Proofs.YtpblgfgcoamgmaaS
namespace Go.Proofs.YtpblgfgcoamgmaaS
open Go Go.Proofs.YtpblgfgcoamgmaaV

variable {G : Heap}
attribute [local irreducible] VN VC VX VQ

def ufd (P : Program) (t : TypeId) (f : Nat) : Option (TypeId × Nat) := match P.underlying t with
  | some (.struct fs) => (fs[f]?).map fun fd => (fd.type, fd.offset)
  | _ => none
theorem vfield_ufd {P : Program} {t : TypeId} {f : Nat} {ft : TypeId} {off : Nat} (h : ufd P t f = some (ft, off)) (cs : List D) : vfield P t f (.agg cs) = vload P ft cs off := by
  unfold ufd at h
  unfold vfield
  split at h
  · rename_i fs hu
    rw [hu]
    simp only
    cases hf : fs[f]? with
    | none => rw [hf] at h; cases h
    | some fd => rw [hf] at h; cases h; rfl
  · cases h
theorem set_none {β : Heap} {a b : Nat} {cs : List D} : ((β.set a cs) b = none) = ((a ≠ b ∧ b ≠ a) ∧ β b = none) := by
  unfold Heap.set
  by_cases h : b = a
  · simp [h]
  · simp [h, Ne.symm h]
theorem box_ne {β : Heap} {a b : Nat} {x : List D} (h : β b = none) (e : β a = some x) : a ≠ b ∧ b ≠ a := by
  constructor <;> (rintro rfl; rw [e] at h; cases h)

def trD (t : Tr) : D := .agg t.cells
def trDs (u : Sm) (l : List Pr) : List Tr := l.map (possT u)
def mayT (u : Sm) (p : Pr) : Bool := decide (0 < u.rows) && (possT u p).y
def mustT (u : Sm) (p : Pr) : Bool := decide (u.rows ≤ 0) || decide (possT u p = ⟨true, false, false⟩)
theorem code_yes (t : Tr) : (t.code = 2) = (t = ⟨true, false, false⟩) := by
  obtain ⟨a, b, c⟩ := t; cases a <;> cases b <;> cases c <;> simp [Tr.code]
end Go.Proofs.YtpblgfgcoamgmaaS
namespace Go.Proofs.YtpblgfgcoamgmaaS
open Go Go.Proofs.YtpblgfgcoamgmaaV

variable {G : Heap}
attribute [local irreducible] VN VC VX VQ

def Vl.nul : Vl := ⟨true, 0, ByteArray.empty⟩
def nullC : List D := [.bool true, .int .i64 0, .str ByteArray.empty]
abbrev Cl := Int × Vl
def clD (c : Cl) : D := .agg [.int .i64 c.1, .bool c.2.null, .int .i64 c.2.n, .str c.2.s]
def intD (i : Int) : D := .int .i64 i

def lesserV (a b : Vl) : Vl := if a.null = true ∨ (b.null = false ∧ cmpV b a < 0) then b else a
def greaterV (a b : Vl) : Vl := if a.null = true ∨ (b.null = false ∧ 0 < cmpV b a) then b else a
/-- The value of a field in a row. -/
def getV (r : List Cl) (id : Int) : Vl := match r with
  | [] => Vl.nul
  | c :: l => if c.1 = id then (if c.2.null = true then Vl.nul else c.2) else getV l id
theorem Cl_at {l : List Cl} {j : Nat} (h : j < l.length) : ∃ c, l[j]? = some c ∧ (l.map clD).getD j .any = .agg [.int .i64 c.1, .bool c.2.null, .int .i64 c.2.n, .str c.2.s] := at_map h
theorem drop_at {α : Type} {l : List α} {j : Nat} {x : α} (hx : l[j]? = some x) : l.drop j = x :: l.drop (j + 1) := by
  obtain ⟨h1, h2⟩ := List.getElem?_eq_some_iff.1 hx
  rw [List.drop_eq_getElem_cons h1, h2]
/-- A row to which may be appended, and the tokens about it. -/
def TW (m : Nat) (tk : Tk) (ω : List Nat) : Prop := (tk = .full ∧ ω = []) ∨ ∃ t, tk = .live t m ∧ ω = [t]
theorem TW.ok {m : Nat} {tk : Tk} {ω : List Nat} (h : TW m tk ω) : tokOk m ω tk = True := by
  rcases h with ⟨rfl, rfl⟩ | ⟨t, rfl, rfl⟩
  · rfl
  · simp [tokOk]
theorem TW.gone {m : Nat} {tk : Tk} {ω : List Nat} (h : TW m tk ω) : tokGone ω tk = [] := by
  rcases h with ⟨rfl, rfl⟩ | ⟨t, rfl, rfl⟩
  · rfl
  · simp [tokGone]
theorem TW.full (m : Nat) : TW m .full [] := .inl ⟨rfl, rfl⟩
theorem TW.live (m t : Nat) : TW m (.live t m) [t] := .inr ⟨t, rfl, rfl⟩

structure Fd where
  id : Int
  name : ByteArray
  type : Int
  parent : Int
  deriving DecidableEq
def fdD (f : Fd) : D := .agg [.int .i64 f.id, .str f.name, .int .i64 f.type, .int .i64 f.parent]
theorem Fd_at {l : List Fd} {j : Nat} (h : j < l.length) : ∃ f, l[j]? = some f ∧ (l.map fdD).getD j .any = .agg [.int .i64 f.id, .str f.name, .int .i64 f.type, .int .i64 f.parent] := at_map h
def leavesF (l : List Fd) : List Int := (l.filter fun f => !decide (f.type = 6)).map (·.id)
theorem leavesF_len (l : List Fd) : (leavesF l).length ≤ l.length := by
  unfold leavesF; rw [List.length_map]; exact List.length_filter_le ..
theorem intD_cells (l : List Int) : ∀ x ∈ l.map intD, x.cells.length = 1 := fun x hx => by
  obtain ⟨t, _, rfl⟩ := List.mem_map.1 hx; rfl
end Go.Proofs.YtpblgfgcoamgmaaS
namespace Go.Proofs.YtpblgfgcoamgmaaS
open Go Go.Proofs.YtpblgfgcoamgmaaV

variable {G : Heap}
attribute [local irreducible] VN VC VX VQ

abbrev Rw := List Cl
def rwD (r : Rw) : D := .agg [.sl .none (r.map clD)]
theorem Rw_at {l : List Rw} {j : Nat} (h : j < l.length) : ∃ r, l[j]? = some r ∧ (l.map rwD).getD j .any = .agg [.sl .none (r.map clD)] := at_map h
theorem intD_at {l : List Int} {j : Nat} (h : j < l.length) : ∃ r, l[j]? = some r ∧ (l.map intD).getD j .any = .int .i64 r := at_map h
def bdS (b : Bd) (r : Rw) : Bd := if (getV r b.id).null = true then ⟨b.id, b.nulls + 1, b.min, b.max⟩ else ⟨b.id, b.nulls, lesserV b.min (getV r b.id), greaterV b.max (getV r b.id)⟩
def bdF (l : List Rw) (id : Int) : Bd := l.foldl bdS ⟨id, 0, Vl.nul, Vl.nul⟩
theorem bdS_id (b : Bd) (r : Rw) : (bdS b r).id = b.id := by unfold bdS; split <;> rfl
theorem Bd_cells8 (l : List Bd) : ∀ x ∈ l.map Bd.d, x.cells.length = 8 := fun x hx => by
  obtain ⟨t, _, rfl⟩ := List.mem_map.1 hx; rfl
def ofF (ids : List Int) (l : List Rw) : Sm := ⟨l.length, ids.map (bdF l)⟩
end Go.Proofs.YtpblgfgcoamgmaaS
