
import Derived.Test.YtpblgfgcoamgmaaB1
set_option linter.unusedVariables false
set_option linter.unusedSimpArgs false
namespace Go.Proofs.YtpblgfgcoamgmaaS
open Go Go.Proofs.YtpblgfgcoamgmaaV

variable {G : Heap}

attribute [go_sem] ne_self Try.underlying4

/-- A value: null, a number, a text. -/
structure Vl where
  null : Bool
  n : Int
  s : ByteArray
  deriving DecidableEq
def Vl.cells (v : Vl) : List D := [.bool v.null, .int .i64 v.n, .str v.s]
def Vl.d (v : Vl) : D := .agg v.cells

/-- How two values compare. -/
def cmpN (a b : Int) : Int := if a < b then -1 else if b < a then 1 else 0
def cmpS (a b : ByteArray) : Int := Lib.compareBytes a.data.toList b.data.toList
def cmpV (a b : Vl) : Int := if a.null ≠ b.null then (if a.null then -1 else 1) else if cmpN a.n b.n ≠ 0 then cmpN a.n b.n else cmpS a.s b.s

end Go.Proofs.YtpblgfgcoamgmaaS
namespace Go.Proofs.YtpblgfgcoamgmaaS
open Go Go.Proofs.YtpblgfgcoamgmaaV

variable {G : Heap}

theorem sAt_nat (s : ByteArray) (j : Nat) : sAt s (j : Int) = ((s.data.toList.getD j 0).toNat : Int) := (rfl)
attribute [go_sem] sAt_nat Try.underlying9

theorem cmpB_take : ∀ (j : Nat) (x y : List UInt8), j ≤ x.length → j ≤ y.length → x.take j = y.take j → Lib.compareBytes x y = Lib.compareBytes (x.drop j) (y.drop j)
  | 0, x, y, _, _, _ => by simp
  | j + 1, [], _, h, _, _ => by simp at h
  | j + 1, _ :: _, [], _, h, _ => by simp at h
  | j + 1, a :: x, b :: y, h1, h2, h => by
    simp only [List.take_succ_cons, List.cons.injEq] at h
    obtain ⟨rfl, h⟩ := h
    have ih := cmpB_take j x y (by simpa using h1) (by simpa using h2) h
    conv => lhs; unfold Lib.compareBytes
    simp only [UInt8.lt_irrefl, if_false, List.drop_succ_cons]
    exact ih

theorem cmpB_at {x y : List UInt8} {j : Nat} (h1 : j < x.length) (h2 : j < y.length) (h : x.take j = y.take j) :
    Lib.compareBytes x y = (if (x.getD j 0).toNat < (y.getD j 0).toNat then -1 else if (y.getD j 0).toNat < (x.getD j 0).toNat then 1 else Lib.compareBytes x y) ∧ ((x.getD j 0).toNat = (y.getD j 0).toNat → x.take (j + 1) = y.take (j + 1)) := by
  have e1 : x.getD j 0 = x[j] := by simp [List.getD, h1]
  have e2 : y.getD j 0 = y[j] := by simp [List.getD, h2]
  rw [e1, e2]
  constructor
  · rw [cmpB_take j x y (by omega) (by omega) h, List.drop_eq_getElem_cons h1, List.drop_eq_getElem_cons h2]
    conv => lhs; unfold Lib.compareBytes
    simp only [UInt8.lt_iff_toNat_lt]
    split
    · rfl
    · split
      · rfl
      · rename_i q1 q2
        have e : x[j] = y[j] := UInt8.toNat_inj.1 (by omega)
        conv => rhs; unfold Lib.compareBytes
        simp only [e, UInt8.lt_irrefl, if_false]
  · intro e
    rw [List.take_add_one, List.take_add_one, h, List.getElem?_eq_getElem h1, List.getElem?_eq_getElem h2, UInt8.toNat_inj.1 e]
theorem cmpB_end {x y : List UInt8} (h : x.take (min x.length y.length) = y.take (min x.length y.length)) : Lib.compareBytes x y = if x.length < y.length then -1 else if y.length < x.length then 1 else 0 := by
  rw [cmpB_take _ x y (Nat.min_le_left _ _) (Nat.min_le_right _ _) h]
  rcases Nat.lt_trichotomy x.length y.length with h1 | h1 | h1
  · rw [Nat.min_eq_left (by omega), List.drop_length, if_pos h1]
    cases hd : y.drop x.length with
    | nil => have := congrArg List.length hd; simp at this; omega
    | cons a l => rfl
  · rw [h1, Nat.min_self, List.drop_length]
    rw [← h1, List.drop_length]
    simp [Lib.compareBytes]
  · rw [Nat.min_eq_right (by omega), List.drop_length, if_neg (by omega), if_pos h1]
    cases hd : x.drop y.length with
    | nil => have := congrArg List.length hd; simp at this; omega
    | cons a l => rfl

/-- No string and no slice in a cell of an argument is longer than the most. -/
theorem VC.small2 {P : Program} {f : FuncId} {args : List D} {β : Heap} {ω : List Nat} {Φ : Out → Heap → List Nat → Prop} (h : (∀ d ∈ args, ∀ c ∈ d.cells, Small c) → VC P G f args β ω Φ) : VC P G f args β ω Φ :=
  fun K w vargs hr ha => h (fun d hd c hc => by
    obtain ⟨i, hi⟩ := List.getElem?_of_mem hd
    obtain ⟨v, _, hv⟩ := ha.get i d hi
    cases hv with
    | agg hl =>
      obtain ⟨j, hj⟩ := List.getElem?_of_mem hc
      obtain ⟨u, _, hu⟩ := hl.get j c hj
      exact hu.small
    | sl a b c' d' e => simp only [D.cells, List.mem_singleton] at hc; subst hc; exact (Rep.sl a b c' d' e).small
    | str s hs => simp only [D.cells, List.mem_singleton] at hc; subst hc; exact hs
    | _ => simp only [D.cells, List.mem_singleton] at hc; subst hc; trivial) K w vargs hr ha

end Go.Proofs.YtpblgfgcoamgmaaS
namespace Go.Proofs.YtpblgfgcoamgmaaS
open Go Go.Proofs.YtpblgfgcoamgmaaV

variable {G : Heap}

/-- A text begins with another one. -/
def pre (s t : ByteArray) : Bool := decide (t.data.toList <+: s.data.toList)

theorem pre_eq (s t : ByteArray) : decide ((t.size : Int) ≤ s.size ∧ s.extract 0 t.size = t) = pre s t := by
  unfold pre
  congr 1
  apply propext
  have hs : s.size = s.data.toList.length := rfl
  have ht : t.size = t.data.toList.length := rfl
  have e : (s.extract 0 t.size = t) ↔ s.data.toList.take t.data.toList.length = t.data.toList := by
    constructor
    · intro h
      have := congrArg (fun x : ByteArray => x.data.toList) h
      rw [ByteArray.data_extract, Array.toList_extract, List.extract_eq_take_drop, ht] at this
      simpa using this
    · intro h
      apply ByteArray.ext
      apply Array.toList_inj.1
      rw [ByteArray.data_extract, Array.toList_extract, List.extract_eq_take_drop, ht]
      simpa using h
  rw [e]
  constructor
  · rintro ⟨_, h⟩
    rw [List.prefix_iff_eq_take]; exact h.symm
  · intro h
    refine ⟨?_, (List.prefix_iff_eq_take.1 h).symm⟩
    have := h.length_le
    omega

theorem slHas_ok (s t : ByteArray) : VN P G 87 [.str s, .str t] (.bool (pre s t)) := by
  refine VC.ofs (fun | 99999999 => [(0, [0, 1, 4])] | _ => []) [4] mixed Try.func87 rfl rfl rfl rfl (by decide +kernel) (by simp) ?_
  simp only [go_sem, reduceIte, Nat.reduceEqDiff, Nat.reduceAdd, Nat.reduceSub, Nat.reduceMul, Nat.reduceLT, Nat.reduceLeDiff, Nat.reducePow, Int.reduceToNat, Int.reduceLT, Int.reduceLE, Int.reduceEq, Int.reduceNe, Int.reduceAdd, Int.reduceSub, Int.reduceMul, Int.reduceNeg]
  exact ⟨fun _ => by omega, finK_drop ⟨by rw [pre_eq]; rfl, rfl, rfl⟩⟩
theorem HasPrefix_ok (s t : ByteArray) : VN P G 73 [.str s, .str t] (.bool (pre s t)) := by
  refine VC.ofs (fun | 99999999 => [(0, [0, 1, 4])] | _ => []) [4] mixed Try.func73 rfl rfl rfl rfl (by decide +kernel) (by simp) ?_
  simp only [go_sem, reduceIte, Nat.reduceEqDiff, Nat.reduceAdd, Nat.reduceSub, Nat.reduceMul, Nat.reduceLT, Nat.reduceLeDiff, Nat.reducePow, Int.reduceToNat, Int.reduceLT, Int.reduceLE, Int.reduceEq, Int.reduceNe, Int.reduceAdd, Int.reduceSub, Int.reduceMul, Int.reduceNeg]
  refine cK_vn (slHas_ok s t) ?_
  simp only [go_sem, reduceIte, Nat.reduceEqDiff, Nat.reduceAdd, Nat.reduceSub, Nat.reduceMul, Nat.reduceLT, Nat.reduceLeDiff, Nat.reducePow, Int.reduceToNat, Int.reduceLT, Int.reduceLE, Int.reduceEq, Int.reduceNe, Int.reduceAdd, Int.reduceSub, Int.reduceMul, Int.reduceNeg]
  exact finK_drop ⟨rfl, rfl, rfl⟩
end Go.Proofs.YtpblgfgcoamgmaaS
namespace Go.Proofs.YtpblgfgcoamgmaaS
open Go Go.Proofs.YtpblgfgcoamgmaaV

section
variable {P : Program} {G : Heap} {β : Heap} {ω : List Nat} {f : FuncId} {args : List D} {k q : D → Heap → List Nat → Prop} {R : D → Prop} {U : List Nat} {i : Nat} {rd : Rd}
/-- A contract of which only something of the result is known. -/
def VX (P : Program) (G : Heap) (f : FuncId) (args : List D) (R : D → Prop) : Prop := VC P G f args Heap.nil [] fun o β ω => ∃ d, R d ∧ o = .ret d ∧ β = Heap.nil ∧ ω = []
theorem callK_vx (h : VX P G f args R) (hk : ∀ d, R d → k d β ω) : callK P G (.clo (.func f) [] []) args β ω k q :=
  callK_vc h (Part.nil β ω) (fun d β' ω' ⟨β1, ω1, ⟨d1, h0, h1, h2, h3⟩, _, _, h4, h5⟩ => by
    cases h1; subst h2 h3 h4 h5
    simpa using hk d h0) (fun d β' ω' ⟨β1, ω1, ⟨d1, h0, h1, h2, h3⟩, _, _, h4, h5⟩ => by cases h1)
theorem callE_vx (h : VX P G f args R) (hn : ∃ d, R d) (hk : ∀ d, R d → k d β ω) : callE P G U i (.clo (.func f) [] []) True args rd β ω k q :=
  callE_vc h (Part.nil β ω) (fun _ _ => rfl) (fun _ N => ⟨hn.choose, Heap.nil, [], ⟨hn.choose, hn.choose_spec, rfl, rfl, rfl⟩, Fini.nil, fun b hb => absurd rfl hb, fun t ht => by simp at ht⟩)
    (fun d β' ω' ⟨β1, ω1, ⟨d1, h0, h1, h2, h3⟩, _, _, h4, h5⟩ => by
    cases h1; subst h2 h3 h4 h5
    simpa using hk d h0) (fun d β' ω' ⟨β1, ω1, ⟨d1, h0, h1, h2, h3⟩, _, _, h4, h5⟩ => by cases h1)
variable {ops : Array Oper} {rest : List Oper} {es : List Ent} {Q : VE → St → Prop} {dst : Option Tmp} {σ : Sg}
theorem cK_vx (h : VX P G f args R) (hk : ∀ d, R d → Ko P G ops rest Q dst σ d β ω) : cK P G (.clo (.func f) [] []) args β ω ops rest Q dst σ := callK_vx h hk
theorem cE_vx (h : VX P G f args R) (hn : ∃ d, R d) (hk : ∀ d, R d → Kd P G ops es Q dst σ d rd β ω) : cE P G U i (.clo (.func f) [] []) True args rd β ω ops es Q dst σ := callE_vx h hn hk
end

variable {G : Heap}

/-- Bounds, summaries. -/
structure Bd where
  id : Int
  nulls : Int
  min : Vl
  max : Vl
  deriving DecidableEq
def Bd.cells (b : Bd) : List D := [.int .i64 b.id, .int .i64 b.nulls, .bool b.min.null, .int .i64 b.min.n, .str b.min.s, .bool b.max.null, .int .i64 b.max.n, .str b.max.s]
def Bd.d (b : Bd) : D := .agg b.cells
structure Sm where
  rows : Int
  l : List Bd
def Sm.cells (u : Sm) : List D := [.int .i64 u.rows, .sl .none (u.l.map Bd.d)]
def Sm.d (u : Sm) : D := .agg u.cells
/-- Predicates. -/
inductive Pr where
  | mk (op id lo hi : Int) (set : List Vl) (text : ByteArray) (kids : List Pr)
mutual
def Pr.d : Pr → D
  | .mk op id lo hi set text kids => .agg [.int .i64 op, .int .i64 id, .int .i64 lo, .int .i64 hi, .sl .none (set.map Vl.d), .str text, .sl .none (Pr.ds kids)]
def Pr.ds : List Pr → List D
  | [] => []
  | p :: l => Pr.d p :: Pr.ds l
end
theorem Pr.ds_eq : ∀ l : List Pr, Pr.ds l = l.map Pr.d
  | [] => by simp only [Pr.ds, List.map_nil]
  | p :: l => by simp only [Pr.ds, Pr.ds_eq l, List.map_cons]
def Pr.op : Pr → Int | .mk op _ _ _ _ _ _ => op
def Pr.id : Pr → Int | .mk _ id _ _ _ _ _ => id
def Pr.lo : Pr → Int | .mk _ _ lo _ _ _ _ => lo
def Pr.hi : Pr → Int | .mk _ _ _ hi _ _ _ => hi
def Pr.set : Pr → List Vl | .mk _ _ _ _ set _ _ => set
def Pr.text : Pr → ByteArray | .mk _ _ _ _ _ text _ => text
def Pr.kids : Pr → List Pr | .mk _ _ _ _ _ _ kids => kids
def Pr.cells (p : Pr) : List D := [.int .i64 p.op, .int .i64 p.id, .int .i64 p.lo, .int .i64 p.hi, .sl .none (p.set.map Vl.d), .str p.text, .sl .none (p.kids.map Pr.d)]
theorem Pr.d_eq (p : Pr) : p.d = .agg p.cells := by cases p; simp only [Pr.d, Pr.ds_eq]; rfl
theorem Pr.kid_lt {p k : Pr} (h : k ∈ p.kids) : SizeOf.sizeOf k < SizeOf.sizeOf p := by
  cases p with
  | mk op id lo hi set text kids =>
    have := List.sizeOf_lt_of_mem (show k ∈ kids from h)
    simp; omega

theorem at_map {α : Type} {f : α → D} {l : List α} {j : Nat} (h : j < l.length) : ∃ x, l[j]? = some x ∧ (l.map f).getD j .any = f x := ⟨l[j], by simp [h], by simp [List.getD, h]⟩
theorem Bd_at {l : List Bd} {j : Nat} (h : (j : Int) < ((l.map Bd.d).length : Nat)) : ∃ b, l[j]? = some b ∧ (l.map Bd.d).getD j .any = .agg [.int .i64 b.id, .int .i64 b.nulls, .bool b.min.null, .int .i64 b.min.n, .str b.min.s, .bool b.max.null, .int .i64 b.max.n, .str b.max.s] :=
  at_map (by rw [List.length_map] at h; omega)
theorem Vl_at {l : List Vl} {j : Nat} (h : (j : Int) < ((l.map Vl.d).length : Nat)) : ∃ v, l[j]? = some v ∧ (l.map Vl.d).getD j .any = .agg [.bool v.null, .int .i64 v.n, .str v.s] :=
  at_map (by rw [List.length_map] at h; omega)
theorem Pr_at {l : List Pr} {j : Nat} (h : (j : Int) < ((l.map Pr.d).length : Nat)) : ∃ p, l[j]? = some p ∧ (l.map Pr.d).getD j .any = .agg [.int .i64 p.op, .int .i64 p.id, .int .i64 p.lo, .int .i64 p.hi, .sl .none (p.set.map Vl.d), .str p.text, .sl .none (p.kids.map Pr.d)] := by
  obtain ⟨x, h1, h2⟩ := at_map (f := Pr.d) (l := l) (j := j) (by rw [List.length_map] at h; omega)
  exact ⟨x, h1, h2.trans x.d_eq⟩
theorem len_lt {α : Type} {f : α → D} {l : List α} {j : Nat} (h : (j : Int) < ((l.map f).length : Nat)) : j < l.length := by rw [List.length_map] at h; omega

def isB (d : D) : Prop := ∃ b, d = .bool b

def isI (d : D) : Prop := ∃ k, d = .int .i64 k
end Go.Proofs.YtpblgfgcoamgmaaS
namespace Go.Proofs.YtpblgfgcoamgmaaS
open Go Go.Proofs.YtpblgfgcoamgmaaV

section
variable {P : Program} {G : Heap} {β : Heap} {ω : List Nat} {f : FuncId} {fs args cs : List D} {k q : D → Heap → List Nat → Prop} {d : D} {x : List D} {b : Nat}
/-- The contract of a function that reads one variable. -/
def VQ (P : Program) (G : Heap) (f : FuncId) (args : List D) (b : Nat) (x : List D) (d : D) : Prop :=
  VC P G f args (Heap.nil.set b x) [] fun o β ω => o = .ret d ∧ β = Heap.nil.set b x ∧ ω = []
theorem set_self (hb : β b = some x) : β.set b x = β := by
  funext b'
  unfold Heap.set
  split
  · rename_i e; rw [e, hb]
  · rfl
theorem callK_vq (h : VQ P G f (fs ++ args ++ cs) b x d) (hb : β b = some x) (hk : k d β ω) : callK P G (.clo (.func f) fs cs) args β ω k q := by
  show VC P G f (fs ++ args ++ cs) β ω (fun o β' ω' => match o with | .ret d => k d β' ω' | .pan d => q d β' ω')
  refine (VC.frame h (Part.var hb)).mono fun o β' ω' hf => ?_
  obtain ⟨β1, ω1, ⟨h1, h2, h3⟩, _, _, h4, h5⟩ := hf
  cases h1; subst h2 h3 h4 h5
  rw [joinH_box hb, set_self hb]
  simpa using hk
theorem finK_var {Φ : Out → Heap → List Nat → Prop} (hb : β b = some x) (h : Φ (.ret d.er) (Heap.nil.set b x) []) : finK Φ d β ω :=
  ⟨d.er, Heap.nil.set b x, [], Wk.er d, (fun b' cs hh => by
    unfold Heap.set at hh
    by_cases e : b' = b
    · rw [if_pos e] at hh; rw [e, hb]; exact hh
    · rw [if_neg e] at hh; cases hh), fun _ h => (List.not_mem_nil h).elim, h⟩
variable {ops : Array Oper} {rest : List Oper} {es : List Ent} {Q : VE → St → Prop} {dst : Option Tmp} {σ : Sg}
theorem cK_vq (h : VQ P G f (fs ++ args ++ cs) b x d) (hb : β b = some x) (hk : Ko P G ops rest Q dst σ d β ω) : cK P G (.clo (.func f) fs cs) args β ω ops rest Q dst σ := callK_vq h hb hk
end

variable {G : Heap}

/-- The first place, or -1. -/
def idx {α : Type} (q : α → Bool) (l : List α) : Int := if l.findIdx q < l.length then (l.findIdx q : Nat) else -1
theorem idx_hit {α : Type} {q : α → Bool} : ∀ {l : List α} {j : Nat} {x : α}, l[j]? = some x → j ≤ l.findIdx q → q x = true → l.findIdx q = j
  | [], j, x, h, _, _ => by simp at h
  | a :: l, 0, x, h, _, hq => by
    simp at h; subst h
    simp [List.findIdx_cons, hq]
  | a :: l, j + 1, x, h, hj, hq => by
    rw [List.findIdx_cons] at hj ⊢
    cases ha : q a with
    | true => simp [ha] at hj
    | false =>
      simp only [ha, cond_false] at hj ⊢
      rw [idx_hit (by simpa using h) (by omega) hq]
theorem idx_miss {α : Type} {q : α → Bool} : ∀ {l : List α} {j : Nat} {x : α}, l[j]? = some x → j ≤ l.findIdx q → q x = false → j + 1 ≤ l.findIdx q
  | [], j, x, h, _, _ => by simp at h
  | a :: l, 0, x, h, _, hq => by
    simp at h; subst h
    simp [List.findIdx_cons, hq]
  | a :: l, j + 1, x, h, hj, hq => by
    rw [List.findIdx_cons] at hj ⊢
    cases ha : q a with
    | true => simp [ha] at hj
    | false =>
      simp only [ha, cond_false] at hj ⊢
      have := idx_miss (by simpa using h) (Nat.le_of_succ_le_succ hj) hq
      omega

def Vl.zero : Vl := ⟨false, 0, ByteArray.empty⟩
def Bd.zero : Bd := ⟨0, 0, Vl.zero, Vl.zero⟩

/-- The bounds of a field. -/
def findI (l : List Bd) (id : Int) : Int := idx (fun b => decide (b.id = id)) l
def findB (l : List Bd) (id : Int) : Option Bd := l.find? (fun b => decide (b.id = id))
def orZ (o : Option Bd) : Bd := o.getD Bd.zero

theorem idx_find {α : Type} (q : α → Bool) : ∀ l : List α, (idx q l < 0 ∧ l.find? q = none) ∨ (∃ j x, idx q l = (j : Nat) ∧ j < l.length ∧ l[j]? = some x ∧ l.find? q = some x)
  | [] => .inl ⟨by simp [idx], rfl⟩
  | a :: l => by
    cases ha : q a with
    | true => exact .inr ⟨0, a, by simp [idx, List.findIdx_cons, ha], by simp, by simp, by simp [List.find?_cons, ha]⟩
    | false =>
      rcases idx_find q l with ⟨h1, h2⟩ | ⟨j, x, h1, h2, h3, h4⟩
      · refine .inl ⟨?_, by simp [List.find?_cons, ha, h2]⟩
        unfold idx at h1 ⊢
        simp only [List.findIdx_cons, ha, cond_false, List.length_cons]
        split at h1
        · omega
        · rw [if_neg (by omega)]; omega
      · refine .inr ⟨j + 1, x, ?_, by simp; omega, by simpa using h3, by simp [List.find?_cons, ha, h4]⟩
        unfold idx at h1 ⊢
        simp only [List.findIdx_cons, ha, cond_false, List.length_cons]
        split at h1
        · rw [if_pos (by omega)]; omega
        · omega

end Go.Proofs.YtpblgfgcoamgmaaS
