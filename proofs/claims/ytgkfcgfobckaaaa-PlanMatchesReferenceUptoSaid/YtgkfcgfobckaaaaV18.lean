/-
  The eighteenth text of the program logic: two operations that no edge orders change places.
  Conditions: none; it speaks of every program.
-/
import Derived.Test.YtgkfcgfobckaaaaV17
set_option linter.unusedVariables false
set_option linter.unusedSimpArgs false
namespace Go.Proofs.YtgkfcgfobckaaaaV
open Go

variable {P : Program} {G : Heap} {n B : Nat} {K : Kn} {s s' : St} {a : Act} {w : World} {ops : Array Oper}

/-- The value d of an operation that only computes. -/
def Yl (P : Program) (G : Heap) (ops : Array Oper) (o : Oper) (s : St) (d : D) : Prop :=
  match o.guard with
  | none => (pu P G s o).2 ∧ d = (pu P G s o).1
  | some g => match vguard s ops g with
    | some c => (∃ d0, (c = true → (pu P G s o).2 ∧ (pu P G s o).1 = d0) ∧ d = D.wn c d0) ∨ ((c = true → (pu P G s o).2 ∧ d = (pu P G s o).1) ∧ (c = false → d = .any))
    | none => False

theorem vdo_pure {U : List Nat} {i : Nat} {o : Oper} {rd : Rd} {k q : D → Heap → List Nat → Prop} (hc : cls o.op = .e ∨ cls o.op = .r) : vdo P G U i o rd s k q ↔ (pu P G s o).2 ∧ k (pu P G s o).1 s.β s.ω := by
  unfold vdo
  rcases hc with hc | hc <;> simp only [hc]

theorem vdop_pure {U : List Nat} {i : Nat} {o : Oper} {rd : Rd} {k q : D → Heap → List Nat → Prop} (hc : cls o.op = .e ∨ cls o.op = .r) : vdop P G ops U i o rd s k q ↔ ∃ d, Yl P G ops o s d ∧ k d s.β s.ω := by
  unfold vdop Yl
  cases hg : o.guard with
  | none =>
    simp only [vdo_pure hc]
    exact ⟨fun ⟨h1, h2⟩ => ⟨_, ⟨h1, rfl⟩, h2⟩, fun ⟨d, ⟨h1, h2⟩, h3⟩ => ⟨h1, h2 ▸ h3⟩⟩
  | some g =>
    simp only
    cases hv : vguard s ops g with
    | none => simp
    | some c =>
      simp only [vdo_pure hc]
      constructor
      · rintro (⟨d, h1, h2⟩ | ⟨h1, h2⟩)
        · exact ⟨D.wn c d, .inl ⟨d, fun h => ⟨(h1 h).1, (h1 h).2.1⟩, rfl⟩, h2⟩
        · cases c with
          | true => exact ⟨_, .inr ⟨fun _ => ⟨(h1 rfl).1, rfl⟩, fun h => by cases h⟩, (h1 rfl).2⟩
          | false => exact ⟨.any, .inr ⟨fun h => (by cases h), fun _ => rfl⟩, h2 rfl⟩
      · rintro ⟨d, ⟨d0, h1, rfl⟩ | ⟨h1, h2⟩, h3⟩
        · exact .inl ⟨d0, fun h => ⟨(h1 h).1, (h1 h).2, trivial, trivial⟩, h3⟩
        · refine .inr ⟨fun h => ⟨(h1 h).1, (h1 h).2 ▸ h3⟩, fun h => h2 h ▸ h3⟩

theorem vload_keep {β β' : Heap} {t : TypeId} {d : D} (h : (vloadAt P β t d).2) (hk : ∀ b off cs, d = .pb b off → β b = some cs → β' b = some cs) : vloadAt P β' t d = vloadAt P β t d := by
  unfold vloadAt at h ⊢
  split
  · rename_i b o
    simp only at h
    cases hb : β b with
    | none => simp [hb] at h
    | some cs => rw [hk b o cs rfl hb]
  · rfl
  · rfl

theorem cls_r {o : Oper} (hc : cls o.op = .r) : ∃ t x, o.op = .load t x := by
  obtain ⟨dst, op, ty, pos, after, guard⟩ := o
  cases op
  case load t x => exact ⟨t, x, rfl⟩
  case call c =>
    obtain ⟨cal, args, ts⟩ := c
    cases cal
    case builtin b => cases b <;> simp [cls] at hc
    all_goals simp [cls] at hc
  all_goals simp [cls] at hc

theorem pu_keep {o : Oper} (hc : cls o.op = .e ∨ cls o.op = .r) (h : Same G s s' (opers o)) (hk : ∀ t x b off cs, o.op = .load t x → s.ev G x = .pb b off → s.β b = some cs → s'.β b = some cs) (h2 : (pu P G s o).2) : pu P G s' o = pu P G s o := by
  have e : pu P G s' o = pu P G { s with β := s'.β, ω := s'.ω } o := pu_same rfl h
  rcases hc with hc | hc
  · rw [e, pu_mem hc]
  · obtain ⟨t, x, ho⟩ := cls_r hc
    rw [e]
    simp only [pu, ho, pv] at h2 ⊢
    have : ({ s with β := s'.β, ω := s'.ω } : St).ev G x = s.ev G x := rfl
    rw [this, vload_keep h2.2 fun b off cs hd hb => hk t x b off cs ho hd hb]
    rfl

theorem Yl.keep {o : Oper} {d : D} (hc : cls o.op = .e ∨ cls o.op = .r) (h : Agree G ops o s s') (hk : ∀ t x b off cs, o.op = .load t x → s.ev G x = .pb b off → s.β b = some cs → s'.β b = some cs) (hy : Yl P G ops o s d) : Yl P G ops o s' d := by
  unfold Yl at hy ⊢
  cases hg : o.guard with
  | none =>
    simp only [hg] at hy ⊢
    rw [pu_keep hc h.same hk hy.1]
    exact hy
  | some g =>
    simp only [hg] at hy ⊢
    rw [h.guard g hg]
    cases hv : vguard s ops g with
    | none => simp [hv] at hy
    | some c =>
      simp only [hv] at hy ⊢
      cases c with
      | true =>
        rcases hy with ⟨d0, h1, h2⟩ | ⟨h1, h2⟩
        · have := h1 rfl
          rw [pu_keep hc h.same hk this.1]
          exact .inl ⟨d0, h1, h2⟩
        · have := h1 rfl
          rw [pu_keep hc h.same hk this.1]
          exact .inr ⟨h1, h2⟩
      | false =>
        rcases hy with ⟨d0, h1, h2⟩ | ⟨h1, h2⟩
        · exact .inl ⟨d0, fun h => (by cases h), h2⟩
        · exact .inr ⟨fun h => (by cases h), h2⟩

/-! ### Slots -/

theorem raw_put {dst : Option Tmp} {d : D} {x : Operand} (h : ∀ t, dst = some t → x ≠ .tmp t) : (s.put dst d).raw G x = s.raw G x := by
  cases dst with
  | none => rfl
  | some t =>
    cases x with
    | tmp u =>
      have hne : u ≠ t := fun e => h t rfl (e ▸ rfl)
      simp [St.raw, St.put, hne]
    | _ => rfl

theorem raw_σ {x : Operand} (h : s'.σ = s.σ) : s'.raw G x = s.raw G x := by
  cases x <;> simp [St.raw, h]

theorem agree_put {o : Oper} {dst : Option Tmp} {d : D} (hσ : s'.σ = s.σ) (h : ∀ t, dst = some t → t ∉ o.looksAt ops) : Agree G ops o s (s'.put dst d) := by
  refine ⟨fun x hx => ?_, fun g hg => ?_⟩
  · rw [raw_put fun t ht e => h t ht (by
      subst e
      exact List.mem_append_left _ (List.mem_filterMap.2 ⟨.tmp t, hx, rfl⟩)), raw_σ hσ]
  · unfold vguard
    cases hd : (ops[g.1]?).bind (·.dst) with
    | none => rfl
    | some t =>
      simp only
      have : (s'.put dst d).σ t = s.σ t := by
        cases dst with
        | none => simp [hσ]
        | some u =>
          have hne : t ≠ u := fun e => h u rfl (by
            subst e
            obtain ⟨g1, g2⟩ := g
            simp only at hd
            simp [Oper.looksAt, hg, hd])
          simp [St.put, hne, hσ]
      rw [this]

theorem agree_trans {o : Oper} {s1 s2 s3 : St} (h : Agree G ops o s1 s2) (h' : Agree G ops o s1 s3) : Agree G ops o s2 s3 :=
  ⟨fun x hx => (h'.same x hx).trans (h.same x hx).symm, fun g hg => (h'.guard g hg).trans (h.guard g hg).symm⟩

theorem put_comm {x y : Option Tmp} {d e : D} (h : ∀ t, x = some t → y ≠ some t) : (s.put x d).put y e = (s.put y e).put x d := by
  cases x with
  | none => rfl
  | some t =>
    cases y with
    | none => rfl
    | some u =>
      have hne : t ≠ u := fun he => h t rfl (he ▸ rfl)
      simp only [St.put]
      congr 1
      funext i
      split <;> split <;> simp_all

theorem put_mem {dst : Option Tmp} {d : D} (β : Heap) (ω : List Nat) : ({ s with β, ω } : St).put dst d = { s.put dst d with β, ω } := by
  cases dst <;> rfl

theorem put_swap {x y : Option Tmp} {d e : D} {β : Heap} {ω : List Nat} (h : ∀ t, x = some t → y ≠ some t) : (({ s with β, ω } : St).put y e).put x d = ({ s.put x d with β, ω } : St).put y e := by
  rw [← put_comm h]
  exact congrArg (fun z => St.put z y e) (put_mem β ω)

/-! ### The row -/

/-- One entry of the row: an operation's number, and which operations it must not be disturbed by, or must not hide. -/
abbrev Ent := Nat × List Nat

def step (P : Program) (G : Heap) (ops : Array Oper) (q : D → Heap → List Nat → Prop) (e : Ent) (K : Rd → St → Prop) (rd : Rd) (s : St) : Prop :=
  match ops[e.1]? with
  | none => False
  | some o => vdop P G ops e.2 e.1 o rd s (fun d β ω => K (rdUp G o e.2 s rd) (({ s with β, ω } : St).put o.dst d)) q

def quietKind (o : Oper) : Bool := match cls o.op with
  | .e | .a => true
  | _ => false

def okPair (ops : Array Oper) (e1 e2 : Ent) : Bool :=
  match ops[e1.1]?, ops[e2.1]? with
  | some o1, some o2 => o1.apart ops o2 && match cls o1.op with
    | .e => true
    | .r => soft o2 || e1.2.contains e2.1
    | .c => o1.guard.isNone && o2.guard.isNone && e1.2.contains e2.1 && quietKind o2
    | .a | .t => o1.guard.isNone && o2.guard.isNone && quietKind o2
    | .s => o1.guard.isNone && o2.guard.isNone && cls o2.op == .e
    | .no => false
  | _, _ => false

section
variable {q : D → Heap → List Nat → Prop} {Kt Kt' : Rd → St → Prop} {rd : Rd} {e1 e2 : Ent}

theorem step_mono {e : Ent} (hf : Fini s.β) (hk : ∀ rd s, Fini s.β → Kt rd s → Kt' rd s) (h : step P G ops q e Kt rd s) : step P G ops q e Kt' rd s := by
  unfold step at h ⊢
  split at h
  · exact h.elim
  · rename_i o ho
    have := vdop_move (s' := s) rfl rfl ⟨fun _ _ => rfl, fun _ _ => rfl⟩ (fun _ h => h) hf h
    exact vdop_mono (fun d β ω hh => hk _ _ (by simpa using hh.1) hh.2.2) this

theorem rdBox_same {o : Oper} (h : Same G s s' (opers o)) : rdBox G o s' = rdBox G o s := by
  unfold rdBox
  split
  · rename_i t x ho
    rw [h.ev (x := x) (by simp [opers, ho, Op.operands])]
  · rfl

theorem rdUp_same {o : Oper} {U : List Nat} (h : Same G s s' (opers o)) : rdUp G o U s' rd = rdUp G o U s rd := by
  unfold rdUp
  rw [rdBox_same h]

theorem rdUp_le {o : Oper} {U : List Nat} {i b : Nat} (h : rd i b) : rdUp G o U s rd i b := by
  unfold rdUp
  cases rdBox G o s with
  | none => exact h
  | some x => exact .inl h

theorem rdUp_comm {o o' : Oper} {U U' : List Nat} : rdUp G o U s (rdUp G o' U' s' rd) = rdUp G o' U' s' (rdUp G o U s rd) := by
  unfold rdUp
  cases rdBox G o s <;> cases rdBox G o' s' <;> try rfl
  funext i b
  exact propext ⟨fun h => by rcases h with (h | h) | h <;> simp [h], fun h => by rcases h with (h | h) | h <;> simp [h]⟩

/-- An operation that only computes goes behind another one. -/
theorem swap_pure {o1 o2 : Oper} (h1 : ops[e1.1]? = some o1) (h2 : ops[e2.1]? = some o2) (hc : cls o1.op = .e ∨ cls o1.op = .r) (hap : o1.apart ops o2 = true) (hr : cls o1.op = .r → soft o2 = true ∨ e2.1 ∈ e1.2) (hf : Fini s.β)
    (h : step P G ops q e1 (step P G ops q e2 Kt) rd s) : step P G ops q e2 (step P G ops q e1 Kt) rd s := by
  obtain ⟨a1, a2, a3⟩ := Oper.apart_spec hap
  simp only [step, h1, h2] at h ⊢
  rw [vdop_pure hc] at h
  obtain ⟨d, hy, h⟩ := h
  have hag : Agree G ops o2 s (({ s with β := s.β, ω := s.ω } : St).put o1.dst d) := agree_put rfl a1
  have hag' : Agree G ops o2 (({ s with β := s.β, ω := s.ω } : St).put o1.dst d) s := ⟨fun x hx => (hag.same x hx).symm, fun g hg => (hag.guard g hg).symm⟩
  have hm := vdop_move (s' := s) (rd' := rd) (by simp) (by simp) hag' (fun b hb => rdUp_le hb) (by simpa using hf) h
  refine vdop_mono (fun d2 β ω hh => ?_) hm
  obtain ⟨hfi, hkeep, hK⟩ := hh
  rw [vdop_pure hc]
  have hag1 : Agree G ops o1 s (({ s with β, ω } : St).put o2.dst d2) := agree_put rfl a3
  refine ⟨d, Yl.keep hc hag1 (fun t x b off cs ho hev hb => ?_) hy, ?_⟩
  · simp only [St.put_β]
    refine hkeep b cs (by simpa using hb) ?_
    have hcr : cls o1.op = .r := by simp [ho, cls]
    rcases hr hcr with hs | hu
    · exact .inr hs
    · refine .inl ?_
      simp only [rdUp, rdBox, ho, hev]
      exact .inr ⟨hu, trivial⟩
  · have e1 : rdUp G o1 e1.2 (({ s with β, ω } : St).put o2.dst d2) (rdUp G o2 e2.2 s rd) = rdUp G o2 e2.2 (({ s with β := s.β, ω := s.ω } : St).put o1.dst d) (rdUp G o1 e1.2 s rd) := by
      rw [rdUp_same hag1.same, rdUp_same hag.same, rdUp_comm]
    rw [e1]
    show Kt _ ((({ s with β, ω } : St).put o2.dst d2).put o1.dst d)
    rw [put_swap a2]
    exact hK
end

end Go.Proofs.YtgkfcgfobckaaaaV
