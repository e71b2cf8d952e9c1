/-
  Small helps of the walks: what boxes hold behind a new box or a store.
  Conditions: none.
-/
import Derived.Test.YtpblgfgcoamgmaaE1
import Derived.Test.YtpblgfgcoamgmaaVC
set_option linter.unusedVariables false
set_option linter.unusedSimpArgs false
namespace Go.Proofs.YtpblgfgcoamgmaaS
open Go Go.Proofs.YtpblgfgcoamgmaaV

theorem hit_set {β β' : Heap} {b : Nat} {c : List D} (h : β.set b c = β') : β' b = some c := by rw [← h]; simp [Heap.set]
theorem keep_new {β β' : Heap} {a b : Nat} {c x : List D} (h : β.set b c = β') (hb : β b = none) (e : β a = some x) : β' a = some x := by
  rw [← h]; simp only [Heap.set]; rw [if_neg (fun h => by rw [h, hb] at e; cases e)]; exact e
theorem keep_ne {β β' : Heap} {a b : Nat} {c x : List D} (h : β.set b c = β') (hb : a ≠ b) (e : β a = some x) : β' a = some x := by
  rw [← h]; simp only [Heap.set]; rw [if_neg hb]; exact e
@[go_sem] theorem set_again {β : Heap} {b : Nat} {x y : List D} : (β.set b x).set b y = β.set b y := by
  funext i; simp only [Heap.set]; split <;> rfl
@[go_sem] theorem Pr_take (p : Pr) : p.cells.take 7 = p.cells := (rfl)
@[go_sem] theorem Pr_len (p : Pr) : p.cells.length = 7 := (rfl)
@[go_sem] theorem Pr_obj (p : Pr) : isObj p.cells = false := (rfl)
@[go_sem] theorem Pr_one (p : Pr) : p.cells.all D.one = true := (rfl)
@[go_sem] theorem Pr_er (p : Pr) : p.cells.map D.er1 = p.cells := (rfl)
@[go_sem] theorem Pr_0 (p : Pr) : p.cells.getD 0 .any = .int .i64 p.op := (rfl)
@[go_sem] theorem Pr_1 (p : Pr) : p.cells.getD 1 .any = .int .i64 p.id := (rfl)
@[go_sem] theorem Pr_2 (p : Pr) : p.cells.getD 2 .any = .int .i64 p.lo := (rfl)
@[go_sem] theorem Pr_3 (p : Pr) : p.cells.getD 3 .any = .int .i64 p.hi := (rfl)
@[go_sem] theorem Pr_4 (p : Pr) : p.cells.getD 4 .any = .sl .none (p.set.map Vl.d) := (rfl)
@[go_sem] theorem Pr_5 (p : Pr) : p.cells.getD 5 .any = .str p.text := (rfl)
@[go_sem] theorem Pr_6 (p : Pr) : p.cells.getD 6 .any = .sl .none (p.kids.map Pr.d) := (rfl)
theorem Pr_pat {ps : List Pr} {j : Nat} (h : j < ps.length) : ∃ p, ps[j]? = some p ∧ (ps.map Pr.d).getD j .any = .agg p.cells := by
  obtain ⟨k, h1, h2⟩ := at_map (f := Pr.d) (l := ps) (j := j) h
  exact ⟨k, h1, h2.trans k.d_eq⟩
section
variable {P : Program} {G : Heap} {β : Heap} {ω : List Nat} {args : List D} {d : D}
variable {ops : Array Oper} {rest : List Oper} {es : List Ent} {Q : VE → St → Prop} {dst : Option Tmp} {σ : Sg} {β0 : Heap} {ω0 : List Nat} {Φ0 : Out → Heap → List Nat → Prop}
theorem part_join {β1 : Heap} {ω1 : List Nat} : Part β1 ω1 (joinH β β0 β1) (joinT ω ω0 ω1) :=
  ⟨fun b cs h => by simp [joinH, h], fun t ht => mem_joinT.2 (.inl ht)⟩
theorem join_keep {β1 : Heap} {b : Nat} {cs : List D} (hf : ∀ b, β1 b ≠ none → β0 b = none → β b = none) (h : β b = some cs) (h0 : β0 b = none) : joinH β β0 β1 b = some cs := by
  have h1 : β1 b = none := by
    cases e : β1 b with
    | none => rfl
    | some c => have := hf b (by rw [e]; simp) h0; rw [h] at this; cases this
  simp [joinH, h1, h0, h]
/-- A call by a part of the memory: the other boxes stay. -/
theorem cK_fr (h : VCall P G d args β0 ω0 Φ0) (hp : Part β0 ω0 β ω)
    (hk : ∀ r β1 ω1 β' ω', Φ0 (.ret r) β1 ω1 → Part β1 ω1 β' ω' → (∀ b cs, β b = some cs → β0 b = none → β' b = some cs) → ω' = joinT ω ω0 ω1 → Ko P G ops rest Q dst σ r β' ω')
    (hq : ∀ r β1 ω1, ¬ Φ0 (.pan r) β1 ω1) : cK P G d args β ω ops rest Q dst σ := by
  unfold cK callK
  refine (VCall.frame h hp).mono fun o β' ω' hf => ?_
  obtain ⟨β1, ω1, h1, h2, _, rfl, rfl⟩ := hf
  cases o with
  | ret r => exact hk r β1 ω1 _ _ h1 part_join (fun b cs e e0 => join_keep h2 e e0) rfl
  | pan r => exact (hq r β1 ω1 h1).elim
/-- In a drawn region, where nothing else must go on (U = []). -/
theorem cE_fr {U : List Nat} {i : Nat} {rd : Rd} (h : VCall P G d args β0 ω0 Φ0) (hp : Part β0 ω0 β ω) (hr : ∀ b, rd i b → β0 b = none) (hU : U = [])
    (hk : ∀ r β1 ω1 β' ω', Φ0 (.ret r) β1 ω1 → Part β1 ω1 β' ω' → (∀ b cs, β b = some cs → β0 b = none → β' b = some cs) → ω' = joinT ω ω0 ω1 → Kd P G ops es Q dst σ r rd β' ω')
    (hq : ∀ r β1 ω1, ¬ Φ0 (.pan r) β1 ω1) : cE P G U i d True args rd β ω ops es Q dst σ := by
  unfold cE callE
  refine ⟨β0, ω0, Φ0, hp, hr, trivial, h, fun hu => absurd hU hu, ?_, ?_⟩
  · rintro r β' ω' ⟨β1, ω1, h1, h2, _, rfl, rfl⟩ _
    exact hk r β1 ω1 _ _ h1 part_join (fun b cs e e0 => join_keep h2 e e0) rfl
  · rintro r β' ω' ⟨β1, ω1, h1, _⟩ _
    exact (hq r β1 ω1 h1).elim
theorem part_refl (β : Heap) (ω : List Nat) : Part β ω β ω := ⟨fun _ _ h => h, fun _ h => h⟩
theorem part_new {β1 : Heap} {ω1 : List Nat} {b : Nat} {c : List D} (h : Part β1 ω1 β ω) (hb : β b = none) : Part β1 ω1 (β.set b c) ω :=
  ⟨fun b' cs e => keep_new rfl hb (h.box b' cs e), h.tok⟩
theorem finK_part {Φ : Out → Heap → List Nat → Prop} {β1 : Heap} {ω1 : List Nat} (h : Part β1 ω1 β ω) (hd : Φ (.ret d) β1 ω1) : finK Φ d β ω := ⟨d, β1, ω1, Wk.refl d, h.box, h.tok, hd⟩
/-- A contract that leaves a row that may be appended to (or none). -/
def VTA (P : Program) (G : Heap) (f : FuncId) (args : List D) (m : Nat) (xs : List D) : Prop := VC P G f args Heap.nil [] fun o β ω => ∃ tk, o = .ret (.sl tk xs) ∧ β = Heap.nil ∧ TW m tk ω
theorem TW.okr {m : Nat} {tk : Tk} {ω1 : List Nat} (h : TW m tk ω1) (ω : List Nat) : tokOk m (ω1 ++ ω) tk := by
  rcases h with ⟨rfl, rfl⟩ | ⟨t, rfl, rfl⟩
  · trivial
  · exact ⟨by simp, rfl⟩
theorem framed_ta {f : FuncId} {m : Nat} {xs : List D} {o : Out} {β' : Heap} {ω' : List Nat} (h : Framed β ω Heap.nil [] (fun o β ω => ∃ tk, o = .ret (.sl tk xs) ∧ β = Heap.nil ∧ TW m tk ω) o β' ω') : ∃ tk ω1, TW m tk ω1 ∧ (∀ t, t ∈ ω1 → t ∉ ω) ∧ o = .ret (.sl tk xs) ∧ β' = β ∧ ω' = ω1 ++ ω := by
  obtain ⟨β1, ω1, ⟨tk, h1, h2, h3⟩, h4, h5, h6, h7⟩ := h
  subst h1 h2 h6 h7
  refine ⟨tk, ω1, h3, fun t ht => h5 t ht (by simp), rfl, joinH_nil β, ?_⟩
  simp [joinT]
theorem cK_ta {f : FuncId} {m : Nat} {xs : List D} (h : VTA P G f args m xs) (hk : ∀ tk ω1, TW m tk ω1 → (∀ t, t ∈ ω1 → t ∉ ω) → Ko P G ops rest Q dst σ (.sl tk xs) β (ω1 ++ ω)) : cK P G (.clo (.func f) [] []) args β ω ops rest Q dst σ :=
  callK_vc h (Part.nil β ω) (fun d β' ω' hf => by
    obtain ⟨tk, ω1, h1, h2, h3, rfl, rfl⟩ := framed_ta (f := f) hf
    cases h3
    exact hk tk ω1 h1 h2) (fun d β' ω' hf => by
    obtain ⟨tk, ω1, h1, h2, h3, _, _⟩ := framed_ta (f := f) hf
    cases h3)
theorem cE_ta {f : FuncId} {m : Nat} {xs : List D} {U : List Nat} {i : Nat} {rd : Rd} (h : VTA P G f args m xs) (hk : ∀ tk ω1, TW m tk ω1 → (∀ t, t ∈ ω1 → t ∉ ω) → Kd P G ops es Q dst σ (.sl tk xs) rd β (ω1 ++ ω)) : cE P G U i (.clo (.func f) [] []) True args rd β ω ops es Q dst σ :=
  callE_vc h (Part.nil β ω) (fun _ _ => rfl) (fun _ N => by
    obtain ⟨t, ht⟩ := fresh_tok ω
    exact ⟨.sl (.live t m) xs, Heap.nil, [t], ⟨.live t m, rfl, rfl, TW.live m t⟩, Fini.nil, fun b hb => absurd rfl hb, fun u hu _ => by simp at hu; exact hu ▸ ht⟩)
    (fun d β' ω' hf => by
    obtain ⟨tk, ω1, h1, h2, h3, rfl, rfl⟩ := framed_ta (f := f) hf
    cases h3
    exact hk tk ω1 h1 h2) (fun d β' ω' hf => by
    obtain ⟨tk, ω1, h1, h2, h3, _, _⟩ := framed_ta (f := f) hf
    cases h3)
theorem VTA.vn {f : FuncId} {m : Nat} {xs : List D} (h : VTA P G f args m xs) : VN P G f args (.sl .none xs) :=
  VC.turn h (fun d' β' ω' ⟨tk, h1, h2, h3⟩ => by
    cases h1; subst h2
    exact Turn.weak (finK_drop ⟨rfl, rfl, rfl⟩)) (fun d' β' ω' ⟨tk, h1, _⟩ => by cases h1)
theorem VT0.ta {f : FuncId} {m : Nat} {xs : List D} (h : VT0 P G f args fun t => .sl (.live t m) xs) : VTA P G f args m xs :=
  h.mono fun o β ω ⟨t, h1, h2, h3⟩ => ⟨_, h1, h2, by rw [h3]; exact TW.live m t⟩
theorem fin_ta {m : Nat} {xs : List D} {tk : Tk} (h : tokOk m ω tk) : finK (fun o β ω => ∃ tk, o = .ret (.sl tk xs) ∧ β = Heap.nil ∧ TW m tk ω) (.sl tk xs) β ω := by
  cases tk with
  | none => cases h
  | full => exact ⟨_, Heap.nil, [], Wk.refl _, (fun b cs h => by cases h), (fun t h => by cases h), .full, rfl, rfl, TW.full m⟩
  | live t m' => 
    obtain ⟨h1, rfl⟩ := h
    exact ⟨_, Heap.nil, [t], Wk.refl _, (fun b cs h => by cases h), (fun u hu => by simp at hu; exact hu ▸ h1), _, rfl, rfl, TW.live _ t⟩
end
end Go.Proofs.YtpblgfgcoamgmaaS
