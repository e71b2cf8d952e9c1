/-
  The thirteenth text of the program logic: the forms of code; and from a body's proof to a function's contract.
  Conditions: none; it speaks of every program.
-/
import Derived.Test.YtdemkhcloholiaaV12
set_option linter.unusedVariables false
set_option linter.unusedSimpArgs false
namespace Go.Proofs.YtdemkhcloholiaaV
open Go

variable {P : Program} {G : Heap} {n B : Nat} {K : Kn} {s : St} {a : Act} {w : World}

/-! ### A scope through which the run goes without a jump -/
section
variable {F : Fence} {m : Nat} {b : Frame} {k : List Item} {cs : List Frame} {Q : Exit → Act → World → Prop}

theorem stepR_scope {c : Code} : step P (lone (b.atR a (.code (.scope c) :: k)) cs w) = .next (lone (b.atR a (.code c :: .inScope c :: k)) cs w) :=
  step_lone_go (by simp [stepG, stepG.exec, Frame.atR])
theorem stepR_inScope {c : Code} : step P (lone (b.atR a (.inScope c :: k)) cs w) = .next (lone (b.atR a k) cs w) :=
  step_lone_go (by simp [stepG, stepG.exec, Frame.atR])

/-- As Q, and no goto. -/
def noJump (Q : Exit → Act → World → Prop) : Exit → Act → World → Prop
  | .goto _, _, _ => False
  | e, a, w => Q e a w

theorem wpIn_scope {c : Code} (h : c.wpIn F m P (noJump Q) a w) : (Code.scope c).wpIn F m P Q a w := by
  intro b k cs hro hb hr
  have h0 : (lone (b.atR a (.code (.scope c) :: k)) cs w).fenced P F := fenced_calm hb hr rfl
  obtain ⟨e, a₁, w₁, hq, harr⟩ := h b (.inScope c :: k) cs hro hb hr
  have hx : ∀ id, exitTo id (.inScope c :: k) = exitTo id k := fun id => by simp [exitTo]
  cases e with
  | normal => exact ⟨.normal, a₁, w₁, hq, .head h0 stepR_scope (StepsIn.trans harr (.one (fenced_calm hb hr rfl) stepR_inScope))⟩
  | exit id => exact ⟨_, a₁, w₁, hq, fun k' hk => .head h0 stepR_scope (harr.1 k' (by rw [hx]; exact hk)), fun hr' hk => let ⟨k₁, h1, h2⟩ := harr.2 hr' (by rw [hx]; exact hk); ⟨k₁, h1, .head h0 stepR_scope h2⟩⟩
  | goto l => exact hq.elim
  | ret => exact ⟨_, a₁, w₁, hq, .of_steps (.one h0 stepR_scope) harr⟩
  | panic ch => exact ⟨_, a₁, w₁, hq, .of_steps (.one h0 stepR_scope) harr⟩
  | outgrown => exact ⟨_, a₁, w₁, hq, .of_steps (.one h0 stepR_scope) harr⟩
end

/-- What is asked of a region whose order is drawn: filled in by the text on orders. -/
abbrev DrawRule := (P : Program) → (G : Heap) → Array Oper → (VE → St → Prop) → St → Prop

def VE.inBlock (id : Nat) (Q : VE → St → Prop) : VE → St → Prop
  | .exit id', s => if id' = id then Q .normal s else Q (.exit id') s
  | e, s => Q e s

def VE.then (next : St → Prop) (Q : VE → St → Prop) : VE → St → Prop
  | .normal, s => next s
  | e, s => Q e s

def VE.scoped (Q : VE → St → Prop) : VE → St → Prop
  | .goto _, _ => False
  | e, s => Q e s

/-- Some slots may be forgotten. -/
def VE.weak (Q : VE → St → Prop) (e : VE) (s : St) : Prop := ∃ σ' : Nat → D, (∀ t, σ' t = s.σ t ∨ σ' t = .any) ∧ Q e ⟨σ', s.β, s.ω⟩

/-- WHAT MUST HOLD FOR A PIECE OF CODE TO END AS Q SAYS. -/
def vwp (R : DrawRule) (P : Program) (G : Heap) : Code → (VE → St → Prop) → St → Prop
  | .skip, Q, s => Q .normal s
  | .label _, Q, s => Q .normal s
  | .seq x y, Q, s => vwp R P G x (VE.then (vwp R P G y Q) Q) s
  | .cond c x y, Q, s => match s.ev G c with
    | .bool b => s.has G c ∧ (b = true → vwp R P G x Q s) ∧ (b = false → vwp R P G y Q s)
    | _ => False
  | .block id c, Q, s => vwp R P G c (VE.inBlock id Q) s
  | .loop c, Q, s => ∃ (I : St → Prop) (μ : St → Nat), I s ∧ ∀ s, I s → vwp R P G c (VE.then (fun s' => I s' ∧ μ s' < μ s) Q) s
  | .exit id, Q, s => Q (.exit id) s
  | .goto l, Q, s => Q (.goto l) s
  | .ret, Q, s => Q .ret s
  | .scope c, Q, s => vwp R P G c (VE.scoped Q) s
  | .region _ ops false, Q, s => vops P G ops ops.toList (VE.weak Q) s
  | .region _ ops true, Q, s => R P G ops (VE.weak Q) s
  | _, _, _ => False

/-- All that is written lies in the frame. -/
def fits (n : Nat) : Code → Bool
  | .seq x y | .cond _ x y => fits n x && fits n y
  | .block _ c | .loop c | .scope c => fits n c
  | .region _ ops _ => ops.toList.all fun o => match o.dst with | some t => decide (t < n) | none => true
  | _ => true

/-- The rule for drawn orders is sound. -/
def Sound (R : DrawRule) : Prop :=
  ∀ (P : Program) (G : Heap) (n B : Nat) (ops : Array Oper) (Q : VE → St → Prop) (s : St) (K : Kn) (a : Act) (w : World) (ro : Option Nat) (K0 : Kn) (β0 : Heap) (ω0 : List Nat) (w0 : World) (t : Nat),
    (∀ o ∈ ops.toList, ∀ t, o.dst = some t → t < n) → R P G ops Q s → SR G n B K s a w → Evo K0 β0 ω0 w0 K s.β s.ω w →
    wpOpsIn (W ro) 0 P ops (up G n B K0 β0 ω0 w0 Q) (Region.schedule (P.follows .mixedOrders) ops t) a w

section
variable {ro : Option Nat} {K0 : Kn} {β0 : Heap} {ω0 : List Nat} {w0 : World} {R : DrawRule}

theorem up_mono {Q Q' : VE → St → Prop} (h : ∀ e s, Q e s → Q' e s) {e : Exit} (hu : up G n B K0 β0 ω0 w0 Q e a w) : up G n B K0 β0 ω0 w0 Q' e a w :=
  let ⟨K, s, ve, h1, h2⟩ := hu
  ⟨K, s, ve, h _ _ h1, h2⟩

theorem SR.weak (h : SR G n B K s a w) {σ' : Nat → D} (hs : ∀ t, σ' t = s.σ t ∨ σ' t = .any) : SR G n B K ⟨σ', s.β, s.ω⟩ a w :=
  ⟨h.rel, fun t => by
    show Rep K (σ' t) _
    rcases hs t with e | e <;> rw [e]
    · exact h.tmps t
    · exact .any _, h.size, h.marks⟩

theorem up_weak {Q : VE → St → Prop} {e : Exit} (hu : up G n B K0 β0 ω0 w0 (VE.weak Q) e a w) : up G n B K0 β0 ω0 w0 Q e a w :=
  let ⟨K, s, ve, ⟨σ', h1, h2⟩, h3, h4, h5⟩ := hu
  ⟨K, ⟨σ', s.β, s.ω⟩, ve, h2, h3, h4.weak h1, h5⟩

theorem SR.drew (h : SR G n B K s a w) : SR G n B K s a { w with drawn := w.drawn + 1 } := by
  have he : Evo K s.β s.ω w K s.β s.ω { w with drawn := w.drawn + 1 } := Evo.same rfl rfl rfl rfl
  exact h.move he (h.rel.same rfl)

theorem exists_least {p : Nat → Prop} (h : ∃ m, p m) : ∃ m, p m ∧ ∀ k, p k → m ≤ k := by
  obtain ⟨m, hm⟩ := h
  induction m using Nat.strongRecOn with
  | _ m ih =>
    by_cases hk : ∃ k, k < m ∧ p k
    · obtain ⟨k, hk1, hk2⟩ := hk
      exact ih k hk1 hk2
    · refine ⟨m, hm, fun k hp => ?_⟩
      rcases Nat.lt_or_ge k m with hlt | hge
      · exact absurd ⟨k, hlt, hp⟩ hk
      · exact hge

theorem vwp_sound (hS : Sound R) : ∀ (c : Code) (Q : VE → St → Prop) (s : St) (K : Kn) (a : Act) (w : World), fits n c = true → vwp R P G c Q s → SR G n B K s a w → Evo K0 β0 ω0 w0 K s.β s.ω w →
    c.wpIn (W ro) 0 P (up G n B K0 β0 ω0 w0 Q) a w
  | .skip, Q, s, K, a, w, _, hv, h, hE => wpIn_skip ⟨K, s, .normal, hv, trivial, h, hE⟩
  | .label _, Q, s, K, a, w, _, hv, h, hE => wpIn_label ⟨K, s, .normal, hv, trivial, h, hE⟩
  | .exit id, Q, s, K, a, w, _, hv, h, hE => wpIn_exit ⟨K, s, .exit id, hv, rfl, h, hE⟩
  | .goto l, Q, s, K, a, w, _, hv, h, hE => wpIn_goto ⟨K, s, .goto l, hv, rfl, h, hE⟩
  | .ret, Q, s, K, a, w, _, hv, h, hE => wpIn_ret ⟨K, s, .ret, hv, trivial, h, hE⟩
  | .seq x y, Q, s, K, a, w, hf, hv, h, hE => by
    simp only [fits, Bool.and_eq_true] at hf
    refine wpIn_seq (wpIn_mono (vwp_sound hS x _ s K a w hf.1 hv h hE) ?_)
    rintro e a' w' ⟨K', s', ve, h1, h2, h3, h4⟩
    cases ve <;> cases e <;> first
      | exact h2.elim
      | exact vwp_sound hS y Q s' K' a' w' hf.2 h1 h3 h4
      | exact ⟨K', s', _, h1, h2, h3, h4⟩
  | .cond c x y, Q, s, K, a, w, hf, hv, h, hE => by
    simp only [fits, Bool.and_eq_true] at hf
    simp only [vwp] at hv
    split at hv
    · rename_i b hb
      obtain ⟨h1, h2, h3⟩ := hv
      have hr := h.ev c h1
      rw [hb] at hr
      have hc : a.eval c = .bool b := by
        cases hv : a.eval c <;> rw [hv] at hr <;> cases hr
        rfl
      cases b with
      | true => exact wpIn_cond_true hc (vwp_sound hS x Q s K a w hf.1 (h2 rfl) h hE)
      | false => exact wpIn_cond_false hc (vwp_sound hS y Q s K a w hf.2 (h3 rfl) h hE)
    · exact hv.elim
  | .block id c, Q, s, K, a, w, hf, hv, h, hE => by
    refine wpIn_block (wpIn_mono (vwp_sound hS c _ s K a w hf hv h hE) ?_)
    rintro e a' w' ⟨K', s', ve, h1, h2, h3, h4⟩
    cases ve <;> cases e <;> first
      | exact h2.elim
      | (rename_i i j
         obtain rfl : i = j := h2
         simp only [VE.inBlock] at h1
         simp only [Exit.inBlock]
         split
         · rename_i hid
           rw [if_pos hid] at h1
           exact ⟨K', s', .normal, h1, trivial, h3, h4⟩
         · rename_i hid
           rw [if_neg hid] at h1
           exact ⟨K', s', .exit i, h1, rfl, h3, h4⟩)
      | exact ⟨K', s', _, h1, h2, h3, h4⟩
  | .loop c, Q, s, K, a, w, hf, hv, h, hE => by
    obtain ⟨I, μ, hI, hstep⟩ := hv
    let J : Nat → Act → World → Prop := fun m a w => ∃ K s, μ s = m ∧ I s ∧ SR G n B K s a w ∧ Evo K0 β0 ω0 w0 K s.β s.ω w
    have hrun : ∀ m a w, J m a w → (Code.loop c).wpIn (W ro) 0 P (up G n B K0 β0 ω0 w0 Q) a w := by
      intro m a w hJ
      classical
      let μm : Act → World → Nat := fun a w => if hm : ∃ m, J m a w then Classical.choose (exists_least hm) else 0
      refine wpIn_loop (fun a w => ∃ m, J m a w) μm ⟨m, hJ⟩ ?_
      intro a w hx
      have hspec : J (Classical.choose (exists_least hx)) a w := (Classical.choose_spec (exists_least hx)).1
      have hμ : μm a w = Classical.choose (exists_least hx) := dif_pos hx
      obtain ⟨K, s, hms, hIs, hs, he⟩ := hspec
      refine wpIn_mono (vwp_sound hS c _ s K a w hf (hstep s hIs) hs he) ?_
      rintro e a' w' ⟨K', s', ve, h1, h2, h3, h4⟩
      cases ve <;> cases e <;> first
        | exact h2.elim
        | (obtain ⟨h1, h5⟩ := h1
           have hx' : ∃ m, J m a' w' := ⟨_, K', s', rfl, h1, h3, h4⟩
           refine ⟨hx', ?_⟩
           have hμ' : μm a' w' = Classical.choose (exists_least hx') := dif_pos hx'
           have : Classical.choose (exists_least hx') ≤ μ s' := (Classical.choose_spec (exists_least hx')).2 _ ⟨K', s', rfl, h1, h3, h4⟩
           rw [hμ, hμ']
           omega)
        | exact ⟨K', s', _, h1, h2, h3, h4⟩
    exact hrun _ a w ⟨K, s, rfl, hI, h, hE⟩
  | .region id ops false, Q, s, K, a, w, hf, hv, h, hE => by
    refine wpIn_mono (wpIn_region (vops_sound _ _ s K a w (range_map ops) (fun o ho t ht => ?_) hv h hE)) fun e a w => up_weak
    simp only [fits, List.all_eq_true] at hf
    have := hf o ho
    rw [ht] at this
    simpa using this
  | .region id ops true, Q, s, K, a, w, hf, hv, h, hE => by
    refine wpIn_mono (wpIn_region_draw (Q := up G n B K0 β0 ω0 w0 (VE.weak Q)) fun t => ?_) fun e a w => up_weak
    have he : Evo K s.β s.ω w K s.β s.ω { w with drawn := w.drawn + 1 } := Evo.same rfl rfl rfl rfl
    refine hS P G n B ops (VE.weak Q) s K a _ ro K0 β0 ω0 w0 t (fun o ho t ht => ?_) hv h.drew (hE.trans he)
    simp only [fits, List.all_eq_true] at hf
    have := hf o ho
    rw [ht] at this
    simpa using this
  | .rangeFunc _ _ _ _, _, _, _, _, _, _, hv, _, _ => hv.elim
  | .scope c, Q, s, K, a, w, hf, hv, h, hE => by
    refine wpIn_scope (wpIn_mono (vwp_sound hS c _ s K a w hf hv h hE) ?_)
    rintro e a' w' ⟨K', s', ve, h1, h2, h3, h4⟩
    cases ve <;> cases e <;> first
      | exact h2.elim
      | exact h1.elim
      | exact ⟨K', s', _, h1, h2, h3, h4⟩
  | .refuse _, _, _, _, _, _, _, hv, _, _ => hv.elim
end

end Go.Proofs.YtdemkhcloholiaaV
