/-
  The thirteenth text of the program logic: the forms of code; and from a body's proof to a function's contract.
  Conditions: none; it speaks of every program.
-/
import Derived.Test.YtgkfcgfobckaaaaV12
import Derived.RangeFuncRecord
set_option linter.unusedVariables false
set_option linter.unusedSimpArgs false
namespace Go.Proofs.YtgkfcgfobckaaaaV
open Go

variable {P : Program} {G : Heap} {n B : Nat} {K : Kn} {s : St} {a : Act} {w : World}

/-! ### A scope through which the run goes without a jump -/
section
variable {F : Fence} {m : Nat} {b : Frame} {k : List Item} {cs : List Frame} {Q : Exit → Act → World → Prop}

theorem stepR_scope {c : Code} : step P (lone (b.atR a (.code (.scope c) :: k)) cs w) = .next (lone (b.atR a (.code c :: .inScope c :: k)) cs w) :=
  step_lone_go (by simp [stepG, stepG.exec, Frame.atR])
theorem stepR_inScope {c : Code} : step P (lone (b.atR a (.inScope c :: k)) cs w) = .next (lone (b.atR a k) cs w) :=
  step_lone_go (by simp [stepG, stepG.exec, Frame.atR])

/-- As Q, and no goto. -/
def noJump (Q : Exit → Act → World → Prop) : Exit → Act → World → Prop
  | .goto _, _, _ => False
  | e, a, w => Q e a w

theorem wpIn_scope {c : Code} (h : c.wpIn F m P (noJump Q) a w) : (Code.scope c).wpIn F m P Q a w := by
  intro b k cs hro hb hr
  have h0 : (lone (b.atR a (.code (.scope c) :: k)) cs w).fenced P F := fenced_calm hb hr rfl
  obtain ⟨e, a₁, w₁, hq, harr⟩ := h b (.inScope c :: k) cs hro hb hr
  have hx : ∀ id, exitTo id (.inScope c :: k) = exitTo id k := fun id => by simp [exitTo]
  cases e with
  | normal => exact ⟨.normal, a₁, w₁, hq, .head h0 stepR_scope (StepsIn.trans harr (.one (fenced_calm hb hr rfl) stepR_inScope))⟩
  | exit id => exact ⟨_, a₁, w₁, hq, fun k' hk => .head h0 stepR_scope (harr.1 k' (by rw [hx]; exact hk)), fun hr' hk => let ⟨k₁, h1, h2⟩ := harr.2 hr' (by rw [hx]; exact hk); ⟨k₁, h1, .head h0 stepR_scope h2⟩⟩
  | goto l => exact hq.elim
  | ret => exact ⟨_, a₁, w₁, hq, .of_steps (.one h0 stepR_scope) harr⟩
  | panic ch => exact ⟨_, a₁, w₁, hq, .of_steps (.one h0 stepR_scope) harr⟩
  | outgrown => exact ⟨_, a₁, w₁, hq, .of_steps (.one h0 stepR_scope) harr⟩
end

/-! ### The record of a range over a function, in memory -/
theorem Rel.lp_at {β : Heap} {ω : List Nat} (h : Rel G K β ω w) {l : Nat} {r : Loop} {tm : Nat → D} (hb : β l = some [.lp r tm]) : w.heap[l]? = some (.loop r) ∧ ∀ t, Rep K (tm t) (r.tmps.getD t undef) := by
  obtain ⟨o, h1, h2⟩ := h.box l _ hb
  generalize hcs : [D.lp r tm] = cs at h2
  cases h2 with
  | cells h =>
    rename_i vs e
    obtain ⟨v, _, hv⟩ := h.get 0 (.lp r tm) (by rw [← hcs]; rfl)
    cases hv
  | loop h =>
    rename_i r' tm'
    injection hcs with hcs _
    injection hcs with e1 e2
    subst e1 e2
    exact ⟨h1, h⟩
theorem Rel.new_lp {β : Heap} {ω : List Nat} (h : Rel G K β ω w) {r : Loop} {tm : Nat → D} (hr : ∀ t, Rep K (tm t) (r.tmps.getD t undef)) :
    Rel G K (β.set w.heap.size [.lp r tm]) ω (w.alloc (.loop r)) ∧ Evo K β ω w K (β.set w.heap.size [.lp r tm]) ω (w.alloc (.loop r)) := by
  have hp := h.push (.loop r)
  constructor
  · refine ⟨hp.holds, fun b cs' hb => ?_, fun b cs' hb o => ?_, fun t ht => ?_, h.tokne, h.glob, h.free⟩
    · unfold Heap.set at hb
      split at hb
      · rename_i hbe
        subst hbe
        cases hb
        exact ⟨_, heap_push_new _, .loop hr⟩
      · exact hp.box b cs' hb
    · unfold Heap.set at hb
      split at hb
      · rename_i hbe
        subst hbe
        exact h.none_of_ge (Nat.le_refl _) o
      · exact h.boxK b cs' hb o
    · obtain ⟨x, a1, hx⟩ := hp.tok t ht
      refine ⟨x, a1, fun hd hxd => ?_⟩
      obtain ⟨us, e', a2, a3, a4, a5, a6⟩ := hx hd hxd
      refine ⟨us, e', a2, a3, a4, ?_, a6⟩
      unfold Heap.set
      split
      · rename_i hbe
        subst hxd
        obtain ⟨us', e'', b2, _⟩ := h.tokAt ht a1
        have := lt_of_heap b2
        omega
      · exact a5
  · refine ⟨.refl K, by rw [size_push]; omega, rfl, rfl, rfl, fun b hb ho => ⟨heap_push_old _ hb, fun _ => rfl, fun hn => ho ?_⟩, fun _ h => .inl h⟩
    rcases hn with hn | hn
    · left
      unfold Heap.set at hn
      rwa [if_neg (by omega)] at hn
    · exact .inr hn
theorem Rel.put_lp {β : Heap} {ω : List Nat} (h : Rel G K β ω w) {l : Nat} {r r' : Loop} {tm : Nat → D} (hb : β l = some [.lp r tm]) (ht : r'.tmps = r.tmps) :
    Rel G K (β.set l [.lp r' tm]) ω (w.putObj l (.loop r')) ∧ Evo K β ω w K (β.set l [.lp r' tm]) ω (w.putObj l (.loop r')) := by
  obtain ⟨hv, hr⟩ := h.lp_at hb
  have hlt := lt_of_heap hv
  have hk : ∀ k, k ≠ l → (w.putObj l (.loop r')).heap[k]? = w.heap[k]? := fun k hk => World.putObj_heap_other hk
  have hbw : (w.putObj l (.loop r')).heap[l]? = some (.loop r') := World.putObj_heap_same hlt
  refine ⟨⟨fun b' o' d hkd => ?_, fun b' cs' hc => ?_, fun b' cs' hc o' => ?_, fun t ht => ?_, h.tokne, h.glob, h.free⟩, ⟨.refl K, by simp, rfl, rfl, rfl, fun b' hb' hn => ⟨hk b' ?_, fun _ => rfl, fun hx => hn ?_⟩, fun _ h => .inl h⟩⟩
  · obtain ⟨v, hv', hrv⟩ := h.holds b' o' d hkd
    have hne : b' ≠ l := fun e => by subst e; rw [h.boxK b' _ hb o'] at hkd; cases hkd
    exact ⟨v, by rw [← hv']; simp [World.cell?, hk b' hne], hrv⟩
  · unfold Heap.set at hc
    split at hc
    · rename_i hbe
      subst hbe
      cases hc
      exact ⟨_, hbw, .loop fun t => by rw [ht]; exact hr t⟩
    · rename_i hne
      rw [hk b' hne]
      exact h.box b' cs' hc
  · unfold Heap.set at hc
    split at hc
    · rename_i hbe
      subst hbe
      exact h.boxK b' _ hb o'
    · exact h.boxK b' cs' hc o'
  · obtain ⟨x, a1, hx⟩ := h.tok t ht
    refine ⟨x, a1, fun hd hxd => ?_⟩
    obtain ⟨us', e', a2, a3, a4, a5, a6⟩ := hx hd hxd
    have hne : hd.b ≠ l := fun e => by rw [e, hb] at a5; cases a5
    exact ⟨us', e', by rw [hk _ hne]; exact a2, a3, a4, by simp [Heap.set, hne, a5], a6⟩
  · intro hbe
    subst hbe
    exact hn (.inl (by rw [hb]; simp))
  · rcases hx with hx | hx
    · left
      unfold Heap.set at hx
      split at hx
      · rename_i hbe
        subst hbe
        rw [hb]; simp
      · exact hx
    · exact .inr hx

/-- What is asked of a region whose order is drawn ('any'), or (another way) of one that goes in the text's order ('seq'): filled in by the text on orders. -/
structure DrawRule where
  any : (P : Program) → (G : Heap) → Array Oper → (VE → St → Prop) → St → Prop
  seq : (P : Program) → (G : Heap) → Array Oper → (VE → St → Prop) → St → Prop

def VE.inBlock (id : Nat) (Q : VE → St → Prop) : VE → St → Prop
  | .exit id', s => if id' = id then Q .normal s else Q (.exit id') s
  | e, s => Q e s

def VE.then (next : St → Prop) (Q : VE → St → Prop) : VE → St → Prop
  | .normal, s => next s
  | e, s => Q e s

def VE.scoped (Q : VE → St → Prop) : VE → St → Prop
  | .goto _, _ => False
  | e, s => Q e s

/-- Some slots may be forgotten. -/
def VE.weak (Q : VE → St → Prop) (e : VE) (s : St) : Prop := ∃ σ' : Nat → D, (∀ t, σ' t = s.σ t ∨ σ' t = .any) ∧ Q e ⟨σ', s.β, s.ω⟩

/-- All that is written lies in the frame. -/
def fits (n : Nat) : Code → Bool
  | .seq x y | .cond _ x y => fits n x && fits n y
  | .block _ c | .loop c | .scope c => fits n c
  | .region _ ops _ => ops.toList.all fun o => match o.dst with | some t => decide (t < n) | none => true
  | .rangeFunc _ ps x y => ps.toList.all (fun t => decide (t < n)) && fits n x && fits n y
  | _ => true

/-- No range over a function. -/
def noRange : Code → Bool
  | .seq x y | .cond _ x y => noRange x && noRange y
  | .block _ c | .loop c | .scope c => noRange c
  | .rangeFunc .. => false
  | _ => true

/-- The record of a range over a function, as it is laid. -/
structure LpNew (ps : Array Tmp) (x y : Code) (r : Loop) : Prop where
  state : r.state = .ready
  pending : r.pending = none
  params : r.params = ps
  assign : r.assign = x
  body : r.body = y
  fit : ∀ t ∈ r.params.toList, t < r.tmps.size
  fitx : fits r.tmps.size r.assign = true
  fity : fits r.tmps.size r.body = true

/-- How a range over a function is left. -/
def rangeOut : Option Code → (VE → St → Prop) → St → Prop
  | none, Q, s => Q .normal s
  | some .ret, Q, s => Q .ret s
  | some (.exit i), Q, s => Q (.exit i) s
  | some (.goto t), Q, s => Q (.goto t) s
  | _, _, _ => False
def Heap.drop (β : Heap) (b : Nat) : Heap := fun i => if i = b then none else β i

/-- WHAT MUST HOLD FOR A PIECE OF CODE TO END AS Q SAYS. -/
def vwp (R : DrawRule) (P : Program) (G : Heap) : Code → (VE → St → Prop) → St → Prop
  | .skip, Q, s => Q .normal s
  | .label _, Q, s => Q .normal s
  | .seq x y, Q, s => vwp R P G x (VE.then (vwp R P G y Q) Q) s
  | .cond c x y, Q, s => match s.ev G c with
    | .bool b => s.has G c ∧ (b = true → vwp R P G x Q s) ∧ (b = false → vwp R P G y Q s)
    | _ => False
  | .block id c, Q, s => vwp R P G c (VE.inBlock id Q) s
  | .loop c, Q, s => ∃ (I : St → Prop) (μ : St → Nat), I s ∧ ∀ s, I s → vwp R P G c (VE.then (fun s' => I s' ∧ μ s' < μ s) Q) s
  | .exit id, Q, s => Q (.exit id) s
  | .goto l, Q, s => Q (.goto l) s
  | .ret, Q, s => Q .ret s
  | .scope c, Q, s => vwp R P G c (VE.scoped Q) s
  | .rangeFunc g ps x y, Q, s => match s.ev G g with
    | .clo (.func f) first captured => s.has G g ∧ (∃ fn, P.funcs[f]? = some fn ∧ fn.body.isSome = true ∧ (fn.name == "runtime.NumGoroutine") = false) ∧
        ∀ (l : Nat) (r : Loop), s.β l = none → LpNew ps x y r → VC P G f (first ++ [.clo (.yield l) [] []] ++ captured) (s.β.set l [.lp r s.σ]) s.ω (fun o β' ω' => match o with
          | .ret _ => ∃ r' tm', β' l = some [.lp r' tm'] ∧ r'.state ≠ .busy ∧ rangeOut r'.pending Q { s with β := β'.drop l, ω := ω' }
          | .pan d => Q (.panic d) { s with β := β', ω := ω' })
    | _ => False
  | .region _ ops false, Q, s => vops P G ops ops.toList (VE.weak Q) s ∨ R.seq P G ops (VE.weak Q) s
  | .region _ ops true, Q, s => R.any P G ops (VE.weak Q) s
  | _, _, _ => False

/-- The rule for drawn orders is sound. -/
def Sound (R : DrawRule) : Prop :=
  (∀ (P : Program) (G : Heap) (n B : Nat) (ops : Array Oper) (Q : VE → St → Prop) (s : St) (K : Kn) (a : Act) (w : World) (ro : Option Nat) (K0 : Kn) (β0 : Heap) (ω0 : List Nat) (w0 : World) (t : Nat),
    (∀ o ∈ ops.toList, ∀ t, o.dst = some t → t < n) → R.any P G ops Q s → SR G n B K s a w → Evo K0 β0 ω0 w0 K s.β s.ω w →
    wpOpsIn (W ro) 0 P ops (up G n B K0 β0 ω0 w0 Q) (Region.schedule (P.follows .mixedOrders) ops t) a w) ∧
  (∀ (P : Program) (G : Heap) (n B : Nat) (ops : Array Oper) (Q : VE → St → Prop) (s : St) (K : Kn) (a : Act) (w : World) (ro : Option Nat) (K0 : Kn) (β0 : Heap) (ω0 : List Nat) (w0 : World),
    (∀ o ∈ ops.toList, ∀ t, o.dst = some t → t < n) → R.seq P G ops Q s → SR G n B K s a w → Evo K0 β0 ω0 w0 K s.β s.ω w →
    wpOpsIn (W ro) 0 P ops (up G n B K0 β0 ω0 w0 Q) (List.range ops.size) a w)

section
variable {ro : Option Nat} {K0 : Kn} {β0 : Heap} {ω0 : List Nat} {w0 : World} {R : DrawRule}

theorem up_mono {Q Q' : VE → St → Prop} (h : ∀ e s, Q e s → Q' e s) {e : Exit} (hu : up G n B K0 β0 ω0 w0 Q e a w) : up G n B K0 β0 ω0 w0 Q' e a w :=
  let ⟨K, s, ve, h1, h2⟩ := hu
  ⟨K, s, ve, h _ _ h1, h2⟩

theorem SR.weak (h : SR G n B K s a w) {σ' : Nat → D} (hs : ∀ t, σ' t = s.σ t ∨ σ' t = .any) : SR G n B K ⟨σ', s.β, s.ω⟩ a w :=
  ⟨h.rel, fun t => by
    show Rep K (σ' t) _
    rcases hs t with e | e <;> rw [e]
    · exact h.tmps t
    · exact .any _, h.size, h.marks⟩

theorem up_weak {Q : VE → St → Prop} {e : Exit} (hu : up G n B K0 β0 ω0 w0 (VE.weak Q) e a w) : up G n B K0 β0 ω0 w0 Q e a w :=
  let ⟨K, s, ve, ⟨σ', h1, h2⟩, h3, h4, h5⟩ := hu
  ⟨K, ⟨σ', s.β, s.ω⟩, ve, h2, h3, h4.weak h1, h5⟩

theorem SR.drew (h : SR G n B K s a w) : SR G n B K s a { w with drawn := w.drawn + 1 } := by
  have he : Evo K s.β s.ω w K s.β s.ω { w with drawn := w.drawn + 1 } := Evo.same rfl rfl rfl rfl
  exact h.move he (h.rel.same rfl)

theorem exists_least {p : Nat → Prop} (h : ∃ m, p m) : ∃ m, p m ∧ ∀ k, p k → m ≤ k := by
  obtain ⟨m, hm⟩ := h
  induction m using Nat.strongRecOn with
  | _ m ih =>
    by_cases hk : ∃ k, k < m ∧ p k
    · obtain ⟨k, hk1, hk2⟩ := hk
      exact ih k hk1 hk2
    · refine ⟨m, hm, fun k hp => ?_⟩
      rcases Nat.lt_or_ge k m with hlt | hge
      · exact absurd ⟨k, hlt, hp⟩ hk
      · exact hge

theorem vwp_soundR (hS : Sound R) (hB : B ≤ w0.heap.size) : ∀ (c : Code) (Q : VE → St → Prop) (s : St) (K : Kn) (a : Act) (w : World), ro = none ∨ noRange c = true → fits n c = true → vwp R P G c Q s → SR G n B K s a w → Evo K0 β0 ω0 w0 K s.β s.ω w →
    c.wpIn (W ro) 0 P (up G n B K0 β0 ω0 w0 Q) a w
  | .skip, Q, s, K, a, w, _, _, hv, h, hE => wpIn_skip ⟨K, s, .normal, hv, trivial, h, hE⟩
  | .label _, Q, s, K, a, w, _, _, hv, h, hE => wpIn_label ⟨K, s, .normal, hv, trivial, h, hE⟩
  | .exit id, Q, s, K, a, w, _, _, hv, h, hE => wpIn_exit ⟨K, s, .exit id, hv, rfl, h, hE⟩
  | .goto l, Q, s, K, a, w, _, _, hv, h, hE => wpIn_goto ⟨K, s, .goto l, hv, rfl, h, hE⟩
  | .ret, Q, s, K, a, w, _, _, hv, h, hE => wpIn_ret ⟨K, s, .ret, hv, trivial, h, hE⟩
  | .seq x y, Q, s, K, a, w, hr, hf, hv, h, hE => by
    simp only [fits, Bool.and_eq_true] at hf
    have hr1 : ro = none ∨ noRange x = true := hr.imp id fun q => by simp only [noRange, Bool.and_eq_true] at q; exact q.1
    have hr2 : ro = none ∨ noRange y = true := hr.imp id fun q => by simp only [noRange, Bool.and_eq_true] at q; exact q.2
    refine wpIn_seq (wpIn_mono (vwp_soundR hS hB x _ s K a w hr1 hf.1 hv h hE) ?_)
    rintro e a' w' ⟨K', s', ve, h1, h2, h3, h4⟩
    cases ve <;> cases e <;> first
      | exact h2.elim
      | exact vwp_soundR hS hB y Q s' K' a' w' hr2 hf.2 h1 h3 h4
      | exact ⟨K', s', _, h1, h2, h3, h4⟩
  | .cond c x y, Q, s, K, a, w, hr, hf, hv, h, hE => by
    simp only [fits, Bool.and_eq_true] at hf
    have hr1 : ro = none ∨ noRange x = true := hr.imp id fun q => by simp only [noRange, Bool.and_eq_true] at q; exact q.1
    have hr2 : ro = none ∨ noRange y = true := hr.imp id fun q => by simp only [noRange, Bool.and_eq_true] at q; exact q.2
    simp only [vwp] at hv
    split at hv
    · rename_i b hb
      obtain ⟨h1, h2, h3⟩ := hv
      have hr := h.ev c h1
      rw [hb] at hr
      have hc : a.eval c = .bool b := by
        cases hv : a.eval c <;> rw [hv] at hr <;> cases hr
        rfl
      cases b with
      | true => exact wpIn_cond_true hc (vwp_soundR hS hB x Q s K a w hr1 hf.1 (h2 rfl) h hE)
      | false => exact wpIn_cond_false hc (vwp_soundR hS hB y Q s K a w hr2 hf.2 (h3 rfl) h hE)
    · exact hv.elim
  | .block id c, Q, s, K, a, w, hr, hf, hv, h, hE => by
    refine wpIn_block (wpIn_mono (vwp_soundR hS hB c _ s K a w hr hf hv h hE) ?_)
    rintro e a' w' ⟨K', s', ve, h1, h2, h3, h4⟩
    cases ve <;> cases e <;> first
      | exact h2.elim
      | (rename_i i j
         obtain rfl : i = j := h2
         simp only [VE.inBlock] at h1
         simp only [Exit.inBlock]
         split
         · rename_i hid
           rw [if_pos hid] at h1
           exact ⟨K', s', .normal, h1, trivial, h3, h4⟩
         · rename_i hid
           rw [if_neg hid] at h1
           exact ⟨K', s', .exit i, h1, rfl, h3, h4⟩)
      | exact ⟨K', s', _, h1, h2, h3, h4⟩
  | .loop c, Q, s, K, a, w, hr, hf, hv, h, hE => by
    obtain ⟨I, μ, hI, hstep⟩ := hv
    let J : Nat → Act → World → Prop := fun m a w => ∃ K s, μ s = m ∧ I s ∧ SR G n B K s a w ∧ Evo K0 β0 ω0 w0 K s.β s.ω w
    have hrun : ∀ m a w, J m a w → (Code.loop c).wpIn (W ro) 0 P (up G n B K0 β0 ω0 w0 Q) a w := by
      intro m a w hJ
      classical
      let μm : Act → World → Nat := fun a w => if hm : ∃ m, J m a w then Classical.choose (exists_least hm) else 0
      refine wpIn_loop (fun a w => ∃ m, J m a w) μm ⟨m, hJ⟩ ?_
      intro a w hx
      have hspec : J (Classical.choose (exists_least hx)) a w := (Classical.choose_spec (exists_least hx)).1
      have hμ : μm a w = Classical.choose (exists_least hx) := dif_pos hx
      obtain ⟨K, s, hms, hIs, hs, he⟩ := hspec
      refine wpIn_mono (vwp_soundR hS hB c _ s K a w hr hf (hstep s hIs) hs he) ?_
      rintro e a' w' ⟨K', s', ve, h1, h2, h3, h4⟩
      cases ve <;> cases e <;> first
        | exact h2.elim
        | (obtain ⟨h1, h5⟩ := h1
           have hx' : ∃ m, J m a' w' := ⟨_, K', s', rfl, h1, h3, h4⟩
           refine ⟨hx', ?_⟩
           have hμ' : μm a' w' = Classical.choose (exists_least hx') := dif_pos hx'
           have : Classical.choose (exists_least hx') ≤ μ s' := (Classical.choose_spec (exists_least hx')).2 _ ⟨K', s', rfl, h1, h3, h4⟩
           rw [hμ, hμ']
           omega)
        | exact ⟨K', s', _, h1, h2, h3, h4⟩
    exact hrun _ a w ⟨K, s, rfl, hI, h, hE⟩
  | .region id ops false, Q, s, K, a, w, _, hf, hv, h, hE => by
    have hdst : ∀ o ∈ ops.toList, ∀ t, o.dst = some t → t < n := fun o ho t ht => by
      simp only [fits, List.all_eq_true] at hf
      have := hf o ho
      rw [ht] at this
      simpa using this
    rcases hv with hv | hv
    · exact wpIn_mono (wpIn_region (vops_sound _ _ s K a w (range_map ops) hdst hv h hE)) fun e a w => up_weak
    · exact wpIn_mono (wpIn_region (hS.2 P G n B ops (VE.weak Q) s K a w ro K0 β0 ω0 w0 hdst hv h hE)) fun e a w => up_weak
  | .region id ops true, Q, s, K, a, w, _, hf, hv, h, hE => by
    refine wpIn_mono (wpIn_region_draw (Q := up G n B K0 β0 ω0 w0 (VE.weak Q)) fun t => ?_) fun e a w => up_weak
    have he : Evo K s.β s.ω w K s.β s.ω { w with drawn := w.drawn + 1 } := Evo.same rfl rfl rfl rfl
    refine hS.1 P G n B ops (VE.weak Q) s K a _ ro K0 β0 ω0 w0 t (fun o ho t ht => ?_) hv h.drew (hE.trans he)
    simp only [fits, List.all_eq_true] at hf
    have := hf o ho
    rw [ht] at this
    simpa using this
  | .rangeFunc g ps x y, Q, s, K, a, w, hr, hf, hv, h, hE => by
    have hr0 : ro = none := hr.resolve_right (by simp [noRange])
    subst hr0
    simp only [fits, Bool.and_eq_true, List.all_eq_true, decide_eq_true_eq] at hf
    obtain ⟨⟨hf1, hf2⟩, hf3⟩ := hf
    simp only [vwp] at hv
    split at hv
    · rename_i f first captured hd
      obtain ⟨hg, ⟨fn1, p1, p2, p3⟩, hv⟩ := hv
      have hev := h.ev g hg
      rw [hd] at hev
      cases hfe : a.eval g <;> rw [hfe] at hev <;> cases hev
      rename_i vf vc hvf hvc
      refine wpIn_rangeFunc fun fn _ => ?_
      let r : Loop := { state := .ready, pending := none, fn := fn, tmps := a.tmps, params := ps, assign := x, body := y, defers := w.heap.size }
      have q0 : Rel G K s.β s.ω (w.alloc (.deferred (some []))) := h.rel.push _
      have q0e : Evo K s.β s.ω w K s.β s.ω (w.alloc (.deferred (some []))) := Evo.push _
      have hsz : (w.alloc (.deferred (some []))).heap.size = w.heap.size + 1 := size_push _
      obtain ⟨q1, q1e⟩ := q0.new_lp (r := r) (tm := s.σ) h.tmps
      rw [hsz] at q1 q1e
      have hnl : s.β (w.heap.size + 1) = none := h.rel.box_none (by omega)
      have hnew : LpNew ps x y r := ⟨rfl, rfl, rfl, rfl, rfl, by intro t ht; have := hf1 t ht; simp only [r]; rw [h.size]; exact this, by simp only [r]; rw [h.size]; exact hf2, by simp only [r]; rw [h.size]; exact hf3⟩
      have hvc' := hv (w.heap.size + 1) r hnl hnew
      have hargs : RepL K (first ++ [.clo (.yield (w.heap.size + 1)) [] []] ++ captured) (vf ++ [.func (.yield (w.heap.size + 1)) #[] #[]] ++ vc) := (hvf.append (.cons (Rep.clo (vf := []) (vc := []) .nil .nil) .nil)).append hvc
      have hup := hvc' K _ _ q1 hargs
      have hcall : (callFunc f (vf ++ [Value.func (.yield (w.heap.size + 1)) #[] #[]] ++ vc).toArray).run P ((w.alloc (.deferred (some []))).alloc (.loop r)) = .ok (.enter f (vf ++ [Value.func (.yield (w.heap.size + 1)) #[] #[]] ++ vc).toArray) ((w.alloc (.deferred (some []))).alloc (.loop r)) := by
        obtain ⟨bd, hbd⟩ := Option.isSome_iff_exists.1 p2
        simp only [beq_eq_false_iff_ne, ne_eq] at p3
        simp [callFunc, program, Sem.run, p1, p3, hbd]
      rcases hup with ⟨_, hC⟩ | ⟨v, w1, hc, _⟩
      rotate_left
      · rw [hcall] at hc; cases hc
      refine ⟨w.heap.size + 1, _, _, { target := .fn (.func f) vc.toArray, args := (vf ++ [Value.func (.yield (w.heap.size + 1)) #[] #[]]).toArray }, (w.alloc (.deferred (some []))).alloc (.loop r), f, _, _, run_enterLoop_outer fn a.tmps ps x y, ?_, fun _ _ => trivial, ?_, fun hd => by simp [W, Fence.wide] at hd, (callsIn_W hC).mono ?_⟩
      · simp only [resolve, rangeCall]
        rw [hfe]
        simp [Deferred.ofValue, Act.eval]
        rfl
      · simp only [invoke]
        have e : (vf ++ [Value.func (Fn.yield (w.heap.size + 1)) #[] #[]]).toArray ++ vc.toArray = (vf ++ [Value.func (Fn.yield (w.heap.size + 1)) #[] #[]] ++ vc).toArray := by simp
        rw [e]
        exact hcall
      · rintro e w3 ⟨K', o, β', ω', o1, o2, o3, o4⟩
        have hD : ((w.alloc (.deferred (some []))).alloc (.loop r)).heap[w.heap.size]? = some (.deferred (some [])) := by
          rw [heap_push_old _ (by rw [hsz]; omega)]
          exact heap_push_new _
        have hm2 : Marks B ((w.alloc (.deferred (some []))).alloc (.loop r)) ([{ target := .collected w.heap.size, args := #[] }] ++ a.defers) := by
          obtain ⟨rs, m1, m2, m3⟩ := h.marks
          refine ⟨w.heap.size :: rs, by simp [m1], List.nodup_cons.2 ⟨fun hm => ?_, m2⟩, fun r1 hr1 => ?_⟩
          · have := lt_of_heap (m3 _ hm).2
            omega
          · rcases List.mem_cons.1 hr1 with rfl | hr1
            · exact ⟨Nat.le_trans hB hE.size, hD⟩
            · obtain ⟨m4, m5⟩ := m3 r1 hr1
              have hlt := lt_of_heap m5
              refine ⟨m4, ?_⟩
              rw [heap_push_old _ (by rw [hsz]; omega), heap_push_old _ hlt]
              exact m5
        have hle : K.le K' := (q0e.trans (q1e.trans o4)).le
        cases o with
        | ret d =>
          cases e with
          | returned v =>
            obtain ⟨r', tm', z1, z2, z3⟩ := o2
            obtain ⟨z4, z5⟩ := o3.lp_at z1
            obtain ⟨z6, z7⟩ := o3.put_lp (r' := { r' with state := .exhausted }) z1 rfl
            have hless : ∀ b cs, (β'.drop (w.heap.size + 1)) b = some cs → (β'.set (w.heap.size + 1) [.lp { r' with state := .exhausted } tm']) b = some cs := fun b cs hb => by
              unfold Heap.drop at hb
              unfold Heap.set
              split at hb
              · cases hb
              · rename_i hne; rw [if_neg hne]; exact hb
            refine ⟨r'.pending, _, run_endLoop z4 z2, ?_⟩
            have hm4 := hm2.keep (s := ⟨s.σ, s.β.set (w.heap.size + 1) [.lp r s.σ], s.ω⟩) q1 (o4.trans z7)
            have hsr : SR G n B K' { s with β := β'.drop (w.heap.size + 1), ω := ω' } { tmps := a.tmps, defers := [{ target := .collected w.heap.size, args := #[] }] ++ a.defers } (w3.putObj (w.heap.size + 1) (.loop { r' with state := .exhausted })) :=
              ⟨z6.less hless (fun _ h => h), fun t => (h.tmps t).mono hle, h.size, hm4⟩
            have hEv := hE.trans (q0e.trans (q1e.trans (o4.trans (z7.trans (Evo.less hless (fun _ h => h))))))
            generalize hw4 : w3.putObj (w.heap.size + 1) (.loop { r' with state := .exhausted }) = w4 at hsr hEv ⊢
            clear hw4
            generalize r'.pending = pd at z3 ⊢
            cases pd with
            | none => exact ⟨K', _, .normal, z3, trivial, hsr, hEv⟩
            | some c =>
              cases c with
              | ret => exact wpIn_ret ⟨K', _, .ret, z3, trivial, hsr, hEv⟩
              | exit i => exact wpIn_exit ⟨K', _, .exit i, z3, rfl, hsr, hEv⟩
              | goto t => exact wpIn_goto ⟨K', _, .goto t, z3, rfl, hsr, hEv⟩
              | _ => exact z3.elim
          | panicked ch => exact o1.elim
          | outgrown => exact o1.elim
        | pan d =>
          cases e with
          | returned v => exact o1.elim
          | panicked ch =>
            have hm3 := hm2.keep (s := ⟨s.σ, s.β.set (w.heap.size + 1) [.lp r s.σ], s.ω⟩) q1 o4
            exact ⟨K', { s with β := β', ω := ω' }, .panic d, o2, o1, ⟨o3, fun t => (h.tmps t).mono hle, h.size, hm3⟩, hE.trans (q0e.trans (q1e.trans o4))⟩
          | outgrown => exact o1.elim
    · exact hv.elim
  | .scope c, Q, s, K, a, w, hr, hf, hv, h, hE => by
    refine wpIn_scope (wpIn_mono (vwp_soundR hS hB c _ s K a w hr hf hv h hE) ?_)
    rintro e a' w' ⟨K', s', ve, h1, h2, h3, h4⟩
    cases ve <;> cases e <;> first
      | exact h2.elim
      | exact h1.elim
      | exact ⟨K', s', _, h1, h2, h3, h4⟩
  | .refuse _, _, _, _, _, _, _, _, hv, _, _ => hv.elim

theorem vwp_sound (hS : Sound R) (hB : B ≤ w0.heap.size) (c : Code) (Q : VE → St → Prop) (s : St) (K : Kn) (a : Act) (w : World) (hf : fits n c = true) (hv : vwp R P G c Q s) (h : SR G n B K s a w) (hE : Evo K0 β0 ω0 w0 K s.β s.ω w) :
    c.wpIn (W none) 0 P (up G n B K0 β0 ω0 w0 Q) a w := vwp_soundR hS hB c Q s K a w (.inl rfl) hf hv h hE
end

/-! ### A round -/
/-- The slots at a round's begin: yield's arguments in the loop's parameters. -/
def roundσ (tm : Nat → D) : List Tmp → List D → Nat → D
  | t :: ps, d :: ds => roundσ (fun i => if i = t then d else tm i) ps ds
  | _, _ => tm

theorem roundσ_rep {K : Kn} : ∀ (ps : List Tmp) (ds : List D) (vs : List Value) (tm : Nat → D) (tmps : Array Value), (∀ t ∈ ps, t < tmps.size) → RepL K ds vs → (∀ t, Rep K (tm t) (tmps.getD t undef)) →
    (∀ t, Rep K (roundσ tm ps ds t) (((ps.zip vs).foldl (fun tmps (t, a) => tmps.setIfInBounds t a) tmps).getD t undef)) ∧ ((ps.zip vs).foldl (fun tmps (t, a) => tmps.setIfInBounds t a) tmps).size = tmps.size
  | [], _, _, tm, tmps, _, _, h => ⟨by simpa [roundσ] using h, by simp⟩
  | t :: ps, _, _, tm, tmps, _, .nil, h => ⟨by simpa [roundσ] using h, by simp⟩
  | p :: ps, _, _, tm, tmps, hp, .cons (d := d) (v := v) (ds := ds) (vs := vs) hd hds, h => by
    have h2 : ∀ t, Rep K ((fun i => if i = p then d else tm i) t) ((tmps.setIfInBounds p v).getD t undef) := fun t => by
      have hlt := hp p (by simp)
      simp only [Array.getD_eq_getD_getElem?, Array.getElem?_setIfInBounds]
      by_cases e : p = t
      · subst e
        simp [hlt, hd]
      · have := h t
        rw [Array.getD_eq_getD_getElem?] at this
        rw [if_neg (fun q => e q.symm), if_neg e]
        exact this
    obtain ⟨r1, r2⟩ := roundσ_rep ps ds vs (fun i => if i = p then d else tm i) (tmps.setIfInBounds p v) (fun t ht => by simp; exact hp t (by simp [ht])) hds h2
    refine ⟨fun t => ?_, ?_⟩
    · simp only [roundσ, List.zip_cons_cons, List.foldl_cons]
      exact r1 t
    · simp only [List.zip_cons_cons, List.foldl_cons]
      rw [r2]
      simp

/-- What is asked at a round's end. -/
def roundQ (l : Nat) (Φ : Out → Heap → List Nat → Prop) : VE → St → Prop
  | .normal, s => ∃ r tm, s.β l = some [.lp r tm] ∧ Φ (.ret (.bool true)) (s.β.set l [.lp { r with state := .ready, pending := none } tm]) s.ω
  | .ret, s => ∃ r tm, s.β l = some [.lp r tm] ∧ Φ (.ret (.bool false)) (s.β.set l [.lp { r with state := .done, pending := some .ret } tm]) s.ω
  | .exit i, s => ∃ r tm, s.β l = some [.lp r tm] ∧ Φ (.ret (.bool false)) (s.β.set l [.lp { r with state := .done, pending := some (.exit i) } tm]) s.ω
  | .goto t, s => ∃ r tm, s.β l = some [.lp r tm] ∧ Φ (.ret (.bool false)) (s.β.set l [.lp { r with state := .done, pending := some (.goto t) } tm]) s.ω
  | .panic _, _ => False

/-- A ROUND: what must hold of the body for a call of yield to end as Φ says. -/
theorem VY.round {R : DrawRule} (hS : Sound R) {l : Nat} {r : Loop} {tm : Nat → D} {args : List D} {β : Heap} {ω : List Nat} {Φ : Out → Heap → List Nat → Prop} (hb : β l = some [.lp r tm]) (hsz : args.length = r.params.size) (hp : ∀ t ∈ r.params.toList, t < r.tmps.size)
    (hfx : fits r.tmps.size r.assign = true) (hfy : fits r.tmps.size r.body = true) (hnx : noRange r.assign = true) (hny : noRange r.body = true)
    (h : vwp R P G r.assign (VE.then (fun s1 => ∃ r1 tm1, s1.β l = some [.lp r1 tm1] ∧ r1.state = .ready ∧ vwp R P G r.body (roundQ l Φ) { s1 with β := s1.β.set l [.lp { r1 with state := .busy } tm1] }) (fun _ _ => False)) ⟨roundσ tm r.params.toList args, β, ω⟩) :
    VY P G l args β ω Φ := by
  intro K w vargs hr ha
  obtain ⟨hv, htm⟩ := hr.lp_at hb
  have hlen := ha.length
  have hfold : (r.params.zip vargs.toArray).foldl (fun tmps (x : Tmp × Value) => tmps.setIfInBounds x.1 x.2) r.tmps = (r.params.toList.zip vargs).foldl (fun tmps (x : Tmp × Value) => tmps.setIfInBounds x.1 x.2) r.tmps := by
    rw [← Array.foldl_toList]
    simp
  obtain ⟨c1, c2⟩ := roundσ_rep r.params.toList args vargs tm r.tmps hp ha htm
  refine ⟨r.fn, _, r.assign, r.body, run_yield hv (by simp; omega), roundIn_of_wpIn trivial ?_⟩
  rw [hfold]
  have hsr : SR G r.tmps.size w.heap.size K ⟨roundσ tm r.params.toList args, β, ω⟩ { tmps := (r.params.toList.zip vargs).foldl (fun tmps (x : Tmp × Value) => tmps.setIfInBounds x.1 x.2) r.tmps, defers := [] } w :=
    ⟨hr, c1, c2, [], rfl, List.nodup_nil, fun r hr => by simp at hr⟩
  refine wpIn_mono (vwp_soundR (ro := some l) (K0 := K) (β0 := β) (ω0 := ω) (w0 := w) hS (Nat.le_refl _) r.assign _ _ K _ w (.inr hnx) hfx h hsr (Evo.refl K β ω w)) ?_
  rintro e a' w' ⟨K1, s1, ve, h1, h2, h3, h4⟩
  cases ve <;> cases e <;> first
    | exact h2.elim
    | exact h1.elim
    | skip
  obtain ⟨r1, tm1, q1, q2, q3⟩ := h1
  obtain ⟨q4, _⟩ := h3.rel.lp_at q1
  obtain ⟨q5, q6⟩ := h3.rel.put_lp (r' := { r1 with state := .busy }) q1 rfl
  refine ⟨_, run_beginRound q4 q2, ?_⟩
  have hsr2 := h3.move q6 q5
  refine wpIn_mono (vwp_soundR (ro := some l) (K0 := K) (β0 := β) (ω0 := ω) (w0 := w) hS (Nat.le_refl _) r.body _ _ K1 _ _ (.inr hny) hfy q3 hsr2 (h4.trans q6)) ?_
  rintro e a2 w2 ⟨K2, s2, ve, g1, g2, g3, g4⟩
  have key : ∀ jump : Option Code, (∃ r tm, s2.β l = some [.lp r tm] ∧ Φ (.ret (.bool jump.isNone)) (s2.β.set l [.lp { r with state := if jump.isNone then .ready else .done, pending := jump } tm]) s2.ω) →
      ∃ v w3, (Instr.endRound l jump).run P w2 = .ok v w3 ∧ Back G Φ K β ω w (.returned v) w3 := by
    rintro jump ⟨r2, tm2, u1, u2⟩
    obtain ⟨u3, _⟩ := g3.rel.lp_at u1
    obtain ⟨u4, u5⟩ := g3.rel.put_lp (r' := { r2 with state := if jump.isNone then .ready else .done, pending := jump }) u1 rfl
    exact ⟨_, _, run_endRound jump u3, K2, .ret (.bool jump.isNone), _, _, .bool _, u2, u4, g4.trans u5⟩
  cases ve <;> cases e <;> first
    | exact g2.elim
    | exact g1.elim
    | exact key none g1
    | exact key (some .ret) g1
    | (cases g2; exact key (some (.exit _)) g1)
    | (cases g2; exact key (some (.goto _)) g1)

end Go.Proofs.YtgkfcgfobckaaaaV
