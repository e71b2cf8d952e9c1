/-
  The twentieth text of the program logic: a region whose order is drawn, by one row of its operations; the rule, sound.
  Conditions: none; it speaks of every program.
-/
import Derived.Test.YtgkfcgfobckaaaaV19
set_option linter.unusedVariables false
set_option linter.unusedSimpArgs false
namespace Go.Proofs.YtgkfcgfobckaaaaV
open Go

variable {P : Program} {G : Heap} {n B : Nat} {K : Kn} {s s' : St} {a : Act} {w : World} {ops : Array Oper}

/-! ### One operation, as the machine does it -/

theorem Back.fini {Φ : Out → Heap → List Nat → Prop} {β : Heap} {ω : List Nat} {e : Ending} {w' : World} (hb : Back G Φ K β ω w e w') : Back G (fun o β' ω' => Φ o β' ω' ∧ Fini β') K β ω w e w' :=
  let ⟨K', o, β', ω', h1, h2, h3, h4⟩ := hb
  ⟨K', o, β', ω', h1, ⟨h2, h3.fini⟩, h3, h4⟩

theorem VCall.fini {d : D} {args : List D} {β : Heap} {ω : List Nat} {Φ : Out → Heap → List Nat → Prop} (hc : VCall P G d args β ω Φ) : VCall P G d args β ω (fun o β' ω' => Φ o β' ω' ∧ Fini β') := by
  unfold VCall at hc ⊢
  split at hc
  · exact fun K w vargs hr ha => (hc K w vargs hr ha).mono fun e w' hb => hb.fini
  · exact fun K w vargs hr ha => let ⟨f, t, as, b, h1, h2⟩ := hc K w vargs hr ha; ⟨f, t, as, b, h1, h2.mono fun e w' hb => hb.fini⟩
  · exact hc.elim

theorem vdo_vstep {U : List Nat} {i : Nat} {o : Oper} {rd : Rd} {k q : D → Heap → List Nat → Prop} {k' q' : D → St → Prop} (hk : ∀ d β ω, k d β ω → k' d { s with β, ω }) (hq : ∀ d β ω, q d β ω → q' d { s with β, ω }) (hv : vdo P G U i o rd s k q) : vstep P G s o k' q' := by
  unfold vdo at hv
  cases hc : cls o.op <;> simp only [hc] at hv
  case e => exact (vstep_pu (.inl hc)).2 ⟨hv.1, hk _ _ _ hv.2⟩
  case r => exact (vstep_pu (.inr hc)).2 ⟨hv.1, hk _ _ _ hv.2⟩
  case a => exact vstep_al hc hv.1 fun b hb => hk _ _ _ (hv.2 b hb)
  case t =>
    obtain ⟨dst, op, ty, pos, after, guard⟩ := o
    cases op
    case call c =>
      obtain ⟨cal, args, ts⟩ := c
      cases cal
      case builtin b =>
        cases b <;> simp [cls] at hc
        simp only [ap] at hv
        simp only [vstep]
        split at hv
        · rename_i x y t u hx ht
          simp only [hx, ht]
          split at hv
          · rename_i m by_ tk xs h1 h2
            simp only [h1, h2]
            obtain ⟨⟨a1, a2, a3, a4, a5, a6, a7⟩, a8⟩ := hv
            rw [srcOf_vsrc a3]
            exact ⟨a1, a2, a3, a4, a5, a6, a7, fun t' ht' => hk _ _ _ (a8 t' ht')⟩
          · exact hv.1.elim
        · exact hv.1.elim
      all_goals simp [cls] at hc
    all_goals simp [cls] at hc
  case s =>
    obtain ⟨dst, op, ty, pos, after, guard⟩ := o
    cases op
    case store t p x =>
      simp only [wr] at hv
      simp only [vstep]
      cases hp : s.ev G p <;> simp only [hp] at hv ⊢
      case pb b off =>
        cases hb : s.β b <;> simp only [hb] at hv ⊢
        rename_i cs
        obtain ⟨h0, ⟨h1, h2, h3, h4, h5, h6⟩, h7⟩ := hv
        exact ⟨h1, h2, h3, h4, h5, h6, hk _ _ _ h7⟩
    case call c =>
      obtain ⟨cal, args, ts⟩ := c
      cases cal
      case builtin b => cases b <;> simp [cls] at hc
      all_goals simp [cls] at hc
    all_goals simp [cls] at hc
  case c =>
    obtain ⟨dst, op, ty, pos, after, guard⟩ := o
    cases op
    case call c =>
      obtain ⟨cal, args, ts⟩ := c
      cases cal
      case value f =>
        obtain ⟨β0, ω0, Φ0, h1, h2, h3, h4, h5, h6, h7⟩ := hv
        refine ⟨h3, VCall.mono (VCall.fini (VCall.frame h4 h1)) ?_⟩
        rintro o β' ω' ⟨hF, hfi⟩
        cases o with
        | ret d => exact hk _ _ _ (h6 d β' ω' hF hfi)
        | pan d => exact hq _ _ _ (h7 d β' ω' hF hfi)
      case builtin b => exact hv.elim
      case invoke => exact hv.elim
    all_goals exact hv.elim

theorem vdop_vop {U : List Nat} {i : Nat} {o : Oper} {rd : Rd} {k q : D → Heap → List Nat → Prop} (hv : vdop P G ops U i o rd s k q) : vop P G ops s o (fun d s' => k d s'.β s'.ω) (fun d s' => q d s'.β s'.ω) := by
  unfold vdop at hv
  unfold vop
  cases hg : o.guard with
  | none =>
    simp only [hg] at hv ⊢
    exact vdo_vstep (k := k) (q := q) (fun _ _ _ h => h) (fun _ _ _ h => h) hv
  | some g =>
    simp only [hg] at hv ⊢
    cases hgd : vguard s ops g with
    | none => simp [hgd] at hv
    | some c =>
      simp only [hgd] at hv ⊢
      rcases hv with ⟨d, h1, h2⟩ | ⟨h1, h2⟩
      · refine .inl ⟨d, fun hc => vdo_vstep (fun d' β ω hh => ⟨hh.1, ?_⟩) (fun _ _ _ h => h) (h1 hc), h2⟩
        obtain ⟨_, rfl, rfl⟩ := hh
        rfl
      · exact .inr ⟨fun hc => vdo_vstep (k := k) (q := q) (fun _ _ _ h => h) (fun _ _ _ h => h) (h1 hc), h2⟩

/-! ### The rule -/

def deps (ops : Array Oper) (j : Nat) : List Nat :=
  match ops[j]? with
  | some o => (o.after.toList.filter (Region.binds .any)).map (·.on)
  | none => []

/-- An entry's mark: an append into a box (or of one), which changes places with nothing. -/
def mkd : List Nat → Bool
  | [] => false
  | u :: _ => u == 777777
theorem mkd_nil : mkd [] = false := rfl
theorem mkd_cons (u : Nat) (U : List Nat) : mkd (u :: U) = (u == 777777) := rfl
def okPairM (ops : Array Oper) (e1 e2 : Ent) : Bool := !mkd e1.2 && !mkd e2.2 && okPair ops e1 e2

/-- A marked entry's step. -/
def stepB (P : Program) (G : Heap) (ops : Array Oper) (e : Ent) (K : Rd → St → Prop) (rd : Rd) (s : St) : Prop :=
  match ops[e.1]? with
  | none => False
  | some o => o.guard = none ∧ match o.op with
    | .call c => match c.callee with
      | .builtin .append => match c.args.toList, c.argTypes.toList with
        | [x, y], [t, u] => bapK P t u (s.ev G x) (s.ev G y) (s.has G x ∧ s.has G y) true s.β fun d β' => K rd (({ s with β := β' } : St).put o.dst d)
        | _, _ => False
      | _ => False
    | _ => False

def okFrom (ops : Array Oper) (e : Ent) : List Nat → List Ent → Bool
  | _, [] => true
  | S, j :: rest => if (deps ops j.1).any S.contains then okFrom ops e (j.1 :: S) rest else okPairM ops e j && okFrom ops e S rest

def okAll (ops : Array Oper) : List Ent → Bool
  | [] => true
  | e :: rest => okFrom ops e [e.1] rest && okAll ops rest

def okSeen (ops : Array Oper) : List Nat → List Ent → Bool
  | _, [] => true
  | seen, e :: rest => (deps ops e.1).all seen.contains && !seen.contains e.1 && okSeen ops (e.1 :: seen) rest

def okOrd (ops : Array Oper) (l : List Ent) : Bool :=
  okSeen ops [] l && okAll ops l && (List.range ops.size).all (fun i => (l.map (·.1)).contains i) && l.length == ops.size

/-- What is asked of a panic: it holds whatever else has been done. -/
def qOf (Q : VE → St → Prop) (d : D) (β : Heap) (ω : List Nat) : Prop :=
  ∀ σ β' ω', (∀ b cs, β b = some cs → β' b = some cs) → (∀ t, t ∈ ω → t ∈ ω') → Q (.panic d) ⟨σ, β', ω'⟩

theorem qOf_set {Q : VE → St → Prop} {d : D} {β : Heap} {ω : List Nat} {b : Nat} {cs : List D} (hb : β b = none) (h : qOf Q d β ω) : qOf Q d (β.set b cs) ω :=
  fun σ β' ω' h1 h2 => h σ β' ω' (fun b' cs' hb' => h1 b' cs' (by
    have : b' ≠ b := fun e => by rw [e, hb] at hb'; cases hb'
    simp only [Heap.set, if_neg this]
    exact hb')) h2

def vdr (P : Program) (G : Heap) (ops : Array Oper) (Q : VE → St → Prop) : List Ent → Rd → St → Prop
  | [], _, s => Q .normal s
  | e :: rest, rd, s => if mkd e.2 then stepB P G ops e (vdr P G ops Q rest) rd s else step P G ops (qOf Q) e (vdr P G ops Q rest) rd s

/-- THE RULE OF A REGION WHOSE ORDER IS DRAWN. -/
def vdraw : DrawRule where
  any := fun P G ops Q s => P.follows .mixedOrders = true ∧ ∃ l, okOrd ops l = true ∧ vdr P G ops Q l (fun _ _ => False) s
  seq := fun P G ops Q s => ∃ l : List Ent, l.map (·.1) = List.range ops.size ∧ vdr P G ops Q l (fun _ _ => False) s

/-! ### It is sound -/

def Topo (ops : Array Oper) : (Nat → Prop) → List Ent → Prop
  | _, [] => True
  | L, e :: r => (∀ d ∈ deps ops e.1, L d) ∧ Topo ops (fun d => L d ∨ d = e.1) r

theorem Topo.mono : ∀ {l : List Ent} {L L' : Nat → Prop}, (∀ d, L d → L' d) → Topo ops L l → Topo ops L' l
  | [], _, _, _, _ => trivial
  | e :: r, _, _, h, ⟨h1, h2⟩ => ⟨fun d hd => h d (h1 d hd), Topo.mono (fun d hd => hd.imp (h d) id) h2⟩

theorem Topo.remove {e : Ent} {post : List Ent} : ∀ {pre : List Ent} {L : Nat → Prop}, Topo ops L (pre ++ e :: post) → Topo ops (fun d => L d ∨ d = e.1) (pre ++ post)
  | [], _, h => h.2
  | p :: pre, L, ⟨h1, h2⟩ => ⟨fun d hd => .inl (h1 d hd), Topo.mono (fun d hd => by rcases hd with (hd | hd) | hd <;> simp [hd]) (Topo.remove (pre := pre) h2)⟩

theorem okSeen_topo : ∀ {l : List Ent} {seen : List Nat}, okSeen ops seen l = true → Topo ops (· ∈ seen) l ∧ (l.map (·.1)).Nodup ∧ ∀ i ∈ seen, i ∉ l.map (·.1)
  | [], _, _ => ⟨trivial, List.nodup_nil, fun _ _ => by simp⟩
  | e :: r, seen, h => by
    simp only [okSeen, Bool.and_eq_true, List.all_eq_true, List.contains_iff_mem, Bool.not_eq_true'] at h
    obtain ⟨⟨h1, h2⟩, h3⟩ := h
    obtain ⟨t1, t2, t3⟩ := okSeen_topo h3
    have h2 : e.1 ∉ seen := fun hm => by rw [List.contains_iff_mem.2 hm] at h2; cases h2
    refine ⟨⟨h1, t1.mono fun d hd => ?_⟩, ?_, fun i hi => ?_⟩
    · rcases List.mem_cons.1 hd with rfl | hd
      · exact .inr rfl
      · exact .inl hd
    · simp only [List.map_cons, List.nodup_cons]
      exact ⟨t3 e.1 (by simp), t2⟩
    · simp only [List.map_cons, List.mem_cons, not_or]
      exact ⟨fun hi' => h2 (hi' ▸ hi), t3 i (by simp [hi])⟩

theorem okFrom_pair {p e : Ent} {post : List Ent} : ∀ {pre : List Ent} {S : List Nat}, okFrom ops p S (pre ++ e :: post) = true → (∀ d ∈ deps ops e.1, d ∉ S ∧ d ∉ pre.map (·.1)) → okPairM ops p e = true ∧ okFrom ops p S (pre ++ post) = true
  | [], S, h, hd => by
    simp only [List.nil_append, okFrom] at h
    have : (deps ops e.1).any S.contains = false := by
      rw [List.any_eq_false]
      intro d hdm
      simpa using (hd d hdm).1
    simp only [this, Bool.false_eq_true, if_false, Bool.and_eq_true] at h
    exact h
  | j :: pre, S, h, hd => by
    simp only [List.cons_append, okFrom] at h ⊢
    split
    · rename_i hj
      rw [if_pos hj] at h
      exact okFrom_pair h fun d hdm => by
        have := hd d hdm
        simp only [List.map_cons, List.mem_cons, not_or] at this ⊢
        exact ⟨⟨this.2.1, this.1⟩, this.2.2⟩
    · rename_i hj
      rw [if_neg hj] at h
      simp only [Bool.and_eq_true] at h ⊢
      obtain ⟨h1, h2⟩ := okFrom_pair (pre := pre) h.2 fun d hdm => by
        have := hd d hdm
        simp only [List.map_cons, List.mem_cons, not_or] at this
        exact ⟨this.1, this.2.2⟩
      exact ⟨h1, h.1, h2⟩

theorem okAll_pre {e : Ent} {post : List Ent} : ∀ {pre : List Ent}, okAll ops (pre ++ e :: post) = true → (∀ d ∈ deps ops e.1, d ∉ pre.map (·.1)) → (∀ p ∈ pre, okPairM ops p e = true) ∧ okAll ops (pre ++ post) = true
  | [], h, _ => by
    simp only [List.nil_append, okAll, Bool.and_eq_true] at h
    exact ⟨fun p hp => by simp at hp, h.2⟩
  | p :: pre, h, hd => by
    simp only [List.cons_append, okAll, Bool.and_eq_true] at h ⊢
    have hd' : ∀ d ∈ deps ops e.1, d ∉ [p.1] ∧ d ∉ pre.map (·.1) := fun d hdm => by
      have := hd d hdm
      simp only [List.map_cons, List.mem_cons, not_or] at this
      simpa using this
    obtain ⟨h1, h2⟩ := okFrom_pair h.1 hd'
    obtain ⟨h3, h4⟩ := okAll_pre h.2 fun d hdm => (hd' d hdm).2
    refine ⟨fun x hx => ?_, h2, h4⟩
    rcases List.mem_cons.1 hx with rfl | hx
    · exact h1
    · exact h3 x hx

section
variable {ro : Option Nat} {K0 : Kn} {β0 : Heap} {ω0 : List Nat} {w0 : World} {Q : VE → St → Prop}

theorem vdr_front {e : Ent} {post : List Ent} : ∀ {pre : List Ent} {rd : Rd} {s : St}, (∀ p ∈ pre, okPairM ops p e = true) → Fini s.β → vdr P G ops Q (pre ++ e :: post) rd s → vdr P G ops Q (e :: (pre ++ post)) rd s
  | [], _, _, _, _, h => h
  | p :: pre, rd, s, hp, hf, h => by
    have hpe := hp p (by simp)
    simp only [okPairM, Bool.and_eq_true, Bool.not_eq_true'] at hpe
    obtain ⟨⟨m1, m2⟩, m3⟩ := hpe
    have h0 : step P G ops (qOf Q) p (vdr P G ops Q (pre ++ e :: post)) rd s := by
      have h1 := h
      simp only [List.cons_append, vdr, m1, Bool.false_eq_true, if_false] at h1
      exact h1
    have h' : step P G ops (qOf Q) p (step P G ops (qOf Q) e (vdr P G ops Q (pre ++ post))) rd s :=
      step_mono hf (fun rd s hf hh => by
        have h2 := vdr_front (pre := pre) (fun x hx => hp x (by simp [hx])) hf hh
        simp only [vdr, m2, Bool.false_eq_true, if_false] at h2
        exact h2) h0
    have h3 := swap (fun d β ω b cs hb hh => qOf_set hb hh) m3 hf h'
    simp only [List.cons_append, vdr, m2, Bool.false_eq_true, if_false]
    refine step_mono hf (fun rd s hf hh => ?_) h3
    simp only [m1, Bool.false_eq_true, if_false]
    exact hh

/-- What holds at every point of the region. -/
structure Inv (ops : Array Oper) (listed : Array Bool) (l : List Ent) : Prop where
  left : ∀ i, i < ops.size → (listed.getD i true = false ↔ i ∈ l.map (·.1))
  nodup : (l.map (·.1)).Nodup
  topo : Topo ops (fun d => listed.getD d false = true) l
  pairs : okAll ops l = true
  size : listed.size = ops.size

theorem mem_deps {j d : Nat} {o : Oper} (h : ops[j]? = some o) : d ∈ deps ops j ↔ ∃ e ∈ o.after, Region.binds .any e = true ∧ e.on = d := by
  simp only [deps, h, List.mem_map, List.mem_filter]
  exact ⟨fun ⟨e, h1, h2⟩ => ⟨e, by simpa using h1.1, h1.2, h2⟩, fun ⟨e, h1, h2, h3⟩ => ⟨e, ⟨by simpa using h1, h2⟩, h3⟩⟩

theorem any_sound : ∀ (m : Nat) (l : List Ent) (listed : Array Bool) (rd : Rd) (s : St) (K : Kn) (a : Act) (w : World), l.length = m → Inv ops listed l → (∀ o ∈ ops.toList, ∀ t, o.dst = some t → t < n) → vdr P G ops Q l rd s → SR G n B K s a w → Evo K0 β0 ω0 w0 K s.β s.ω w →
    wpAnyIn (W ro) 0 P .any ops (up G n B K0 β0 ω0 w0 Q) m listed a w
  | 0, l, listed, rd, s, K, a, w, hl, hi, hn, hv, h, hE => by
    have hl0 : l = [] := List.eq_nil_of_length_eq_zero hl
    subst hl0
    refine ⟨?_, K, s, .normal, hv, trivial, h, hE⟩
    rw [List.eq_nil_iff_forall_not_mem]
    intro i hm
    obtain ⟨h0, o, ho, _⟩ := mem_ready.1 hm
    have := (hi.left i (Array.getElem?_eq_some_iff.1 ho).1).1 h0
    simp at this
  | m + 1, l, listed, rd, s, K, a, w, hl, hi, hn, hv, h, hE => by
    refine ⟨fun h0 => ?_, fun i him => ?_⟩
    · exfalso
      cases l with
      | nil => simp at hl
      | cons p l =>
        have hv' := hv
        simp only [vdr] at hv'
        cases ho : ops[p.1]? with
        | none => split at hv' <;> simp [stepB, step, ho] at hv'
        | some o =>
          have hm : p.1 ∈ Region.ready .any ops listed := by
            rw [mem_ready]
            refine ⟨(hi.left p.1 (Array.getElem?_eq_some_iff.1 ho).1).2 (by simp), o, ho, fun e he hb => ?_⟩
            exact hi.topo.1 e.on ((mem_deps ho).2 ⟨e, he, hb, rfl⟩)
          rw [h0] at hm
          cases hm
    · obtain ⟨hun, o, ho, hall⟩ := mem_ready.1 him
      have hlt := (Array.getElem?_eq_some_iff.1 ho).1
      have hmem := (hi.left i hlt).1 hun
      obtain ⟨e, hem, rfl⟩ := List.mem_map.1 hmem
      obtain ⟨pre, post, rfl⟩ := List.append_of_mem hem
      have hdl : ∀ d ∈ deps ops e.1, d ∉ pre.map (·.1) := fun d hd hp => by
        obtain ⟨ed, h1, h2, rfl⟩ := (mem_deps ho).1 hd
        have hlist := hall ed h1 h2
        have hdlt : ed.on < ops.size := by
          rw [← hi.size]
          rcases Nat.lt_or_ge ed.on listed.size with h' | h'
          · exact h'
          · simp [Array.getElem?_eq_none h'] at hlist
        have := (hi.left ed.on hdlt).2 (by simp only [List.map_append, List.mem_append]; exact .inl hp)
        have hsz : ed.on < listed.size := by rw [hi.size]; exact hdlt
        simp [hsz] at hlist this
        rw [hlist] at this
        cases this
      obtain ⟨hpairs, hok⟩ := okAll_pre hi.pairs hdl
      have hv' : vdr P G ops Q (e :: (pre ++ post)) rd s := vdr_front hpairs h.rel.fini hv
      have hnd := hi.nodup
      simp only [List.map_append, List.map_cons, List.nodup_append, List.nodup_cons, List.mem_cons] at hnd
      have hne : e.1 ∉ (pre ++ post).map (·.1) := fun hx => by
        simp only [List.map_append, List.mem_append] at hx
        rcases hx with hx | hx
        · exact hnd.2.2 e.1 hx e.1 (.inl rfl) rfl
        · exact hnd.2.1.1 hx
      have hinv : Inv ops (listed.setIfInBounds e.1 true) (pre ++ post) := by
        refine ⟨fun j hj => ?_, ?_, ?_, hok, by simpa using hi.size⟩
        · by_cases hje : e.1 = j
          · subst hje
            have : e.1 < listed.size := by rw [hi.size]; exact hlt
            simp only [hne, iff_false]
            simp [this]
          · rw [getD_set_ne true hje, hi.left j hj]
            simp only [List.map_append, List.map_cons, List.mem_append, List.mem_cons]
            constructor
            · rintro (h | h | h)
              · exact .inl h
              · exact absurd h.symm hje
              · exact .inr h
            · rintro (h | h)
              · exact .inl h
              · exact .inr (.inr h)
        · simp only [List.map_append, List.nodup_append]
          exact ⟨hnd.1, hnd.2.1.2, fun x hx y hy => hnd.2.2 x hx y (.inr hy)⟩
        · refine (Topo.remove hi.topo).mono fun d hd => ?_
          rcases hd with hd | rfl
          · exact getD_set_true hd
          · have : e.1 < listed.size := by rw [hi.size]; exact hlt
            simp [this]
      have hlen : (pre ++ post).length = m := by simp at hl ⊢; omega
      have hdst : ∀ t, o.dst = some t → t < n := fun t ht => hn o (by simpa using Array.mem_of_getElem? ho) t ht
      by_cases hmk : mkd e.2 = true
      · simp only [vdr, hmk, if_true, stepB, ho] at hv'
        obtain ⟨hgd, hv'⟩ := hv'
        unfold wpOpIn
        simp only [ho]
        rw [if_pos (by simp [Region.wanted, hgd])]
        obtain ⟨dst, op, ty, pos, after, guard⟩ := o
        simp only at hgd hv' hdst
        split at hv'
        · rename_i c
          obtain ⟨cal, args, ts⟩ := c
          simp only at hv'
          split at hv'
          · split at hv'
            · rename_i x y t u he1 he2
              obtain ⟨d, v, β', w', hk, r1, r2, r3, r4⟩ := bapK_sound (ty := ty) (vx := a.eval x) (vy := a.eval y) h.rel (fun q => h.ev x q.1) (fun q => h.ev y q.2) hv'
              have hargs : args = #[x, y] := by apply Array.ext'; simpa using he1
              have hts : ts = #[t, u] := by apply Array.ext'; simpa using he2
              subst hargs hts
              refine wpIn_value (fun c hc => by cases hc) (v := v) (w' := w') ?_ (any_sound m (pre ++ post) _ _ _ K _ w' hlen hinv hn hk ((h.move r3 r2).put r4 hdst) (by simpa using hE.trans r3))
              simp only [execOp, resolve, Sem.run_bind, Sem.run_pure, Result.andThen_ok, invoke, builtin]
              simp [r1]
            · exact hv'.elim
          · exact hv'.elim
        · exact hv'.elim
      simp only [vdr, hmk, if_false, Bool.false_eq_true] at hv'
      unfold step at hv'
      simp only [ho] at hv'
      have hgo : Goes G n B K0 β0 ω0 w0 a o (fun d s' => vdr P G ops Q (pre ++ post) (rdUp G o e.2 s rd) (({ s with β := s'.β, ω := s'.ω } : St).put o.dst d)) (fun d s' => qOf Q d s'.β s'.ω) (wpAnyIn (W ro) 0 P .any ops (up G n B K0 β0 ω0 w0 Q) m (listed.setIfInBounds e.1 true)) (up G n B K0 β0 ω0 w0 Q) s := by
        refine ⟨fun K' d β' ω' v w' hk hr hs he => ?_, fun K' d β' ω' v w' hk hr hs he => ⟨K', _, .panic d, hk s.σ β' ω' (fun _ _ h => h) (fun _ h => h), ⟨v, rfl, hr⟩, hs, he⟩⟩
        exact any_sound m (pre ++ post) _ _ _ K' _ w' hlen hinv hn hk (hs.put hr hdst) (by simpa using he)
      have := vop_sound (ro := ro) h hE (vdop_vop hv') hgo
      unfold wpOpIn
      simp only [ho]
      rcases this with ⟨h1, h2⟩ | ⟨h1, h2⟩
      · rw [if_pos h1]; exact h2
      · rw [if_neg (by simp [h1])]; exact ⟨about_W, h2⟩

/-- In the text's order. -/
theorem seq_sound : ∀ (l : List Ent) (rd : Rd) (s : St) (K : Kn) (a : Act) (w : World), (∀ o ∈ ops.toList, ∀ t, o.dst = some t → t < n) → vdr P G ops Q l rd s → SR G n B K s a w → Evo K0 β0 ω0 w0 K s.β s.ω w →
    wpOpsIn (W ro) 0 P ops (up G n B K0 β0 ω0 w0 Q) (l.map (·.1)) a w
  | [], rd, s, K, a, w, hn, hv, h, hE => ⟨K, s, .normal, hv, trivial, h, hE⟩
  | e :: rest, rd, s, K, a, w, hn, hv, h, hE => by
    simp only [List.map_cons, wpOpsIn]
    cases ho : ops[e.1]? with
    | none =>
      simp only [vdr] at hv
      split at hv <;> simp [stepB, step, ho] at hv
    | some o =>
      have hdst : ∀ t, o.dst = some t → t < n := fun t ht => hn o (by simpa using Array.mem_of_getElem? ho) t ht
      by_cases hmk : mkd e.2 = true
      · simp only [vdr, hmk, if_true, stepB, ho] at hv
        obtain ⟨hgd, hv⟩ := hv
        simp only
        rw [if_pos (by simp [Region.wanted, hgd])]
        obtain ⟨dst, op, ty, pos, after, guard⟩ := o
        simp only at hgd hv hdst
        split at hv
        · rename_i c
          obtain ⟨cal, args, ts⟩ := c
          simp only at hv
          split at hv
          · split at hv
            · rename_i x y t u he1 he2
              obtain ⟨d, v, β', w', hk, r1, r2, r3, r4⟩ := bapK_sound (ty := ty) (vx := a.eval x) (vy := a.eval y) h.rel (fun q => h.ev x q.1) (fun q => h.ev y q.2) hv
              have hargs : args = #[x, y] := by apply Array.ext'; simpa using he1
              have hts : ts = #[t, u] := by apply Array.ext'; simpa using he2
              subst hargs hts
              refine wpIn_value (fun c hc => by cases hc) (v := v) (w' := w') ?_ (seq_sound rest _ _ K _ w' hn hk ((h.move r3 r2).put r4 hdst) (by simpa using hE.trans r3))
              simp only [execOp, resolve, Sem.run_bind, Sem.run_pure, Result.andThen_ok, invoke, builtin]
              simp [r1]
            · exact hv.elim
          · exact hv.elim
        · exact hv.elim
      simp only [vdr, hmk, if_false, Bool.false_eq_true] at hv
      unfold step at hv
      simp only [ho] at hv
      have hgo : Goes G n B K0 β0 ω0 w0 a o (fun d s' => vdr P G ops Q rest (rdUp G o e.2 s rd) (({ s with β := s'.β, ω := s'.ω } : St).put o.dst d)) (fun d s' => qOf Q d s'.β s'.ω) (wpOpsIn (W ro) 0 P ops (up G n B K0 β0 ω0 w0 Q) (rest.map (·.1))) (up G n B K0 β0 ω0 w0 Q) s := by
        refine ⟨fun K' d β' ω' v w' hk hr hs he => ?_, fun K' d β' ω' v w' hk hr hs he => ⟨K', _, .panic d, hk s.σ β' ω' (fun _ _ h => h) (fun _ h => h), ⟨v, rfl, hr⟩, hs, he⟩⟩
        exact seq_sound rest _ _ K' _ w' hn hk (hs.put hr hdst) (by simpa using he)
      have := vop_sound (ro := ro) h hE (vdop_vop hv) hgo
      simp only
      rcases this with ⟨h1, h2⟩ | ⟨h1, h2⟩
      · rw [if_pos h1]; exact h2
      · rw [if_neg (by simp [h1])]; exact ⟨about_W, h2⟩

theorem vdraw_sound : Sound vdraw := by
  refine ⟨?_, ?_⟩
  rotate_left
  · rintro P G n B ops Q s K a w ro K0 β0 ω0 w0 hn ⟨l, hl, hv⟩ h hE
    rw [← hl]
    exact seq_sound l _ s K a w hn hv h hE
  intro P G n B ops Q s K a w ro K0 β0 ω0 w0 t hn hR h hE
  obtain ⟨hm, l, hl, hv⟩ := hR
  simp only [okOrd, Bool.and_eq_true, List.all_eq_true, List.mem_range, List.contains_iff_mem, beq_iff_eq] at hl
  obtain ⟨⟨⟨h1, h2⟩, h3⟩, h4⟩ := hl
  obtain ⟨t1, t2, t3⟩ := okSeen_topo h1
  simp only [Region.schedule, hm, Bool.true_or, if_true]
  refine wpAnyIn_sound ops.size t _ a w (any_sound ops.size l _ _ s K a w h4 ⟨fun i hi => ?_, t2, t1.mono fun d hd => (by simp at hd), h2, by simp⟩ hn hv h hE)
  simp [hi, h3 i hi]
end

end Go.Proofs.YtgkfcgfobckaaaaV
