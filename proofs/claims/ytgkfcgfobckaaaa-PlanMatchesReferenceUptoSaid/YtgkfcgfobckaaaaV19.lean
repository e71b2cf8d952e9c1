/-
  The nineteenth text of the program logic: two operations that no edge orders change places, the rest.
  Conditions: none; it speaks of every program.
-/
import Derived.Test.YtgkfcgfobckaaaaV18
set_option linter.unusedVariables false
set_option linter.unusedSimpArgs false
namespace Go.Proofs.YtgkfcgfobckaaaaV
open Go

variable {P : Program} {G : Heap} {n B : Nat} {K : Kn} {s s' : St} {a : Act} {w : World} {ops : Array Oper}
variable {q : D → Heap → List Nat → Prop} {Kt Kt' : Rd → St → Prop} {rd : Rd} {e1 e2 : Ent}

theorem set_comm {β : Heap} {b c : Nat} {cs ds : List D} (h : b ≠ c) : (β.set b cs).set c ds = (β.set c ds).set b cs := by
  funext i
  simp only [Heap.set]
  split <;> split <;> simp_all

theorem set_none {β : Heap} {b c : Nat} {cs : List D} (h : (β.set b cs) c = none) : c ≠ b ∧ β c = none := by
  unfold Heap.set at h
  split at h
  · cases h
  · exact ⟨by assumption, h⟩

theorem Fini.unset {β : Heap} {b : Nat} {cs : List D} (h : Fini (β.set b cs)) : Fini β := by
  obtain ⟨N, h⟩ := h
  exact ⟨N, fun i hi => (set_none (h i hi)).2⟩

/-- An operation that is no computing has an outcome. -/
theorem vdo_inh {U : List Nat} {i : Nat} {o : Oper} {k : D → Heap → List Nat → Prop} (hc : cls o.op = .a ∨ cls o.op = .t ∨ cls o.op = .s ∨ (cls o.op = .c ∧ U ≠ [])) (hf : Fini s.β) (hv : vdo P G U i o rd s k q) : ∃ d β ω, k d β ω := by
  unfold vdo at hv
  rcases hc with hc | hc | hc | ⟨hc, hU⟩ <;> simp only [hc] at hv
  · obtain ⟨b, hb⟩ := hf.fresh
    exact ⟨_, _, _, hv.2 b hb⟩
  · obtain ⟨t, ht⟩ := fresh_tok s.ω
    exact ⟨_, _, _, hv.2 t ht⟩
  · split at hv
    · exact ⟨_, _, _, hv.2.2⟩
    · exact hv.elim
  · split at hv
    · split at hv
      · obtain ⟨β0, ω0, Φ0, h1, h2, h3, h4, h5, h6, h7⟩ := hv
        obtain ⟨d, β1, ω1, r1, r2, r3, r4⟩ := h5 hU 0
        exact ⟨_, _, _, h6 d _ _ ⟨β1, ω1, r1, fun b hb h0 => (r3 b hb h0).2, r4, rfl, rfl⟩ (hf.join r2)⟩
      · exact hv.elim
    · exact hv.elim

/-- A variable more in memory. -/
theorem vdo_set {U : List Nat} {i : Nat} {o : Oper} {k k' : D → Heap → List Nat → Prop} {b : Nat} {cs : List D} (hc : cls o.op = .a ∨ cls o.op = .t ∨ cls o.op = .c) (hb : s.β b = none) (hk : ∀ d β ω, β b = none → k d β ω → k' d (β.set b cs) ω)
    (hq : ∀ d β ω, β b = none → q d β ω → q d (β.set b cs) ω) (hv : vdo P G U i o rd s k q) : vdo P G U i o rd { s with β := s.β.set b cs } k' q := by
  unfold vdo at hv ⊢
  rcases hc with hc | hc | hc <;> simp only [hc] at hv ⊢
  · have e : al P G { s with β := s.β.set b cs } o = al P G s o := al_same fun x _ => raw_σ rfl
    rw [e]
    refine ⟨hv.1, fun b1 h1 => ?_⟩
    obtain ⟨h2, h3⟩ := set_none h1
    have h4 := hk _ (s.β.set b1 (al P G s o).2.1) _ (by simp only [Heap.set, if_neg (Ne.symm h2)]; exact hb) (hv.2 b1 h3)
    rw [set_comm (Ne.symm h2)]
    exact h4
  · have e : ap P G { s with β := s.β.set b cs } o = ap P G s o := ap_same rfl fun x _ => raw_σ rfl
    rw [e]
    exact ⟨hv.1, fun t ht => hk _ _ _ hb (hv.2 t ht)⟩
  · split at hv
    · rename_i c ho
      split at hv
      · rename_i f hcal
        obtain ⟨β0, ω0, Φ0, h1, h2, h3, h4, h5, h6, h7⟩ := hv
        have hb0 : β0 b = none := h1.none hb
        have hfr : ∀ o β' ω', Framed (s.β.set b cs) s.ω β0 ω0 Φ0 o β' ω' → ∃ β1, β1 b = none ∧ β' = β1.set b cs ∧ Framed s.β s.ω β0 ω0 Φ0 o β1 ω' := fun o β' ω' ⟨β1, ω1, r1, r2, r3, r4, r5⟩ => by
          have hn : β1 b = none := by
            cases hx : β1 b with
            | none => rfl
            | some y => exact absurd rfl (set_none (r2 b (by rw [hx]; simp) hb0)).1
          refine ⟨joinH s.β β0 β1, by simp only [joinH, hn, hb0, hb], ?_, β1, ω1, r1, fun b' hb' h0 => (set_none (r2 b' hb' h0)).2, r3, rfl, r5⟩
          rw [r4]
          funext j
          unfold joinH Heap.set
          by_cases hj : j = b
          · subst hj
            simp only [hn, hb0, if_true]
          · simp only [if_neg hj]
        show callD P G U i c f rd { s with β := s.β.set b cs } k' q
        refine ⟨β0, ω0, Φ0, ⟨fun b' cs' hb' => ?_, h1.tok⟩, h2, h3, ?_, fun hU N => ?_, fun d β' ω' hF hfi => ?_, fun d β' ω' hF hfi => ?_⟩
        · have : b' ≠ b := fun e => by rw [e, hb0] at hb'; cases hb'
          simp only [Heap.set, if_neg this]
          exact h1.box b' cs' hb'
        · exact h4
        · obtain ⟨d, β1, ω1, r1, r2, r3, r4⟩ := h5 hU (max N (b + 1))
          refine ⟨d, β1, ω1, r1, r2, fun b' hb' h0 => ?_, r4⟩
          obtain ⟨r5, r6⟩ := r3 b' hb' h0
          have : b' ≠ b := by omega
          exact ⟨by omega, by simp only [Heap.set, if_neg this]; exact r6⟩
        · obtain ⟨β1, r1, r2, r3⟩ := hfr _ _ _ hF
          subst r2
          exact hk _ _ _ r1 (h6 d β1 ω' r3 hfi.unset)
        · obtain ⟨β1, r1, r2, r3⟩ := hfr _ _ _ hF
          subst r2
          exact hq _ _ _ r1 (h7 d β1 ω' r3 hfi.unset)
      · exact hv.elim
    · exact hv.elim

theorem rdBox_none {o : Oper} (h : cls o.op ≠ .r) : rdBox G o s = none := by
  obtain ⟨dst, op, ty, pos, after, guard⟩ := o
  cases op <;> first
    | rfl
    | exact absurd rfl h

theorem rdUp_none {o : Oper} {U : List Nat} (h : cls o.op ≠ .r) : rdUp G o U s rd = rd := by
  unfold rdUp
  rw [rdBox_none h]

/-- An operation that only computes, and reads no box, goes ahead. -/
theorem swap_back {o1 o2 : Oper} (h1 : ops[e1.1]? = some o1) (h2 : ops[e2.1]? = some o2) (g1 : o1.guard = none) (g2 : o2.guard = none) (hc : cls o1.op = .a ∨ cls o1.op = .t ∨ cls o1.op = .s ∨ (cls o1.op = .c ∧ e1.2 ≠ [])) (hc2 : cls o2.op = .e)
    (hap : o1.apart ops o2 = true) (hf : Fini s.β) (h : step P G ops q e1 (step P G ops q e2 Kt) rd s) : step P G ops q e2 (step P G ops q e1 Kt) rd s := by
  obtain ⟨a1, a2, a3⟩ := Oper.apart_spec hap
  have n1 : cls o1.op ≠ .r := fun e => by rw [e] at hc; simp at hc
  have n2 : cls o2.op ≠ .r := by rw [hc2]; simp
  simp only [step, h1, h2, vdop, g1, g2, rdUp_none n1, rdUp_none n2] at h ⊢
  have hpu : ∀ d β ω, pu P G (({ s with β, ω } : St).put o1.dst d) o2 = pu P G s o2 := fun d β ω => by
    have hag : Agree G ops o2 ({ s with β, ω } : St) (({ s with β, ω } : St).put o1.dst d) := agree_put rfl a1
    rw [pu_same (by simp) hag.same, pu_mem hc2]
  have h' : vdo P G e1.2 e1.1 o1 rd s (fun d β ω => (pu P G s o2).2 ∧ Kt rd ((({ s with β, ω } : St).put o1.dst d).put o2.dst (pu P G s o2).1)) q := by
    refine vdo_mono (fun d β ω hh => ?_) (fun _ _ _ hh => hh) h
    rw [vdo_pure (.inl hc2), hpu] at hh
    exact hh
  obtain ⟨_, _, _, hpu2, _⟩ := vdo_inh hc hf h'
  rw [vdo_pure (.inl hc2)]
  refine ⟨hpu2, ?_⟩
  have hag : Agree G ops o1 s (({ s with β := s.β, ω := s.ω } : St).put o2.dst (pu P G s o2).1) := agree_put rfl a3
  refine vdo_mono (fun d β ω hh => ?_) (fun _ _ _ hh => hh) (vdo_move (s' := (({ s with β := s.β, ω := s.ω } : St).put o2.dst (pu P G s o2).1)) (by simp) (by simp) hag.same (fun _ hb => hb) hf h')
  have h3 := hh.2.2.2
  rw [put_swap fun t ht e => a2 t e ht] at h3
  exact h3

theorem vdo_new {U : List Nat} {i : Nat} {o : Oper} {k : D → Heap → List Nat → Prop} (hc : cls o.op = .a) : vdo P G U i o rd s k q ↔ (al P G s o).1 ∧ ∀ b, s.β b = none → k ((al P G s o).2.2 b) (s.β.set b (al P G s o).2.1) s.ω := by
  unfold vdo
  simp only [hc]

/-- A new variable goes ahead. -/
theorem swap_new {o1 o2 : Oper} (hq : ∀ d β ω b cs, β b = none → q d β ω → q d (β.set b cs) ω) (h1 : ops[e1.1]? = some o1) (h2 : ops[e2.1]? = some o2) (g1 : o1.guard = none) (g2 : o2.guard = none) (hc : cls o1.op = .a ∨ cls o1.op = .t ∨ (cls o1.op = .c ∧ e1.2 ≠ []))
    (hc2 : cls o2.op = .a) (hap : o1.apart ops o2 = true) (hf : Fini s.β) (h : step P G ops q e1 (step P G ops q e2 Kt) rd s) : step P G ops q e2 (step P G ops q e1 Kt) rd s := by
  obtain ⟨a1, a2, a3⟩ := Oper.apart_spec hap
  have n1 : cls o1.op ≠ .r := fun e => by rw [e] at hc; simp at hc
  have n2 : cls o2.op ≠ .r := by rw [hc2]; simp
  simp only [step, h1, h2, vdop, g1, g2, rdUp_none n1, rdUp_none n2] at h ⊢
  have hal : ∀ d β ω, al P G (({ s with β, ω } : St).put o1.dst d) o2 = al P G s o2 := fun d β ω => by
    have hag : Agree G ops o2 s (({ s with β, ω } : St).put o1.dst d) := agree_put rfl a1
    exact al_same hag.same
  have h' : vdo P G e1.2 e1.1 o1 rd s (fun d β ω => (al P G s o2).1 ∧ ∀ b, β b = none → Kt rd (({ ({ s with β, ω } : St).put o1.dst d with β := β.set b (al P G s o2).2.1, ω } : St).put o2.dst ((al P G s o2).2.2 b))) q := by
    refine vdo_mono (fun d β ω hh => ?_) (fun _ _ _ hh => hh) h
    rw [vdo_new hc2, hal] at hh
    simp only [St.put_β, St.put_ω] at hh
    exact hh
  obtain ⟨_, _, _, hal2, _⟩ := vdo_inh (by rcases hc with hc | hc | hc <;> simp [hc]) hf h'
  rw [vdo_new hc2]
  refine ⟨hal2, fun b hb => ?_⟩
  have hs := vdo_set (b := b) (cs := (al P G s o2).2.1) (k' := fun d β ω => Kt rd ((({ s with β, ω } : St).put o1.dst d).put o2.dst ((al P G s o2).2.2 b))) (by rcases hc with hc | hc | hc <;> simp [hc]) hb (fun d β ω hn hh => by
    have e : ({ ({ s with β, ω } : St).put o1.dst d with β := β.set b (al P G s o2).2.1, ω } : St) = ({ s with β := β.set b (al P G s o2).2.1, ω } : St).put o1.dst d := by cases o1.dst <;> rfl
    have := hh.2 b hn
    rw [e] at this
    exact this) (fun d β ω hn hh => hq d β ω b _ hn hh) h'
  have hag : Agree G ops o1 ({ s with β := s.β.set b (al P G s o2).2.1 } : St) (({ s with β := s.β.set b (al P G s o2).2.1, ω := s.ω } : St).put o2.dst ((al P G s o2).2.2 b)) := agree_put rfl a3
  refine vdo_mono (fun d β ω hh => ?_) (fun _ _ _ hh => hh) (vdo_move (s' := (({ s with β := s.β.set b (al P G s o2).2.1, ω := s.ω } : St).put o2.dst ((al P G s o2).2.2 b))) (by simp) (by simp) hag.same (fun _ hb => hb) (hf.set b _) hs)
  have h3 := hh.2.2
  rw [put_swap fun t ht e => a2 t e ht] at h3
  have e : ({ s.put o2.dst ((al P G s o2).2.2 b) with β, ω } : St) = { ({ s with β := s.β.set b (al P G s o2).2.1, ω := s.ω } : St).put o2.dst ((al P G s o2).2.2 b) with β, ω } := by cases o2.dst <;> rfl
  rw [e] at h3
  exact h3

theorem swap (hq : ∀ d β ω b cs, β b = none → q d β ω → q d (β.set b cs) ω) (hp : okPair ops e1 e2 = true) (hf : Fini s.β) (h : step P G ops q e1 (step P G ops q e2 Kt) rd s) : step P G ops q e2 (step P G ops q e1 Kt) rd s := by
  unfold okPair at hp
  split at hp
  · rename_i o1 o2 h1 h2
    simp only [Bool.and_eq_true] at hp
    obtain ⟨hap, hp⟩ := hp
    cases hc : cls o1.op <;> simp only [hc, Bool.and_eq_true, Option.isNone_iff_eq_none, Bool.or_eq_true, beq_iff_eq, List.contains_iff_mem, Bool.false_eq_true] at hp
    case e => exact swap_pure h1 h2 (.inl hc) hap (fun e => by rw [hc] at e; cases e) hf h
    case r => exact swap_pure h1 h2 (.inr hc) hap (fun _ => by simpa using hp) hf h
    case s => exact swap_back h1 h2 hp.1.1 hp.1.2 (by simp [hc]) hp.2 hap hf h
    case c =>
      obtain ⟨⟨⟨g1, g2⟩, hU⟩, hk⟩ := hp
      have hU : e1.2 ≠ [] := fun e => by rw [e] at hU; simp at hU
      unfold quietKind at hk
      split at hk
      · exact swap_back h1 h2 g1 g2 (by simp [hc, hU]) (by assumption) hap hf h
      · exact swap_new hq h1 h2 g1 g2 (by simp [hc, hU]) (by assumption) hap hf h
      · cases hk
    case t =>
      obtain ⟨⟨g1, g2⟩, hk⟩ := hp
      unfold quietKind at hk
      split at hk
      · exact swap_back h1 h2 g1 g2 (by simp [hc]) (by assumption) hap hf h
      · exact swap_new hq h1 h2 g1 g2 (by simp [hc]) (by assumption) hap hf h
      · cases hk
    case a =>
      obtain ⟨⟨g1, g2⟩, hk⟩ := hp
      unfold quietKind at hk
      split at hk
      · exact swap_back h1 h2 g1 g2 (by simp [hc]) (by assumption) hap hf h
      · exact swap_new hq h1 h2 g1 g2 (by simp [hc]) (by assumption) hap hf h
      · cases hk
  · cases hp

end Go.Proofs.YtgkfcgfobckaaaaV
