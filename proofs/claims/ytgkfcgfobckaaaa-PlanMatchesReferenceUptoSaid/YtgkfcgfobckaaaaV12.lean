/-
  The twelfth text of the program logic: rows of operations in the text's order, the forms of code, and that the machine does what they say.
  Conditions: none; it speaks of every program.
-/
import Derived.Test.YtgkfcgfobckaaaaV11
set_option linter.unusedVariables false
set_option linter.unusedSimpArgs false
namespace Go.Proofs.YtgkfcgfobckaaaaV
open Go

variable {P : Program} {G : Heap} {n B : Nat} {K : Kn} {s : St} {a : Act} {w : World}

/-! ### Guards -/
/-- Is the operation behind this guard wanted? -/
def vguard (s : St) (ops : Array Oper) (g : Nat × Bool) : Option Bool :=
  match (ops[g.1]?).bind (·.dst) with
  | some t => match s.σ t with
    | .bool b => some (b == g.2)
    | .when c (.bool b) => some (c && (b == g.2))
    | .when false _ => some false
    | _ => none
  | none => none

theorem vguard_sound (h : SR G n B K s a w) {ops : Array Oper} {o : Oper} {g : Nat × Bool} {c : Bool} (hg : o.guard = some g) (hc : vguard s ops g = some c) : Region.wanted o (yielded ops a.tmps) = c := by
  obtain ⟨j, want⟩ := g
  unfold vguard at hc
  split at hc
  · rename_i t ht
    have hr := h.tmps t
    have hy : yielded ops a.tmps j = match a.tmps.getD t undef with | .bool b => some b | _ => none := by
      unfold yielded
      simp only at ht
      rw [ht]
      simp only [Option.bind_some, Array.getD_eq_getD_getElem?]
      cases a.tmps[t]? with
      | none => rfl
      | some v => cases v <;> rfl
    unfold Region.wanted
    rw [hg]
    simp only
    rw [hy]
    split at hc
    · rename_i b hs
      rw [hs] at hr
      cases hv : a.tmps.getD t undef <;> rw [hv] at hr <;> cases hr
      cases hc
      simp
    · rename_i c' b hs
      rw [hs] at hr
      cases hc
      cases hr with
      | when h1 h0 =>
        cases c' with
        | true =>
          have := h1 rfl
          cases hv : a.tmps.getD t undef <;> rw [hv] at this <;> cases this
          simp
        | false =>
          rw [h0 rfl]
          simp [undef]
    · rename_i d hs
      rw [hs] at hr
      cases hc
      cases hr with
      | when h1 h0 =>
        rw [h0 rfl]
        simp [undef]
    · cases hc
  · cases hc

/-- An operation, guard and all. -/
def vop (P : Program) (G : Heap) (ops : Array Oper) (s : St) (o : Oper) (k : D → St → Prop) (pn : D → St → Prop) : Prop :=
  match o.guard with
  | none => vstep P G s o k pn
  | some g => match vguard s ops g with
    | some c => (∃ d, (c = true → vstep P G s o (fun d' s' => d' = d ∧ s' = s) (fun _ _ => False)) ∧ k (D.wn c d) s) ∨ ((c = true → vstep P G s o k pn) ∧ (c = false → k .any s))
    | none => False

/-- How a piece of code is left. -/
inductive VE where
  | normal
  | exit (id : Nat)
  | goto (l : Nat)
  | ret
  | panic (d : D)

def ERel (K : Kn) : VE → Exit → Prop
  | .normal, .normal => True
  | .exit i, .exit j => i = j
  | .goto i, .goto j => i = j
  | .ret, .ret => True
  | .panic d, .panic ch => ∃ v, ch = [{ v, recovered := false }] ∧ Rep K d v
  | _, _ => False

/-- A row of operations, one behind the other. -/
def vops (P : Program) (G : Heap) (ops : Array Oper) : List Oper → (VE → St → Prop) → St → Prop
  | [], Q, s => Q .normal s
  | o :: rest, Q, s => vop P G ops s o (fun d s' => vops P G ops rest Q (s'.put o.dst d)) (fun d s' => Q (.panic d) s')

/-- The machine's states that an abstract one stands for. -/
def up (G : Heap) (n B : Nat) (K0 : Kn) (β0 : Heap) (ω0 : List Nat) (w0 : World) (Q : VE → St → Prop) (e : Exit) (a : Act) (w : World) : Prop :=
  ∃ K s ve, Q ve s ∧ ERel K ve e ∧ SR G n B K s a w ∧ Evo K0 β0 ω0 w0 K s.β s.ω w

section
variable {ro : Option Nat} {K0 : Kn} {β0 : Heap} {ω0 : List Nat} {w0 : World} {Q : VE → St → Prop}

theorem Rep.any_undef {d : D} (K : Kn) : Rep K .any undef := .any _

theorem vop_sound {ops : Array Oper} {o : Oper} {k : D → St → Prop} {pn : D → St → Prop} {next : Act → World → Prop} {Q : Exit → Act → World → Prop} (h : SR G n B K s a w) (hE : Evo K0 β0 ω0 w0 K s.β s.ω w) (hv : vop P G ops s o k pn)
    (hg : Goes G n B K0 β0 ω0 w0 a o k pn next Q s) :
    (Region.wanted o (yielded ops a.tmps) = true ∧ o.wpIn (W ro) 0 P a w next Q) ∨ (Region.wanted o (yielded ops a.tmps) = false ∧ next (a.put o.dst undef) w) := by
  unfold vop at hv
  split at hv
  · rename_i hgd
    refine .inl ⟨by simp [Region.wanted, hgd], vstep_sound h hE hg hv⟩
  · rename_i g hgd
    split at hv
    · rename_i c hc
      have hw := vguard_sound h hgd hc
      rcases hv with ⟨d, h1, h2⟩ | ⟨h1, h2⟩
      · cases c with
        | true =>
          refine .inl ⟨hw, vstep_sound (k := fun d' s' => d' = d ∧ s' = s) (pn := fun _ _ => False) h hE ⟨fun K' d' β' ω' v w' hk hr hs he => ?_, fun K' d' β' ω' v w' hk => hk.elim⟩ (h1 rfl)⟩
          obtain ⟨rfl, hs'⟩ := hk
          have hs2 : ({ s with β := β', ω := ω' } : St) = s := hs'
          have hb : β' = s.β := congrArg St.β hs2
          have ho : ω' = s.ω := congrArg St.ω hs2
          subst hb ho
          exact hg.on K' (D.wn true d') s.β s.ω v w' h2 (Rep.wn (fun _ => hr) (fun h => by cases h)) hs he
        | false => exact .inr ⟨hw, hg.on K (D.wn false d) s.β s.ω undef w h2 (Rep.wn (fun h => by cases h) (fun _ => rfl)) h hE⟩
      · cases c with
        | true => exact .inl ⟨hw, vstep_sound h hE hg (h1 rfl)⟩
        | false => exact .inr ⟨hw, hg.on K .any s.β s.ω undef w (h2 rfl) (.any _) h hE⟩
    · exact hv.elim

theorem vops_sound {ops : Array Oper} : ∀ (l : List Nat) (rest : List Oper) (s : St) (K : Kn) (a : Act) (w : World), l.map (ops[·]?) = rest.map some → (∀ o ∈ rest, ∀ t, o.dst = some t → t < n) → vops P G ops rest Q s → SR G n B K s a w → Evo K0 β0 ω0 w0 K s.β s.ω w →
    wpOpsIn (W ro) 0 P ops (up G n B K0 β0 ω0 w0 Q) l a w
  | [], [], s, K, a, w, _, _, hv, h, hE => ⟨K, s, .normal, hv, trivial, h, hE⟩
  | [], _ :: _, _, _, _, _, hl, _, _, _, _ => by simp at hl
  | _ :: _, [], _, _, _, _, hl, _, _, _, _ => by simp at hl
  | i :: l, o :: rest, s, K, a, w, hl, hn, hv, h, hE => by
    simp only [List.map_cons, List.cons.injEq] at hl
    obtain ⟨hi, hl⟩ := hl
    have hgo : Goes G n B K0 β0 ω0 w0 a o (fun d s' => vops P G ops rest Q (s'.put o.dst d)) (fun d s' => Q (.panic d) s') (wpOpsIn (W ro) 0 P ops (up G n B K0 β0 ω0 w0 Q) l) (up G n B K0 β0 ω0 w0 Q) s := by
      refine ⟨fun K' d β' ω' v w' hk hr hs he => ?_, fun K' d β' ω' v w' hk hr hs he => ⟨K', _, .panic d, hk, ⟨v, rfl, hr⟩, hs, he⟩⟩
      exact vops_sound l rest _ K' _ w' hl (fun o ho => hn o (by simp [ho])) hk (hs.put hr (hn o (by simp))) (by simpa using he)
    have := vop_sound (ro := ro) h hE hv hgo
    simp only [wpOpsIn, hi]
    rcases this with ⟨h1, h2⟩ | ⟨h1, h2⟩
    · rw [if_pos h1]; exact h2
    · rw [if_neg (by simp [h1])]; exact ⟨about_W, h2⟩

theorem range_map (ops : Array Oper) : (List.range ops.size).map (ops[·]?) = ops.toList.map some := by
  apply List.ext_getElem?
  intro i
  simp only [List.getElem?_map, List.getElem?_range]
  by_cases h : i < ops.size
  · simp [h]
  · simp [h]
end

end Go.Proofs.YtgkfcgfobckaaaaV
