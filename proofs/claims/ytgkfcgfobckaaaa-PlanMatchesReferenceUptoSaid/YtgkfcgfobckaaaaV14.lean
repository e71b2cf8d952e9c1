/-
  The fourteenth text of the program logic: from a body's proof to a function's contract; a contract in a larger memory.
  Conditions: none; it speaks of every program.
-/
import Derived.Test.YtgkfcgfobckaaaaV13
set_option linter.unusedVariables false
set_option linter.unusedSimpArgs false
namespace Go.Proofs.YtgkfcgfobckaaaaV
open Go

variable {P : Program} {G : Heap} {n B : Nat} {K : Kn} {s : St} {a : Act} {w : World}

/-! ### Results -/
def resv (P : Program) (s : St) : ResultVar → D × Prop
  | .tmp t => (s.σ t, True)
  | .cell t ty => vloadAt P s.β ty (s.σ t)

def resD : List D → D
  | [d] => d
  | ds => .tup ds

/-- A result, read at the end. -/
def rdRes (a : Act) : ResultVar → Sem Value
  | .tmp t => pure (a.tmps.getD t undef)
  | .cell x t => do loadVar t (← asAddr (a.tmps.getD x undef))

theorem results_eq (fn : Func) (a : Act) : results fn a.tmps = (do let vs ← fn.results.mapM (rdRes a); pure (if h : vs.size = 1 then vs[0] else .tuple vs)) := by
  unfold results
  congr 1

theorem rdRes_run (h : SR G n B K s a w) (r : ResultVar) (hr : (resv P s r).2) : ∃ v, (rdRes a r).run P w = .ok v w ∧ Rep K (resv P s r).1 v := by
  cases r with
  | tmp t => exact ⟨_, rfl, h.tmps t⟩
  | cell t ty =>
    obtain ⟨v, h3, h4⟩ := vloadAt_sound (P := P) h.rel (h.tmps t) hr
    refine ⟨v, ?_, h4⟩
    unfold rdRes
    simp only
    generalize a.tmps.getD t undef = u at h3
    cases u with
    | pointer p =>
      cases p with
      | none => simp [Instr.loadAt, Instr.sureAddr, stuck, Sem.run] at h3
      | some ad => simpa [Instr.loadAt, Instr.sureAddr, asAddr] using h3
    | _ => simp [Instr.loadAt, Instr.sureAddr, stuck, Sem.run] at h3

theorem resv_run (h : SR G n B K s a w) : ∀ rs : List ResultVar, (∀ r ∈ rs, (resv P s r).2) → ∃ vs : List Value, (rs.mapM (rdRes a)).run P w = .ok vs w ∧ RepL K (rs.map fun r => (resv P s r).1) vs
  | [], _ => ⟨[], by simp, .nil⟩
  | r :: rs, hc => by
    obtain ⟨vs, h1, h2⟩ := resv_run h rs fun r hr => hc r (by simp [hr])
    obtain ⟨v, h3, h4⟩ := rdRes_run h r (hc r (by simp))
    refine ⟨v :: vs, ?_, .cons h4 h2⟩
    simp only [List.mapM_cons, Sem.run_bind, h3, Result.andThen_ok, h1, Sem.run_pure]

theorem results_sound (h : SR G n B K s a w) {fn : Func} (hc : ∀ r ∈ fn.results.toList, (resv P s r).2) :
    ∃ v, (results fn a.tmps).run P w = .ok v w ∧ Rep K (resD (fn.results.toList.map fun r => (resv P s r).1)) v := by
  obtain ⟨vs, h1, h2⟩ := resv_run (P := P) h fn.results.toList hc
  have hm : (fn.results.mapM (rdRes a)).run P w = .ok vs.toArray w := by
    have : fn.results.mapM (rdRes a) = List.toArray <$> fn.results.toList.mapM (rdRes a) := by
      have := List.mapM_toArray (m := Sem) (f := rdRes a) (l := fn.results.toList)
      simpa using this
    rw [this, Sem.run_map, h1]
    rfl
  rw [results_eq, Sem.run_bind, hm]
  simp only [Result.andThen_ok, Sem.run_pure, List.size_toArray]
  generalize (fn.results.toList.map fun r => (resv P s r).1) = ds at h2
  cases h2 with
  | nil => exact ⟨.tuple #[], by simp, .tup .nil⟩
  | cons h3 h4 =>
    cases h4 with
    | nil => exact ⟨_, by simp, h3⟩
    | cons h5 h6 => exact ⟨_, by simp, .tup (.cons h3 (.cons h5 h6))⟩

/-! ### A function's end -/

theorem run_take {r : Nat} (h : w.heap[r]? = some (.deferred (some []))) : (Instr.takeDeferred r).run P w = .ok [] { w with heap := w.heap.setIfInBounds r (.deferred none) } := by
  simp [Instr.takeDeferred, getObj, setObj, Sem.run, h]

theorem end_marks {F : Fence} {k : Nat} {fn : Func} {tmps : Array Value} {R : Ending → World → Prop} {u : FrameMode} (hu : u ≠ .run) : ∀ (rs : List Nat) (w : World), rs.Nodup → (∀ r ∈ rs, w.heap[r]? = some (.deferred (some []))) →
    (∀ w', (∀ i, i ∉ rs → w'.heap[i]? = w.heap[i]?) → w'.heap.size = w.heap.size → w'.os = w.os → w'.tape = w.tape → w'.output = w.output → LeavesInM F k P fn tmps R [] u w') →
    LeavesInM F k P fn tmps R (rs.map fun r => { target := .collected r, args := #[] }) u w
  | [], w, _, _, h => h w (fun _ _ => rfl) rfl rfl rfl rfl
  | r :: rs, w, hn, hm, h => by
    simp only [List.nodup_cons] at hn
    refine ⟨hu, .inl ⟨r, _, rfl, run_take (hm r (by simp)), end_marks hu rs _ hn.2 (fun q hq => ?_) fun w' h1 h2 h3 h4 h5 => ?_⟩⟩
    · have hne : r ≠ q := fun e => hn.1 (e ▸ hq)
      simp only [Array.getElem?_setIfInBounds, if_neg hne]
      exact hm q (by simp [hq])
    · refine h w' (fun i hi => ?_) (by rw [h2]; simp) h3 h4 h5
      simp only [List.mem_cons, not_or] at hi
      rw [h1 i hi.2]
      simp only [Array.getElem?_setIfInBounds]
      rw [if_neg (fun e => hi.1 e.symm)]

theorem Rel.marks {β : Heap} {ω : List Nat} (h : Rel G K β ω w) {rs : List Nat} {w' : World} (hm : ∀ r ∈ rs, w.heap[r]? = some (.deferred (some []))) (hs : ∀ i, i ∉ rs → w'.heap[i]? = w.heap[i]?) : Rel G K β ω w' := by
  have hc : ∀ {b o : Nat} {v : Value}, w.cell? ⟨b, o, none⟩ = some v → w'.cell? ⟨b, o, none⟩ = some v := fun {b o v} hb => by
    have hn : b ∉ rs := fun hb' => by
      unfold World.cell? at hb
      simp only at hb
      rw [hm b hb'] at hb
      cases hb
    rw [← hb]
    simp [World.cell?, hs b hn]
  refine ⟨fun b o d hk => ?_, fun b cs hb => ?_, h.boxK, fun t ht => ?_, h.tokne, h.glob, h.free⟩
  · obtain ⟨v, hv, hr⟩ := h.holds b o d hk
    exact ⟨v, hc hv, hr⟩
  · obtain ⟨x, hx, hb'⟩ := h.box b cs hb
    have hn : b ∉ rs := fun hb'' => by
      rw [hm b hb''] at hx
      cases hx
      cases hb'
    exact ⟨x, by rw [hs b hn]; exact hx, hb'⟩
  · obtain ⟨x, a1, hx⟩ := h.tok t ht
    refine ⟨x, a1, fun hd hxd => ?_⟩
    obtain ⟨vs, e, a2, a3⟩ := hx hd hxd
    have hn : hd.b ∉ rs := fun hb'' => by rw [hm _ hb''] at a2; cases a2
    exact ⟨vs, e, by rw [hs _ hn]; exact a2, a3⟩

/-- The value d may be taken for the value d'. -/
def Wk (d d' : D) : Prop := ∀ K v, Rep K d v → Rep K d' v

theorem Wk.refl (d : D) : Wk d d := fun _ _ h => h
theorem Wk.er (d : D) : Wk d d.er := fun _ _ h => h.er

/-- What a function's body must come to. -/
def fin (P : Program) (fn : Func) (Φ : Out → Heap → List Nat → Prop) : VE → St → Prop
  | .normal, s | .ret, s => (∀ r ∈ fn.results.toList, (resv P s r).2) ∧ ∃ d β' ω', Wk (resD (fn.results.toList.map fun r => (resv P s r).1)) d ∧ (∀ b cs, β' b = some cs → s.β b = some cs) ∧ (∀ t, t ∈ ω' → t ∈ s.ω) ∧ Φ (.ret d) β' ω'
  | .panic d, s => ∃ d' β' ω', Wk d d' ∧ (∀ b cs, β' b = some cs → s.β b = some cs) ∧ (∀ t, t ∈ ω' → t ∈ s.ω) ∧ Φ (.pan d') β' ω'
  | _, _ => False

/-- The slots at a function's begin. -/
def start (args : List D) : Nat → D := fun i => args.getD i .any

theorem start_rep {args : List D} {vargs : List Value} (h : RepL K args vargs) (n : Nat) (t : Nat) : Rep K (start args t) ((vargs.toArray ++ Array.replicate (n - vargs.toArray.size) undef).getD t undef) := by
  unfold start
  by_cases ht : t < args.length
  · obtain ⟨v, h1, h2⟩ := h.get t _ (List.getElem?_eq_getElem ht)
    have hl := h.length
    rw [Array.getD_eq_getD_getElem?, Array.getElem?_append_left (by simp; omega)]
    simp only [List.getElem?_toArray, h1, Option.getD_some]
    simpa [ht] using h2
  · have : args.getD t .any = .any := by simp [List.getD, List.getElem?_eq_none (Nat.le_of_not_lt ht)]
    rw [this]
    exact .any _

theorem VC.of_vwp {R : DrawRule} (hS : Sound R) {f : FuncId} {fn : Func} {c : Code} {args : List D} {β : Heap} {ω : List Nat} {Φ : Out → Heap → List Nat → Prop} (hf : P.funcs[f]? = some fn) (hb : fn.body = some c) (hname : (fn.name == "runtime.NumGoroutine") = false) (hfit : fits fn.ntmps c = true) (hlen : args.length ≤ fn.ntmps)
    (h : vwp R P G c (fin P fn Φ) ⟨start args, β, ω⟩) : VC P G f args β ω Φ := by
  intro K w vargs hr ha
  refine .inl ⟨?_, ?_⟩
  · simp only [beq_eq_false_iff_ne, ne_eq] at hname; simp [callFunc, program, Sem.run, hf, hname, hb]
  · have hl := ha.length
    have hsr : SR G fn.ntmps w.heap.size K ⟨start args, β, ω⟩ { tmps := vargs.toArray ++ Array.replicate (fn.ntmps - vargs.toArray.size) undef, defers := [] } w :=
      ⟨hr, start_rep ha fn.ntmps, by simp; omega, [], rfl, List.nodup_nil, fun r hr => by simp at hr⟩
    have hw := vwp_sound hS (Nat.le_refl _) c _ _ K _ w hfit h hsr (Evo.refl K β ω w)
    have hcalls : CallsIn Fence.wide 0 P f vargs.toArray w (Back G Φ K β ω w) := by
      refine callsIn_of_wp_marks hf hb trivial (wpIn_mono (n := 0) hw ?_)
      rintro e a' w' ⟨K', s', ve, h1, h2, h3, h4⟩
      obtain ⟨rs, m1, m2, m3⟩ := h3.marks
      have hmarks : ∀ r ∈ rs, w'.heap[r]? = some (.deferred (some [])) := fun r hr => (m3 r hr).2
      have hevo : ∀ w'', (∀ i, i ∉ rs → w''.heap[i]? = w'.heap[i]?) → w''.heap.size = w'.heap.size → w''.os = w'.os → w''.tape = w'.tape → w''.output = w'.output → Evo K β ω w K' s'.β s'.ω w'' := fun w'' q1 q2 q3 q4 q5 =>
        ⟨h4.le, by rw [q2]; exact h4.size, q3.trans h4.os, q4.trans h4.tape, q5.trans h4.output, fun b hb ho => by
          obtain ⟨k1, k2, k3⟩ := h4.keep b hb ho
          have hnb : b ∉ rs := fun hb' => by have := (m3 b hb').1; omega
          exact ⟨(q1 b hnb).trans k1, k2, k3⟩, h4.tok⟩
      have hret : (∀ r ∈ fn.results.toList, (resv P s' r).2) ∧ (∃ d β' ω', Wk (resD (fn.results.toList.map fun r => (resv P s' r).1)) d ∧ (∀ b cs, β' b = some cs → s'.β b = some cs) ∧ (∀ t, t ∈ ω' → t ∈ s'.ω) ∧ Φ (.ret d) β' ω') →
          LeavesInM Fence.wide 0 P fn a'.tmps (Back G Φ K β ω w) a'.defers .returning w' := by
        rintro ⟨hc, d, β', ω', hwk, hsb, hsw, hφ⟩
        rw [m1]
        refine end_marks (by simp) rs w' m2 hmarks fun w'' q1 q2 q3 q4 q5 => ?_
        have hrel := h3.rel.marks hmarks q1
        have hsr2 : SR G fn.ntmps 0 K' s' { a' with defers := [] } w'' := ⟨hrel, h3.tmps, h3.size, [], rfl, List.nodup_nil, fun r hr => by simp at hr⟩
        obtain ⟨v, v1, v2⟩ := results_sound (P := P) hsr2 hc
        refine ⟨v, v1, K', .ret d, β', ω', hwk K' v v2, hφ, hrel.less hsb hsw, (hevo w'' q1 q2 q3 q4 q5).trans (Evo.less hsb hsw)⟩
      cases ve <;> cases e <;> first
        | exact h2.elim
        | exact h1.elim
        | exact hret h1
        | skip
      obtain ⟨d', β', ω', hwk, hsb, hsw, hφ⟩ := h1
      obtain ⟨v, rfl, hv⟩ := h2
      show LeavesInM Fence.wide 0 P fn a'.tmps (Back G Φ K β ω w) a'.defers (.panicking _) w'
      rw [m1]
      refine end_marks (by simp) rs w' m2 hmarks fun w'' q1 q2 q3 q4 q5 => ?_
      exact ⟨K', .pan d', β', ω', ⟨v, rfl, hwk K' v hv⟩, hφ, (h3.rel.marks hmarks q1).less hsb hsw, (hevo w'' q1 q2 q3 q4 q5).trans (Evo.less hsb hsw)⟩
    exact callsIn_wide.1 hcalls

end Go.Proofs.YtgkfcgfobckaaaaV
