/-
  The twenty-seventh text of the program logic: a slice held against nil (whether it is nil is not known); small helps of the walks.
  Conditions: none; it speaks of every program.
-/
import Derived.Test.YtgkfcgfobckaaaaV26
import Derived.Lib.SliceRun
set_option linter.unusedVariables false
set_option linter.unusedSimpArgs false
namespace Go.Proofs.YtgkfcgfobckaaaaV
open Go

variable {P : Program} {G : Heap} {β : Heap} {ω : List Nat}

theorem VC.of_wpIn {f : FuncId} {fn : Func} {c : Code} {args : List D} {β : Heap} {ω : List Nat} {Φ : Out → Heap → List Nat → Prop} (hf : P.funcs[f]? = some fn) (hb : fn.body = some c) (hname : (fn.name == "runtime.NumGoroutine") = false) (hlen : args.length ≤ fn.ntmps)
    (h : ∀ (K : Kn) (a : Act) (w : World) (B : Nat), B ≤ w.heap.size → SR G fn.ntmps B K ⟨start args, β, ω⟩ a w → c.wpIn (W none) 0 P (up G fn.ntmps B K β ω w (fin P fn Φ)) a w) : VC P G f args β ω Φ := by
  intro K w vargs hr ha
  refine .inl ⟨?_, ?_⟩
  · simp only [beq_eq_false_iff_ne, ne_eq] at hname; simp [callFunc, program, Sem.run, hf, hname, hb]
  · have hl := ha.length
    have hsr : SR G fn.ntmps w.heap.size K ⟨start args, β, ω⟩ { tmps := vargs.toArray ++ Array.replicate (fn.ntmps - vargs.toArray.size) undef, defers := [] } w :=
      ⟨hr, start_rep ha fn.ntmps, by simp; omega, [], rfl, List.nodup_nil, fun r hr => by simp at hr⟩
    have hw := h K _ w _ (Nat.le_refl _) hsr
    have hcalls : CallsIn Fence.wide 0 P f vargs.toArray w (Back G Φ K β ω w) := by
      refine callsIn_of_wp_marks hf hb trivial (wpIn_mono (n := 0) hw ?_)
      rintro e a' w' ⟨K', s', ve, h1, h2, h3, h4⟩
      obtain ⟨rs, m1, m2, m3⟩ := h3.marks
      have hmarks : ∀ r ∈ rs, w'.heap[r]? = some (.deferred (some [])) := fun r hr => (m3 r hr).2
      have hevo : ∀ w'', (∀ i, i ∉ rs → w''.heap[i]? = w'.heap[i]?) → w''.heap.size = w'.heap.size → w''.os = w'.os → w''.tape = w'.tape → w''.output = w'.output → Evo K β ω w K' s'.β s'.ω w'' := fun w'' q1 q2 q3 q4 q5 =>
        ⟨h4.le, by rw [q2]; exact h4.size, q3.trans h4.os, q4.trans h4.tape, q5.trans h4.output, fun b hb ho => by
          obtain ⟨k1, k2, k3⟩ := h4.keep b hb ho
          have hnb : b ∉ rs := fun hb' => by have := (m3 b hb').1; omega
          exact ⟨(q1 b hnb).trans k1, k2, k3⟩, h4.tok⟩
      have hret : (∀ r ∈ fn.results.toList, (resv P s' r).2) ∧ (∃ d β' ω', Wk (resD (fn.results.toList.map fun r => (resv P s' r).1)) d ∧ (∀ b cs, β' b = some cs → s'.β b = some cs) ∧ (∀ t, t ∈ ω' → t ∈ s'.ω) ∧ Φ (.ret d) β' ω') →
          LeavesInM Fence.wide 0 P fn a'.tmps (Back G Φ K β ω w) a'.defers .returning w' := by
        rintro ⟨hc, d, β', ω', hwk, hsb, hsw, hφ⟩
        rw [m1]
        refine end_marks (by simp) rs w' m2 hmarks fun w'' q1 q2 q3 q4 q5 => ?_
        have hrel := h3.rel.marks hmarks q1
        have hsr2 : SR G fn.ntmps 0 K' s' { a' with defers := [] } w'' := ⟨hrel, h3.tmps, h3.size, [], rfl, List.nodup_nil, fun r hr => by simp at hr⟩
        obtain ⟨v, v1, v2⟩ := results_sound (P := P) hsr2 hc
        refine ⟨v, v1, K', .ret d, β', ω', hwk K' v v2, hφ, hrel.less hsb hsw, (hevo w'' q1 q2 q3 q4 q5).trans (Evo.less hsb hsw)⟩
      cases ve <;> cases e <;> first
        | exact h2.elim
        | exact h1.elim
        | exact hret h1
        | skip
      obtain ⟨d', β', ω', hwk, hsb, hsw, hφ⟩ := h1
      obtain ⟨v, rfl, hv⟩ := h2
      show LeavesInM Fence.wide 0 P fn a'.tmps (Back G Φ K β ω w) a'.defers (.panicking _) w'
      rw [m1]
      refine end_marks (by simp) rs w' m2 hmarks fun w'' q1 q2 q3 q4 q5 => ?_
      exact ⟨K', .pan d', β', ω', ⟨v, rfl, hwk K' v hv⟩, hφ, (h3.rel.marks hmarks q1).less hsb hsw, (hevo w'' q1 q2 q3 q4 q5).trans (Evo.less hsb hsw)⟩
    exact callsIn_wide.1 hcalls


/-- A function that holds its argument against nil: both ways are gone. -/
theorem VC.nilcmp {f : FuncId} {fn : Func} {c0 x y z : Code} {i t3 t4 : Nat} {t e t' : TypeId} {ty1 ty2 : TypeId} {p1 p2 : String} {af1 af2 : Array Edge} {args : List D} {Φ : Out → Heap → List Nat → Prop} (hm : P.follows .mixedOrders = true) (hf : P.funcs[f]? = some fn)
    (hb : fn.body = some (.seq c0 (.seq (.seq (.region i #[⟨some t3, .move (.tmp 0), ty1, p1, af1, none⟩, ⟨some t4, .binOp .eql t (.tmp t3) (.const (.slice none 0 0)) t', ty2, p2, af2, none⟩] false) (.cond (.tmp t4) x y)) z)))
    (hname : (fn.name == "runtime.NumGoroutine") = false) (hlen : args.length ≤ fn.ntmps) (hf0 : fits fn.ntmps c0 = true) (hfx : fits fn.ntmps (.cond (.tmp t4) x y) = true) (hfz : fits fn.ntmps z = true) (h34 : t3 < fn.ntmps ∧ t4 < fn.ntmps) (ht : P.underlying t = some (.slice e))
    (h : vwp vdraw P G c0 (VE.then (fun s => ∃ tk xs, s.σ 0 = .sl tk xs ∧ ∀ b, (b = true → xs = []) → vwp vdraw P G (.cond (.tmp t4) x y) (VE.then (vwp vdraw P G z (fin P fn Φ)) (fin P fn Φ)) ⟨upd (upd s.σ t3 (.sl tk xs)) t4 (.bool b), s.β, s.ω⟩) (fin P fn Φ)) ⟨start args, β, ω⟩) : VC P G f args β ω Φ := by
  refine VC.of_wpIn hf hb hname hlen fun K a w B hB hsr => ?_
  refine wpIn_seq (wpIn_mono (vwp_sound vdraw_sound hB c0 _ _ K a w hf0 h hsr (Evo.refl K β ω w)) ?_)
  rintro ex a' w' ⟨K', s', ve, g1, g2, g3, g4⟩
  have last : ∀ {ex : Exit} {a1 : Act} {w1 : World}, up G fn.ntmps B K β ω w (VE.then (vwp vdraw P G z (fin P fn Φ)) (fin P fn Φ)) ex a1 w1 → Exit.then (z.wpIn (W none) 0 P (up G fn.ntmps B K β ω w (fin P fn Φ))) (up G fn.ntmps B K β ω w (fin P fn Φ)) ex a1 w1 := by
    rintro ex a1 w1 ⟨K1, s1, ve1, k1, k2, k3, k4⟩
    cases ve1 <;> cases ex <;> first
      | exact k2.elim
      | exact vwp_sound vdraw_sound hB z _ s1 K1 a1 w1 hfz k1 k3 k4
      | exact ⟨K1, s1, .exit _, k1, k2, k3, k4⟩
      | exact ⟨K1, s1, .goto _, k1, k2, k3, k4⟩
      | exact ⟨K1, s1, .ret, k1, k2, k3, k4⟩
      | exact ⟨K1, s1, .panic _, k1, k2, k3, k4⟩
  cases ve <;> cases ex <;> first
    | exact g2.elim
    | exact ⟨K', s', .exit _, g1, g2, g3, g4⟩
    | exact ⟨K', s', .goto _, g1, g2, g3, g4⟩
    | exact ⟨K', s', .ret, g1, g2, g3, g4⟩
    | exact ⟨K', s', .panic _, g1, g2, g3, g4⟩
    | skip
  obtain ⟨tk, xs, q0, hall⟩ := g1
  refine wpIn_seq (wpIn_seq ?_)
  have hv : a'.eval (.tmp 0) = a'.tmps.getD 0 undef := rfl
  have hr := g3.tmps 0
  rw [q0] at hr
  refine wpIn_region ?_
  have hr0 : List.range (#[(⟨some t3, .move (.tmp 0), ty1, p1, af1, none⟩ : Oper), ⟨some t4, .binOp .eql t (.tmp t3) (.const (.slice none 0 0)) t', ty2, p2, af2, none⟩] : Array Oper).size = [0, 1] := rfl
  rw [hr0]
  simp only [wpOpsIn, List.getElem?_toArray, List.getElem?_cons_zero, List.getElem?_cons_succ, Region.wanted, if_true]
  have g5 := g3.put (dst := some t3) hr (fun t ht => by cases ht; exact h34.1)
  refine wpIn_value (fun c hc => by cases hc) (v := a'.eval (.tmp 0)) (w' := w') rfl ?_
  have hv3 : (a'.put (some t3) (a'.eval (.tmp 0))).eval (.tmp t3) = a'.tmps.getD 0 undef := by
    have hs := g3.size
    simp [Act.put, Act.eval, hs, h34.1]
  have hb2 : ∃ b, (b = true → xs = []) ∧ (binOp .eql t (a'.tmps.getD 0 undef) (.slice none 0 0)).run P w' = .ok (.bool b) w' ∧ (∀ c, a'.tmps.getD 0 undef ≠ .agg c) ∧ a'.tmps.getD 0 undef ≠ .nilIface := by
    cases hx : a'.tmps.getD 0 undef <;> rw [hx] at hr <;> try (exfalso; cases hr; done)
    cases hr with | sl hn hc hm hl htk =>
    refine ⟨_, fun hb => ?_, Lib.run_eql_slice_nil w' t e _ _ _ _ _ ht, ?_, ?_⟩
    · cases hxs : xs with
      | nil => rfl
      | cons x r =>
        obtain ⟨ad', h', _⟩ := hl 0 x (by rw [hxs]; rfl)
        rw [h'] at hb; cases hb
    · intro c h; cases h
    · intro h; cases h
  obtain ⟨b, hb0, hb2, hb3, hb4⟩ := hb2
  have g6 := g5.put (dst := some t4) (Rep.bool b) (fun t ht => by cases ht; exact h34.2)
  refine wpIn_value (fun c hc => by cases hc) (v := .bool b) (w' := w') ?_ ?_
  · simp only [execOp]
    refine run_v _ ?_
    rw [hv3]
    show ((do eqGuard .eql t (.tmp t3) (.const (.slice none 0 0)) (a'.tmps.getD 0 undef) (.slice none 0 0); binOp .eql t (a'.tmps.getD 0 undef) (.slice none 0 0)) : Sem Value).run P w' = _
    generalize a'.tmps.getD 0 undef = u0 at hb2 hb3 hb4 ⊢
    have hq := guard_ok (P := P) (t := t) (op := .eql) (xo := .tmp t3) (yo := .const (.slice none 0 0)) (u := u0) (v := .slice none 0 0) hb3 (.inl hb4) w'
    simp [hq, hb2]
  refine wpIn_mono (vwp_sound vdraw_sound hB _ _ _ _ _ _ hfx (hall b hb0) g6 g4) ?_
  intro ex a1 w1 hu
  exact last hu
/-- The same in the evaluator's form. -/
theorem VC.nilcmps {f : FuncId} {fn : Func} {c0 x y z : Code} {i t3 t4 : Nat} {t e t' : TypeId} {ty1 ty2 : TypeId} {p1 p2 : String} {af1 af2 : Array Edge} {args : List D} {Φ : Out → Heap → List Nat → Prop} (ct : Cert) (ts : List Tmp) (hm : P.follows .mixedOrders = true) (hf : P.funcs[f]? = some fn)
    (hb : fn.body = some (.seq c0 (.seq (.seq (.region i #[⟨some t3, .move (.tmp 0), ty1, p1, af1, none⟩, ⟨some t4, .binOp .eql t (.tmp t3) (.const (.slice none 0 0)) t', ty2, p2, af2, none⟩] false) (.cond (.tmp t4) x y)) z)))
    (hname : (fn.name == "runtime.NumGoroutine") = false) (hres : fn.results = (ts.map ResultVar.tmp).toArray) (hlen : args.length ≤ fn.ntmps) (hfit : fits fn.ntmps c0 = true ∧ fits fn.ntmps (.cond (.tmp t4) x y) = true ∧ fits fn.ntmps z = true ∧ t3 < fn.ntmps ∧ t4 < fn.ntmps)
    (hok : okCode ct c0 = true ∧ okCode ct (.cond (.tmp t4) x y) = true ∧ okCode ct z = true) (ht : P.underlying t = some (.slice e))
    (h : vwq false ct P G c0 (VE.then (fun s => ∃ tk xs, s.σ 0 = .sl tk xs ∧ ∀ b, (b = true → xs = []) → vwq false ct P G (.cond (.tmp t4) x y) (VE.then (vwq false ct P G z (fins Φ ts)) (fins Φ ts)) ⟨upd (upd s.σ t3 (.sl tk xs)) t4 (.bool b), s.β, s.ω⟩) (fins Φ ts)) ⟨start args, β, ω⟩) : VC P G f args β ω Φ := by
  have e0 : fin P fn Φ = fins Φ ts := by
    funext e s
    have hr : (fn.results.toList.map fun r => (resv P s r).1) = ts.map s.σ := by
      rw [hres]
      simp only [List.map_map]
      rfl
    have ht : (∀ r ∈ fn.results.toList, (resv P s r).2) = True := by
      rw [hres]
      simp [resv]
    cases e <;> simp only [fin, fins, finK, hr, ht, true_and]
  obtain ⟨k1, k2, k3, k4, k5⟩ := hfit
  obtain ⟨l1, l2, l3⟩ := hok
  refine VC.nilcmp hm hf hb hname hlen k1 k2 k3 ⟨k4, k5⟩ ht ?_
  rw [e0]
  refine vwq_vwp hm c0 (then_mono (fun s hs => ?_) (fun _ _ h => h)) l1 h
  obtain ⟨tk, xs, q, hall⟩ := hs
  exact ⟨tk, xs, q, fun b hb => vwq_vwp hm _ (then_mono (fun s hs => vwq_vwp hm z (fun _ _ h => h) l3 hs) (fun _ _ h => h)) l2 (hall b hb)⟩

end Go.Proofs.YtgkfcgfobckaaaaV
