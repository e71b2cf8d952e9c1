/-
  The thirty-second text of the program logic: a function that defers one call of a function literal which recovers.
  Conditions: none; it speaks of every program.
-/
import Derived.Test.YtpblgfgcoamgmaaVC
import Derived.RecoverIn
set_option linter.unusedVariables false
set_option linter.unusedSimpArgs false
namespace Go.Proofs.YtpblgfgcoamgmaaV
open Go

variable {P : Program} {G : Heap}

theorem end_marks2 {F : Fence} {k : Nat} {fn : Func} {tmps : Array Value} {R : Ending → World → Prop} {u : FrameMode} (hu : u ≠ .run) {ds : List Deferred} : ∀ (rs : List Nat) (w : World), rs.Nodup → (∀ r ∈ rs, w.heap[r]? = some (.deferred (some []))) →
    (∀ w', (∀ i, i ∉ rs → w'.heap[i]? = w.heap[i]?) → w'.heap.size = w.heap.size → w'.os = w.os → w'.tape = w.tape → w'.output = w.output → LeavesInM F k P fn tmps R ds u w') →
    LeavesInM F k P fn tmps R (rs.map (fun r => { target := .collected r, args := #[] }) ++ ds) u w
  | [], w, _, _, h => h w (fun _ _ => rfl) rfl rfl rfl rfl
  | r :: rs, w, hn, hm, h => by
    simp only [List.nodup_cons] at hn
    refine ⟨hu, .inl ⟨r, _, rfl, run_take (hm r (by simp)), end_marks2 hu rs _ hn.2 (fun q hq => ?_) fun w' h1 h2 h3 h4 h5 => ?_⟩⟩
    · have hne : r ≠ q := fun e => hn.1 (e ▸ hq)
      simp only [Array.getElem?_setIfInBounds, if_neg hne]
      exact hm q (by simp [hq])
    · refine h w' (fun i hi => ?_) (by rw [h2]; simp) h3 h4 h5
      simp only [List.mem_cons, not_or] at hi
      rw [h1 i hi.2]
      simp only [Array.getElem?_setIfInBounds]
      rw [if_neg (fun e => hi.1 e.symm)]

/-- WHAT A DEFERRED FUNCTION LITERAL THAT RECOVERS COMES TO: x is what recover hands over. -/
theorem rec_calls {g : FuncId} {gn : Func} {E : Code} {j0 r3 r2 : Nat} {ty1 ty2 : TypeId} {p1 p2 : String} {af1 af2 : Array Edge}
    (hg : P.funcs[g]? = some gn) (hgb : gn.body = some (.seq (.region j0 #[⟨some r3, .call ⟨.builtin .recover, #[], #[]⟩, ty1, p1, af1, none⟩, ⟨some r2, .assign (.tmp r3), ty2, p2, af2, none⟩] false) E))
    (hres : gn.results = #[]) (hfe : fits gn.ntmps E = true) (hnr : noRange E = true) (h3 : r3 < gn.ntmps) (h2 : r2 < gn.ntmps)
    {caps : List D} {vcaps : List Value} {K : Kn} {w : World} {β : Heap} {ω : List Nat} (hlen : caps.length ≤ gn.ntmps) (hr : Rel G K β ω w) (hc : RepL K caps vcaps)
    {u u' : FrameMode} {x : D} {xv : Value} (hx : Rep K x xv)
    (hu : (u = .returning ∧ xv = .nilIface ∧ u' = .returning) ∨ (u = .panicking [{ v := xv, recovered := false }] ∧ u' = .panicking [{ v := xv, recovered := true }]))
    {Q : Heap → List Nat → Prop} (h : vwp vdraw P G E (fun e s => (e = .normal ∨ e = .ret) ∧ Q s.β s.ω) ⟨upd (upd (start caps) r3 x) r2 x, β, ω⟩) :
    CallsDIn Fence.wide 0 P g vcaps.toArray u w (fun e u2 w' => (∃ v, e = .returned v) ∧ u2 = u' ∧ ∃ K' β' ω', Q β' ω' ∧ Rel G K' β' ω' w' ∧ Evo K β ω w K' β' ω' w') := by
  refine callsDIn_of_wpSIn hg hgb trivial fun c₀ cs hcu => ?_
  refine wpSIn_seq (wpSIn_region ?_)
  have hl := hc.length
  generalize ha0 : ({ tmps := vcaps.toArray ++ Array.replicate (gn.ntmps - vcaps.toArray.size) undef, defers := [] } : Act) = a0
  have hsr0 : SR G gn.ntmps ⟨w.heap.size, [], true⟩ K ⟨start caps, β, ω⟩ a0 w := by
    rw [← ha0]
    exact ⟨hr, start_rep hc gn.ntmps, by simp; omega, [], fun _ => rfl, rfl, List.nodup_nil, fun r hr => by simp at hr⟩
  have hsr1 : SR G gn.ntmps ⟨w.heap.size, [], true⟩ K (St.put ⟨start caps, β, ω⟩ (some r3) x) (a0.put (some r3) xv) w := hsr0.put hx fun t ht => by cases ht; exact h3
  have hx2 : Rep K x ((a0.put (some r3) xv).eval (.tmp r3)) := by
    have := hsr1.raw (.tmp r3)
    simpa [St.raw, St.put] using this
  have hsr2 : SR G gn.ntmps ⟨w.heap.size, [], true⟩ K (St.put (St.put ⟨start caps, β, ω⟩ (some r3) x) (some r2) x) ((a0.put (some r3) xv).put (some r2) ((a0.put (some r3) xv).eval (.tmp r3))) w := hsr1.put hx2 fun t ht => by cases ht; exact h2
  have hcs : ∃ cs', cs' = { c₀ with mode := u' } :: cs ∧ ((recoverD (c₀ :: cs) = some (xv, cs')) ∨ (recoverD (c₀ :: cs) = none ∧ xv = .nilIface ∧ cs' = c₀ :: cs)) := by
    rcases hu with ⟨rfl, rfl, rfl⟩ | ⟨rfl, rfl⟩
    · refine ⟨_, rfl, .inr ⟨by simp [recoverD, hcu], rfl, ?_⟩⟩
      cases c₀; simp_all
    · exact ⟨_, rfl, .inl (by simp [recoverD, hcu])⟩
  obtain ⟨cs', hcs', hrec⟩ := hcs
  have hE : E.wpSIn Fence.wide 0 P (bodyPostS P gn c₀ cs fun e u2 w' => (∃ v, e = .returned v) ∧ u2 = u' ∧ ∃ K' β' ω', Q β' ω' ∧ Rel G K' β' ω' w' ∧ Evo K β ω w K' β' ω' w') ((a0.put (some r3) xv).put (some r2) ((a0.put (some r3) xv).eval (.tmp r3))) cs' w := by
    refine wpSIn_of_wpIn rfl (wpIn_mono (vwp_soundR (ro := none) (B := ⟨w.heap.size, [], true⟩) (K0 := K) (β0 := β) (ω0 := ω) (w0 := w) vdraw_sound (Nat.le_refl _) E _ _ K _ w (.inr hnr) hfe h hsr2 (Evo.refl K β ω w)) ?_)
    rintro e a' w' ⟨K', s', ve, ⟨hve, hQ⟩, her, hsr, hev⟩
    obtain ⟨rs, hrs, m1, _, _⟩ := hsr.marks
    have hd : a'.defers = [] := by rw [m1, hrs rfl]; rfl
    obtain ⟨v, v1, _⟩ := results_sound (P := P) (fn := gn) hsr (fun r hr => by rw [hres] at hr; simp at hr)
    have key : a'.defers = [] ∧ ∃ u2, cs' = { c₀ with mode := u2 } :: cs ∧ ∃ v, (results gn a'.tmps).run P w' = .ok v w' ∧ ((∃ v', Ending.returned v = .returned v') ∧ u2 = u' ∧ ∃ K' β' ω', Q β' ω' ∧ Rel G K' β' ω' w' ∧ Evo K β ω w K' β' ω' w') :=
      ⟨hd, u', hcs', v, v1, ⟨v, rfl⟩, rfl, K', _, _, hQ, hsr.rel, hev⟩
    rcases hve with rfl | rfl
    · cases e <;> first
        | exact key
        | exact her.elim
    · cases e <;> first
        | exact key
        | exact her.elim
  have hr0 : List.range (#[(⟨some r3, .call ⟨.builtin .recover, #[], #[]⟩, ty1, p1, af1, none⟩ : Oper), ⟨some r2, .assign (.tmp r3), ty2, p2, af2, none⟩] : Array Oper).size = [0, 1] := rfl
  rw [hr0]
  have run1 : (execOp a0.eval ⟨some r3, .call ⟨.builtin .recover, #[], #[]⟩, ty1, p1, af1, none⟩).run P w = .ok .recover w := by
    simp [execOp, resolve, invoke, builtin, Sem.run_pure]
  have run2 : (execOp (a0.put (some r3) xv).eval ⟨some r2, .assign (.tmp r3), ty2, p2, af2, none⟩).run P w = .ok (.value ((a0.put (some r3) xv).eval (.tmp r3))) w := by
    simp [execOp, Sem.run_pure]
  have g0 : (#[(⟨some r3, .call ⟨.builtin .recover, #[], #[]⟩, ty1, p1, af1, none⟩ : Oper), ⟨some r2, .assign (.tmp r3), ty2, p2, af2, none⟩] : Array Oper)[0]? = some ⟨some r3, .call ⟨.builtin .recover, #[], #[]⟩, ty1, p1, af1, none⟩ := rfl
  have g1 : (#[(⟨some r3, .call ⟨.builtin .recover, #[], #[]⟩, ty1, p1, af1, none⟩ : Oper), ⟨some r2, .assign (.tmp r3), ty2, p2, af2, none⟩] : Array Oper)[1]? = some ⟨some r2, .assign (.tmp r3), ty2, p2, af2, none⟩ := rfl
  have key2 : ∀ q, Region.wanted (⟨some r2, .assign (.tmp r3), ty2, p2, af2, none⟩ : Oper) q = true := fun _ => rfl
  have key1 : ∀ q, Region.wanted (⟨some r3, .call ⟨.builtin .recover, #[], #[]⟩, ty1, p1, af1, none⟩ : Oper) q = true := fun _ => rfl
  simp only [wpOpsSIn, g0, g1, key1, key2, if_true, run1, run2]
  refine ⟨fun f hf => trivial, ?_⟩
  rcases hrec with hrec | ⟨hrec, rfl, rfl⟩
  · simp only [hrec, run2]
    refine ⟨fun f hf => trivial, ?_⟩
    subst hcs'
    exact hE
  · simp only [hrec, run2]
    refine ⟨fun f hf => trivial, ?_⟩
    exact hE

/-- What is asked at a body's end when one deferred call of a recovering closure stands. -/
def dfin (P : Program) (G : Heap) (fn : Func) (E : Code) (r3 r2 : Nat) (caps : List D) (Φ : Out → Heap → List Nat → Prop) : VE → St → Prop
  | .normal, s | .ret, s => vwp vdraw P G E (fun e s2 => (e = .normal ∨ e = .ret) ∧ fin P fn Φ .ret ⟨s.σ, s2.β, s2.ω⟩) ⟨upd (upd (start caps) r3 .nilif) r2 .nilif, s.β, s.ω⟩
  | .panic d, s => vwp vdraw P G E (fun e s2 => (e = .normal ∨ e = .ret) ∧ fin P fn Φ .ret ⟨s.σ, s2.β, s2.ω⟩) ⟨upd (upd (start caps) r3 d) r2 d, s.β, s.ω⟩
  | _, _ => False

theorem defer_body {f g : FuncId} {fn gn : Func} {A C E : Code} {j j0 t5 t2 t3 r3 r2 : Nat} {ty1 ty2 ty3 ty4 : TypeId} {p1 p2 p3 p4 : String} {af1 af2 af3 af4 : Array Edge} {args : List D} {β : Heap} {ω : List Nat} {Φ : Out → Heap → List Nat → Prop}
    (hf : P.funcs[f]? = some fn)
    (hb : fn.body = some (.seq A (.seq (.region j #[⟨some t5, .makeFunc (.func g) #[] #[.tmp t2, .tmp t3], ty1, p1, af1, none⟩, ⟨none, .defer ⟨.value (.tmp t5), #[], #[]⟩, ty2, p2, af2, none⟩] false) C)))
    (hlen : args.length ≤ fn.ntmps) (hfA : fits fn.ntmps A = true) (hfC : fits fn.ntmps C = true) (hnA : noRange A = true) (h5 : t5 < fn.ntmps)
    (hg : P.funcs[g]? = some gn) (hgb : gn.body = some (.seq (.region j0 #[⟨some r3, .call ⟨.builtin .recover, #[], #[]⟩, ty3, p3, af3, none⟩, ⟨some r2, .assign (.tmp r3), ty4, p4, af4, none⟩] false) E))
    (hgname : (gn.name == "runtime.NumGoroutine") = false) (hres : gn.results = #[]) (hfe : fits gn.ntmps E = true) (hnr : noRange E = true) (h3 : r3 < gn.ntmps) (h2 : r2 < gn.ntmps) (hcn : 2 ≤ gn.ntmps)
    (h : vwp vdraw P G A (fun e s => e = .normal ∧ vwp vdraw P G C (dfin P G fn E r3 r2 [s.σ t2, s.σ t3] Φ) ⟨upd s.σ t5 (.clo (.func g) [] [s.σ t2, s.σ t3]), s.β, s.ω⟩) ⟨start args, β, ω⟩)
    {K : Kn} {w : World} {vargs : List Value} (hr : Rel G K β ω w) (ha : RepL K args vargs) :
    (Code.seq A (.seq (.region j #[⟨some t5, .makeFunc (.func g) #[] #[.tmp t2, .tmp t3], ty1, p1, af1, none⟩, ⟨none, .defer ⟨.value (.tmp t5), #[], #[]⟩, ty2, p2, af2, none⟩] false) C)).wpIn (W none) 0 P (bodyPostM Fence.wide 0 P fn (Back G Φ K β ω w)) { tmps := vargs.toArray ++ Array.replicate (fn.ntmps - vargs.toArray.size) undef, defers := [] } w := by
  have hl := ha.length
  have hsr : SR G fn.ntmps ⟨w.heap.size, [], true⟩ K ⟨start args, β, ω⟩ { tmps := vargs.toArray ++ Array.replicate (fn.ntmps - vargs.toArray.size) undef, defers := [] } w :=
    ⟨hr, start_rep ha fn.ntmps, by simp; omega, [], fun _ => rfl, rfl, List.nodup_nil, fun r hr => by simp at hr⟩
  refine wpIn_seq (wpIn_mono (vwp_soundR (ro := none) (B := ⟨w.heap.size, [], true⟩) (K0 := K) (β0 := β) (ω0 := ω) (w0 := w) vdraw_sound (Nat.le_refl _) A _ _ K _ w (.inr hnA) hfA h hsr (Evo.refl K β ω w)) ?_)
  rintro e a' w' ⟨K', s', ve, ⟨rfl, hC⟩, her, hsr', hev⟩
  cases e <;> first
    | exact her.elim
    | skip
  obtain ⟨rs0, hrs0, m0, _, _⟩ := hsr'.marks
  have hd0 : a'.defers = [] := by rw [m0, hrs0 rfl]; rfl
  refine wpIn_seq (wpIn_region ?_)
  have hr0 : List.range (#[(⟨some t5, .makeFunc (.func g) #[] #[.tmp t2, .tmp t3], ty1, p1, af1, none⟩ : Oper), ⟨none, .defer ⟨.value (.tmp t5), #[], #[]⟩, ty2, p2, af2, none⟩] : Array Oper).size = [0, 1] := rfl
  rw [hr0]
  simp only [wpOpsIn, List.getElem?_toArray, List.getElem?_cons_zero, List.getElem?_cons_succ, Region.wanted, if_true]
  have hclo : Rep K' (.clo (.func g) [] [s'.σ t2, s'.σ t3]) (.func (.func g) ([] : List Value).toArray [a'.eval (.tmp t2), a'.eval (.tmp t3)].toArray) := .clo .nil (.cons (hsr'.tmps t2) (.cons (hsr'.tmps t3) .nil))
  refine wpIn_value (fun c hc => by cases hc) (v := .func (.func g) ([] : List Value).toArray [a'.eval (.tmp t2), a'.eval (.tmp t3)].toArray) (w' := w') (by simp [execOp, Instr.makeFunc, Sem.run_pure]) ?_
  have g5 := hsr'.put (dst := some t5) hclo (fun t ht => by cases ht; exact h5)
  generalize ha1 : a'.put (some t5) (.func (.func g) ([] : List Value).toArray [a'.eval (.tmp t2), a'.eval (.tmp t3)].toArray) = a1 at g5
  have hd1 : a1.defers = [] := by rw [← ha1]; exact hd0
  have hv5 : a1.eval (.tmp t5) = .func (.func g) ([] : List Value).toArray [a'.eval (.tmp t2), a'.eval (.tmp t3)].toArray := by
    have hs := hsr'.size
    rw [← ha1]
    simp [Act.put, Act.eval, hs, h5]
  refine ⟨about_W, ?_⟩
  have hrun : (Oper.semAt (W none).round a1.eval ⟨none, .defer ⟨.value (.tmp t5), #[], #[]⟩, ty2, p2, af2, none⟩).run P w' = .ok (.defer { target := .fn (.func g) [a'.eval (.tmp t2), a'.eval (.tmp t3)].toArray, args := #[] }) w' := by
    show (Oper.semAt none a1.eval _).run P w' = _
    rw [Oper.semAt_none]
    simp only [execOp, resolve, hv5, Deferred.ofValue]
    simp [Sem.run_pure]
  rw [hrun]
  rw [Oper.uponIn_defer]
  generalize hdd : ({ target := .fn (.func g) [a'.eval (.tmp t2), a'.eval (.tmp t3)].toArray, args := #[] } : Deferred) = dd
  show C.wpIn (W none) 0 P (bodyPostM Fence.wide 0 P fn (Back G Φ K β ω w)) { a1 with defers := dd :: a1.defers } w'
  have hsr2 : SR G fn.ntmps ⟨w'.heap.size, [dd], false⟩ K' ⟨upd s'.σ t5 (.clo (.func g) [] [s'.σ t2, s'.σ t3]), s'.β, s'.ω⟩ { a1 with defers := dd :: a1.defers } w' :=
    ⟨g5.rel, g5.tmps, g5.size, [], fun _ => rfl, by rw [hd1]; rfl, List.nodup_nil, fun r hr => by simp at hr⟩
  refine wpIn_mono (vwp_sound (B := ⟨w'.heap.size, [dd], false⟩) (K0 := K') (β0 := s'.β) (ω0 := s'.ω) (w0 := w') vdraw_sound (Nat.le_refl _) rfl C _ _ K' _ w' hfC hC hsr2 (Evo.refl K' s'.β s'.ω w')) ?_
  rintro e a2 w2 ⟨K2, s2, ve, k1, k2, k3, k4⟩
  obtain ⟨rs, _, m1, m2, m3⟩ := k3.marks
  have hmarks : ∀ r ∈ rs, w2.heap[r]? = some (.deferred (some [])) := fun r hr => (m3 r hr).2
  have hevo : ∀ w'', (∀ i, i ∉ rs → w''.heap[i]? = w2.heap[i]?) → w''.heap.size = w2.heap.size → w''.os = w2.os → w''.tape = w2.tape → w''.output = w2.output → Evo K β ω w K2 s2.β s2.ω w'' := fun w'' q1 q2 q3 q4 q5 =>
    hev.trans ⟨k4.le, by rw [q2]; exact k4.size, q3.trans k4.os, q4.trans k4.tape, q5.trans k4.output, fun b hb ho => by
      obtain ⟨k1, k2, k3⟩ := k4.keep b hb ho
      have hnb : b ∉ rs := fun hb' => by have h9 := (m3 b hb').1; dsimp only at h9; omega
      exact ⟨(q1 b hnb).trans k1, k2, k3⟩, k4.tok⟩
  have hcaps : RepL K2 [s'.σ t2, s'.σ t3] [a'.eval (.tmp t2), a'.eval (.tmp t3)] := .cons ((hsr'.tmps t2).mono k4.le) (.cons ((hsr'.tmps t3).mono k4.le) .nil)
  have last : ∀ {u u' : FrameMode} {x : D} {xv : Value}, u ≠ .run → Rep K2 x xv → ((u = .returning ∧ xv = .nilIface ∧ u' = .returning) ∨ (u = .panicking [{ v := xv, recovered := false }] ∧ u' = .panicking [{ v := xv, recovered := true }])) →
      vwp vdraw P G E (fun e s3 => (e = .normal ∨ e = .ret) ∧ fin P fn Φ .ret ⟨s2.σ, s3.β, s3.ω⟩) ⟨upd (upd (start [s'.σ t2, s'.σ t3]) r3 x) r2 x, s2.β, s2.ω⟩ →
      LeavesInM Fence.wide 0 P fn a2.tmps (Back G Φ K β ω w) a2.defers u w2 := by
    intro u u' x xv hun hx hu hE
    rw [m1]
    refine end_marks2 hun rs w2 m2 hmarks fun w3 q1 q2 q3 q4 q5 => ?_
    have hrel := k3.rel.marks hmarks q1
    refine ⟨hun, .inr ⟨fun hh => (by cases hh), .func g, [a'.eval (.tmp t2), a'.eval (.tmp t3)].toArray, g, [a'.eval (.tmp t2), a'.eval (.tmp t3)].toArray, (by rw [← hdd]), ?_, fun _ _ => trivial, ?_⟩⟩
    · rw [← hdd]
      simp only [beq_eq_false_iff_ne, ne_eq] at hgname
      simp [invoke, callFunc, program, Sem.run, hg, hgname, hgb]
    · refine (rec_calls hg hgb hres hfe hnr h3 h2 (by simpa using hcn) hrel hcaps hx hu (Q := fun β' ω' => fin P fn Φ .ret ⟨s2.σ, β', ω'⟩) hE).mono ?_
      rintro e u2 w4 ⟨⟨v, rfl⟩, rfl, K4, β4, ω4, hQ, hrel4, hev4⟩
      show LeavesInM Fence.wide 0 P fn a2.tmps (Back G Φ K β ω w) [] (settle _) w4
      have hset : ∀ {u' : FrameMode}, ((u = .returning ∧ xv = .nilIface ∧ u' = .returning) ∨ (u = .panicking [{ v := xv, recovered := false }] ∧ u' = .panicking [{ v := xv, recovered := true }])) → settle u' = .returning := by
        rintro u' (⟨_, _, rfl⟩ | ⟨_, rfl⟩) <;> rfl
      rw [hset hu]
      obtain ⟨hc, d, β', ω', hwk, hsb, hsw, hφ⟩ := hQ
      have hsr4 : SR G fn.ntmps ⟨0, [], false⟩ K4 ⟨s2.σ, β4, ω4⟩ { a2 with defers := [] } w4 := ⟨hrel4, fun t => (k3.tmps t).mono hev4.le, k3.size, [], fun _ => rfl, rfl, List.nodup_nil, fun r hr => by simp at hr⟩
      obtain ⟨v2, v1, v3⟩ := results_sound (P := P) hsr4 hc
      exact ⟨v2, v1, K4, .ret d, β', ω', hwk K4 v2 v3, hφ, hrel4.less hsb hsw, ((hevo w3 q1 q2 q3 q4 q5).trans hev4).trans (Evo.less hsb hsw)⟩
  cases ve <;> cases e <;> first
    | exact k2.elim
    | exact k1.elim
    | exact last (by simp) .nilif (.inl ⟨rfl, rfl, rfl⟩) k1
    | skip
  obtain ⟨v, rfl, hv⟩ := k2
  exact last (by simp) hv (.inr ⟨rfl, rfl⟩) k1

/-- A FUNCTION THAT DEFERS ONE CALL OF A CLOSURE THAT RECOVERS. -/
theorem VC.of_defer {f g : FuncId} {fn gn : Func} {A C E : Code} {j j0 t5 t2 t3 r3 r2 : Nat} {ty1 ty2 ty3 ty4 : TypeId} {p1 p2 p3 p4 : String} {af1 af2 af3 af4 : Array Edge} {args : List D} {β : Heap} {ω : List Nat} {Φ : Out → Heap → List Nat → Prop}
    (hf : P.funcs[f]? = some fn)
    (hb : fn.body = some (.seq A (.seq (.region j #[⟨some t5, .makeFunc (.func g) #[] #[.tmp t2, .tmp t3], ty1, p1, af1, none⟩, ⟨none, .defer ⟨.value (.tmp t5), #[], #[]⟩, ty2, p2, af2, none⟩] false) C)))
    (hname : (fn.name == "runtime.NumGoroutine") = false) (hlen : args.length ≤ fn.ntmps) (hfA : fits fn.ntmps A = true) (hfC : fits fn.ntmps C = true) (hnA : noRange A = true) (h5 : t5 < fn.ntmps)
    (hg : P.funcs[g]? = some gn) (hgb : gn.body = some (.seq (.region j0 #[⟨some r3, .call ⟨.builtin .recover, #[], #[]⟩, ty3, p3, af3, none⟩, ⟨some r2, .assign (.tmp r3), ty4, p4, af4, none⟩] false) E))
    (hgname : (gn.name == "runtime.NumGoroutine") = false) (hres : gn.results = #[]) (hfe : fits gn.ntmps E = true) (hnr : noRange E = true) (h3 : r3 < gn.ntmps) (h2 : r2 < gn.ntmps) (hcn : 2 ≤ gn.ntmps)
    (h : vwp vdraw P G A (fun e s => e = .normal ∧ vwp vdraw P G C (dfin P G fn E r3 r2 [s.σ t2, s.σ t3] Φ) ⟨upd s.σ t5 (.clo (.func g) [] [s.σ t2, s.σ t3]), s.β, s.ω⟩) ⟨start args, β, ω⟩) : VC P G f args β ω Φ := by
  intro K w vargs hr ha
  refine .inl ⟨?_, ?_⟩
  · simp only [beq_eq_false_iff_ne, ne_eq] at hname; simp [callFunc, program, Sem.run, hf, hname, hb]
  have hcalls : CallsIn Fence.wide 0 P f vargs.toArray w (Back G Φ K β ω w) := by
    refine callsIn_of_wp_marks hf hb trivial ?_
    exact defer_body hf hb hlen hfA hfC hnA h5 hg hgb hgname hres hfe hnr h3 h2 hcn h hr ha
  exact callsIn_wide.1 hcalls

/-! ### In the evaluator's form -/
def finP (Φ : Out → Heap → List Nat → Prop) (d : D) (β : Heap) (ω : List Nat) : Prop :=
  ∃ d' β' ω', Wk d d' ∧ (∀ b cs, β' b = some cs → β b = some cs) ∧ (∀ t, t ∈ ω' → t ∈ ω) ∧ Φ (.pan d') β' ω'
/-- What is asked at the closure's end. -/
def recQ (P : Program) (Φ : Out → Heap → List Nat → Prop) (rs : List ResultVar) (σ : Sg) : VE → St → Prop
  | .normal, s | .ret, s => resO P σ s.β rs ∧ finK Φ (resD (resL P σ s.β rs)) s.β s.ω
  | _, _ => False
def dfinq (ct : Cert) (P : Program) (G : Heap) (E : Code) (r3 r2 : Nat) (caps : List D) (Φ : Out → Heap → List Nat → Prop) (rs : List ResultVar) : VE → St → Prop
  | .normal, s | .ret, s => vwq false ct P G E (recQ P Φ rs s.σ) ⟨upd (upd (start caps) r3 .nilif) r2 .nilif, s.β, s.ω⟩
  | .panic d, s => vwq false ct P G E (recQ P Φ rs s.σ) ⟨upd (upd (start caps) r3 d) r2 d, s.β, s.ω⟩
  | _, _ => False
section
variable {σ σ' : Sg} {β : Heap} {ω : List Nat} {Φ : Out → Heap → List Nat → Prop} {rs : List ResultVar} {ct : Cert} {E : Code} {r3 r2 : Nat} {caps : List D} {ts : List Tmp}
theorem finc_panic {d : D} : finc P Φ rs (.panic d) ⟨σ, β, ω⟩ = finP Φ d β ω := (rfl)
theorem fins_panic {d : D} : fins Φ ts (.panic d) ⟨σ, β, ω⟩ = finP Φ d β ω := (rfl)
theorem recQ_normal : recQ P Φ rs σ .normal ⟨σ', β, ω⟩ = (resO P σ β rs ∧ finK Φ (resD (resL P σ β rs)) β ω) := (rfl)
theorem recQ_ret : recQ P Φ rs σ .ret ⟨σ', β, ω⟩ = (resO P σ β rs ∧ finK Φ (resD (resL P σ β rs)) β ω) := (rfl)
theorem dfinq_normal : dfinq ct P G E r3 r2 caps Φ rs .normal ⟨σ, β, ω⟩ = vwq false ct P G E (recQ P Φ rs σ) ⟨upd (upd (start caps) r3 .nilif) r2 .nilif, β, ω⟩ := (rfl)
theorem dfinq_ret : dfinq ct P G E r3 r2 caps Φ rs .ret ⟨σ, β, ω⟩ = vwq false ct P G E (recQ P Φ rs σ) ⟨upd (upd (start caps) r3 .nilif) r2 .nilif, β, ω⟩ := (rfl)
theorem dfinq_panic {d : D} : dfinq ct P G E r3 r2 caps Φ rs (.panic d) ⟨σ, β, ω⟩ = vwq false ct P G E (recQ P Φ rs σ) ⟨upd (upd (start caps) r3 d) r2 d, β, ω⟩ := (rfl)
end
attribute [go_sem ↓] finc_panic fins_panic recQ_normal recQ_ret dfinq_normal dfinq_ret dfinq_panic

theorem VC.defers {f g : FuncId} {fn gn : Func} {A C E : Code} {j j0 t5 t2 t3 r3 r2 : Nat} {ty1 ty2 ty3 ty4 : TypeId} {p1 p2 p3 p4 : String} {af1 af2 af3 af4 : Array Edge} {args : List D} {β : Heap} {ω : List Nat} {Φ : Out → Heap → List Nat → Prop} (ct cE : Cert) (rs : List ResultVar) (hm : P.follows .mixedOrders = true)
    (hf : P.funcs[f]? = some fn)
    (hb : fn.body = some (.seq A (.seq (.region j #[⟨some t5, .makeFunc (.func g) #[] #[.tmp t2, .tmp t3], ty1, p1, af1, none⟩, ⟨none, .defer ⟨.value (.tmp t5), #[], #[]⟩, ty2, p2, af2, none⟩] false) C)))
    (hname : (fn.name == "runtime.NumGoroutine") = false) (hresf : fn.results = rs.toArray)
    (hg : P.funcs[g]? = some gn) (hgb : gn.body = some (.seq (.region j0 #[⟨some r3, .call ⟨.builtin .recover, #[], #[]⟩, ty3, p3, af3, none⟩, ⟨some r2, .assign (.tmp r3), ty4, p4, af4, none⟩] false) E))
    (hgname : (gn.name == "runtime.NumGoroutine") = false) (hres : gn.results = #[])
    (hfit : fits fn.ntmps A = true ∧ fits fn.ntmps C = true ∧ noRange A = true ∧ t5 < fn.ntmps ∧ fits gn.ntmps E = true ∧ noRange E = true ∧ r3 < gn.ntmps ∧ r2 < gn.ntmps ∧ 2 ≤ gn.ntmps)
    (hok : okCode ct A = true ∧ okCode ct C = true ∧ okCode cE E = true) (hlen : args.length ≤ fn.ntmps)
    (h : vwq false ct P G A (VE.then (fun s => vwq false ct P G C (dfinq cE P G E r3 r2 [s.σ t2, s.σ t3] Φ rs) ⟨upd s.σ t5 (.clo (.func g) [] [s.σ t2, s.σ t3]), s.β, s.ω⟩) (fun _ _ => False)) ⟨start args, β, ω⟩) : VC P G f args β ω Φ := by
  obtain ⟨k1, k2, k3, k4, k5, k6, k7, k8, k9⟩ := hfit
  obtain ⟨o1, o2, o3⟩ := hok
  refine VC.of_defer hf hb hname hlen k1 k2 k3 k4 hg hgb hgname hres k5 k6 k7 k8 k9 (vwq_vwp hm A (fun e s hs => ?_) o1 h)
  have hl : fn.results.toList = rs := by rw [hresf]
  have key : ∀ (σ : Sg) (e : VE) (s2 : St), recQ P Φ rs σ e s2 → (e = .normal ∨ e = .ret) ∧ fin P fn Φ .ret ⟨σ, s2.β, s2.ω⟩ := fun σ e s2 hq => by
    have h0 : (e = .normal ∨ e = .ret) ∧ (resO P σ s2.β rs ∧ finK Φ (resD (resL P σ s2.β rs)) s2.β s2.ω) := by
      cases e <;> first
        | exact hq.elim
        | exact ⟨.inl rfl, hq⟩
        | exact ⟨.inr rfl, hq⟩
    obtain ⟨he, h1, h2⟩ := h0
    refine ⟨he, ?_⟩
    show (∀ r ∈ fn.results.toList, (resv P ⟨σ, s2.β, s2.ω⟩ r).2) ∧ ∃ d β' ω', Wk (resD (fn.results.toList.map fun r => (resv P ⟨σ, s2.β, s2.ω⟩ r).1)) d ∧ _
    rw [hl]
    refine ⟨resO_all (s := ⟨σ, s2.β, s2.ω⟩) h1, ?_⟩
    have e : (rs.map fun r => (resv P ⟨σ, s2.β, s2.ω⟩ r).1) = resL P σ s2.β rs := List.map_congr_left fun r _ => by cases r <;> rfl
    rw [e]
    exact h2
  cases e <;> first
    | exact hs.elim
    | skip
  refine ⟨rfl, vwq_vwp hm C (fun e s1 hs1 => ?_) o2 hs⟩
  cases e <;> first
    | exact hs1.elim
    | exact vwq_vwp hm E (key _) o3 hs1
end Go.Proofs.YtpblgfgcoamgmaaV
