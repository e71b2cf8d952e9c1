/-
  The eleventh text of the program logic: one operation of a function's run, and a row of them.
  Conditions: none; it speaks of every program.
-/
import Derived.Test.YtgkfcgfobckaaaaV10
set_option linter.unusedVariables false
set_option linter.unusedSimpArgs false
namespace Go.Proofs.YtgkfcgfobckaaaaV
open Go

variable {P : Program} {G : Heap} {n B : Nat} {K : Kn} {s : St} {a : Act} {w : World}

/-- What must hold for an operation to go through, k taking its value and the state behind it, pn a panic's value. -/
def vstep (P : Program) (G : Heap) (s : St) (o : Oper) (k : D → St → Prop) (pn : D → St → Prop) : Prop :=
  match o.op with
  | .alloc t => match zer P t with
    | some cs => ∀ b, s.β b = none → k (.pb b 0) { s with β := s.β.set b cs }
    | none => False
  | .box t x => s.has G x ∧ (s.ev G x).whole = true ∧ ∀ b, s.β b = none → k (.pb b 0) { s with β := s.β.set b (s.ev G x).cells }
  | .store t p x => match s.ev G p with
    | .pb b off => match s.β b with
      | some cs => s.has G p ∧ s.has G x ∧ (s.ev G x).solid = true ∧ (lk P t).map (·.2) = some (s.ev G x).cells.length ∧ isObj cs = false ∧ off + (s.ev G x).cells.length ≤ cs.length ∧
          k .any { s with β := s.β.set b (splice cs off (s.ev G x).cells) }
      | none => False
    | _ => False
  | .buildSlice t len parts => s.hasAll G (parts.toList.map (·.2)) ∧ (vlit P t len (parts.toList.map fun p => (p.1, s.ev G p.2))).2 ∧ k (vlit P t len (parts.toList.map fun p => (p.1, s.ev G p.2))).1 s
  | .makeSlice t l c => match zel P t with
    | some (zs, y) => match s.ev G l with
      | .int _ l' => match s.ev G c with
        | .int _ c' => s.has G l ∧ s.has G c ∧ 0 < zs.length ∧ 0 ≤ l' ∧ l' ≤ c' ∧ y * c'.toNat ≤ 281474976710656 ∧ c' ≤ 9223372036854775807 ∧ ∀ b, s.β b = none → k (.so b 0 l'.toNat c'.toNat) { s with β := s.β.set b (zeros zs c'.toNat) }
        | _ => False
      | _ => False
    | none => False
  | .panic x => match s.ev G x with
    | .iface t d => s.has G x ∧ pn (.iface t d) s
    | _ => False
  | .call c => match c.callee with
    | .builtin .append => match c.args.toList, c.argTypes.toList with
      | [x, y], [t, u] => match elt P t with
        | some (m, by_) => match s.ev G x with
          | .sl tk xs => s.has G x ∧ s.has G y ∧ (srcOf P s.β m u (s.ev G y)).2 ∧ tokOk m s.ω tk ∧ (∀ x ∈ xs, x.cells.length = m) ∧ (xs.length + (srcOf P s.β m u (s.ev G y)).1.length) * by_ ≤ 140737488355328 ∧ 0 < by_ ∧
              ∀ t', t' ∉ s.ω → k (.sl (.live t' m) (xs ++ (srcOf P s.β m u (s.ev G y)).1)) { s with ω := t' :: tokGone s.ω tk }
          | .so b off len cap => bapK P t u (.so b off len cap) (s.ev G y) (s.has G x ∧ s.has G y) false s.β fun d β' => k d { s with β := β' }
          | _ => False
        | none => False
      | _, _ => False
    | .builtin .copy => match c.args.toList, c.argTypes.toList with
      | [x, y], [t, u] => match elt P t with
        | some (m, _) => match s.ev G x with
          | .so b off len cap => match s.β b with
            | some cs => s.has G x ∧ s.has G y ∧ (srcOf P s.β m u (s.ev G y)).2 ∧ isObj cs = false ∧ off + (min (srcOf P s.β m u (s.ev G y)).1.length len) * m ≤ cs.length ∧
                k (.int .i64 (min (srcOf P s.β m u (s.ev G y)).1.length len : Nat)) { s with β := s.β.set b (splice cs off (flat ((srcOf P s.β m u (s.ev G y)).1.take (min (srcOf P s.β m u (s.ev G y)).1.length len)))) }
            | none => False
          | _ => False
        | none => False
      | _, _ => False
    | .builtin _ => (pv P G s o).2 ∧ k (pv P G s o).1 s
    | .value f => s.has G f ∧ VCall P G (s.ev G f) (c.args.toList.map (s.arg G)) s.β s.ω (fun o β' ω' => match o with
        | .ret d => k d { s with β := β', ω := ω' }
        | .pan d => pn d { s with β := β', ω := ω' })
    | .invoke _ _ => False
  | .defer _ | .go _ => False
  | _ => (pv P G s o).2 ∧ k (pv P G s o).1 s

section
variable {ro : Option Nat} {K0 : Kn} {β0 : Heap} {ω0 : List Nat} {w0 : World} {next : Act → World → Prop} {Q : Exit → Act → World → Prop} {k : D → St → Prop} {pn : D → St → Prop} {o : Oper}

/-- What is asked of what comes behind the operation. -/
structure Goes (G : Heap) (n B : Nat) (K0 : Kn) (β0 : Heap) (ω0 : List Nat) (w0 : World) (a : Act) (o : Oper) (k : D → St → Prop) (pn : D → St → Prop) (next : Act → World → Prop) (Q : Exit → Act → World → Prop) (s : St) : Prop where
  on : ∀ K' d β' ω' v w', k d { s with β := β', ω := ω' } → Rep K' d v → SR G n B K' { s with β := β', ω := ω' } a w' → Evo K0 β0 ω0 w0 K' β' ω' w' → next (a.put o.dst v) w'
  pan : ∀ K' d β' ω' v w', pn d { s with β := β', ω := ω' } → Rep K' d v → SR G n B K' { s with β := β', ω := ω' } a w' → Evo K0 β0 ω0 w0 K' β' ω' w' → Q (.panic [{ v, recovered := false }]) a w'

theorem step_pure (h : SR G n B K s a w) (hE : Evo K0 β0 ω0 w0 K s.β s.ω w) (hg : Goes G n B K0 β0 ω0 w0 a o k pn next Q s) (hd : ∀ c, o.op ≠ .defer c) (hc : (pv P G s o).2) (hk : k (pv P G s o).1 s) : o.wpIn (W ro) 0 P a w next Q := by
  obtain ⟨v, h1, h2⟩ := pv_sound h hc
  exact wpIn_value hd h1 (hg.on K _ s.β s.ω v w hk h2 h hE)

theorem run_call_value {f : Operand} {args : Array Operand} {ts : Array TypeId} {ty : TypeId} {dst : Option Tmp} {pos : String} {after : Array Edge} {guard : Option (Nat × Bool)} {fn : Fn} {first captured : Array Value} (hf : a.eval f = .func fn first captured) :
    (execOp a.eval ⟨dst, .call ⟨.value f, args, ts⟩, ty, pos, after, guard⟩).run P w = (invoke (.fn fn captured) (first ++ args.map a.eval)).run P w := by
  simp [execOp, resolve, hf, Deferred.ofValue]

theorem vstep_sound (h : SR G n B K s a w) (hE : Evo K0 β0 ω0 w0 K s.β s.ω w) (hg : Goes G n B K0 β0 ω0 w0 a o k pn next Q s) (hv : vstep P G s o k pn) : o.wpIn (W ro) 0 P a w next Q := by
  obtain ⟨dst, op, ty, pos, after, guard⟩ := o
  cases op with
  | alloc t =>
    simp only [vstep] at hv
    split at hv
    · rename_i cs hz
      obtain ⟨vs, h1, h2⟩ := run_alloc hz w
      obtain ⟨r1, r2⟩ := h.rel.new_box (e := t) (h2 K)
      exact wpIn_value (fun c hc => by cases hc) (run_v _ h1) (hg.on K _ _ _ _ _ (hv w.heap.size (h.rel.box_none (Nat.le_refl _))) (.pb _ _) (h.move r2 r1) (hE.trans r2))
    · exact hv.elim
  | box t x =>
    obtain ⟨h1, h2, h3⟩ := hv
    have hx := (h.ev x h1).cells_whole h2
    obtain ⟨r1, r2⟩ := h.rel.new_box (e := t) hx
    exact wpIn_value (fun c hc => by cases hc) (run_v _ (run_box _ w)) (hg.on K _ _ _ _ _ (h3 w.heap.size (h.rel.box_none (Nat.le_refl _))) (.pb _ _) (h.move r2 r1) (hE.trans r2))
  | store t p x =>
    simp only [vstep] at hv
    split at hv
    · rename_i b off hp
      split at hv
      · rename_i cs hb
        obtain ⟨h1, h2, h3, h4, h5, h6, h7⟩ := hv
        have hpr := h.ev p h1
        rw [hp] at hpr
        obtain ⟨hx1, hx2⟩ := (h.ev x h2).cells_solid h3
        obtain ⟨vs, e, b1, b2, b3, b4⟩ := h.rel.write (o := off) hb h5 hx1 h6
        obtain ⟨gn, hgl, hgn⟩ := Option.map_eq_some_iff.1 h4
        obtain ⟨d, hu, _, hcells⟩ := lk_some (t := t) (g := gn.1) (n := gn.2) hgl
        have hst := run_storeVar hu (v := a.eval x) b1 (by rw [hcells, hgn, hx1.length]; simp) (by simpa using b2) hx2
        obtain ⟨f1, f2, f3, f4, f5, f6⟩ := setRow_facts (us := (splice vs.toList off (a.eval x).cells.toList).toArray) b1
        obtain ⟨r1, r2⟩ := b4 _ f1 f2 f3 f4 f5 f6
        have hpe : a.eval p = .pointer (some ⟨b, off, none⟩) := by
          cases hv : a.eval p <;> rw [hv] at hpr <;> cases hpr
          rfl
        refine wpIn_none (fun c hc => by cases hc) (w' := w.setRow b (splice vs.toList off (a.eval x).cells.toList).toArray) ?_ (hg.on K _ _ _ _ _ h7 (.any _) (h.move r2 r1) (hE.trans r2))
        simp only [execOp, hpe, Instr.storeAt, Instr.sureAddr]
        simp [hst]
      · exact hv.elim
    · exact hv.elim
  | buildSlice t len parts =>
    obtain ⟨h1, h2, h3⟩ := hv
    obtain ⟨v, w', K', r1, r2, r3, r4⟩ := vlit_sound (P := P) h.rel (us := parts.map fun (i, x) => (i, a.eval x)) (by simpa using h.parts parts.toList fun p hp => h1 p.2 (List.mem_map.2 ⟨p, hp, rfl⟩)) h2
    exact wpIn_value (fun c hc => by cases hc) (run_v _ r1) (hg.on K' _ _ _ _ _ h3 r4 (h.move r3 r2) (hE.trans r3))
  | makeSlice t l c =>
    simp only [vstep] at hv
    split at hv
    · rename_i zs y hz
      split at hv
      · rename_i k1 l' hl
        split at hv
        · rename_i k2 c' hc'
          obtain ⟨h1, h2, h3, h4, h5, h6, h7, h8⟩ := hv
          have hlr := h.ev l h1
          have hcr := h.ev c h2
          rw [hl] at hlr
          rw [hc'] at hcr
          have hle : a.eval l = .int k1 l' := by
            cases hv : a.eval l <;> rw [hv] at hlr <;> cases hlr
            rfl
          have hce : a.eval c = .int k2 c' := by
            cases hv : a.eval c <;> rw [hv] at hcr <;> cases hcr
            rfl
          obtain ⟨vs, e, r1, r2⟩ := run_make (P := P) hz h3 (l := l'.toNat) (c := c'.toNat) (k1 := k1) (k2 := k2) (by omega) h6 (by omega) w
          obtain ⟨q1, q2⟩ := h.rel.new_box (e := e) (r2 K)
          refine wpIn_value (fun c hc => by cases hc) (run_v _ ?_) (hg.on K _ _ _ _ _ (h8 w.heap.size (h.rel.box_none (Nat.le_refl _))) (.so _ _ _ _) (h.move q2 q1) (hE.trans q2))
          rw [hle, hce]
          have e1 : ((l'.toNat : Nat) : Int) = l' := by omega
          have e2 : ((c'.toNat : Nat) : Int) = c' := by omega
          rw [e1, e2] at r1
          exact r1
        · exact hv.elim
      · exact hv.elim
    · exact hv.elim
  | panic x =>
    simp only [vstep] at hv
    split at hv
    · rename_i t d hx
      obtain ⟨h1, h2⟩ := hv
      have hr := h.ev x h1
      rw [hx] at hr
      refine wpIn_panic (fun c hc => by cases hc) (v := a.eval x) ?_ (hg.pan K _ _ _ _ _ h2 hr h hE)
      cases hv : a.eval x <;> rw [hv] at hr <;> cases hr
      simp [execOp, hv, Instr.panic, goPanic, Sem.run]
    · exact hv.elim
  | call c =>
    obtain ⟨callee, args, ts⟩ := c
    cases callee with
    | invoke r m => exact hv.elim
    | builtin b =>
      by_cases hb1 : b = .append
      · subst hb1
        simp only [vstep] at hv
        split at hv
        · rename_i x y t u he1 he2
          split at hv
          · rename_i m by_ hel
            split at hv
            · rename_i tk xs hx
              obtain ⟨h1, h2, h3, h4, h5, h6, h7, h8⟩ := hv
              have hxr := h.ev x h1
              rw [hx] at hxr
              obtain ⟨news, z1, z2, z3, _⟩ := srcOf_sound h.rel (h.ev y h2) h3
              obtain ⟨t', v, w', K', r1, r2, r3, r4, r5⟩ := vappend_core (P := P) (ty := ty) h.rel hel hxr z1 z2 z3 h4 h5 h6 h7
              have hargs : args = #[x, y] := by apply Array.ext'; simpa using he1
              have hts : ts = #[t, u] := by apply Array.ext'; simpa using he2
              subst hargs hts
              refine wpIn_value (fun c hc => by cases hc) (v := v) (w' := w') ?_ (hg.on K' _ _ _ _ _ (h8 t' r1) r5 (h.move r4 r3) (hE.trans r4))
              simp only [execOp, resolve, Sem.run_bind, Sem.run_pure, Result.andThen_ok, invoke, builtin]
              simp [r2]
            · rename_i b off len cap hx
              obtain ⟨d, v, β', w', hk, r1, r2, r3, r4⟩ := bapK_sound (ty := ty) (vx := a.eval x) (vy := a.eval y) h.rel (fun q => by rw [← hx]; exact h.ev x q.1) (fun q => h.ev y q.2) hv
              have hargs : args = #[x, y] := by apply Array.ext'; simpa using he1
              have hts : ts = #[t, u] := by apply Array.ext'; simpa using he2
              subst hargs hts
              refine wpIn_value (fun c hc => by cases hc) (v := v) (w' := w') ?_ (hg.on K _ _ _ _ _ hk r4 (h.move r3 r2) (hE.trans r3))
              simp only [execOp, resolve, Sem.run_bind, Sem.run_pure, Result.andThen_ok, invoke, builtin]
              simp [r1]
            · exact hv.elim
          · exact hv.elim
        · exact hv.elim
      · by_cases hb2 : b = .copy
        · subst hb2
          simp only [vstep] at hv
          split at hv
          · rename_i x y t u he1 he2
            split at hv
            · rename_i m by_ hel
              split at hv
              · rename_i b off len cap hx
                split at hv
                · rename_i cs hb
                  obtain ⟨h1, h2, h3, h4, h5, h6⟩ := hv
                  have hxr := h.ev x h1
                  rw [hx] at hxr
                  have hxe : a.eval x = .slice (some ⟨b, off, none⟩) len cap := by
                    cases hv : a.eval x <;> rw [hv] at hxr <;> cases hxr
                    rfl
                  obtain ⟨w', r1, r2, r3⟩ := bcopy_sound (P := P) (ty := ty) (len := len) (cap := cap) h.rel hel (h.ev y h2) h3 hb h4 h5
                  have hargs : args = #[x, y] := by apply Array.ext'; simpa using he1
                  have hts : ts = #[t, u] := by apply Array.ext'; simpa using he2
                  subst hargs hts
                  refine wpIn_value (fun c hc => by cases hc) (v := _) (w' := w') ?_ (hg.on K _ _ _ _ _ h6 (.int _ _) (h.move r3 r2) (hE.trans r3))
                  simp only [execOp, resolve, Sem.run_bind, Sem.run_pure, Result.andThen_ok, invoke, builtin]
                  simp [hxe, r1]
                · exact hv.elim
              · exact hv.elim
            · exact hv.elim
          · exact hv.elim
        · have hv' : (pv P G s ⟨dst, .call ⟨.builtin b, args, ts⟩, ty, pos, after, guard⟩).2 ∧ k (pv P G s ⟨dst, .call ⟨.builtin b, args, ts⟩, ty, pos, after, guard⟩).1 s := by
            cases b <;> first | exact hv | exact absurd rfl hb1 | exact absurd rfl hb2
          exact step_pure h hE hg (fun c hc => by cases hc) hv'.1 hv'.2
    | value f =>
      obtain ⟨h1, h2⟩ := hv
      have hf := h.ev f h1
      have hargs := h.argsT args.toList
      unfold VCall at h2
      split at h2
      · rename_i fid first captured hd
        rw [hd] at hf
        cases hfe : a.eval f <;> rw [hfe] at hf <;> cases hf
        rename_i vf vc hvf hvc
        have hall := (hvf.append hargs).append hvc
        have hrun := run_call_value (P := P) (w := w) (args := args) (ts := ts) (ty := ty) (dst := dst) (pos := pos) (after := after) (guard := guard) hfe
        have harr : (vf.toArray ++ args.map a.eval) ++ vc.toArray = (vf ++ args.toList.map a.eval ++ vc).toArray := by
          apply Array.ext'
          simp
        simp only [invoke] at hrun
        rw [harr] at hrun
        have hback : ∀ e w'', Back G (fun o β' ω' => match o with
            | .ret d => k d { s with β := β', ω := ω' }
            | .pan d => pn d { s with β := β', ω := ω' }) K s.β s.ω w e w'' →
            (∀ v, e = .returned v → next (a.put dst v) w'') ∧ (∀ ch, e = .panicked ch → Q (.panic ch) a w'') ∧ e ≠ .outgrown := by
          rintro e w'' ⟨K', o, β', ω', q1, q2, q3, q4⟩
          cases o with
          | ret d =>
            cases e with
            | returned v => exact ⟨(fun v' hv' => by cases hv'; exact hg.on K' d _ _ v w'' q2 q1 (h.move q4 q3) (hE.trans q4)), (fun _ hc => by cases hc), (fun hc => by cases hc)⟩
            | panicked ch => exact q1.elim
            | outgrown => exact q1.elim
          | pan d =>
            cases e with
            | returned v => exact q1.elim
            | panicked ch =>
              obtain ⟨v, rfl, hv⟩ := q1
              exact ⟨(fun v' hv' => by cases hv'), (fun ch hc => by cases hc; exact hg.pan K' d _ _ v w'' q2 hv (h.move q4 q3) (hE.trans q4)), (fun hc => by cases hc)⟩
            | outgrown => exact q1.elim
        rcases h2 K w _ h.rel hall with ⟨p1, p2⟩ | ⟨v, w1, p1, p2⟩
        · exact wpIn_enter (fun c hc => by cases hc) (hrun.trans p1) p2 (fun v w'' hR => (hback _ _ hR).1 v rfl) (fun ch w'' hR => (hback _ _ hR).2.1 ch rfl) (fun w'' hR => (hback _ _ hR).2.2 rfl)
        · exact wpIn_value (fun c hc => by cases hc) (hrun.trans p1) ((hback _ _ p2).1 v rfl)
      · rename_i l first captured hd
        rw [hd] at hf
        cases hfe : a.eval f <;> rw [hfe] at hf <;> cases hf
        rename_i vf vc hvf hvc
        have hall := hvf.append hargs
        have hrun := run_call_value (P := P) (w := w) (args := args) (ts := ts) (ty := ty) (dst := dst) (pos := pos) (after := after) (guard := guard) hfe
        have harr : vf.toArray ++ args.map a.eval = (vf ++ args.toList.map a.eval).toArray := by
          apply Array.ext'
          simp
        simp only [invoke] at hrun
        rw [harr] at hrun
        obtain ⟨fid, tmps, as, body, p1, p2⟩ := h2 K w _ h.rel hall
        refine wpIn_round (fun c hc => by cases hc) (hrun.trans p1) p2 ?_ ?_ ?_
        · rintro v w'' ⟨K', o, β', ω', q1, q2, q3, q4⟩
          cases o with
          | ret d => exact hg.on K' d _ _ v w'' q2 q1 (h.move q4 q3) (hE.trans q4)
          | pan d => exact q1.elim
        · rintro ch w'' ⟨K', o, β', ω', q1, q2, q3, q4⟩
          cases o with
          | ret d => exact q1.elim
          | pan d =>
            obtain ⟨v, rfl, hv⟩ := q1
            exact hg.pan K' d _ _ v w'' q2 hv (h.move q4 q3) (hE.trans q4)
        · rintro w'' ⟨K', o, β', ω', q1, q2, q3, q4⟩
          cases o <;> exact q1.elim
      · exact h2.elim
  | defer c => exact hv.elim
  | go c => exact hv.elim
  | _ => exact step_pure h hE hg (fun c hc => by cases hc) hv.1 hv.2
end

end Go.Proofs.YtgkfcgfobckaaaaV
