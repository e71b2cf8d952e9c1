/-
  Texts of this proof, merged: VB.
  Conditions: as said at each part.
-/
import Derived.RangeFuncRecord
import Derived.OrdersIn
import Derived.Test.YtpblgfgcoamgmaaGreatG1
set_option linter.unusedVariables false
set_option linter.unusedSimpArgs false
namespace Go.Proofs.YtpblgfgcoamgmaaGreatV
open Go

variable {P : Program} {G : Heap} {n : Nat} {B : Bs} {K : Kn} {s : St} {a : Act} {w : World}

def vstep (P : Program) (G : Heap) (s : St) (o : Oper) (k : D → St → Prop) (pn : D → St → Prop) : Prop :=
  match o.op with
  | .alloc t => match zer P t with
    | some cs => ∀ b, s.β b = none → k (.pb b 0) { s with β := s.β.set b cs }
    | none => False
  | .box t x => s.has G x ∧ (s.ev G x).whole = true ∧ ∀ b, s.β b = none → k (.pb b 0) { s with β := s.β.set b (s.ev G x).cells }
  | .store t p x => match s.ev G p with
    | .pb b off => match s.β b with
      | some cs => s.has G p ∧ s.has G x ∧ (s.ev G x).solid = true ∧ (lk P t).map (·.2) = some (s.ev G x).cells.length ∧ isObj cs = false ∧ off + (s.ev G x).cells.length ≤ cs.length ∧
          k .any { s with β := s.β.set b (splice cs off (s.ev G x).cells) }
      | none => False
    | _ => False
  | .buildSlice t len parts => s.hasAll G (parts.toList.map (·.2)) ∧ (vlit P t len (parts.toList.map fun p => (p.1, s.ev G p.2))).2 ∧ k (vlit P t len (parts.toList.map fun p => (p.1, s.ev G p.2))).1 s
  | .makeSlice t l c => match zel P t with
    | some (zs, y) => match s.ev G l with
      | .int _ l' => match s.ev G c with
        | .int _ c' => s.has G l ∧ s.has G c ∧ 0 < zs.length ∧ 0 ≤ l' ∧ l' ≤ c' ∧ y * c'.toNat ≤ 281474976710656 ∧ c' ≤ 9223372036854775807 ∧ ∀ b, s.β b = none → k (.so b 0 l'.toNat c'.toNat) { s with β := s.β.set b (zeros zs c'.toNat) }
        | _ => False
      | _ => False
    | none => False
  | .panic x => match s.ev G x with
    | .iface t d => s.has G x ∧ pn (.iface t d) s
    | _ => False
  | .call c => match c.callee with
    | .builtin .append => match c.args.toList, c.argTypes.toList with
      | [x, y], [t, u] => match elt P t with
        | some (m, by_) => match s.ev G x with
          | .sl tk xs => s.has G x ∧ s.has G y ∧ (srcOf P s.β m u (s.ev G y)).2 ∧ tokOk m s.ω tk ∧ (∀ x ∈ xs, x.cells.length = m) ∧ (xs.length + (srcOf P s.β m u (s.ev G y)).1.length) * by_ ≤ 140737488355328 ∧ 0 < by_ ∧
              ∀ t', t' ∉ s.ω → k (.sl (.live t' m) (xs ++ (srcOf P s.β m u (s.ev G y)).1)) { s with ω := t' :: tokGone s.ω tk }
          | .so b off len cap => bapK P t u (.so b off len cap) (s.ev G y) (s.has G x ∧ s.has G y) false s.β fun d β' => k d { s with β := β' }
          | _ => False
        | none => False
      | _, _ => False
    | .builtin .copy => match c.args.toList, c.argTypes.toList with
      | [x, y], [t, u] => match elt P t with
        | some (m, _) => match s.ev G x with
          | .so b off len cap => match s.β b with
            | some cs => s.has G x ∧ s.has G y ∧ (srcOf P s.β m u (s.ev G y)).2 ∧ isObj cs = false ∧ off + (min (srcOf P s.β m u (s.ev G y)).1.length len) * m ≤ cs.length ∧
                k (.int .i64 (min (srcOf P s.β m u (s.ev G y)).1.length len : Nat)) { s with β := s.β.set b (splice cs off (flat ((srcOf P s.β m u (s.ev G y)).1.take (min (srcOf P s.β m u (s.ev G y)).1.length len)))) }
            | none => False
          | _ => False
        | none => False
      | _, _ => False
    | .builtin _ => (pv P G s o).2 ∧ k (pv P G s o).1 s
    | .value f => s.has G f ∧ VCall P G (s.ev G f) (c.args.toList.map (s.arg G)) s.β s.ω (fun o β' ω' => match o with
        | .ret d => k d { s with β := β', ω := ω' }
        | .pan d => pn d { s with β := β', ω := ω' })
    | .invoke _ _ => False
  | .defer _ | .go _ => False
  | _ => (pv P G s o).2 ∧ k (pv P G s o).1 s

section
variable {ro : Option Nat} {K0 : Kn} {β0 : Heap} {ω0 : List Nat} {w0 : World} {next : Act → World → Prop} {Q : Exit → Act → World → Prop} {k : D → St → Prop} {pn : D → St → Prop} {o : Oper}

structure Goes (G : Heap) (n : Nat) (B : Bs) (K0 : Kn) (β0 : Heap) (ω0 : List Nat) (w0 : World) (a : Act) (o : Oper) (k : D → St → Prop) (pn : D → St → Prop) (next : Act → World → Prop) (Q : Exit → Act → World → Prop) (s : St) : Prop where
  on : ∀ K' d β' ω' v w', k d { s with β := β', ω := ω' } → Rep K' d v → SR G n B K' { s with β := β', ω := ω' } a w' → Evo K0 β0 ω0 w0 K' β' ω' w' → next (a.put o.dst v) w'
  pan : ∀ K' d β' ω' v w', pn d { s with β := β', ω := ω' } → Rep K' d v → SR G n B K' { s with β := β', ω := ω' } a w' → Evo K0 β0 ω0 w0 K' β' ω' w' → Q (.panic [{ v, recovered := false }]) a w'

theorem step_pure (h : SR G n B K s a w) (hE : Evo K0 β0 ω0 w0 K s.β s.ω w) (hg : Goes G n B K0 β0 ω0 w0 a o k pn next Q s) (hd : ∀ c, o.op ≠ .defer c) (hc : (pv P G s o).2) (hk : k (pv P G s o).1 s) : o.wpIn (W ro) 0 P a w next Q := by
  obtain ⟨v, h1, h2⟩ := pv_sound h hc
  exact wpIn_value hd h1 (hg.on K _ s.β s.ω v w hk h2 h hE)

theorem run_call_value {f : Operand} {args : Array Operand} {ts : Array TypeId} {ty : TypeId} {dst : Option Tmp} {pos : String} {after : Array Edge} {guard : Option (Nat × Bool)} {fn : Fn} {first captured : Array Value} (hf : a.eval f = .func fn first captured) :
    (execOp a.eval ⟨dst, .call ⟨.value f, args, ts⟩, ty, pos, after, guard⟩).run P w = (invoke (.fn fn captured) (first ++ args.map a.eval)).run P w := by
  simp [execOp, resolve, hf, Deferred.ofValue]

theorem vstep_sound (h : SR G n B K s a w) (hE : Evo K0 β0 ω0 w0 K s.β s.ω w) (hg : Goes G n B K0 β0 ω0 w0 a o k pn next Q s) (hv : vstep P G s o k pn) : o.wpIn (W ro) 0 P a w next Q := by
  obtain ⟨dst, op, ty, pos, after, guard⟩ := o
  cases op with
  | alloc t =>
    simp only [vstep] at hv
    split at hv
    · rename_i cs hz
      obtain ⟨vs, h1, h2⟩ := run_alloc hz w
      obtain ⟨r1, r2⟩ := h.rel.new_box (e := t) (h2 K)
      exact wpIn_value (fun c hc => by cases hc) (run_v _ h1) (hg.on K _ _ _ _ _ (hv w.heap.size (h.rel.box_none (Nat.le_refl _))) (.pb _ _) (h.move r2 r1) (hE.trans r2))
    · exact hv.elim
  | box t x =>
    obtain ⟨h1, h2, h3⟩ := hv
    have hx := (h.ev x h1).cells_whole h2
    obtain ⟨r1, r2⟩ := h.rel.new_box (e := t) hx
    exact wpIn_value (fun c hc => by cases hc) (run_v _ (run_box _ w)) (hg.on K _ _ _ _ _ (h3 w.heap.size (h.rel.box_none (Nat.le_refl _))) (.pb _ _) (h.move r2 r1) (hE.trans r2))
  | store t p x =>
    simp only [vstep] at hv
    split at hv
    · rename_i b off hp
      split at hv
      · rename_i cs hb
        obtain ⟨h1, h2, h3, h4, h5, h6, h7⟩ := hv
        have hpr := h.ev p h1
        rw [hp] at hpr
        obtain ⟨hx1, hx2⟩ := (h.ev x h2).cells_solid h3
        obtain ⟨vs, e, b1, b2, b3, b4⟩ := h.rel.write (o := off) hb h5 hx1 h6
        obtain ⟨gn, hgl, hgn⟩ := Option.map_eq_some_iff.1 h4
        obtain ⟨d, hu, _, hcells⟩ := lk_some (t := t) (g := gn.1) (n := gn.2) hgl
        have hst := run_storeVar hu (v := a.eval x) b1 (by rw [hcells, hgn, hx1.length]; simp) (by simpa using b2) hx2
        obtain ⟨f1, f2, f3, f4, f5, f6⟩ := setRow_facts (us := (splice vs.toList off (a.eval x).cells.toList).toArray) b1
        obtain ⟨r1, r2⟩ := b4 _ f1 f2 f3 f4 f5 f6
        have hpe : a.eval p = .pointer (some ⟨b, off, none⟩) := by
          cases hv : a.eval p <;> rw [hv] at hpr <;> cases hpr
          rfl
        refine wpIn_none (fun c hc => by cases hc) (w' := w.setRow b (splice vs.toList off (a.eval x).cells.toList).toArray) ?_ (hg.on K _ _ _ _ _ h7 (.any _) (h.move r2 r1) (hE.trans r2))
        simp only [execOp, hpe, Instr.storeAt, Instr.sureAddr]
        simp [hst]
      · exact hv.elim
    · exact hv.elim
  | buildSlice t len parts =>
    obtain ⟨h1, h2, h3⟩ := hv
    obtain ⟨v, w', K', r1, r2, r3, r4⟩ := vlit_sound (P := P) h.rel (us := parts.map fun (i, x) => (i, a.eval x)) (by simpa using h.parts parts.toList fun p hp => h1 p.2 (List.mem_map.2 ⟨p, hp, rfl⟩)) h2
    exact wpIn_value (fun c hc => by cases hc) (run_v _ r1) (hg.on K' _ _ _ _ _ h3 r4 (h.move r3 r2) (hE.trans r3))
  | makeSlice t l c =>
    simp only [vstep] at hv
    split at hv
    · rename_i zs y hz
      split at hv
      · rename_i k1 l' hl
        split at hv
        · rename_i k2 c' hc'
          obtain ⟨h1, h2, h3, h4, h5, h6, h7, h8⟩ := hv
          have hlr := h.ev l h1
          have hcr := h.ev c h2
          rw [hl] at hlr
          rw [hc'] at hcr
          have hle : a.eval l = .int k1 l' := by
            cases hv : a.eval l <;> rw [hv] at hlr <;> cases hlr
            rfl
          have hce : a.eval c = .int k2 c' := by
            cases hv : a.eval c <;> rw [hv] at hcr <;> cases hcr
            rfl
          obtain ⟨vs, e, r1, r2⟩ := run_make (P := P) hz h3 (l := l'.toNat) (c := c'.toNat) (k1 := k1) (k2 := k2) (by omega) h6 (by omega) w
          obtain ⟨q1, q2⟩ := h.rel.new_box (e := e) (r2 K)
          refine wpIn_value (fun c hc => by cases hc) (run_v _ ?_) (hg.on K _ _ _ _ _ (h8 w.heap.size (h.rel.box_none (Nat.le_refl _))) (.so _ _ _ _) (h.move q2 q1) (hE.trans q2))
          rw [hle, hce]
          have e1 : ((l'.toNat : Nat) : Int) = l' := by omega
          have e2 : ((c'.toNat : Nat) : Int) = c' := by omega
          rw [e1, e2] at r1
          exact r1
        · exact hv.elim
      · exact hv.elim
    · exact hv.elim
  | panic x =>
    simp only [vstep] at hv
    split at hv
    · rename_i t d hx
      obtain ⟨h1, h2⟩ := hv
      have hr := h.ev x h1
      rw [hx] at hr
      refine wpIn_panic (fun c hc => by cases hc) (v := a.eval x) ?_ (hg.pan K _ _ _ _ _ h2 hr h hE)
      cases hv : a.eval x <;> rw [hv] at hr <;> cases hr
      simp [execOp, hv, Instr.panic, goPanic, Sem.run]
    · exact hv.elim
  | call c =>
    obtain ⟨callee, args, ts⟩ := c
    cases callee with
    | invoke r m => exact hv.elim
    | builtin b =>
      by_cases hb1 : b = .append
      · subst hb1
        simp only [vstep] at hv
        split at hv
        · rename_i x y t u he1 he2
          split at hv
          · rename_i m by_ hel
            split at hv
            · rename_i tk xs hx
              obtain ⟨h1, h2, h3, h4, h5, h6, h7, h8⟩ := hv
              have hxr := h.ev x h1
              rw [hx] at hxr
              obtain ⟨news, z1, z2, z3, _⟩ := srcOf_sound h.rel (h.ev y h2) h3
              obtain ⟨t', v, w', K', r1, r2, r3, r4, r5⟩ := vappend_core (P := P) (ty := ty) h.rel hel hxr z1 z2 z3 h4 h5 h6 h7
              have hargs : args = #[x, y] := by apply Array.ext'; simpa using he1
              have hts : ts = #[t, u] := by apply Array.ext'; simpa using he2
              subst hargs hts
              refine wpIn_value (fun c hc => by cases hc) (v := v) (w' := w') ?_ (hg.on K' _ _ _ _ _ (h8 t' r1) r5 (h.move r4 r3) (hE.trans r4))
              simp only [execOp, resolve, Sem.run_bind, Sem.run_pure, Result.andThen_ok, invoke, builtin]
              simp [r2]
            · rename_i b off len cap hx
              obtain ⟨d, v, β', w', hk, r1, r2, r3, r4⟩ := bapK_sound (ty := ty) (vx := a.eval x) (vy := a.eval y) h.rel (fun q => by rw [← hx]; exact h.ev x q.1) (fun q => h.ev y q.2) hv
              have hargs : args = #[x, y] := by apply Array.ext'; simpa using he1
              have hts : ts = #[t, u] := by apply Array.ext'; simpa using he2
              subst hargs hts
              refine wpIn_value (fun c hc => by cases hc) (v := v) (w' := w') ?_ (hg.on K _ _ _ _ _ hk r4 (h.move r3 r2) (hE.trans r3))
              simp only [execOp, resolve, Sem.run_bind, Sem.run_pure, Result.andThen_ok, invoke, builtin]
              simp [r1]
            · exact hv.elim
          · exact hv.elim
        · exact hv.elim
      · by_cases hb2 : b = .copy
        · subst hb2
          simp only [vstep] at hv
          split at hv
          · rename_i x y t u he1 he2
            split at hv
            · rename_i m by_ hel
              split at hv
              · rename_i b off len cap hx
                split at hv
                · rename_i cs hb
                  obtain ⟨h1, h2, h3, h4, h5, h6⟩ := hv
                  have hxr := h.ev x h1
                  rw [hx] at hxr
                  have hxe : a.eval x = .slice (some ⟨b, off, none⟩) len cap := by
                    cases hv : a.eval x <;> rw [hv] at hxr <;> cases hxr
                    rfl
                  obtain ⟨w', r1, r2, r3⟩ := bcopy_sound (P := P) (ty := ty) (len := len) (cap := cap) h.rel hel (h.ev y h2) h3 hb h4 h5
                  have hargs : args = #[x, y] := by apply Array.ext'; simpa using he1
                  have hts : ts = #[t, u] := by apply Array.ext'; simpa using he2
                  subst hargs hts
                  refine wpIn_value (fun c hc => by cases hc) (v := _) (w' := w') ?_ (hg.on K _ _ _ _ _ h6 (.int _ _) (h.move r3 r2) (hE.trans r3))
                  simp only [execOp, resolve, Sem.run_bind, Sem.run_pure, Result.andThen_ok, invoke, builtin]
                  simp [hxe, r1]
                · exact hv.elim
              · exact hv.elim
            · exact hv.elim
          · exact hv.elim
        · have hv' : (pv P G s ⟨dst, .call ⟨.builtin b, args, ts⟩, ty, pos, after, guard⟩).2 ∧ k (pv P G s ⟨dst, .call ⟨.builtin b, args, ts⟩, ty, pos, after, guard⟩).1 s := by
            cases b <;> first | exact hv | exact absurd rfl hb1 | exact absurd rfl hb2
          exact step_pure h hE hg (fun c hc => by cases hc) hv'.1 hv'.2
    | value f =>
      obtain ⟨h1, h2⟩ := hv
      have hf := h.ev f h1
      have hargs := h.argsT args.toList
      unfold VCall at h2
      split at h2
      · rename_i fid first captured hd
        rw [hd] at hf
        cases hfe : a.eval f <;> rw [hfe] at hf <;> cases hf
        rename_i vf vc hvf hvc
        have hall := (hvf.append hargs).append hvc
        have hrun := run_call_value (P := P) (w := w) (args := args) (ts := ts) (ty := ty) (dst := dst) (pos := pos) (after := after) (guard := guard) hfe
        have harr : (vf.toArray ++ args.map a.eval) ++ vc.toArray = (vf ++ args.toList.map a.eval ++ vc).toArray := by
          apply Array.ext'
          simp
        simp only [invoke] at hrun
        rw [harr] at hrun
        have hback : ∀ e w'', Back G (fun o β' ω' => match o with
            | .ret d => k d { s with β := β', ω := ω' }
            | .pan d => pn d { s with β := β', ω := ω' }) K s.β s.ω w e w'' →
            (∀ v, e = .returned v → next (a.put dst v) w'') ∧ (∀ ch, e = .panicked ch → Q (.panic ch) a w'') ∧ e ≠ .outgrown := by
          rintro e w'' ⟨K', o, β', ω', q1, q2, q3, q4⟩
          cases o with
          | ret d =>
            cases e with
            | returned v => exact ⟨(fun v' hv' => by cases hv'; exact hg.on K' d _ _ v w'' q2 q1 (h.move q4 q3) (hE.trans q4)), (fun _ hc => by cases hc), (fun hc => by cases hc)⟩
            | panicked ch => exact q1.elim
            | outgrown => exact q1.elim
          | pan d =>
            cases e with
            | returned v => exact q1.elim
            | panicked ch =>
              obtain ⟨v, rfl, hv⟩ := q1
              exact ⟨(fun v' hv' => by cases hv'), (fun ch hc => by cases hc; exact hg.pan K' d _ _ v w'' q2 hv (h.move q4 q3) (hE.trans q4)), (fun hc => by cases hc)⟩
            | outgrown => exact q1.elim
        rcases h2 K w _ h.rel hall with ⟨p1, p2⟩ | ⟨v, w1, p1, p2⟩
        · exact wpIn_enter (fun c hc => by cases hc) (hrun.trans p1) p2 (fun v w'' hR => (hback _ _ hR).1 v rfl) (fun ch w'' hR => (hback _ _ hR).2.1 ch rfl) (fun w'' hR => (hback _ _ hR).2.2 rfl)
        · exact wpIn_value (fun c hc => by cases hc) (hrun.trans p1) ((hback _ _ p2).1 v rfl)
      · rename_i l first captured hd
        rw [hd] at hf
        cases hfe : a.eval f <;> rw [hfe] at hf <;> cases hf
        rename_i vf vc hvf hvc
        have hall := hvf.append hargs
        have hrun := run_call_value (P := P) (w := w) (args := args) (ts := ts) (ty := ty) (dst := dst) (pos := pos) (after := after) (guard := guard) hfe
        have harr : vf.toArray ++ args.map a.eval = (vf ++ args.toList.map a.eval).toArray := by
          apply Array.ext'
          simp
        simp only [invoke] at hrun
        rw [harr] at hrun
        obtain ⟨fid, tmps, as, body, p1, p2⟩ := h2 K w _ h.rel hall
        refine wpIn_round (fun c hc => by cases hc) (hrun.trans p1) p2 ?_ ?_ ?_
        · rintro v w'' ⟨K', o, β', ω', q1, q2, q3, q4⟩
          cases o with
          | ret d => exact hg.on K' d _ _ v w'' q2 q1 (h.move q4 q3) (hE.trans q4)
          | pan d => exact q1.elim
        · rintro ch w'' ⟨K', o, β', ω', q1, q2, q3, q4⟩
          cases o with
          | ret d => exact q1.elim
          | pan d =>
            obtain ⟨v, rfl, hv⟩ := q1
            exact hg.pan K' d _ _ v w'' q2 hv (h.move q4 q3) (hE.trans q4)
        · rintro w'' ⟨K', o, β', ω', q1, q2, q3, q4⟩
          cases o <;> exact q1.elim
      · exact h2.elim
  | defer c => exact hv.elim
  | go c => exact hv.elim
  | _ => exact step_pure h hE hg (fun c hc => by cases hc) hv.1 hv.2
end

end Go.Proofs.YtpblgfgcoamgmaaGreatV
namespace Go.Proofs.YtpblgfgcoamgmaaGreatV
open Go

variable {P : Program} {G : Heap} {n : Nat} {B : Bs} {K : Kn} {s : St} {a : Act} {w : World}

def vguard (s : St) (ops : Array Oper) (g : Nat × Bool) : Option Bool :=
  match (ops[g.1]?).bind (·.dst) with
  | some t => match s.σ t with
    | .bool b => some (b == g.2)
    | .when c (.bool b) => some (c && (b == g.2))
    | .when false _ => some false
    | _ => none
  | none => none

theorem vguard_sound (h : SR G n B K s a w) {ops : Array Oper} {o : Oper} {g : Nat × Bool} {c : Bool} (hg : o.guard = some g) (hc : vguard s ops g = some c) : Region.wanted o (yielded ops a.tmps) = c := by
  obtain ⟨j, want⟩ := g
  unfold vguard at hc
  split at hc
  · rename_i t ht
    have hr := h.tmps t
    have hy : yielded ops a.tmps j = match a.tmps.getD t undef with | .bool b => some b | _ => none := by
      unfold yielded
      simp only at ht
      rw [ht]
      simp only [Option.bind_some, Array.getD_eq_getD_getElem?]
      cases a.tmps[t]? with
      | none => rfl
      | some v => cases v <;> rfl
    unfold Region.wanted
    rw [hg]
    simp only
    rw [hy]
    split at hc
    · rename_i b hs
      rw [hs] at hr
      cases hv : a.tmps.getD t undef <;> rw [hv] at hr <;> cases hr
      cases hc
      simp
    · rename_i c' b hs
      rw [hs] at hr
      cases hc
      cases hr with
      | when h1 h0 =>
        cases c' with
        | true =>
          have := h1 rfl
          cases hv : a.tmps.getD t undef <;> rw [hv] at this <;> cases this
          simp
        | false =>
          rw [h0 rfl]
          simp [undef]
    · rename_i d hs
      rw [hs] at hr
      cases hc
      cases hr with
      | when h1 h0 =>
        rw [h0 rfl]
        simp [undef]
    · cases hc
  · cases hc

def vop (P : Program) (G : Heap) (ops : Array Oper) (s : St) (o : Oper) (k : D → St → Prop) (pn : D → St → Prop) : Prop :=
  match o.guard with
  | none => vstep P G s o k pn
  | some g => match vguard s ops g with
    | some c => (∃ d, (c = true → vstep P G s o (fun d' s' => d' = d ∧ s' = s) (fun _ _ => False)) ∧ k (D.wn c d) s) ∨ ((c = true → vstep P G s o k pn) ∧ (c = false → k .any s))
    | none => False

inductive VE where
  | normal
  | exit (id : Nat)
  | goto (l : Nat)
  | ret
  | panic (d : D)

def ERel (K : Kn) : VE → Exit → Prop
  | .normal, .normal => True
  | .exit i, .exit j => i = j
  | .goto i, .goto j => i = j
  | .ret, .ret => True
  | .panic d, .panic ch => ∃ v, ch = [{ v, recovered := false }] ∧ Rep K d v
  | _, _ => False

def vops (P : Program) (G : Heap) (ops : Array Oper) : List Oper → (VE → St → Prop) → St → Prop
  | [], Q, s => Q .normal s
  | o :: rest, Q, s => vop P G ops s o (fun d s' => vops P G ops rest Q (s'.put o.dst d)) (fun d s' => Q (.panic d) s')

def up (G : Heap) (n : Nat) (B : Bs) (K0 : Kn) (β0 : Heap) (ω0 : List Nat) (w0 : World) (Q : VE → St → Prop) (e : Exit) (a : Act) (w : World) : Prop :=
  ∃ K s ve, Q ve s ∧ ERel K ve e ∧ SR G n B K s a w ∧ Evo K0 β0 ω0 w0 K s.β s.ω w

section
variable {ro : Option Nat} {K0 : Kn} {β0 : Heap} {ω0 : List Nat} {w0 : World} {Q : VE → St → Prop}

theorem vop_sound {ops : Array Oper} {o : Oper} {k : D → St → Prop} {pn : D → St → Prop} {next : Act → World → Prop} {Q : Exit → Act → World → Prop} (h : SR G n B K s a w) (hE : Evo K0 β0 ω0 w0 K s.β s.ω w) (hv : vop P G ops s o k pn)
    (hg : Goes G n B K0 β0 ω0 w0 a o k pn next Q s) :
    (Region.wanted o (yielded ops a.tmps) = true ∧ o.wpIn (W ro) 0 P a w next Q) ∨ (Region.wanted o (yielded ops a.tmps) = false ∧ next (a.put o.dst undef) w) := by
  unfold vop at hv
  split at hv
  · rename_i hgd
    refine .inl ⟨by simp [Region.wanted, hgd], vstep_sound h hE hg hv⟩
  · rename_i g hgd
    split at hv
    · rename_i c hc
      have hw := vguard_sound h hgd hc
      rcases hv with ⟨d, h1, h2⟩ | ⟨h1, h2⟩
      · cases c with
        | true =>
          refine .inl ⟨hw, vstep_sound (k := fun d' s' => d' = d ∧ s' = s) (pn := fun _ _ => False) h hE ⟨fun K' d' β' ω' v w' hk hr hs he => ?_, fun K' d' β' ω' v w' hk => hk.elim⟩ (h1 rfl)⟩
          obtain ⟨rfl, hs'⟩ := hk
          have hs2 : ({ s with β := β', ω := ω' } : St) = s := hs'
          have hb : β' = s.β := congrArg St.β hs2
          have ho : ω' = s.ω := congrArg St.ω hs2
          subst hb ho
          exact hg.on K' (D.wn true d') s.β s.ω v w' h2 (Rep.wn (fun _ => hr) (fun h => by cases h)) hs he
        | false => exact .inr ⟨hw, hg.on K (D.wn false d) s.β s.ω undef w h2 (Rep.wn (fun h => by cases h) (fun _ => rfl)) h hE⟩
      · cases c with
        | true => exact .inl ⟨hw, vstep_sound h hE hg (h1 rfl)⟩
        | false => exact .inr ⟨hw, hg.on K .any s.β s.ω undef w (h2 rfl) (.any _) h hE⟩
    · exact hv.elim

theorem vops_sound {ops : Array Oper} : ∀ (l : List Nat) (rest : List Oper) (s : St) (K : Kn) (a : Act) (w : World), l.map (ops[·]?) = rest.map some → (∀ o ∈ rest, ∀ t, o.dst = some t → t < n) → vops P G ops rest Q s → SR G n B K s a w → Evo K0 β0 ω0 w0 K s.β s.ω w →
    wpOpsIn (W ro) 0 P ops (up G n B K0 β0 ω0 w0 Q) l a w
  | [], [], s, K, a, w, _, _, hv, h, hE => ⟨K, s, .normal, hv, trivial, h, hE⟩
  | [], _ :: _, _, _, _, _, hl, _, _, _, _ => by simp at hl
  | _ :: _, [], _, _, _, _, hl, _, _, _, _ => by simp at hl
  | i :: l, o :: rest, s, K, a, w, hl, hn, hv, h, hE => by
    simp only [List.map_cons, List.cons.injEq] at hl
    obtain ⟨hi, hl⟩ := hl
    have hgo : Goes G n B K0 β0 ω0 w0 a o (fun d s' => vops P G ops rest Q (s'.put o.dst d)) (fun d s' => Q (.panic d) s') (wpOpsIn (W ro) 0 P ops (up G n B K0 β0 ω0 w0 Q) l) (up G n B K0 β0 ω0 w0 Q) s := by
      refine ⟨fun K' d β' ω' v w' hk hr hs he => ?_, fun K' d β' ω' v w' hk hr hs he => ⟨K', _, .panic d, hk, ⟨v, rfl, hr⟩, hs, he⟩⟩
      exact vops_sound l rest _ K' _ w' hl (fun o ho => hn o (by simp [ho])) hk (hs.put hr (hn o (by simp))) (by simpa using he)
    have := vop_sound (ro := ro) h hE hv hgo
    simp only [wpOpsIn, hi]
    rcases this with ⟨h1, h2⟩ | ⟨h1, h2⟩
    · rw [if_pos h1]; exact h2
    · rw [if_neg (by simp [h1])]; exact ⟨about_W, h2⟩

theorem range_map (ops : Array Oper) : (List.range ops.size).map (ops[·]?) = ops.toList.map some := by
  apply List.ext_getElem?
  intro i
  simp only [List.getElem?_map, List.getElem?_range]
  by_cases h : i < ops.size
  · simp [h]
  · simp [h]
end

end Go.Proofs.YtpblgfgcoamgmaaGreatV
namespace Go.Proofs.YtpblgfgcoamgmaaGreatV
open Go

variable {P : Program} {G : Heap} {n : Nat} {B : Bs} {K : Kn} {s : St} {a : Act} {w : World}

section
variable {F : Fence} {m : Nat} {b : Frame} {k : List Item} {cs : List Frame} {Q : Exit → Act → World → Prop}

theorem stepR_scope {c : Code} : step P (lone (b.atR a (.code (.scope c) :: k)) cs w) = .next (lone (b.atR a (.code c :: .inScope c :: k)) cs w) :=
  step_lone_go (by simp [stepG, stepG.exec, Frame.atR])
theorem stepR_inScope {c : Code} : step P (lone (b.atR a (.inScope c :: k)) cs w) = .next (lone (b.atR a k) cs w) :=
  step_lone_go (by simp [stepG, stepG.exec, Frame.atR])

def noJump (Q : Exit → Act → World → Prop) : Exit → Act → World → Prop
  | .goto _, _, _ => False
  | e, a, w => Q e a w

theorem wpIn_scope {c : Code} (h : c.wpIn F m P (noJump Q) a w) : (Code.scope c).wpIn F m P Q a w := by
  intro b k cs hro hb hr
  have h0 : (lone (b.atR a (.code (.scope c) :: k)) cs w).fenced P F := fenced_calm hb hr rfl
  obtain ⟨e, a₁, w₁, hq, harr⟩ := h b (.inScope c :: k) cs hro hb hr
  have hx : ∀ id, exitTo id (.inScope c :: k) = exitTo id k := fun id => by simp [exitTo]
  cases e with
  | normal => exact ⟨.normal, a₁, w₁, hq, .head h0 stepR_scope (StepsIn.trans harr (.one (fenced_calm hb hr rfl) stepR_inScope))⟩
  | exit id => exact ⟨_, a₁, w₁, hq, fun k' hk => .head h0 stepR_scope (harr.1 k' (by rw [hx]; exact hk)), fun hr' hk => let ⟨k₁, h1, h2⟩ := harr.2 hr' (by rw [hx]; exact hk); ⟨k₁, h1, .head h0 stepR_scope h2⟩⟩
  | goto l => exact hq.elim
  | ret => exact ⟨_, a₁, w₁, hq, .of_steps (.one h0 stepR_scope) harr⟩
  | panic ch => exact ⟨_, a₁, w₁, hq, .of_steps (.one h0 stepR_scope) harr⟩
  | outgrown => exact ⟨_, a₁, w₁, hq, .of_steps (.one h0 stepR_scope) harr⟩
end

theorem Rel.lp_at {β : Heap} {ω : List Nat} (h : Rel G K β ω w) {l : Nat} {r : Loop} {tm : Nat → D} (hb : β l = some [.lp r tm]) : w.heap[l]? = some (.loop r) ∧ ∀ t, Rep K (tm t) (r.tmps.getD t undef) := by
  obtain ⟨o, h1, h2⟩ := h.box l _ hb
  generalize hcs : [D.lp r tm] = cs at h2
  cases h2 with
  | cells h =>
    rename_i vs e
    obtain ⟨v, _, hv⟩ := h.get 0 (.lp r tm) (by rw [← hcs]; rfl)
    cases hv
  | loop h =>
    rename_i r' tm'
    injection hcs with hcs _
    injection hcs with e1 e2
    subst e1 e2
    exact ⟨h1, h⟩
theorem Rel.new_lp {β : Heap} {ω : List Nat} (h : Rel G K β ω w) {r : Loop} {tm : Nat → D} (hr : ∀ t, Rep K (tm t) (r.tmps.getD t undef)) :
    Rel G K (β.set w.heap.size [.lp r tm]) ω (w.alloc (.loop r)) ∧ Evo K β ω w K (β.set w.heap.size [.lp r tm]) ω (w.alloc (.loop r)) := by
  have hp := h.push (.loop r)
  constructor
  · refine ⟨hp.holds, fun b cs' hb => ?_, fun b cs' hb o => ?_, fun t ht => ?_, h.tokne, h.glob, h.free⟩
    · unfold Heap.set at hb
      split at hb
      · rename_i hbe
        subst hbe
        cases hb
        exact ⟨_, heap_push_new _, .loop hr⟩
      · exact hp.box b cs' hb
    · unfold Heap.set at hb
      split at hb
      · rename_i hbe
        subst hbe
        exact h.none_of_ge (Nat.le_refl _) o
      · exact h.boxK b cs' hb o
    · obtain ⟨x, a1, hx⟩ := hp.tok t ht
      refine ⟨x, a1, fun hd hxd => ?_⟩
      obtain ⟨us, e', a2, a3, a4, a5, a6⟩ := hx hd hxd
      refine ⟨us, e', a2, a3, a4, ?_, a6⟩
      unfold Heap.set
      split
      · rename_i hbe
        subst hxd
        obtain ⟨us', e'', b2, _⟩ := h.tokAt ht a1
        have := lt_of_heap b2
        omega
      · exact a5
  · refine ⟨.refl K, by rw [size_push]; omega, rfl, rfl, rfl, fun b hb ho => ⟨heap_push_old _ hb, fun _ => rfl, fun hn => ho ?_⟩, fun _ h => .inl h⟩
    rcases hn with hn | hn
    · left
      unfold Heap.set at hn
      rwa [if_neg (by omega)] at hn
    · exact .inr hn
theorem Rel.put_lp {β : Heap} {ω : List Nat} (h : Rel G K β ω w) {l : Nat} {r r' : Loop} {tm : Nat → D} (hb : β l = some [.lp r tm]) (ht : r'.tmps = r.tmps) :
    Rel G K (β.set l [.lp r' tm]) ω (w.putObj l (.loop r')) ∧ Evo K β ω w K (β.set l [.lp r' tm]) ω (w.putObj l (.loop r')) := by
  obtain ⟨hv, hr⟩ := h.lp_at hb
  have hlt := lt_of_heap hv
  have hk : ∀ k, k ≠ l → (w.putObj l (.loop r')).heap[k]? = w.heap[k]? := fun k hk => World.putObj_heap_other hk
  have hbw : (w.putObj l (.loop r')).heap[l]? = some (.loop r') := World.putObj_heap_same hlt
  refine ⟨⟨fun b' o' d hkd => ?_, fun b' cs' hc => ?_, fun b' cs' hc o' => ?_, fun t ht => ?_, h.tokne, h.glob, h.free⟩, ⟨.refl K, by simp, rfl, rfl, rfl, fun b' hb' hn => ⟨hk b' ?_, fun _ => rfl, fun hx => hn ?_⟩, fun _ h => .inl h⟩⟩
  · obtain ⟨v, hv', hrv⟩ := h.holds b' o' d hkd
    have hne : b' ≠ l := fun e => by subst e; rw [h.boxK b' _ hb o'] at hkd; cases hkd
    exact ⟨v, by rw [← hv']; simp [World.cell?, hk b' hne], hrv⟩
  · unfold Heap.set at hc
    split at hc
    · rename_i hbe
      subst hbe
      cases hc
      exact ⟨_, hbw, .loop fun t => by rw [ht]; exact hr t⟩
    · rename_i hne
      rw [hk b' hne]
      exact h.box b' cs' hc
  · unfold Heap.set at hc
    split at hc
    · rename_i hbe
      subst hbe
      exact h.boxK b' _ hb o'
    · exact h.boxK b' cs' hc o'
  · obtain ⟨x, a1, hx⟩ := h.tok t ht
    refine ⟨x, a1, fun hd hxd => ?_⟩
    obtain ⟨us', e', a2, a3, a4, a5, a6⟩ := hx hd hxd
    have hne : hd.b ≠ l := fun e => by rw [e, hb] at a5; cases a5
    exact ⟨us', e', by rw [hk _ hne]; exact a2, a3, a4, by simp [Heap.set, hne, a5], a6⟩
  · intro hbe
    subst hbe
    exact hn (.inl (by rw [hb]; simp))
  · rcases hx with hx | hx
    · left
      unfold Heap.set at hx
      split at hx
      · rename_i hbe
        subst hbe
        rw [hb]; simp
      · exact hx
    · exact .inr hx

structure DrawRule where
  any : (P : Program) → (G : Heap) → Array Oper → (VE → St → Prop) → St → Prop
  seq : (P : Program) → (G : Heap) → Array Oper → (VE → St → Prop) → St → Prop

def VE.inBlock (id : Nat) (Q : VE → St → Prop) : VE → St → Prop
  | .exit id', s => if id' = id then Q .normal s else Q (.exit id') s
  | e, s => Q e s

def VE.then (next : St → Prop) (Q : VE → St → Prop) : VE → St → Prop
  | .normal, s => next s
  | e, s => Q e s

def VE.scoped (Q : VE → St → Prop) : VE → St → Prop
  | .goto _, _ => False
  | e, s => Q e s

def VE.weak (Q : VE → St → Prop) (e : VE) (s : St) : Prop := ∃ σ' : Nat → D, (∀ t, σ' t = s.σ t ∨ σ' t = .any) ∧ Q e ⟨σ', s.β, s.ω⟩

def fits (n : Nat) : Code → Bool
  | .seq x y | .cond _ x y => fits n x && fits n y
  | .block _ c | .loop c | .scope c => fits n c
  | .region _ ops _ => ops.toList.all fun o => match o.dst with | some t => decide (t < n) | none => true
  | .rangeFunc _ ps x y => ps.toList.all (fun t => decide (t < n)) && fits n x && fits n y
  | _ => true

def noRange : Code → Bool
  | .seq x y | .cond _ x y => noRange x && noRange y
  | .block _ c | .loop c | .scope c => noRange c
  | .rangeFunc .. => false
  | _ => true

structure LpNew (ps : Array Tmp) (x y : Code) (r : Loop) : Prop where
  state : r.state = .ready
  pending : r.pending = none
  params : r.params = ps
  assign : r.assign = x
  body : r.body = y
  fit : ∀ t ∈ r.params.toList, t < r.tmps.size
  fitx : fits r.tmps.size r.assign = true
  fity : fits r.tmps.size r.body = true

def rangeOut : Option Code → (VE → St → Prop) → St → Prop
  | none, Q, s => Q .normal s
  | some .ret, Q, s => Q .ret s
  | some (.exit i), Q, s => Q (.exit i) s
  | some (.goto t), Q, s => Q (.goto t) s
  | _, _, _ => False
def Heap.drop (β : Heap) (b : Nat) : Heap := fun i => if i = b then none else β i

def vwp (R : DrawRule) (P : Program) (G : Heap) : Code → (VE → St → Prop) → St → Prop
  | .skip, Q, s => Q .normal s
  | .label _, Q, s => Q .normal s
  | .seq x y, Q, s => vwp R P G x (VE.then (vwp R P G y Q) Q) s
  | .cond c x y, Q, s => match s.ev G c with
    | .bool b => s.has G c ∧ (b = true → vwp R P G x Q s) ∧ (b = false → vwp R P G y Q s)
    | _ => False
  | .block id c, Q, s => vwp R P G c (VE.inBlock id Q) s
  | .loop c, Q, s => ∃ (I : St → Prop) (μ : St → Nat), I s ∧ ∀ s, I s → vwp R P G c (VE.then (fun s' => I s' ∧ μ s' < μ s) Q) s
  | .exit id, Q, s => Q (.exit id) s
  | .goto l, Q, s => Q (.goto l) s
  | .ret, Q, s => Q .ret s
  | .scope c, Q, s => vwp R P G c (VE.scoped Q) s
  | .rangeFunc g ps x y, Q, s => match s.ev G g with
    | .clo (.func f) first captured => s.has G g ∧ (∃ fn, P.funcs[f]? = some fn ∧ fn.body.isSome = true ∧ (fn.name == "runtime.NumGoroutine") = false) ∧
        ∀ (l : Nat) (r : Loop), s.β l = none → LpNew ps x y r → VC P G f (first ++ [.clo (.yield l) [] []] ++ captured) (s.β.set l [.lp r s.σ]) s.ω (fun o β' ω' => match o with
          | .ret _ => ∃ r' tm', β' l = some [.lp r' tm'] ∧ r'.state ≠ .busy ∧ rangeOut r'.pending Q { s with β := β'.drop l, ω := ω' }
          | .pan d => Q (.panic d) { s with β := β', ω := ω' })
    | _ => False
  | .region _ ops false, Q, s => vops P G ops ops.toList (VE.weak Q) s ∨ R.seq P G ops (VE.weak Q) s
  | .region _ ops true, Q, s => R.any P G ops (VE.weak Q) s
  | _, _, _ => False

def Sound (R : DrawRule) : Prop :=
  (∀ (P : Program) (G : Heap) (n : Nat) (B : Bs) (ops : Array Oper) (Q : VE → St → Prop) (s : St) (K : Kn) (a : Act) (w : World) (ro : Option Nat) (K0 : Kn) (β0 : Heap) (ω0 : List Nat) (w0 : World) (t : Nat),
    (∀ o ∈ ops.toList, ∀ t, o.dst = some t → t < n) → R.any P G ops Q s → SR G n B K s a w → Evo K0 β0 ω0 w0 K s.β s.ω w →
    wpOpsIn (W ro) 0 P ops (up G n B K0 β0 ω0 w0 Q) (Region.schedule (P.follows .mixedOrders) ops t) a w) ∧
  (∀ (P : Program) (G : Heap) (n : Nat) (B : Bs) (ops : Array Oper) (Q : VE → St → Prop) (s : St) (K : Kn) (a : Act) (w : World) (ro : Option Nat) (K0 : Kn) (β0 : Heap) (ω0 : List Nat) (w0 : World),
    (∀ o ∈ ops.toList, ∀ t, o.dst = some t → t < n) → R.seq P G ops Q s → SR G n B K s a w → Evo K0 β0 ω0 w0 K s.β s.ω w →
    wpOpsIn (W ro) 0 P ops (up G n B K0 β0 ω0 w0 Q) (List.range ops.size) a w)

section
variable {ro : Option Nat} {K0 : Kn} {β0 : Heap} {ω0 : List Nat} {w0 : World} {R : DrawRule}

theorem SR.weak (h : SR G n B K s a w) {σ' : Nat → D} (hs : ∀ t, σ' t = s.σ t ∨ σ' t = .any) : SR G n B K ⟨σ', s.β, s.ω⟩ a w :=
  ⟨h.rel, fun t => by
    show Rep K (σ' t) _
    rcases hs t with e | e <;> rw [e]
    · exact h.tmps t
    · exact .any _, h.size, h.marks⟩

theorem up_weak {Q : VE → St → Prop} {e : Exit} (hu : up G n B K0 β0 ω0 w0 (VE.weak Q) e a w) : up G n B K0 β0 ω0 w0 Q e a w :=
  let ⟨K, s, ve, ⟨σ', h1, h2⟩, h3, h4, h5⟩ := hu
  ⟨K, ⟨σ', s.β, s.ω⟩, ve, h2, h3, h4.weak h1, h5⟩

theorem SR.drew (h : SR G n B K s a w) : SR G n B K s a { w with drawn := w.drawn + 1 } := by
  have he : Evo K s.β s.ω w K s.β s.ω { w with drawn := w.drawn + 1 } := Evo.same rfl rfl rfl rfl
  exact h.move he (h.rel.same rfl)

theorem exists_least {p : Nat → Prop} (h : ∃ m, p m) : ∃ m, p m ∧ ∀ k, p k → m ≤ k := by
  obtain ⟨m, hm⟩ := h
  induction m using Nat.strongRecOn with
  | _ m ih =>
    by_cases hk : ∃ k, k < m ∧ p k
    · obtain ⟨k, hk1, hk2⟩ := hk
      exact ih k hk1 hk2
    · refine ⟨m, hm, fun k hp => ?_⟩
      rcases Nat.lt_or_ge k m with hlt | hge
      · exact absurd ⟨k, hlt, hp⟩ hk
      · exact hge

theorem vwp_soundR (hS : Sound R) (hB : B.b ≤ w0.heap.size) : ∀ (c : Code) (Q : VE → St → Prop) (s : St) (K : Kn) (a : Act) (w : World), (ro = none ∧ B.nr = false) ∨ noRange c = true → fits n c = true → vwp R P G c Q s → SR G n B K s a w → Evo K0 β0 ω0 w0 K s.β s.ω w →
    c.wpIn (W ro) 0 P (up G n B K0 β0 ω0 w0 Q) a w
  | .skip, Q, s, K, a, w, _, _, hv, h, hE => wpIn_skip ⟨K, s, .normal, hv, trivial, h, hE⟩
  | .label _, Q, s, K, a, w, _, _, hv, h, hE => wpIn_label ⟨K, s, .normal, hv, trivial, h, hE⟩
  | .exit id, Q, s, K, a, w, _, _, hv, h, hE => wpIn_exit ⟨K, s, .exit id, hv, rfl, h, hE⟩
  | .goto l, Q, s, K, a, w, _, _, hv, h, hE => wpIn_goto ⟨K, s, .goto l, hv, rfl, h, hE⟩
  | .ret, Q, s, K, a, w, _, _, hv, h, hE => wpIn_ret ⟨K, s, .ret, hv, trivial, h, hE⟩
  | .seq x y, Q, s, K, a, w, hr, hf, hv, h, hE => by
    simp only [fits, Bool.and_eq_true] at hf
    have hr1 : (ro = none ∧ B.nr = false) ∨ noRange x = true := hr.imp id fun q => by simp only [noRange, Bool.and_eq_true] at q; exact q.1
    have hr2 : (ro = none ∧ B.nr = false) ∨ noRange y = true := hr.imp id fun q => by simp only [noRange, Bool.and_eq_true] at q; exact q.2
    refine wpIn_seq (wpIn_mono (vwp_soundR hS hB x _ s K a w hr1 hf.1 hv h hE) ?_)
    rintro e a' w' ⟨K', s', ve, h1, h2, h3, h4⟩
    cases ve <;> cases e <;> first
      | exact h2.elim
      | exact vwp_soundR hS hB y Q s' K' a' w' hr2 hf.2 h1 h3 h4
      | exact ⟨K', s', _, h1, h2, h3, h4⟩
  | .cond c x y, Q, s, K, a, w, hr, hf, hv, h, hE => by
    simp only [fits, Bool.and_eq_true] at hf
    have hr1 : (ro = none ∧ B.nr = false) ∨ noRange x = true := hr.imp id fun q => by simp only [noRange, Bool.and_eq_true] at q; exact q.1
    have hr2 : (ro = none ∧ B.nr = false) ∨ noRange y = true := hr.imp id fun q => by simp only [noRange, Bool.and_eq_true] at q; exact q.2
    simp only [vwp] at hv
    split at hv
    · rename_i b hb
      obtain ⟨h1, h2, h3⟩ := hv
      have hr := h.ev c h1
      rw [hb] at hr
      have hc : a.eval c = .bool b := by
        cases hv : a.eval c <;> rw [hv] at hr <;> cases hr
        rfl
      cases b with
      | true => exact wpIn_cond_true hc (vwp_soundR hS hB x Q s K a w hr1 hf.1 (h2 rfl) h hE)
      | false => exact wpIn_cond_false hc (vwp_soundR hS hB y Q s K a w hr2 hf.2 (h3 rfl) h hE)
    · exact hv.elim
  | .block id c, Q, s, K, a, w, hr, hf, hv, h, hE => by
    refine wpIn_block (wpIn_mono (vwp_soundR hS hB c _ s K a w hr hf hv h hE) ?_)
    rintro e a' w' ⟨K', s', ve, h1, h2, h3, h4⟩
    cases ve <;> cases e <;> first
      | exact h2.elim
      | (rename_i i j
         obtain rfl : i = j := h2
         simp only [VE.inBlock] at h1
         simp only [Exit.inBlock]
         split
         · rename_i hid
           rw [if_pos hid] at h1
           exact ⟨K', s', .normal, h1, trivial, h3, h4⟩
         · rename_i hid
           rw [if_neg hid] at h1
           exact ⟨K', s', .exit i, h1, rfl, h3, h4⟩)
      | exact ⟨K', s', _, h1, h2, h3, h4⟩
  | .loop c, Q, s, K, a, w, hr, hf, hv, h, hE => by
    obtain ⟨I, μ, hI, hstep⟩ := hv
    let J : Nat → Act → World → Prop := fun m a w => ∃ K s, μ s = m ∧ I s ∧ SR G n B K s a w ∧ Evo K0 β0 ω0 w0 K s.β s.ω w
    have hrun : ∀ m a w, J m a w → (Code.loop c).wpIn (W ro) 0 P (up G n B K0 β0 ω0 w0 Q) a w := by
      intro m a w hJ
      classical
      let μm : Act → World → Nat := fun a w => if hm : ∃ m, J m a w then Classical.choose (exists_least hm) else 0
      refine wpIn_loop (fun a w => ∃ m, J m a w) μm ⟨m, hJ⟩ ?_
      intro a w hx
      have hspec : J (Classical.choose (exists_least hx)) a w := (Classical.choose_spec (exists_least hx)).1
      have hμ : μm a w = Classical.choose (exists_least hx) := dif_pos hx
      obtain ⟨K, s, hms, hIs, hs, he⟩ := hspec
      refine wpIn_mono (vwp_soundR hS hB c _ s K a w hr hf (hstep s hIs) hs he) ?_
      rintro e a' w' ⟨K', s', ve, h1, h2, h3, h4⟩
      cases ve <;> cases e <;> first
        | exact h2.elim
        | (obtain ⟨h1, h5⟩ := h1
           have hx' : ∃ m, J m a' w' := ⟨_, K', s', rfl, h1, h3, h4⟩
           refine ⟨hx', ?_⟩
           have hμ' : μm a' w' = Classical.choose (exists_least hx') := dif_pos hx'
           have : Classical.choose (exists_least hx') ≤ μ s' := (Classical.choose_spec (exists_least hx')).2 _ ⟨K', s', rfl, h1, h3, h4⟩
           rw [hμ, hμ']
           omega)
        | exact ⟨K', s', _, h1, h2, h3, h4⟩
    exact hrun _ a w ⟨K, s, rfl, hI, h, hE⟩
  | .region id ops false, Q, s, K, a, w, _, hf, hv, h, hE => by
    have hdst : ∀ o ∈ ops.toList, ∀ t, o.dst = some t → t < n := fun o ho t ht => by
      simp only [fits, List.all_eq_true] at hf
      have := hf o ho
      rw [ht] at this
      simpa using this
    rcases hv with hv | hv
    · exact wpIn_mono (wpIn_region (vops_sound _ _ s K a w (range_map ops) hdst hv h hE)) fun e a w => up_weak
    · exact wpIn_mono (wpIn_region (hS.2 P G n B ops (VE.weak Q) s K a w ro K0 β0 ω0 w0 hdst hv h hE)) fun e a w => up_weak
  | .region id ops true, Q, s, K, a, w, _, hf, hv, h, hE => by
    refine wpIn_mono (wpIn_region_draw (Q := up G n B K0 β0 ω0 w0 (VE.weak Q)) fun t => ?_) fun e a w => up_weak
    have he : Evo K s.β s.ω w K s.β s.ω { w with drawn := w.drawn + 1 } := Evo.same rfl rfl rfl rfl
    refine hS.1 P G n B ops (VE.weak Q) s K a _ ro K0 β0 ω0 w0 t (fun o ho t ht => ?_) hv h.drew (hE.trans he)
    simp only [fits, List.all_eq_true] at hf
    have := hf o ho
    rw [ht] at this
    simpa using this
  | .rangeFunc g ps x y, Q, s, K, a, w, hr, hf, hv, h, hE => by
    obtain ⟨hr0, hnr⟩ : ro = none ∧ B.nr = false := hr.resolve_right (by simp [noRange])
    subst hr0
    simp only [fits, Bool.and_eq_true, List.all_eq_true, decide_eq_true_eq] at hf
    obtain ⟨⟨hf1, hf2⟩, hf3⟩ := hf
    simp only [vwp] at hv
    split at hv
    · rename_i f first captured hd
      obtain ⟨hg, ⟨fn1, p1, p2, p3⟩, hv⟩ := hv
      have hev := h.ev g hg
      rw [hd] at hev
      cases hfe : a.eval g <;> rw [hfe] at hev <;> cases hev
      rename_i vf vc hvf hvc
      refine wpIn_rangeFunc fun fn _ => ?_
      let r : Loop := { state := .ready, pending := none, fn := fn, tmps := a.tmps, params := ps, assign := x, body := y, defers := w.heap.size }
      have q0 : Rel G K s.β s.ω (w.alloc (.deferred (some []))) := h.rel.push _
      have q0e : Evo K s.β s.ω w K s.β s.ω (w.alloc (.deferred (some []))) := Evo.push _
      have hsz : (w.alloc (.deferred (some []))).heap.size = w.heap.size + 1 := size_push _
      obtain ⟨q1, q1e⟩ := q0.new_lp (r := r) (tm := s.σ) h.tmps
      rw [hsz] at q1 q1e
      have hnl : s.β (w.heap.size + 1) = none := h.rel.box_none (by omega)
      have hnew : LpNew ps x y r := ⟨rfl, rfl, rfl, rfl, rfl, by intro t ht; have := hf1 t ht; simp only [r]; rw [h.size]; exact this, by simp only [r]; rw [h.size]; exact hf2, by simp only [r]; rw [h.size]; exact hf3⟩
      have hvc' := hv (w.heap.size + 1) r hnl hnew
      have hargs : RepL K (first ++ [.clo (.yield (w.heap.size + 1)) [] []] ++ captured) (vf ++ [.func (.yield (w.heap.size + 1)) #[] #[]] ++ vc) := (hvf.append (.cons (Rep.clo (vf := []) (vc := []) .nil .nil) .nil)).append hvc
      have hup := hvc' K _ _ q1 hargs
      have hcall : (callFunc f (vf ++ [Value.func (.yield (w.heap.size + 1)) #[] #[]] ++ vc).toArray).run P ((w.alloc (.deferred (some []))).alloc (.loop r)) = .ok (.enter f (vf ++ [Value.func (.yield (w.heap.size + 1)) #[] #[]] ++ vc).toArray) ((w.alloc (.deferred (some []))).alloc (.loop r)) := by
        obtain ⟨bd, hbd⟩ := Option.isSome_iff_exists.1 p2
        simp only [beq_eq_false_iff_ne, ne_eq] at p3
        simp [callFunc, program, Sem.run, p1, p3, hbd]
      rcases hup with ⟨_, hC⟩ | ⟨v, w1, hc, _⟩
      rotate_left
      · rw [hcall] at hc; cases hc
      refine ⟨w.heap.size + 1, _, _, { target := .fn (.func f) vc.toArray, args := (vf ++ [Value.func (.yield (w.heap.size + 1)) #[] #[]]).toArray }, (w.alloc (.deferred (some []))).alloc (.loop r), f, _, _, run_enterLoop_outer fn a.tmps ps x y, ?_, fun _ _ => trivial, ?_, fun hd => by simp [W, Fence.wide] at hd, (callsIn_W hC).mono ?_⟩
      · simp only [resolve, rangeCall]
        rw [hfe]
        simp [Deferred.ofValue, Act.eval]
        rfl
      · simp only [invoke]
        have e : (vf ++ [Value.func (Fn.yield (w.heap.size + 1)) #[] #[]]).toArray ++ vc.toArray = (vf ++ [Value.func (Fn.yield (w.heap.size + 1)) #[] #[]] ++ vc).toArray := by simp
        rw [e]
        exact hcall
      · rintro e w3 ⟨K', o, β', ω', o1, o2, o3, o4⟩
        have hD : ((w.alloc (.deferred (some []))).alloc (.loop r)).heap[w.heap.size]? = some (.deferred (some [])) := by
          rw [heap_push_old _ (by rw [hsz]; omega)]
          exact heap_push_new _
        have hm2 : Marks B ((w.alloc (.deferred (some []))).alloc (.loop r)) ([{ target := .collected w.heap.size, args := #[] }] ++ a.defers) := by
          obtain ⟨rs, _, m1, m2, m3⟩ := h.marks
          refine ⟨w.heap.size :: rs, fun e => (by rw [hnr] at e; cases e), by simp [m1], List.nodup_cons.2 ⟨fun hm => ?_, m2⟩, fun r1 hr1 => ?_⟩
          · have := lt_of_heap (m3 _ hm).2
            omega
          · rcases List.mem_cons.1 hr1 with rfl | hr1
            · exact ⟨Nat.le_trans hB hE.size, hD⟩
            · obtain ⟨m4, m5⟩ := m3 r1 hr1
              have hlt := lt_of_heap m5
              refine ⟨m4, ?_⟩
              rw [heap_push_old _ (by rw [hsz]; omega), heap_push_old _ hlt]
              exact m5
        have hle : K.le K' := (q0e.trans (q1e.trans o4)).le
        cases o with
        | ret d =>
          cases e with
          | returned v =>
            obtain ⟨r', tm', z1, z2, z3⟩ := o2
            obtain ⟨z4, z5⟩ := o3.lp_at z1
            obtain ⟨z6, z7⟩ := o3.put_lp (r' := { r' with state := .exhausted }) z1 rfl
            have hless : ∀ b cs, (β'.drop (w.heap.size + 1)) b = some cs → (β'.set (w.heap.size + 1) [.lp { r' with state := .exhausted } tm']) b = some cs := fun b cs hb => by
              unfold Heap.drop at hb
              unfold Heap.set
              split at hb
              · cases hb
              · rename_i hne; rw [if_neg hne]; exact hb
            refine ⟨r'.pending, _, run_endLoop z4 z2, ?_⟩
            have hm4 := hm2.keep (s := ⟨s.σ, s.β.set (w.heap.size + 1) [.lp r s.σ], s.ω⟩) q1 (o4.trans z7)
            have hsr : SR G n B K' { s with β := β'.drop (w.heap.size + 1), ω := ω' } { tmps := a.tmps, defers := [{ target := .collected w.heap.size, args := #[] }] ++ a.defers } (w3.putObj (w.heap.size + 1) (.loop { r' with state := .exhausted })) :=
              ⟨z6.less hless (fun _ h => h), fun t => (h.tmps t).mono hle, h.size, hm4⟩
            have hEv := hE.trans (q0e.trans (q1e.trans (o4.trans (z7.trans (Evo.less hless (fun _ h => h))))))
            generalize hw4 : w3.putObj (w.heap.size + 1) (.loop { r' with state := .exhausted }) = w4 at hsr hEv ⊢
            clear hw4
            generalize r'.pending = pd at z3 ⊢
            cases pd with
            | none => exact ⟨K', _, .normal, z3, trivial, hsr, hEv⟩
            | some c =>
              cases c with
              | ret => exact wpIn_ret ⟨K', _, .ret, z3, trivial, hsr, hEv⟩
              | exit i => exact wpIn_exit ⟨K', _, .exit i, z3, rfl, hsr, hEv⟩
              | goto t => exact wpIn_goto ⟨K', _, .goto t, z3, rfl, hsr, hEv⟩
              | _ => exact z3.elim
          | panicked ch => exact o1.elim
          | outgrown => exact o1.elim
        | pan d =>
          cases e with
          | returned v => exact o1.elim
          | panicked ch =>
            have hm3 := hm2.keep (s := ⟨s.σ, s.β.set (w.heap.size + 1) [.lp r s.σ], s.ω⟩) q1 o4
            exact ⟨K', { s with β := β', ω := ω' }, .panic d, o2, o1, ⟨o3, fun t => (h.tmps t).mono hle, h.size, hm3⟩, hE.trans (q0e.trans (q1e.trans o4))⟩
          | outgrown => exact o1.elim
    · exact hv.elim
  | .scope c, Q, s, K, a, w, hr, hf, hv, h, hE => by
    refine wpIn_scope (wpIn_mono (vwp_soundR hS hB c _ s K a w hr hf hv h hE) ?_)
    rintro e a' w' ⟨K', s', ve, h1, h2, h3, h4⟩
    cases ve <;> cases e <;> first
      | exact h2.elim
      | exact h1.elim
      | exact ⟨K', s', _, h1, h2, h3, h4⟩
  | .refuse _, _, _, _, _, _, _, _, hv, _, _ => hv.elim

theorem vwp_sound (hS : Sound R) (hB : B.b ≤ w0.heap.size) (hN : B.nr = false) (c : Code) (Q : VE → St → Prop) (s : St) (K : Kn) (a : Act) (w : World) (hf : fits n c = true) (hv : vwp R P G c Q s) (h : SR G n B K s a w) (hE : Evo K0 β0 ω0 w0 K s.β s.ω w) :
    c.wpIn (W none) 0 P (up G n B K0 β0 ω0 w0 Q) a w := vwp_soundR hS hB c Q s K a w (.inl ⟨rfl, hN⟩) hf hv h hE
end

def roundσ (tm : Nat → D) : List Tmp → List D → Nat → D
  | t :: ps, d :: ds => roundσ (fun i => if i = t then d else tm i) ps ds
  | _, _ => tm

theorem roundσ_rep {K : Kn} : ∀ (ps : List Tmp) (ds : List D) (vs : List Value) (tm : Nat → D) (tmps : Array Value), (∀ t ∈ ps, t < tmps.size) → RepL K ds vs → (∀ t, Rep K (tm t) (tmps.getD t undef)) →
    (∀ t, Rep K (roundσ tm ps ds t) (((ps.zip vs).foldl (fun tmps (t, a) => tmps.setIfInBounds t a) tmps).getD t undef)) ∧ ((ps.zip vs).foldl (fun tmps (t, a) => tmps.setIfInBounds t a) tmps).size = tmps.size
  | [], _, _, tm, tmps, _, _, h => ⟨by simpa [roundσ] using h, by simp⟩
  | t :: ps, _, _, tm, tmps, _, .nil, h => ⟨by simpa [roundσ] using h, by simp⟩
  | p :: ps, _, _, tm, tmps, hp, .cons (d := d) (v := v) (ds := ds) (vs := vs) hd hds, h => by
    have h2 : ∀ t, Rep K ((fun i => if i = p then d else tm i) t) ((tmps.setIfInBounds p v).getD t undef) := fun t => by
      have hlt := hp p (by simp)
      simp only [Array.getD_eq_getD_getElem?, Array.getElem?_setIfInBounds]
      by_cases e : p = t
      · subst e
        simp [hlt, hd]
      · have := h t
        rw [Array.getD_eq_getD_getElem?] at this
        rw [if_neg (fun q => e q.symm), if_neg e]
        exact this
    obtain ⟨r1, r2⟩ := roundσ_rep ps ds vs (fun i => if i = p then d else tm i) (tmps.setIfInBounds p v) (fun t ht => by simp; exact hp t (by simp [ht])) hds h2
    refine ⟨fun t => ?_, ?_⟩
    · simp only [roundσ, List.zip_cons_cons, List.foldl_cons]
      exact r1 t
    · simp only [List.zip_cons_cons, List.foldl_cons]
      rw [r2]
      simp

def roundQ (l : Nat) (Φ : Out → Heap → List Nat → Prop) : VE → St → Prop
  | .normal, s => ∃ r tm, s.β l = some [.lp r tm] ∧ Φ (.ret (.bool true)) (s.β.set l [.lp { r with state := .ready, pending := none } tm]) s.ω
  | .ret, s => ∃ r tm, s.β l = some [.lp r tm] ∧ Φ (.ret (.bool false)) (s.β.set l [.lp { r with state := .done, pending := some .ret } tm]) s.ω
  | .exit i, s => ∃ r tm, s.β l = some [.lp r tm] ∧ Φ (.ret (.bool false)) (s.β.set l [.lp { r with state := .done, pending := some (.exit i) } tm]) s.ω
  | .goto t, s => ∃ r tm, s.β l = some [.lp r tm] ∧ Φ (.ret (.bool false)) (s.β.set l [.lp { r with state := .done, pending := some (.goto t) } tm]) s.ω
  | .panic _, _ => False

theorem VY.round {R : DrawRule} (hS : Sound R) {l : Nat} {r : Loop} {tm : Nat → D} {args : List D} {β : Heap} {ω : List Nat} {Φ : Out → Heap → List Nat → Prop} (hb : β l = some [.lp r tm]) (hsz : args.length = r.params.size) (hp : ∀ t ∈ r.params.toList, t < r.tmps.size)
    (hfx : fits r.tmps.size r.assign = true) (hfy : fits r.tmps.size r.body = true) (hnx : noRange r.assign = true) (hny : noRange r.body = true)
    (h : vwp R P G r.assign (VE.then (fun s1 => ∃ r1 tm1, s1.β l = some [.lp r1 tm1] ∧ r1.state = .ready ∧ vwp R P G r.body (roundQ l Φ) { s1 with β := s1.β.set l [.lp { r1 with state := .busy } tm1] }) (fun _ _ => False)) ⟨roundσ tm r.params.toList args, β, ω⟩) :
    VY P G l args β ω Φ := by
  intro K w vargs hr ha
  obtain ⟨hv, htm⟩ := hr.lp_at hb
  have hlen := ha.length
  have hfold : (r.params.zip vargs.toArray).foldl (fun tmps (x : Tmp × Value) => tmps.setIfInBounds x.1 x.2) r.tmps = (r.params.toList.zip vargs).foldl (fun tmps (x : Tmp × Value) => tmps.setIfInBounds x.1 x.2) r.tmps := by
    rw [← Array.foldl_toList]
    simp
  obtain ⟨c1, c2⟩ := roundσ_rep r.params.toList args vargs tm r.tmps hp ha htm
  refine ⟨r.fn, _, r.assign, r.body, run_yield hv (by simp; omega), roundIn_of_wpIn trivial ?_⟩
  rw [hfold]
  have hsr : SR G r.tmps.size ⟨w.heap.size, [], false⟩ K ⟨roundσ tm r.params.toList args, β, ω⟩ { tmps := (r.params.toList.zip vargs).foldl (fun tmps (x : Tmp × Value) => tmps.setIfInBounds x.1 x.2) r.tmps, defers := [] } w :=
    ⟨hr, c1, c2, [], fun _ => rfl, rfl, List.nodup_nil, fun r hr => by simp at hr⟩
  refine wpIn_mono (vwp_soundR (ro := some l) (K0 := K) (β0 := β) (ω0 := ω) (w0 := w) hS (Nat.le_refl _) r.assign _ _ K _ w (.inr hnx) hfx h hsr (Evo.refl K β ω w)) ?_
  rintro e a' w' ⟨K1, s1, ve, h1, h2, h3, h4⟩
  cases ve <;> cases e <;> first
    | exact h2.elim
    | exact h1.elim
    | skip
  obtain ⟨r1, tm1, q1, q2, q3⟩ := h1
  obtain ⟨q4, _⟩ := h3.rel.lp_at q1
  obtain ⟨q5, q6⟩ := h3.rel.put_lp (r' := { r1 with state := .busy }) q1 rfl
  refine ⟨_, run_beginRound q4 q2, ?_⟩
  have hsr2 := h3.move q6 q5
  refine wpIn_mono (vwp_soundR (ro := some l) (K0 := K) (β0 := β) (ω0 := ω) (w0 := w) hS (Nat.le_refl _) r.body _ _ K1 _ _ (.inr hny) hfy q3 hsr2 (h4.trans q6)) ?_
  rintro e a2 w2 ⟨K2, s2, ve, g1, g2, g3, g4⟩
  have key : ∀ jump : Option Code, (∃ r tm, s2.β l = some [.lp r tm] ∧ Φ (.ret (.bool jump.isNone)) (s2.β.set l [.lp { r with state := if jump.isNone then .ready else .done, pending := jump } tm]) s2.ω) →
      ∃ v w3, (Instr.endRound l jump).run P w2 = .ok v w3 ∧ Back G Φ K β ω w (.returned v) w3 := by
    rintro jump ⟨r2, tm2, u1, u2⟩
    obtain ⟨u3, _⟩ := g3.rel.lp_at u1
    obtain ⟨u4, u5⟩ := g3.rel.put_lp (r' := { r2 with state := if jump.isNone then .ready else .done, pending := jump }) u1 rfl
    exact ⟨_, _, run_endRound jump u3, K2, .ret (.bool jump.isNone), _, _, .bool _, u2, u4, g4.trans u5⟩
  cases ve <;> cases e <;> first
    | exact g2.elim
    | exact g1.elim
    | exact key none g1
    | exact key (some .ret) g1
    | (cases g2; exact key (some (.exit _)) g1)
    | (cases g2; exact key (some (.goto _)) g1)

end Go.Proofs.YtpblgfgcoamgmaaGreatV
namespace Go.Proofs.YtpblgfgcoamgmaaGreatV
open Go

variable {P : Program} {G : Heap} {n : Nat} {B : Bs} {K : Kn} {s : St} {a : Act} {w : World}

def resv (P : Program) (s : St) : ResultVar → D × Prop
  | .tmp t => (s.σ t, True)
  | .cell t ty => vloadAt P s.β ty (s.σ t)

def resD : List D → D
  | [d] => d
  | ds => .tup ds

def rdRes (a : Act) : ResultVar → Sem Value
  | .tmp t => pure (a.tmps.getD t undef)
  | .cell x t => do loadVar t (← asAddr (a.tmps.getD x undef))

theorem results_eq (fn : Func) (a : Act) : results fn a.tmps = (do let vs ← fn.results.mapM (rdRes a); pure (if h : vs.size = 1 then vs[0] else .tuple vs)) := by
  unfold results
  congr 1

theorem rdRes_run (h : SR G n B K s a w) (r : ResultVar) (hr : (resv P s r).2) : ∃ v, (rdRes a r).run P w = .ok v w ∧ Rep K (resv P s r).1 v := by
  cases r with
  | tmp t => exact ⟨_, rfl, h.tmps t⟩
  | cell t ty =>
    obtain ⟨v, h3, h4⟩ := vloadAt_sound (P := P) h.rel (h.tmps t) hr
    refine ⟨v, ?_, h4⟩
    unfold rdRes
    simp only
    generalize a.tmps.getD t undef = u at h3
    cases u with
    | pointer p =>
      cases p with
      | none => simp [Instr.loadAt, Instr.sureAddr, stuck, Sem.run] at h3
      | some ad => simpa [Instr.loadAt, Instr.sureAddr, asAddr] using h3
    | _ => simp [Instr.loadAt, Instr.sureAddr, stuck, Sem.run] at h3

theorem resv_run (h : SR G n B K s a w) : ∀ rs : List ResultVar, (∀ r ∈ rs, (resv P s r).2) → ∃ vs : List Value, (rs.mapM (rdRes a)).run P w = .ok vs w ∧ RepL K (rs.map fun r => (resv P s r).1) vs
  | [], _ => ⟨[], by simp, .nil⟩
  | r :: rs, hc => by
    obtain ⟨vs, h1, h2⟩ := resv_run h rs fun r hr => hc r (by simp [hr])
    obtain ⟨v, h3, h4⟩ := rdRes_run h r (hc r (by simp))
    refine ⟨v :: vs, ?_, .cons h4 h2⟩
    simp only [List.mapM_cons, Sem.run_bind, h3, Result.andThen_ok, h1, Sem.run_pure]

theorem results_sound (h : SR G n B K s a w) {fn : Func} (hc : ∀ r ∈ fn.results.toList, (resv P s r).2) :
    ∃ v, (results fn a.tmps).run P w = .ok v w ∧ Rep K (resD (fn.results.toList.map fun r => (resv P s r).1)) v := by
  obtain ⟨vs, h1, h2⟩ := resv_run (P := P) h fn.results.toList hc
  have hm : (fn.results.mapM (rdRes a)).run P w = .ok vs.toArray w := by
    have : fn.results.mapM (rdRes a) = List.toArray <$> fn.results.toList.mapM (rdRes a) := by
      have := List.mapM_toArray (m := Sem) (f := rdRes a) (l := fn.results.toList)
      simpa using this
    rw [this, Sem.run_map, h1]
    rfl
  rw [results_eq, Sem.run_bind, hm]
  simp only [Result.andThen_ok, Sem.run_pure, List.size_toArray]
  generalize (fn.results.toList.map fun r => (resv P s r).1) = ds at h2
  cases h2 with
  | nil => exact ⟨.tuple #[], by simp, .tup .nil⟩
  | cons h3 h4 =>
    cases h4 with
    | nil => exact ⟨_, by simp, h3⟩
    | cons h5 h6 => exact ⟨_, by simp, .tup (.cons h3 (.cons h5 h6))⟩


theorem run_take {r : Nat} (h : w.heap[r]? = some (.deferred (some []))) : (Instr.takeDeferred r).run P w = .ok [] { w with heap := w.heap.setIfInBounds r (.deferred none) } := by
  simp [Instr.takeDeferred, getObj, setObj, Sem.run, h]

theorem end_marks {F : Fence} {k : Nat} {fn : Func} {tmps : Array Value} {R : Ending → World → Prop} {u : FrameMode} (hu : u ≠ .run) : ∀ (rs : List Nat) (w : World), rs.Nodup → (∀ r ∈ rs, w.heap[r]? = some (.deferred (some []))) →
    (∀ w', (∀ i, i ∉ rs → w'.heap[i]? = w.heap[i]?) → w'.heap.size = w.heap.size → w'.os = w.os → w'.tape = w.tape → w'.output = w.output → LeavesInM F k P fn tmps R [] u w') →
    LeavesInM F k P fn tmps R (rs.map fun r => { target := .collected r, args := #[] }) u w
  | [], w, _, _, h => h w (fun _ _ => rfl) rfl rfl rfl rfl
  | r :: rs, w, hn, hm, h => by
    simp only [List.nodup_cons] at hn
    refine ⟨hu, .inl ⟨r, _, rfl, run_take (hm r (by simp)), end_marks hu rs _ hn.2 (fun q hq => ?_) fun w' h1 h2 h3 h4 h5 => ?_⟩⟩
    · have hne : r ≠ q := fun e => hn.1 (e ▸ hq)
      simp only [Array.getElem?_setIfInBounds, if_neg hne]
      exact hm q (by simp [hq])
    · refine h w' (fun i hi => ?_) (by rw [h2]; simp) h3 h4 h5
      simp only [List.mem_cons, not_or] at hi
      rw [h1 i hi.2]
      simp only [Array.getElem?_setIfInBounds]
      rw [if_neg (fun e => hi.1 e.symm)]

theorem Rel.marks {β : Heap} {ω : List Nat} (h : Rel G K β ω w) {rs : List Nat} {w' : World} (hm : ∀ r ∈ rs, w.heap[r]? = some (.deferred (some []))) (hs : ∀ i, i ∉ rs → w'.heap[i]? = w.heap[i]?) : Rel G K β ω w' := by
  have hc : ∀ {b o : Nat} {v : Value}, w.cell? ⟨b, o, none⟩ = some v → w'.cell? ⟨b, o, none⟩ = some v := fun {b o v} hb => by
    have hn : b ∉ rs := fun hb' => by
      unfold World.cell? at hb
      simp only at hb
      rw [hm b hb'] at hb
      cases hb
    rw [← hb]
    simp [World.cell?, hs b hn]
  refine ⟨fun b o d hk => ?_, fun b cs hb => ?_, h.boxK, fun t ht => ?_, h.tokne, h.glob, h.free⟩
  · obtain ⟨v, hv, hr⟩ := h.holds b o d hk
    exact ⟨v, hc hv, hr⟩
  · obtain ⟨x, hx, hb'⟩ := h.box b cs hb
    have hn : b ∉ rs := fun hb'' => by
      rw [hm b hb''] at hx
      cases hx
      cases hb'
    exact ⟨x, by rw [hs b hn]; exact hx, hb'⟩
  · obtain ⟨x, a1, hx⟩ := h.tok t ht
    refine ⟨x, a1, fun hd hxd => ?_⟩
    obtain ⟨vs, e, a2, a3⟩ := hx hd hxd
    have hn : hd.b ∉ rs := fun hb'' => by rw [hm _ hb''] at a2; cases a2
    exact ⟨vs, e, by rw [hs _ hn]; exact a2, a3⟩

def Wk (d d' : D) : Prop := ∀ K v, Rep K d v → Rep K d' v

theorem Wk.refl (d : D) : Wk d d := fun _ _ h => h
theorem Wk.er (d : D) : Wk d d.er := fun _ _ h => h.er

def fin (P : Program) (fn : Func) (Φ : Out → Heap → List Nat → Prop) : VE → St → Prop
  | .normal, s | .ret, s => (∀ r ∈ fn.results.toList, (resv P s r).2) ∧ ∃ d β' ω', Wk (resD (fn.results.toList.map fun r => (resv P s r).1)) d ∧ (∀ b cs, β' b = some cs → s.β b = some cs) ∧ (∀ t, t ∈ ω' → t ∈ s.ω) ∧ Φ (.ret d) β' ω'
  | .panic d, s => ∃ d' β' ω', Wk d d' ∧ (∀ b cs, β' b = some cs → s.β b = some cs) ∧ (∀ t, t ∈ ω' → t ∈ s.ω) ∧ Φ (.pan d') β' ω'
  | _, _ => False

def start (args : List D) : Nat → D := fun i => args.getD i .any

theorem start_rep {args : List D} {vargs : List Value} (h : RepL K args vargs) (n : Nat) (t : Nat) : Rep K (start args t) ((vargs.toArray ++ Array.replicate (n - vargs.toArray.size) undef).getD t undef) := by
  unfold start
  by_cases ht : t < args.length
  · obtain ⟨v, h1, h2⟩ := h.get t _ (List.getElem?_eq_getElem ht)
    have hl := h.length
    rw [Array.getD_eq_getD_getElem?, Array.getElem?_append_left (by simp; omega)]
    simp only [List.getElem?_toArray, h1, Option.getD_some]
    simpa [ht] using h2
  · have : args.getD t .any = .any := by simp [List.getD, List.getElem?_eq_none (Nat.le_of_not_lt ht)]
    rw [this]
    exact .any _

theorem VC.of_vwp {R : DrawRule} (hS : Sound R) {f : FuncId} {fn : Func} {c : Code} {args : List D} {β : Heap} {ω : List Nat} {Φ : Out → Heap → List Nat → Prop} (hf : P.funcs[f]? = some fn) (hb : fn.body = some c) (hname : (fn.name == "runtime.NumGoroutine") = false) (hfit : fits fn.ntmps c = true) (hlen : args.length ≤ fn.ntmps)
    (h : vwp R P G c (fin P fn Φ) ⟨start args, β, ω⟩) : VC P G f args β ω Φ := by
  intro K w vargs hr ha
  refine .inl ⟨?_, ?_⟩
  · simp only [beq_eq_false_iff_ne, ne_eq] at hname; simp [callFunc, program, Sem.run, hf, hname, hb]
  · have hl := ha.length
    have hsr : SR G fn.ntmps ⟨w.heap.size, [], false⟩ K ⟨start args, β, ω⟩ { tmps := vargs.toArray ++ Array.replicate (fn.ntmps - vargs.toArray.size) undef, defers := [] } w :=
      ⟨hr, start_rep ha fn.ntmps, by simp; omega, [], fun _ => rfl, rfl, List.nodup_nil, fun r hr => by simp at hr⟩
    have hw := vwp_sound hS (Nat.le_refl _) rfl c _ _ K _ w hfit h hsr (Evo.refl K β ω w)
    have hcalls : CallsIn Fence.wide 0 P f vargs.toArray w (Back G Φ K β ω w) := by
      refine callsIn_of_wp_marks hf hb trivial (wpIn_mono (n := 0) hw ?_)
      rintro e a' w' ⟨K', s', ve, h1, h2, h3, h4⟩
      obtain ⟨rs, _, m1, m2, m3⟩ := h3.marks
      have hmarks : ∀ r ∈ rs, w'.heap[r]? = some (.deferred (some [])) := fun r hr => (m3 r hr).2
      have hevo : ∀ w'', (∀ i, i ∉ rs → w''.heap[i]? = w'.heap[i]?) → w''.heap.size = w'.heap.size → w''.os = w'.os → w''.tape = w'.tape → w''.output = w'.output → Evo K β ω w K' s'.β s'.ω w'' := fun w'' q1 q2 q3 q4 q5 =>
        ⟨h4.le, by rw [q2]; exact h4.size, q3.trans h4.os, q4.trans h4.tape, q5.trans h4.output, fun b hb ho => by
          obtain ⟨k1, k2, k3⟩ := h4.keep b hb ho
          have hnb : b ∉ rs := fun hb' => by have h9 := (m3 b hb').1; dsimp only at h9; omega
          exact ⟨(q1 b hnb).trans k1, k2, k3⟩, h4.tok⟩
      have hret : (∀ r ∈ fn.results.toList, (resv P s' r).2) ∧ (∃ d β' ω', Wk (resD (fn.results.toList.map fun r => (resv P s' r).1)) d ∧ (∀ b cs, β' b = some cs → s'.β b = some cs) ∧ (∀ t, t ∈ ω' → t ∈ s'.ω) ∧ Φ (.ret d) β' ω') →
          LeavesInM Fence.wide 0 P fn a'.tmps (Back G Φ K β ω w) a'.defers .returning w' := by
        rintro ⟨hc, d, β', ω', hwk, hsb, hsw, hφ⟩
        rw [m1, List.append_nil]
        refine end_marks (by simp) rs w' m2 hmarks fun w'' q1 q2 q3 q4 q5 => ?_
        have hrel := h3.rel.marks hmarks q1
        have hsr2 : SR G fn.ntmps ⟨0, [], false⟩ K' s' { a' with defers := [] } w'' := ⟨hrel, h3.tmps, h3.size, [], fun _ => rfl, rfl, List.nodup_nil, fun r hr => by simp at hr⟩
        obtain ⟨v, v1, v2⟩ := results_sound (P := P) hsr2 hc
        refine ⟨v, v1, K', .ret d, β', ω', hwk K' v v2, hφ, hrel.less hsb hsw, (hevo w'' q1 q2 q3 q4 q5).trans (Evo.less hsb hsw)⟩
      cases ve <;> cases e <;> first
        | exact h2.elim
        | exact h1.elim
        | exact hret h1
        | skip
      obtain ⟨d', β', ω', hwk, hsb, hsw, hφ⟩ := h1
      obtain ⟨v, rfl, hv⟩ := h2
      show LeavesInM Fence.wide 0 P fn a'.tmps (Back G Φ K β ω w) a'.defers (.panicking _) w'
      rw [m1, List.append_nil]
      refine end_marks (by simp) rs w' m2 hmarks fun w'' q1 q2 q3 q4 q5 => ?_
      exact ⟨K', .pan d', β', ω', ⟨v, rfl, hwk K' v hv⟩, hφ, (h3.rel.marks hmarks q1).less hsb hsw, (hevo w'' q1 q2 q3 q4 q5).trans (Evo.less hsb hsw)⟩
    exact callsIn_wide.1 hcalls

end Go.Proofs.YtpblgfgcoamgmaaGreatV
namespace Go.Proofs.YtpblgfgcoamgmaaGreatV
open Go

variable {P : Program} {G : Heap} {n B : Nat} {K : Kn} {s : St} {a : Act} {w : World}

def joinH (β β0 β1 : Heap) : Heap := fun b => match β1 b with
  | some c => some c
  | none => match β0 b with
    | some _ => none
    | none => β b

def joinT (ω ω0 ω1 : List Nat) : List Nat := ω1 ++ ω.filter fun t => !ω0.contains t

theorem joinH_some {β β0 β1 : Heap} {b : Nat} {cs : List D} (h : joinH β β0 β1 b = some cs) : β1 b = some cs ∨ (β1 b = none ∧ β0 b = none ∧ β b = some cs) := by
  unfold joinH at h
  split at h
  · exact .inl (by simp_all)
  · split at h
    · cases h
    · exact .inr ⟨by assumption, by assumption, h⟩

theorem mem_joinT {ω ω0 ω1 : List Nat} {t : Nat} : t ∈ joinT ω ω0 ω1 ↔ t ∈ ω1 ∨ (t ∈ ω ∧ t ∉ ω0) := by
  simp [joinT]

@[simp] theorem joinH_nil (β : Heap) : joinH β Heap.nil Heap.nil = β := rfl
@[simp] theorem joinT_nil (ω : List Nat) : joinT ω [] [] = ω := by simp [joinT]

def Framed (β : Heap) (ω : List Nat) (β0 : Heap) (ω0 : List Nat) (Φ0 : Out → Heap → List Nat → Prop) (o : Out) (β' : Heap) (ω' : List Nat) : Prop :=
  ∃ β1 ω1, Φ0 o β1 ω1 ∧ (∀ b, β1 b ≠ none → β0 b = none → β b = none) ∧ (∀ t, t ∈ ω1 → t ∉ ω0 → t ∉ ω) ∧ β' = joinH β β0 β1 ∧ ω' = joinT ω ω0 ω1

structure Part (β0 : Heap) (ω0 : List Nat) (β : Heap) (ω : List Nat) : Prop where
  box : ∀ b cs, β0 b = some cs → β b = some cs
  tok : ∀ t, t ∈ ω0 → t ∈ ω

theorem Part.none {β0 : Heap} {ω0 : List Nat} {β : Heap} {ω : List Nat} (hp : Part β0 ω0 β ω) {b : Nat} (h : β b = none) : β0 b = none := by
  cases hb : β0 b with
  | none => rfl
  | some cs => rw [hp.box b cs hb] at h; cases h

theorem not_owns {β0 : Heap} {ω0 : List Nat} {β : Heap} {ω : List Nat} (hp : Part β0 ω0 β ω) {b : Nat} (h : ¬ owns K β ω b) : ¬ owns K β0 ω0 b := by
  rintro (hb | ⟨t, hd, h1, h2, h3⟩)
  · cases hc : β0 b with
    | none => exact hb hc
    | some cs => exact h (.inl (by rw [hp.box b cs hc]; simp))
  · exact h (.inr ⟨t, hd, hp.tok t h1, h2, h3⟩)

theorem back_frame {β β0 : Heap} {ω ω0 : List Nat} {Φ0 : Out → Heap → List Nat → Prop} (hr : Rel G K β ω w) (hp : Part β0 ω0 β ω) {e : Ending} {w' : World} (hb : Back G Φ0 K β0 ω0 w e w') :
    Back G (Framed β ω β0 ω0 Φ0) K β ω w e w' := by
  obtain ⟨K', o, β1, ω1, h1, h2, h3, h4⟩ := hb
  -- a variable outside of the part is not the call's
  have hout : ∀ b, β b ≠ none → β0 b = none → w'.heap[b]? = w.heap[b]? ∧ (∀ o, K'.cells b o = K.cells b o) ∧ ¬ owns K' β1 ω1 b := fun b hb h0 => by
    obtain ⟨cs, hcs⟩ := Option.ne_none_iff_exists'.1 hb
    obtain ⟨x, hx, _⟩ := hr.box b cs hcs
    refine h4.keep b (Array.getElem?_eq_some_iff.1 hx).1 ?_
    rintro (hc | ⟨t, hd, q1, q2, q3⟩)
    · exact hc h0
    · obtain ⟨y, hy1, hy2⟩ := hr.tok t (hp.tok t q1)
      rw [q2] at hy1
      cases hy1
      obtain ⟨_, _, _, _, _, hn, _⟩ := hy2 hd rfl
      rw [q3] at hn
      exact hb hn
  -- neither is the row of a token outside of it
  have htok : ∀ t, t ∈ ω → t ∉ ω0 → ∀ hd, K.tok t = some (some hd) → w'.heap[hd.b]? = w.heap[hd.b]? ∧ (∀ o, K'.cells hd.b o = K.cells hd.b o) ∧ ¬ owns K' β1 ω1 hd.b := fun t ht hn hd hk => by
    obtain ⟨y, hy1, hy2⟩ := hr.tok t ht
    rw [hk] at hy1
    cases hy1
    obtain ⟨vs, e', hx, _, _, hbn, _⟩ := hy2 hd rfl
    refine h4.keep hd.b (Array.getElem?_eq_some_iff.1 hx).1 ?_
    rintro (hc | ⟨u, hd', q1, q2, q3⟩)
    · exact hc (hp.none hbn)
    · exact hn (hr.tokne t u hd hd' ht (hp.tok u q1) hk q2 q3.symm ▸ q1)
  have hsame : ∀ t, t ∈ ω → ∀ x, K'.tok t = some x → K.tok t = some x := fun t ht x hx => by
    obtain ⟨y, hy1, _⟩ := hr.tok t ht
    rw [h4.le.tok t y hy1] at hx
    cases hx
    exact hy1
  refine ⟨K', o, joinH β β0 β1, joinT ω ω0 ω1, h1, ⟨β1, ω1, h2, fun b hb h0 => ?_, fun t ht h0 hω => ?_, rfl, rfl⟩, ⟨h3.holds, fun b cs hb => ?_, fun b cs hb => ?_, fun t ht => ?_, fun t u h h' ht hu hk hk' he => ?_, h3.glob, h3.free⟩,
    ⟨h4.le, h4.size, h4.os, h4.tape, h4.output, fun b hb ho => ?_, fun t ht => ?_⟩⟩
  · cases hc : β b with
    | none => rfl
    | some cs => exact absurd (.inl hb) (hout b (by rw [hc]; simp) h0).2.2
  · rcases h4.tok t ht with h5 | h5
    · exact h0 h5
    · obtain ⟨x, hx, _⟩ := hr.tok t hω
      rw [h5] at hx
      cases hx
  · rcases joinH_some hb with h5 | ⟨h5, h6, h7⟩
    · exact h3.box b cs h5
    · obtain ⟨x, hx, hxb⟩ := hr.box b cs h7
      exact ⟨x, by rw [(hout b (by rw [h7]; simp) h6).1]; exact hx, hxb.mono h4.le⟩
  · rcases joinH_some hb with h5 | ⟨h5, h6, h7⟩
    · exact h3.boxK b cs h5
    · intro o
      rw [(hout b (by rw [h7]; simp) h6).2.1 o]
      exact hr.boxK b cs h7 o
  · rcases mem_joinT.1 ht with h5 | ⟨h5, h6⟩
    · obtain ⟨x, hx1, hx2⟩ := h3.tok t h5
      refine ⟨x, hx1, fun h hh => ?_⟩
      obtain ⟨vs, e', q1, q2, q3, q4, q5⟩ := hx2 h hh
      refine ⟨vs, e', q1, q2, q3, ?_, q5⟩
      cases hj : joinH β β0 β1 h.b with
      | none => rfl
      | some cs =>
        rcases joinH_some hj with h7 | ⟨h7, h8, h9⟩
        · rw [q4] at h7; cases h7
        · subst hh
          exact absurd (.inr ⟨t, h, h5, hx1, rfl⟩) (hout h.b (by rw [h9]; simp) h8).2.2
    · obtain ⟨x, hx1, hx2⟩ := hr.tok t h5
      refine ⟨x, h4.le.tok t x hx1, fun h hh => ?_⟩
      obtain ⟨vs, e', q1, q2, q3, q4, q5⟩ := hx2 h hh
      subst hh
      obtain ⟨r1, r2, r3⟩ := htok t h5 h6 h hx1
      refine ⟨vs, e', r1.trans q1, q2, q3, ?_, fun o ho => (r2 o).trans (q5 o ho)⟩
      cases hj : joinH β β0 β1 h.b with
      | none => rfl
      | some cs =>
        rcases joinH_some hj with h7 | ⟨h7, h8, h9⟩
        · exact absurd (.inl (by rw [h7]; simp)) r3
        · rw [q4] at h9; cases h9
  · rcases mem_joinT.1 ht with h5 | ⟨h5, h6⟩ <;> rcases mem_joinT.1 hu with h7 | ⟨h7, h8⟩
    · exact h3.tokne t u h h' h5 h7 hk hk' he
    · exact absurd (.inr ⟨t, h, h5, hk, he⟩) (htok u h7 h8 h' (hsame u h7 _ hk')).2.2
    · exact absurd (.inr ⟨u, h', h7, hk', he.symm⟩) (htok t h5 h6 h (hsame t h5 _ hk)).2.2
    · exact hr.tokne t u h h' h5 h7 (hsame t h5 _ hk) (hsame u h7 _ hk') he
  · obtain ⟨r1, r2, r3⟩ := h4.keep b hb (not_owns hp ho)
    refine ⟨r1, r2, ?_⟩
    rintro (hc | ⟨t, hd, q1, q2, q3⟩)
    · obtain ⟨cs, hcs⟩ := Option.ne_none_iff_exists'.1 hc
      rcases joinH_some hcs with h5 | ⟨_, _, h5⟩
      · exact r3 (.inl (by rw [h5]; simp))
      · exact ho (.inl (by rw [h5]; simp))
    · rcases mem_joinT.1 q1 with h5 | ⟨h5, _⟩
      · exact r3 (.inr ⟨t, hd, h5, q2, q3⟩)
      · exact ho (.inr ⟨t, hd, h5, hsame t h5 _ q2, q3⟩)
  · rcases mem_joinT.1 ht with h5 | ⟨h5, _⟩
    · rcases h4.tok t h5 with h6 | h6
      · exact .inl (hp.tok t h6)
      · exact .inr h6
    · exact .inl h5

theorem Rel.part {β β0 : Heap} {ω ω0 : List Nat} (h : Rel G K β ω w) (hp : Part β0 ω0 β ω) : Rel G K β0 ω0 w := h.less hp.box hp.tok

theorem VC.frame {f : FuncId} {args : List D} {β β0 : Heap} {ω ω0 : List Nat} {Φ0 : Out → Heap → List Nat → Prop} (hc : VC P G f args β0 ω0 Φ0) (hp : Part β0 ω0 β ω) :
    VC P G f args β ω (Framed β ω β0 ω0 Φ0) :=
  fun K w vargs hr ha => (hc K w vargs (hr.part hp) ha).mono fun e w' hb => back_frame hr hp hb

theorem VY.frame {l : Nat} {args : List D} {β β0 : Heap} {ω ω0 : List Nat} {Φ0 : Out → Heap → List Nat → Prop} (hc : VY P G l args β0 ω0 Φ0) (hp : Part β0 ω0 β ω) :
    VY P G l args β ω (Framed β ω β0 ω0 Φ0) :=
  fun K w vargs hr ha => let ⟨f, t, as, b, h1, h2⟩ := hc K w vargs (hr.part hp) ha; ⟨f, t, as, b, h1, h2.mono fun e w' hb => back_frame hr hp hb⟩

theorem VCall.frame {d : D} {args : List D} {β β0 : Heap} {ω ω0 : List Nat} {Φ0 : Out → Heap → List Nat → Prop} (hc : VCall P G d args β0 ω0 Φ0) (hp : Part β0 ω0 β ω) :
    VCall P G d args β ω (Framed β ω β0 ω0 Φ0) := by
  unfold VCall at hc ⊢
  split at hc
  · exact VC.frame hc hp
  · exact VY.frame hc hp
  · exact hc.elim

def VN (P : Program) (G : Heap) (f : FuncId) (args : List D) (d : D) : Prop := VC P G f args Heap.nil [] fun o β ω => o = .ret d ∧ β = Heap.nil ∧ ω = []

theorem Part.nil (β : Heap) (ω : List Nat) : Part Heap.nil [] β ω := ⟨fun b cs h => (nomatch h : False).elim, fun t h => (List.not_mem_nil h).elim⟩

theorem VN.call {f : FuncId} {args : List D} {d : D} (h : VN P G f args d) (β : Heap) (ω : List Nat) {Φ : Out → Heap → List Nat → Prop} (hk : Φ (.ret d) β ω) : VC P G f args β ω Φ :=
  (VC.frame h (Part.nil β ω)).mono fun o β' ω' ⟨β1, ω1, ⟨h1, h2, h3⟩, _, _, h4, h5⟩ => by
    subst h1 h2 h3 h4 h5
    simpa using hk

end Go.Proofs.YtpblgfgcoamgmaaGreatV
namespace Go.Proofs.YtpblgfgcoamgmaaGreatV
open Go

variable {P : Program} {G : Heap} {n B : Nat} {K : Kn} {s s' : St} {a : Act} {w : World}

def Same (G : Heap) (s s' : St) (xs : List Operand) : Prop := ∀ x ∈ xs, s'.raw G x = s.raw G x

theorem Same.raws {xs : List Operand} (h : Same G s s' xs) : xs.map (s'.raw G) = xs.map (s.raw G) := List.map_congr_left h
theorem Same.argsT {xs : List Operand} (h : Same G s s' xs) : xs.map (s'.arg G) = xs.map (s.arg G) := List.map_congr_left fun x hx => by unfold St.arg; rw [h x hx]
theorem Same.evs {xs : List Operand} (h : Same G s s' xs) : xs.map (s'.ev G) = xs.map (s.ev G) := List.map_congr_left fun x hx => by unfold St.ev; rw [h x hx]
theorem Same.hass {xs : List Operand} (h : Same G s s' xs) : s'.hasAll G xs = s.hasAll G xs := by
  unfold St.hasAll St.has
  exact propext ⟨fun hh x hx => by rw [← h x hx]; exact hh x hx, fun hh x hx => by rw [h x hx]; exact hh x hx⟩
theorem Same.ev {x : Operand} {xs : List Operand} (h : Same G s s' xs) (hx : x ∈ xs) : s'.ev G x = s.ev G x := by unfold St.ev; rw [h x hx]
theorem Same.has {x : Operand} {xs : List Operand} (h : Same G s s' xs) (hx : x ∈ xs) : s'.has G x = s.has G x := by unfold St.has; rw [h x hx]
theorem Same.parts {ps : List (Nat × Operand)} (h : Same G s s' (ps.map (·.2))) : (ps.map fun p => (p.1, s'.ev G p.2)) = ps.map fun p => (p.1, s.ev G p.2) :=
  List.map_congr_left fun p hp => by
    have := h p.2 (List.mem_map.2 ⟨p, hp, rfl⟩)
    unfold St.ev
    rw [this]

def opers (o : Oper) : List Operand := o.op.operands.toList

theorem pv_same {o : Oper} (hb : s'.β = s.β) (h : Same G s s' (opers o)) : pv P G s' o = pv P G s o := by
  obtain ⟨dst, op, ty, pos, after, guard⟩ := o
  cases op <;> simp only [opers, Op.operands] at h <;> simp only [pv]
  case move x => rw [h x (by simp)]
  case assign x => rw [h x (by simp)]
  case pick c x y => rw [h.ev (x := c) (by simp), h.has (x := c) (by simp), h x (by simp), h y (by simp)]
  case load t x => rw [h.ev (x := x) (by simp), h.has (x := x) (by simp), hb]
  case nilCheck x => rw [h.ev (x := x) (by simp), h.has (x := x) (by simp)]
  case binOp op t x y u => rw [h.ev (x := x) (by simp), h.has (x := x) (by simp), h.ev (x := y) (by simp), h.has (x := y) (by simp)]
  case unOp op t x => rw [h.ev (x := x) (by simp), h.has (x := x) (by simp)]
  case convert t u x => rw [h.ev (x := x) (by simp), h.has (x := x) (by simp)]
  case makeInterface t x => rw [h.ev (x := x) (by simp), h.has (x := x) (by simp)]
  case typeAssert x xt t c => rw [h.ev (x := x) (by simp), h.has (x := x) (by simp)]
  case makeFunc fn f c =>
    have h1 : Same G s s' f.toList := fun x hx => h x (by simp at hx ⊢; exact .inl hx)
    have h2 : Same G s s' c.toList := fun x hx => h x (by simp at hx ⊢; exact .inr hx)
    rw [h1.raws, h2.raws]
  case slice t x lo hi mx =>
    have h1 : Same G s s' (lo.toList ++ hi.toList ++ mx.toList) := fun y hy => h y (by simp at hy ⊢; simp [hy])
    have e : ∀ z : Option Operand, Same G s s' z.toList → z.map (s'.ev G) = z.map (s.ev G) := fun z hz => by
      cases z with
      | none => rfl
      | some z => simp [hz.ev (x := z) (by simp)]
    rw [h.ev (x := x) (by simp), h.has (x := x) (by simp), h1.hass, e lo fun y hy => h1 y (by simp [hy]), e hi fun y hy => h1 y (by simp [hy]), e mx fun y hy => h1 y (by simp [hy])]
  case fieldAddr t x f => rw [h.ev (x := x) (by simp), h.has (x := x) (by simp)]
  case field t x f => rw [h.ev (x := x) (by simp), h.has (x := x) (by simp)]
  case indexAddr t x i => rw [h.ev (x := x) (by simp), h.has (x := x) (by simp), h.ev (x := i) (by simp), h.has (x := i) (by simp)]
  case index t x i => rw [h.ev (x := x) (by simp), h.has (x := x) (by simp), h.ev (x := i) (by simp), h.has (x := i) (by simp)]
  case extract x i => rw [h.ev (x := x) (by simp), h.has (x := x) (by simp)]
  case build t ps =>
    have h1 : Same G s s' (ps.toList.map (·.2)) := fun y hy => h y (by simpa using hy)
    rw [h1.hass, h1.parts]
  case call c =>
    have h1 : Same G s s' c.args.toList := fun x hx => h x (by simp only [Call.operands, Array.toList_append, List.mem_append]; exact .inr hx)
    cases c.callee <;> simp only [h1.evs, h1.hass]

inductive Cls where
  | e | r | c | t | a | s | no
  deriving DecidableEq

def cls : Op → Cls
  | .load .. => .r
  | .alloc _ | .box .. | .makeSlice .. => .a
  | .store .. => .s
  | .call c => match c.callee with
    | .value _ => .c
    | .builtin b => match b with
      | .append => .t
      | .copy => .no
      | _ => .e
    | .invoke _ _ => .no
  | .panic _ | .defer _ | .go _ => .no
  | _ => .e

def pu (P : Program) (G : Heap) (s : St) (o : Oper) : D × Prop :=
  match o.op with
  | .buildSlice t len parts => ((vlit P t len (parts.toList.map fun p => (p.1, s.ev G p.2))).1, s.hasAll G (parts.toList.map (·.2)) ∧ (vlit P t len (parts.toList.map fun p => (p.1, s.ev G p.2))).2)
  | _ => pv P G s o

def al (P : Program) (G : Heap) (s : St) (o : Oper) : Prop × List D × (Nat → D) :=
  match o.op with
  | .alloc t => ((zer P t).isSome = true, (zer P t).getD [], fun b => .pb b 0)
  | .box t x => (s.has G x ∧ (s.ev G x).whole = true, (s.ev G x).cells, fun b => .pb b 0)
  | .makeSlice t l c => match zel P t, s.ev G l, s.ev G c with
    | some (zs, y), .int _ l', .int _ c' => (s.has G l ∧ s.has G c ∧ 0 < zs.length ∧ 0 ≤ l' ∧ l' ≤ c' ∧ y * c'.toNat ≤ 281474976710656 ∧ c' ≤ 9223372036854775807, zeros zs c'.toNat, fun b => .so b 0 l'.toNat c'.toNat)
    | _, _, _ => (False, [], fun _ => .any)
  | _ => (False, [], fun _ => .any)

theorem pu_same {o : Oper} (hb : s'.β = s.β) (h : Same G s s' (opers o)) : pu P G s' o = pu P G s o := by
  unfold pu
  split
  · rename_i t len parts ho
    have h1 : Same G s s' (parts.toList.map (·.2)) := fun y hy => h y (by simp only [opers, ho, Op.operands]; simpa using hy)
    rw [h1.hass, h1.parts]
  · exact pv_same hb h

theorem pu_mem {o : Oper} (hc : cls o.op = .e) (β : Heap) (ω : List Nat) : pu P G { s with β, ω } o = pu P G s o := by
  obtain ⟨dst, op, ty, pos, after, guard⟩ := o
  cases op <;> first
    | rfl
    | (simp [cls] at hc)

theorem al_same {o : Oper} (h : Same G s s' (opers o)) : al P G s' o = al P G s o := by
  obtain ⟨dst, op, ty, pos, after, guard⟩ := o
  cases op <;> simp only [opers, Op.operands] at h <;> simp only [al]
  case box t x => rw [h.ev (x := x) (by simp), h.has (x := x) (by simp)]
  case makeSlice t l c => rw [h.ev (x := l) (by simp), h.has (x := l) (by simp), h.ev (x := c) (by simp), h.has (x := c) (by simp)]

theorem vstep_pu {o : Oper} {k pn : D → St → Prop} (hc : cls o.op = .e ∨ cls o.op = .r) : vstep P G s o k pn ↔ (pu P G s o).2 ∧ k (pu P G s o).1 s := by
  obtain ⟨dst, op, ty, pos, after, guard⟩ := o
  cases op
  case buildSlice t len parts => simp only [vstep, pu]; exact and_assoc.symm
  case call c =>
    obtain ⟨cal, args, ts⟩ := c
    cases cal
    case builtin b => cases b <;> first | exact Iff.rfl | (simp [cls] at hc)
    all_goals simp [cls] at hc
  all_goals first
    | exact Iff.rfl
    | (simp [cls] at hc)

theorem vstep_al {o : Oper} {k pn : D → St → Prop} (hc : cls o.op = .a) (h1 : (al P G s o).1) (h2 : ∀ b, s.β b = none → k ((al P G s o).2.2 b) { s with β := s.β.set b (al P G s o).2.1 }) : vstep P G s o k pn := by
  obtain ⟨dst, op, ty, pos, after, guard⟩ := o
  cases op
  case alloc t =>
    simp only [al] at h1 h2
    simp only [vstep]
    cases hz : zer P t with
    | none => simp [hz] at h1
    | some cs => simpa [hz] using h2
  case box t x => exact ⟨h1.1, h1.2, h2⟩
  case makeSlice t l c =>
    simp only [al] at h1 h2
    simp only [vstep]
    split at h1
    · rename_i zs y k1 l' k2 c' q1 q2 q3
      simp only [q1, q2, q3] at h2 ⊢
      obtain ⟨a1, a2, a3, a4, a5, a6, a7⟩ := h1
      exact ⟨a1, a2, a3, a4, a5, a6, a7, h2⟩
    · exact h1.elim
  case call c =>
    obtain ⟨cal, args, ts⟩ := c
    cases cal
    case builtin b => cases b <;> simp [cls] at hc
    all_goals simp [cls] at hc
  all_goals simp [cls] at hc

end Go.Proofs.YtpblgfgcoamgmaaGreatV
namespace Go.Proofs.YtpblgfgcoamgmaaGreatV
open Go

variable {P : Program} {G : Heap} {n B : Nat} {K : Kn} {s s' : St} {a : Act} {w : World}

abbrev Rd := Nat → Nat → Prop

def Fini (β : Heap) : Prop := ∃ N, ∀ b, N ≤ b → β b = none

theorem Fini.nil : Fini Heap.nil := ⟨0, fun _ _ => rfl⟩
theorem Fini.set {β : Heap} (h : Fini β) (b : Nat) (cs : List D) : Fini (β.set b cs) := by
  obtain ⟨N, h⟩ := h
  refine ⟨max N (b + 1), fun i hi => ?_⟩
  have : i ≠ b := by omega
  simp only [Heap.set, if_neg this]
  exact h i (by omega)
theorem Fini.fresh {β : Heap} (h : Fini β) : ∃ b, β b = none := let ⟨N, h⟩ := h; ⟨N, h N (Nat.le_refl N)⟩
theorem Fini.join {β β0 β1 : Heap} (h : Fini β) (h1 : Fini β1) : Fini (joinH β β0 β1) := by
  obtain ⟨N, h⟩ := h
  obtain ⟨M, h1⟩ := h1
  refine ⟨max N M, fun i hi => ?_⟩
  simp only [joinH, h1 i (by omega), h i (by omega)]
  split <;> rfl
theorem Rel.fini {β : Heap} {ω : List Nat} (h : Rel G K β ω w) : Fini β := ⟨w.heap.size, fun b hb => h.box_none hb⟩

theorem fresh_tok (ω : List Nat) : ∃ t, t ∉ ω := by
  have : ∀ (l : List Nat), ∃ N, ∀ t ∈ l, t < N := fun l => by
    induction l with
    | nil => exact ⟨0, fun t h => by simp at h⟩
    | cons x l ih =>
      obtain ⟨N, hN⟩ := ih
      refine ⟨max N (x + 1), fun t ht => ?_⟩
      rcases List.mem_cons.1 ht with rfl | ht
      · omega
      · have := hN t ht; omega
  obtain ⟨N, hN⟩ := this ω
  exact ⟨N, fun h => Nat.lt_irrefl _ (hN N h)⟩

def rdBox (G : Heap) (o : Oper) (s : St) : Option Nat :=
  match o.op with
  | .load _ x => match s.ev G x with
    | .pb b _ => some b
    | _ => none
  | _ => none

def rdUp (G : Heap) (o : Oper) (U : List Nat) (s : St) (rd : Rd) : Rd :=
  match rdBox G o s with
  | some b => fun i b' => rd i b' ∨ (i ∈ U ∧ b' = b)
  | none => rd

def ap (P : Program) (G : Heap) (s : St) (o : Oper) : Prop × (Nat → D) × Tk :=
  match o.op with
  | .call c => match c.args.toList, c.argTypes.toList with
    | [x, y], [t, u] => match elt P t, s.ev G x with
      | some (m, by_), .sl tk xs => (s.has G x ∧ s.has G y ∧ (vsrc P m u (s.ev G y)).2 ∧ tokOk m s.ω tk ∧ (∀ x ∈ xs, x.cells.length = m) ∧ (xs.length + (vsrc P m u (s.ev G y)).1.length) * by_ ≤ 140737488355328 ∧ 0 < by_,
          fun t' => .sl (.live t' m) (xs ++ (vsrc P m u (s.ev G y)).1), tk)
      | _, _ => (False, fun _ => .any, .none)
    | _, _ => (False, fun _ => .any, .none)
  | _ => (False, fun _ => .any, .none)

def wr (P : Program) (G : Heap) (s : St) (o : Oper) : Option (Nat × Prop × List D) :=
  match o.op with
  | .store t p x => match s.ev G p with
    | .pb b off => match s.β b with
      | some cs => some (b, (s.has G p ∧ s.has G x ∧ (s.ev G x).solid = true ∧ (lk P t).map (·.2) = some (s.ev G x).cells.length ∧ isObj cs = false ∧ off + (s.ev G x).cells.length ≤ cs.length), splice cs off (s.ev G x).cells)
      | none => none
    | _ => none
  | _ => none

def callD (P : Program) (G : Heap) (U : List Nat) (i : Nat) (c : Call) (f : Operand) (rd : Rd) (s : St) (k q : D → Heap → List Nat → Prop) : Prop :=
  ∃ β0 ω0 Φ0, Part β0 ω0 s.β s.ω ∧ (∀ b, rd i b → β0 b = none) ∧ s.has G f ∧ VCall P G (s.ev G f) (c.args.toList.map (s.arg G)) β0 ω0 Φ0 ∧
    (U ≠ [] → ∀ N, ∃ d β1 ω1, Φ0 (.ret d) β1 ω1 ∧ Fini β1 ∧ (∀ b, β1 b ≠ none → β0 b = none → N ≤ b ∧ s.β b = none) ∧ (∀ t, t ∈ ω1 → t ∉ ω0 → t ∉ s.ω)) ∧
    (∀ d β' ω', Framed s.β s.ω β0 ω0 Φ0 (.ret d) β' ω' → Fini β' → k d β' ω') ∧ (∀ d β' ω', Framed s.β s.ω β0 ω0 Φ0 (.pan d) β' ω' → Fini β' → q d β' ω')

def vdo (P : Program) (G : Heap) (U : List Nat) (i : Nat) (o : Oper) (rd : Rd) (s : St) (k q : D → Heap → List Nat → Prop) : Prop :=
  match cls o.op with
  | .e | .r => (pu P G s o).2 ∧ k (pu P G s o).1 s.β s.ω
  | .a => (al P G s o).1 ∧ ∀ b, s.β b = none → k ((al P G s o).2.2 b) (s.β.set b (al P G s o).2.1) s.ω
  | .t => (ap P G s o).1 ∧ ∀ t, t ∉ s.ω → k ((ap P G s o).2.1 t) s.β (t :: tokGone s.ω (ap P G s o).2.2)
  | .s => match wr P G s o with
    | some (b, c, cs) => ¬ rd i b ∧ c ∧ k .any (s.β.set b cs) s.ω
    | none => False
  | .c => match o.op with
    | .call c => match c.callee with
      | .value f => callD P G U i c f rd s k q
      | _ => False
    | _ => False
  | .no => False

def soft (o : Oper) : Bool := match cls o.op with
  | .e | .r | .a | .t => true
  | _ => false

theorem ap_same {o : Oper} (hw : s'.ω = s.ω) (h : Same G s s' (opers o)) : ap P G s' o = ap P G s o := by
  obtain ⟨dst, op, ty, pos, after, guard⟩ := o
  cases op
  case call c =>
    have h1 : Same G s s' c.args.toList := fun x hx => h x (by simp only [opers, Op.operands, Call.operands, Array.toList_append, List.mem_append]; exact .inr hx)
    simp only [ap]
    split
    · rename_i x y t u hx hy
      rw [hx] at h1
      rw [h1.ev (x := x) (by simp), h1.ev (x := y) (by simp), h1.has (x := x) (by simp), h1.has (x := y) (by simp), hw]
    · rfl
  all_goals rfl

theorem wr_same {o : Oper} (hb : s'.β = s.β) (h : Same G s s' (opers o)) : wr P G s' o = wr P G s o := by
  obtain ⟨dst, op, ty, pos, after, guard⟩ := o
  cases op
  case store t p x =>
    simp only [opers, Op.operands] at h
    simp only [wr]
    rw [h.ev (x := p) (by simp), h.ev (x := x) (by simp), h.has (x := p) (by simp), h.has (x := x) (by simp), hb]
  all_goals rfl

theorem vdo_move {U : List Nat} {i : Nat} {o : Oper} {rd rd' : Rd} {k q : D → Heap → List Nat → Prop} (hb : s'.β = s.β) (hw : s'.ω = s.ω) (h : Same G s s' (opers o)) (hrd : ∀ b, rd' i b → rd i b) (hf : Fini s.β) (hv : vdo P G U i o rd s k q) :
    vdo P G U i o rd' s' (fun d β ω => Fini β ∧ (∀ b cs, s.β b = some cs → rd i b ∨ soft o = true → β b = some cs) ∧ k d β ω) q := by
  unfold vdo at hv ⊢
  cases hc : cls o.op <;> simp only [hc] at hv ⊢
  case e => rw [pu_same hb h, hb, hw]; exact ⟨hv.1, hf, fun b cs hb _ => hb, hv.2⟩
  case r => rw [pu_same hb h, hb, hw]; exact ⟨hv.1, hf, fun b cs hb _ => hb, hv.2⟩
  case a =>
    rw [al_same h, hb, hw]
    refine ⟨hv.1, fun b h0 => ⟨hf.set b _, fun b' cs hb' _ => ?_, hv.2 b h0⟩⟩
    have : b' ≠ b := fun e => by rw [e, h0] at hb'; cases hb'
    simp only [Heap.set, if_neg this]
    exact hb'
  case t => rw [ap_same hw h, hb, hw]; exact ⟨hv.1, fun t h0 => ⟨hf, fun b cs hb _ => hb, hv.2 t h0⟩⟩
  case s =>
    rw [wr_same hb h]
    cases hwr : wr P G s o with
    | none => simp [hwr] at hv
    | some x =>
      obtain ⟨b, c, cs⟩ := x
      simp only [hwr] at hv ⊢
      rw [hb, hw]
      refine ⟨fun hr => hv.1 (hrd b hr), hv.2.1, hf.set b _, fun b' cs' hb' hk => ?_, hv.2.2⟩
      have : b' ≠ b := fun e => by
        rcases hk with hk | hk
        · exact hv.1 (e ▸ hk)
        · simp [soft, hc] at hk
      simp only [Heap.set, if_neg this]
      exact hb'
  case c =>
    split at hv
    · rename_i c ho
      split at hv
      · rename_i f hcal
        obtain ⟨β0, ω0, Φ0, h1, h2, h3, h4, h5, h6, h7⟩ := hv
        have hso : Same G s s' (f :: c.args.toList) := fun x hx => h x (by
          simp only [opers, ho, Op.operands, Call.operands, hcal]
          simpa using hx)
        have hsa : Same G s s' c.args.toList := fun x hx => hso x (List.mem_cons_of_mem _ hx)
        show callD P G U i c f rd' s' _ q
        refine ⟨β0, ω0, Φ0, by rw [hb, hw]; exact h1, fun b hr => h2 b (hrd b hr), by rw [hso.has (by simp)]; exact h3, by rw [hso.ev (by simp), hsa.argsT]; exact h4, by rw [hb, hw]; exact h5, ?_, by rw [hb, hw]; exact h7⟩
        rw [hb, hw]
        intro d β' ω' hF hfi
        refine ⟨hfi, fun b cs hb' hk => ?_, h6 d β' ω' hF hfi⟩
        rcases hk with hk | hk
        · obtain ⟨β1, ω1, q1, q2, q3, q4, q5⟩ := hF
          subst q4
          have h0 := h2 b hk
          have h1n : β1 b = none := by
            cases hx : β1 b with
            | none => rfl
            | some y => exact absurd (q2 b (by rw [hx]; simp) h0) (by rw [hb']; simp)
          simp only [joinH, h1n, h0]
          exact hb'
        · simp [soft, hc] at hk
      · exact hv.elim
    · exact hv.elim

theorem vdo_mono {U : List Nat} {i : Nat} {o : Oper} {rd : Rd} {k k' q q' : D → Heap → List Nat → Prop} (hk : ∀ d β ω, k d β ω → k' d β ω) (hq : ∀ d β ω, q d β ω → q' d β ω) (hv : vdo P G U i o rd s k q) : vdo P G U i o rd s k' q' := by
  unfold vdo at hv ⊢
  cases hc : cls o.op <;> simp only [hc] at hv ⊢
  case e => exact ⟨hv.1, hk _ _ _ hv.2⟩
  case r => exact ⟨hv.1, hk _ _ _ hv.2⟩
  case a => exact ⟨hv.1, fun b h0 => hk _ _ _ (hv.2 b h0)⟩
  case t => exact ⟨hv.1, fun b h0 => hk _ _ _ (hv.2 b h0)⟩
  case s =>
    split at hv
    · exact ⟨hv.1, hv.2.1, hk _ _ _ hv.2.2⟩
    · exact hv.elim
  case c =>
    split at hv
    · split at hv
      · obtain ⟨β0, ω0, Φ0, h1, h2, h3, h4, h5, h6, h7⟩ := hv
        exact ⟨β0, ω0, Φ0, h1, h2, h3, h4, h5, fun d β' ω' a b => hk _ _ _ (h6 d β' ω' a b), fun d β' ω' a b => hq _ _ _ (h7 d β' ω' a b)⟩
      · exact hv.elim
    · exact hv.elim


def vdop (P : Program) (G : Heap) (ops : Array Oper) (U : List Nat) (i : Nat) (o : Oper) (rd : Rd) (s : St) (k q : D → Heap → List Nat → Prop) : Prop :=
  match o.guard with
  | none => vdo P G U i o rd s k q
  | some g => match vguard s ops g with
    | some c => (∃ d, (c = true → vdo P G U i o rd s (fun d' β ω => d' = d ∧ β = s.β ∧ ω = s.ω) (fun _ _ _ => False)) ∧ k (D.wn c d) s.β s.ω) ∨ ((c = true → vdo P G U i o rd s k q) ∧ (c = false → k .any s.β s.ω))
    | none => False

structure Agree (G : Heap) (ops : Array Oper) (o : Oper) (s s' : St) : Prop where
  same : Same G s s' (opers o)
  guard : ∀ g, o.guard = some g → vguard s' ops g = vguard s ops g

theorem vdop_move {ops : Array Oper} {U : List Nat} {i : Nat} {o : Oper} {rd rd' : Rd} {k q : D → Heap → List Nat → Prop} (hb : s'.β = s.β) (hw : s'.ω = s.ω) (h : Agree G ops o s s') (hrd : ∀ b, rd' i b → rd i b) (hf : Fini s.β) (hv : vdop P G ops U i o rd s k q) :
    vdop P G ops U i o rd' s' (fun d β ω => Fini β ∧ (∀ b cs, s.β b = some cs → rd i b ∨ soft o = true → β b = some cs) ∧ k d β ω) q := by
  unfold vdop at hv ⊢
  split at hv
  · exact vdo_move hb hw h.same hrd hf hv
  · rename_i g hg
    simp only [h.guard g hg]
    split at hv
    · rename_i c hc
      rcases hv with ⟨d, h1, h2⟩ | ⟨h1, h2⟩
      · refine .inl ⟨d, fun hct => ?_, by rw [hb, hw]; exact ⟨hf, fun b cs hb _ => hb, h2⟩⟩
        have := vdo_move hb hw h.same hrd hf (h1 hct)
        rw [hb, hw]
        exact vdo_mono (fun d β ω hh => hh.2.2) (fun _ _ _ hh => hh) this
      · exact .inr ⟨fun hct => vdo_move hb hw h.same hrd hf (h1 hct), fun hcf => by rw [hb, hw]; exact ⟨hf, fun b cs hb _ => hb, h2 hcf⟩⟩
    · exact hv.elim

theorem vdop_mono {ops : Array Oper} {U : List Nat} {i : Nat} {o : Oper} {rd : Rd} {k k' q : D → Heap → List Nat → Prop} (hk : ∀ d β ω, k d β ω → k' d β ω) (hv : vdop P G ops U i o rd s k q) : vdop P G ops U i o rd s k' q := by
  unfold vdop at hv ⊢
  split at hv
  · exact vdo_mono hk (fun _ _ _ h => h) hv
  · split at hv
    · rcases hv with ⟨d, h1, h2⟩ | ⟨h1, h2⟩
      · exact .inl ⟨d, h1, hk _ _ _ h2⟩
      · exact .inr ⟨fun h => vdo_mono hk (fun _ _ _ h => h) (h1 h), fun h => hk _ _ _ (h2 h)⟩
    · exact hv

end Go.Proofs.YtpblgfgcoamgmaaGreatV
namespace Go.Proofs.YtpblgfgcoamgmaaGreatV
open Go

variable {P : Program} {G : Heap} {n B : Nat} {K : Kn} {s s' : St} {a : Act} {w : World} {ops : Array Oper}

def Yl (P : Program) (G : Heap) (ops : Array Oper) (o : Oper) (s : St) (d : D) : Prop :=
  match o.guard with
  | none => (pu P G s o).2 ∧ d = (pu P G s o).1
  | some g => match vguard s ops g with
    | some c => (∃ d0, (c = true → (pu P G s o).2 ∧ (pu P G s o).1 = d0) ∧ d = D.wn c d0) ∨ ((c = true → (pu P G s o).2 ∧ d = (pu P G s o).1) ∧ (c = false → d = .any))
    | none => False

theorem vdo_pure {U : List Nat} {i : Nat} {o : Oper} {rd : Rd} {k q : D → Heap → List Nat → Prop} (hc : cls o.op = .e ∨ cls o.op = .r) : vdo P G U i o rd s k q ↔ (pu P G s o).2 ∧ k (pu P G s o).1 s.β s.ω := by
  unfold vdo
  rcases hc with hc | hc <;> simp only [hc]

theorem vdop_pure {U : List Nat} {i : Nat} {o : Oper} {rd : Rd} {k q : D → Heap → List Nat → Prop} (hc : cls o.op = .e ∨ cls o.op = .r) : vdop P G ops U i o rd s k q ↔ ∃ d, Yl P G ops o s d ∧ k d s.β s.ω := by
  unfold vdop Yl
  cases hg : o.guard with
  | none =>
    simp only [vdo_pure hc]
    exact ⟨fun ⟨h1, h2⟩ => ⟨_, ⟨h1, rfl⟩, h2⟩, fun ⟨d, ⟨h1, h2⟩, h3⟩ => ⟨h1, h2 ▸ h3⟩⟩
  | some g =>
    simp only
    cases hv : vguard s ops g with
    | none => simp
    | some c =>
      simp only [vdo_pure hc]
      constructor
      · rintro (⟨d, h1, h2⟩ | ⟨h1, h2⟩)
        · exact ⟨D.wn c d, .inl ⟨d, fun h => ⟨(h1 h).1, (h1 h).2.1⟩, rfl⟩, h2⟩
        · cases c with
          | true => exact ⟨_, .inr ⟨fun _ => ⟨(h1 rfl).1, rfl⟩, fun h => by cases h⟩, (h1 rfl).2⟩
          | false => exact ⟨.any, .inr ⟨fun h => (by cases h), fun _ => rfl⟩, h2 rfl⟩
      · rintro ⟨d, ⟨d0, h1, rfl⟩ | ⟨h1, h2⟩, h3⟩
        · exact .inl ⟨d0, fun h => ⟨(h1 h).1, (h1 h).2, trivial, trivial⟩, h3⟩
        · refine .inr ⟨fun h => ⟨(h1 h).1, (h1 h).2 ▸ h3⟩, fun h => h2 h ▸ h3⟩

theorem vload_keep {β β' : Heap} {t : TypeId} {d : D} (h : (vloadAt P β t d).2) (hk : ∀ b off cs, d = .pb b off → β b = some cs → β' b = some cs) : vloadAt P β' t d = vloadAt P β t d := by
  unfold vloadAt at h ⊢
  split
  · rename_i b o
    simp only at h
    cases hb : β b with
    | none => simp [hb] at h
    | some cs => rw [hk b o cs rfl hb]
  · rfl
  · rfl

theorem cls_r {o : Oper} (hc : cls o.op = .r) : ∃ t x, o.op = .load t x := by
  obtain ⟨dst, op, ty, pos, after, guard⟩ := o
  cases op
  case load t x => exact ⟨t, x, rfl⟩
  case call c =>
    obtain ⟨cal, args, ts⟩ := c
    cases cal
    case builtin b => cases b <;> simp [cls] at hc
    all_goals simp [cls] at hc
  all_goals simp [cls] at hc

theorem pu_keep {o : Oper} (hc : cls o.op = .e ∨ cls o.op = .r) (h : Same G s s' (opers o)) (hk : ∀ t x b off cs, o.op = .load t x → s.ev G x = .pb b off → s.β b = some cs → s'.β b = some cs) (h2 : (pu P G s o).2) : pu P G s' o = pu P G s o := by
  have e : pu P G s' o = pu P G { s with β := s'.β, ω := s'.ω } o := pu_same rfl h
  rcases hc with hc | hc
  · rw [e, pu_mem hc]
  · obtain ⟨t, x, ho⟩ := cls_r hc
    rw [e]
    simp only [pu, ho, pv] at h2 ⊢
    have : ({ s with β := s'.β, ω := s'.ω } : St).ev G x = s.ev G x := rfl
    rw [this, vload_keep h2.2 fun b off cs hd hb => hk t x b off cs ho hd hb]
    rfl

theorem Yl.keep {o : Oper} {d : D} (hc : cls o.op = .e ∨ cls o.op = .r) (h : Agree G ops o s s') (hk : ∀ t x b off cs, o.op = .load t x → s.ev G x = .pb b off → s.β b = some cs → s'.β b = some cs) (hy : Yl P G ops o s d) : Yl P G ops o s' d := by
  unfold Yl at hy ⊢
  cases hg : o.guard with
  | none =>
    simp only [hg] at hy ⊢
    rw [pu_keep hc h.same hk hy.1]
    exact hy
  | some g =>
    simp only [hg] at hy ⊢
    rw [h.guard g hg]
    cases hv : vguard s ops g with
    | none => simp [hv] at hy
    | some c =>
      simp only [hv] at hy ⊢
      cases c with
      | true =>
        rcases hy with ⟨d0, h1, h2⟩ | ⟨h1, h2⟩
        · have := h1 rfl
          rw [pu_keep hc h.same hk this.1]
          exact .inl ⟨d0, h1, h2⟩
        · have := h1 rfl
          rw [pu_keep hc h.same hk this.1]
          exact .inr ⟨h1, h2⟩
      | false =>
        rcases hy with ⟨d0, h1, h2⟩ | ⟨h1, h2⟩
        · exact .inl ⟨d0, fun h => (by cases h), h2⟩
        · exact .inr ⟨fun h => (by cases h), h2⟩


theorem raw_put {dst : Option Tmp} {d : D} {x : Operand} (h : ∀ t, dst = some t → x ≠ .tmp t) : (s.put dst d).raw G x = s.raw G x := by
  cases dst with
  | none => rfl
  | some t =>
    cases x with
    | tmp u =>
      have hne : u ≠ t := fun e => h t rfl (e ▸ rfl)
      simp [St.raw, St.put, hne]
    | _ => rfl

theorem raw_σ {x : Operand} (h : s'.σ = s.σ) : s'.raw G x = s.raw G x := by
  cases x <;> simp [St.raw, h]

theorem agree_put {o : Oper} {dst : Option Tmp} {d : D} (hσ : s'.σ = s.σ) (h : ∀ t, dst = some t → t ∉ o.looksAt ops) : Agree G ops o s (s'.put dst d) := by
  refine ⟨fun x hx => ?_, fun g hg => ?_⟩
  · rw [raw_put fun t ht e => h t ht (by
      subst e
      exact List.mem_append_left _ (List.mem_filterMap.2 ⟨.tmp t, hx, rfl⟩)), raw_σ hσ]
  · unfold vguard
    cases hd : (ops[g.1]?).bind (·.dst) with
    | none => rfl
    | some t =>
      simp only
      have : (s'.put dst d).σ t = s.σ t := by
        cases dst with
        | none => simp [hσ]
        | some u =>
          have hne : t ≠ u := fun e => h u rfl (by
            subst e
            obtain ⟨g1, g2⟩ := g
            simp only at hd
            simp [Oper.looksAt, hg, hd])
          simp [St.put, hne, hσ]
      rw [this]

theorem put_comm {x y : Option Tmp} {d e : D} (h : ∀ t, x = some t → y ≠ some t) : (s.put x d).put y e = (s.put y e).put x d := by
  cases x with
  | none => rfl
  | some t =>
    cases y with
    | none => rfl
    | some u =>
      have hne : t ≠ u := fun he => h t rfl (he ▸ rfl)
      simp only [St.put]
      congr 1
      funext i
      split <;> split <;> simp_all

theorem put_mem {dst : Option Tmp} {d : D} (β : Heap) (ω : List Nat) : ({ s with β, ω } : St).put dst d = { s.put dst d with β, ω } := by
  cases dst <;> rfl

theorem put_swap {x y : Option Tmp} {d e : D} {β : Heap} {ω : List Nat} (h : ∀ t, x = some t → y ≠ some t) : (({ s with β, ω } : St).put y e).put x d = ({ s.put x d with β, ω } : St).put y e := by
  rw [← put_comm h]
  exact congrArg (fun z => St.put z y e) (put_mem β ω)


abbrev Ent := Nat × List Nat

def step (P : Program) (G : Heap) (ops : Array Oper) (q : D → Heap → List Nat → Prop) (e : Ent) (K : Rd → St → Prop) (rd : Rd) (s : St) : Prop :=
  match ops[e.1]? with
  | none => False
  | some o => vdop P G ops e.2 e.1 o rd s (fun d β ω => K (rdUp G o e.2 s rd) (({ s with β, ω } : St).put o.dst d)) q

def quietKind (o : Oper) : Bool := match cls o.op with
  | .e | .a => true
  | _ => false

def okPair (ops : Array Oper) (e1 e2 : Ent) : Bool :=
  match ops[e1.1]?, ops[e2.1]? with
  | some o1, some o2 => o1.apart ops o2 && match cls o1.op with
    | .e => true
    | .r => soft o2 || e1.2.contains e2.1
    | .c => o1.guard.isNone && o2.guard.isNone && e1.2.contains e2.1 && quietKind o2
    | .a | .t => o1.guard.isNone && o2.guard.isNone && quietKind o2
    | .s => o1.guard.isNone && o2.guard.isNone && cls o2.op == .e
    | .no => false
  | _, _ => false

section
variable {q : D → Heap → List Nat → Prop} {Kt Kt' : Rd → St → Prop} {rd : Rd} {e1 e2 : Ent}

theorem step_mono {e : Ent} (hf : Fini s.β) (hk : ∀ rd s, Fini s.β → Kt rd s → Kt' rd s) (h : step P G ops q e Kt rd s) : step P G ops q e Kt' rd s := by
  unfold step at h ⊢
  split at h
  · exact h.elim
  · rename_i o ho
    have := vdop_move (s' := s) rfl rfl ⟨fun _ _ => rfl, fun _ _ => rfl⟩ (fun _ h => h) hf h
    exact vdop_mono (fun d β ω hh => hk _ _ (by simpa using hh.1) hh.2.2) this

theorem rdBox_same {o : Oper} (h : Same G s s' (opers o)) : rdBox G o s' = rdBox G o s := by
  unfold rdBox
  split
  · rename_i t x ho
    rw [h.ev (x := x) (by simp [opers, ho, Op.operands])]
  · rfl

theorem rdUp_same {o : Oper} {U : List Nat} (h : Same G s s' (opers o)) : rdUp G o U s' rd = rdUp G o U s rd := by
  unfold rdUp
  rw [rdBox_same h]

theorem rdUp_le {o : Oper} {U : List Nat} {i b : Nat} (h : rd i b) : rdUp G o U s rd i b := by
  unfold rdUp
  cases rdBox G o s with
  | none => exact h
  | some x => exact .inl h

theorem rdUp_comm {o o' : Oper} {U U' : List Nat} : rdUp G o U s (rdUp G o' U' s' rd) = rdUp G o' U' s' (rdUp G o U s rd) := by
  unfold rdUp
  cases rdBox G o s <;> cases rdBox G o' s' <;> try rfl
  funext i b
  exact propext ⟨fun h => by rcases h with (h | h) | h <;> simp [h], fun h => by rcases h with (h | h) | h <;> simp [h]⟩

theorem swap_pure {o1 o2 : Oper} (h1 : ops[e1.1]? = some o1) (h2 : ops[e2.1]? = some o2) (hc : cls o1.op = .e ∨ cls o1.op = .r) (hap : o1.apart ops o2 = true) (hr : cls o1.op = .r → soft o2 = true ∨ e2.1 ∈ e1.2) (hf : Fini s.β)
    (h : step P G ops q e1 (step P G ops q e2 Kt) rd s) : step P G ops q e2 (step P G ops q e1 Kt) rd s := by
  obtain ⟨a1, a2, a3⟩ := Oper.apart_spec hap
  simp only [step, h1, h2] at h ⊢
  rw [vdop_pure hc] at h
  obtain ⟨d, hy, h⟩ := h
  have hag : Agree G ops o2 s (({ s with β := s.β, ω := s.ω } : St).put o1.dst d) := agree_put rfl a1
  have hag' : Agree G ops o2 (({ s with β := s.β, ω := s.ω } : St).put o1.dst d) s := ⟨fun x hx => (hag.same x hx).symm, fun g hg => (hag.guard g hg).symm⟩
  have hm := vdop_move (s' := s) (rd' := rd) (by simp) (by simp) hag' (fun b hb => rdUp_le hb) (by simpa using hf) h
  refine vdop_mono (fun d2 β ω hh => ?_) hm
  obtain ⟨hfi, hkeep, hK⟩ := hh
  rw [vdop_pure hc]
  have hag1 : Agree G ops o1 s (({ s with β, ω } : St).put o2.dst d2) := agree_put rfl a3
  refine ⟨d, Yl.keep hc hag1 (fun t x b off cs ho hev hb => ?_) hy, ?_⟩
  · simp only [St.put_β]
    refine hkeep b cs (by simpa using hb) ?_
    have hcr : cls o1.op = .r := by simp [ho, cls]
    rcases hr hcr with hs | hu
    · exact .inr hs
    · refine .inl ?_
      simp only [rdUp, rdBox, ho, hev]
      exact .inr ⟨hu, trivial⟩
  · have e1 : rdUp G o1 e1.2 (({ s with β, ω } : St).put o2.dst d2) (rdUp G o2 e2.2 s rd) = rdUp G o2 e2.2 (({ s with β := s.β, ω := s.ω } : St).put o1.dst d) (rdUp G o1 e1.2 s rd) := by
      rw [rdUp_same hag1.same, rdUp_same hag.same, rdUp_comm]
    rw [e1]
    show Kt _ ((({ s with β, ω } : St).put o2.dst d2).put o1.dst d)
    rw [put_swap a2]
    exact hK
end

end Go.Proofs.YtpblgfgcoamgmaaGreatV
namespace Go.Proofs.YtpblgfgcoamgmaaGreatV
open Go

variable {P : Program} {G : Heap} {n B : Nat} {K : Kn} {s s' : St} {a : Act} {w : World} {ops : Array Oper}
variable {q : D → Heap → List Nat → Prop} {Kt Kt' : Rd → St → Prop} {rd : Rd} {e1 e2 : Ent}

theorem set_comm {β : Heap} {b c : Nat} {cs ds : List D} (h : b ≠ c) : (β.set b cs).set c ds = (β.set c ds).set b cs := by
  funext i
  simp only [Heap.set]
  split <;> split <;> simp_all

theorem set_none {β : Heap} {b c : Nat} {cs : List D} (h : (β.set b cs) c = none) : c ≠ b ∧ β c = none := by
  unfold Heap.set at h
  split at h
  · cases h
  · exact ⟨by assumption, h⟩

theorem Fini.unset {β : Heap} {b : Nat} {cs : List D} (h : Fini (β.set b cs)) : Fini β := by
  obtain ⟨N, h⟩ := h
  exact ⟨N, fun i hi => (set_none (h i hi)).2⟩

theorem vdo_inh {U : List Nat} {i : Nat} {o : Oper} {k : D → Heap → List Nat → Prop} (hc : cls o.op = .a ∨ cls o.op = .t ∨ cls o.op = .s ∨ (cls o.op = .c ∧ U ≠ [])) (hf : Fini s.β) (hv : vdo P G U i o rd s k q) : ∃ d β ω, k d β ω := by
  unfold vdo at hv
  rcases hc with hc | hc | hc | ⟨hc, hU⟩ <;> simp only [hc] at hv
  · obtain ⟨b, hb⟩ := hf.fresh
    exact ⟨_, _, _, hv.2 b hb⟩
  · obtain ⟨t, ht⟩ := fresh_tok s.ω
    exact ⟨_, _, _, hv.2 t ht⟩
  · split at hv
    · exact ⟨_, _, _, hv.2.2⟩
    · exact hv.elim
  · split at hv
    · split at hv
      · obtain ⟨β0, ω0, Φ0, h1, h2, h3, h4, h5, h6, h7⟩ := hv
        obtain ⟨d, β1, ω1, r1, r2, r3, r4⟩ := h5 hU 0
        exact ⟨_, _, _, h6 d _ _ ⟨β1, ω1, r1, fun b hb h0 => (r3 b hb h0).2, r4, rfl, rfl⟩ (hf.join r2)⟩
      · exact hv.elim
    · exact hv.elim

theorem vdo_set {U : List Nat} {i : Nat} {o : Oper} {k k' : D → Heap → List Nat → Prop} {b : Nat} {cs : List D} (hc : cls o.op = .a ∨ cls o.op = .t ∨ cls o.op = .c) (hb : s.β b = none) (hk : ∀ d β ω, β b = none → k d β ω → k' d (β.set b cs) ω)
    (hq : ∀ d β ω, β b = none → q d β ω → q d (β.set b cs) ω) (hv : vdo P G U i o rd s k q) : vdo P G U i o rd { s with β := s.β.set b cs } k' q := by
  unfold vdo at hv ⊢
  rcases hc with hc | hc | hc <;> simp only [hc] at hv ⊢
  · have e : al P G { s with β := s.β.set b cs } o = al P G s o := al_same fun x _ => raw_σ rfl
    rw [e]
    refine ⟨hv.1, fun b1 h1 => ?_⟩
    obtain ⟨h2, h3⟩ := set_none h1
    have h4 := hk _ (s.β.set b1 (al P G s o).2.1) _ (by simp only [Heap.set, if_neg (Ne.symm h2)]; exact hb) (hv.2 b1 h3)
    rw [set_comm (Ne.symm h2)]
    exact h4
  · have e : ap P G { s with β := s.β.set b cs } o = ap P G s o := ap_same rfl fun x _ => raw_σ rfl
    rw [e]
    exact ⟨hv.1, fun t ht => hk _ _ _ hb (hv.2 t ht)⟩
  · split at hv
    · rename_i c ho
      split at hv
      · rename_i f hcal
        obtain ⟨β0, ω0, Φ0, h1, h2, h3, h4, h5, h6, h7⟩ := hv
        have hb0 : β0 b = none := h1.none hb
        have hfr : ∀ o β' ω', Framed (s.β.set b cs) s.ω β0 ω0 Φ0 o β' ω' → ∃ β1, β1 b = none ∧ β' = β1.set b cs ∧ Framed s.β s.ω β0 ω0 Φ0 o β1 ω' := fun o β' ω' ⟨β1, ω1, r1, r2, r3, r4, r5⟩ => by
          have hn : β1 b = none := by
            cases hx : β1 b with
            | none => rfl
            | some y => exact absurd rfl (set_none (r2 b (by rw [hx]; simp) hb0)).1
          refine ⟨joinH s.β β0 β1, by simp only [joinH, hn, hb0, hb], ?_, β1, ω1, r1, fun b' hb' h0 => (set_none (r2 b' hb' h0)).2, r3, rfl, r5⟩
          rw [r4]
          funext j
          unfold joinH Heap.set
          by_cases hj : j = b
          · subst hj
            simp only [hn, hb0, if_true]
          · simp only [if_neg hj]
        show callD P G U i c f rd { s with β := s.β.set b cs } k' q
        refine ⟨β0, ω0, Φ0, ⟨fun b' cs' hb' => ?_, h1.tok⟩, h2, h3, ?_, fun hU N => ?_, fun d β' ω' hF hfi => ?_, fun d β' ω' hF hfi => ?_⟩
        · have : b' ≠ b := fun e => by rw [e, hb0] at hb'; cases hb'
          simp only [Heap.set, if_neg this]
          exact h1.box b' cs' hb'
        · exact h4
        · obtain ⟨d, β1, ω1, r1, r2, r3, r4⟩ := h5 hU (max N (b + 1))
          refine ⟨d, β1, ω1, r1, r2, fun b' hb' h0 => ?_, r4⟩
          obtain ⟨r5, r6⟩ := r3 b' hb' h0
          have : b' ≠ b := by omega
          exact ⟨by omega, by simp only [Heap.set, if_neg this]; exact r6⟩
        · obtain ⟨β1, r1, r2, r3⟩ := hfr _ _ _ hF
          subst r2
          exact hk _ _ _ r1 (h6 d β1 ω' r3 hfi.unset)
        · obtain ⟨β1, r1, r2, r3⟩ := hfr _ _ _ hF
          subst r2
          exact hq _ _ _ r1 (h7 d β1 ω' r3 hfi.unset)
      · exact hv.elim
    · exact hv.elim

theorem rdBox_none {o : Oper} (h : cls o.op ≠ .r) : rdBox G o s = none := by
  obtain ⟨dst, op, ty, pos, after, guard⟩ := o
  cases op <;> first
    | rfl
    | exact absurd rfl h

theorem rdUp_none {o : Oper} {U : List Nat} (h : cls o.op ≠ .r) : rdUp G o U s rd = rd := by
  unfold rdUp
  rw [rdBox_none h]

theorem swap_back {o1 o2 : Oper} (h1 : ops[e1.1]? = some o1) (h2 : ops[e2.1]? = some o2) (g1 : o1.guard = none) (g2 : o2.guard = none) (hc : cls o1.op = .a ∨ cls o1.op = .t ∨ cls o1.op = .s ∨ (cls o1.op = .c ∧ e1.2 ≠ [])) (hc2 : cls o2.op = .e)
    (hap : o1.apart ops o2 = true) (hf : Fini s.β) (h : step P G ops q e1 (step P G ops q e2 Kt) rd s) : step P G ops q e2 (step P G ops q e1 Kt) rd s := by
  obtain ⟨a1, a2, a3⟩ := Oper.apart_spec hap
  have n1 : cls o1.op ≠ .r := fun e => by rw [e] at hc; simp at hc
  have n2 : cls o2.op ≠ .r := by rw [hc2]; simp
  simp only [step, h1, h2, vdop, g1, g2, rdUp_none n1, rdUp_none n2] at h ⊢
  have hpu : ∀ d β ω, pu P G (({ s with β, ω } : St).put o1.dst d) o2 = pu P G s o2 := fun d β ω => by
    have hag : Agree G ops o2 ({ s with β, ω } : St) (({ s with β, ω } : St).put o1.dst d) := agree_put rfl a1
    rw [pu_same (by simp) hag.same, pu_mem hc2]
  have h' : vdo P G e1.2 e1.1 o1 rd s (fun d β ω => (pu P G s o2).2 ∧ Kt rd ((({ s with β, ω } : St).put o1.dst d).put o2.dst (pu P G s o2).1)) q := by
    refine vdo_mono (fun d β ω hh => ?_) (fun _ _ _ hh => hh) h
    rw [vdo_pure (.inl hc2), hpu] at hh
    exact hh
  obtain ⟨_, _, _, hpu2, _⟩ := vdo_inh hc hf h'
  rw [vdo_pure (.inl hc2)]
  refine ⟨hpu2, ?_⟩
  have hag : Agree G ops o1 s (({ s with β := s.β, ω := s.ω } : St).put o2.dst (pu P G s o2).1) := agree_put rfl a3
  refine vdo_mono (fun d β ω hh => ?_) (fun _ _ _ hh => hh) (vdo_move (s' := (({ s with β := s.β, ω := s.ω } : St).put o2.dst (pu P G s o2).1)) (by simp) (by simp) hag.same (fun _ hb => hb) hf h')
  have h3 := hh.2.2.2
  rw [put_swap fun t ht e => a2 t e ht] at h3
  exact h3

theorem vdo_new {U : List Nat} {i : Nat} {o : Oper} {k : D → Heap → List Nat → Prop} (hc : cls o.op = .a) : vdo P G U i o rd s k q ↔ (al P G s o).1 ∧ ∀ b, s.β b = none → k ((al P G s o).2.2 b) (s.β.set b (al P G s o).2.1) s.ω := by
  unfold vdo
  simp only [hc]

theorem swap_new {o1 o2 : Oper} (hq : ∀ d β ω b cs, β b = none → q d β ω → q d (β.set b cs) ω) (h1 : ops[e1.1]? = some o1) (h2 : ops[e2.1]? = some o2) (g1 : o1.guard = none) (g2 : o2.guard = none) (hc : cls o1.op = .a ∨ cls o1.op = .t ∨ (cls o1.op = .c ∧ e1.2 ≠ []))
    (hc2 : cls o2.op = .a) (hap : o1.apart ops o2 = true) (hf : Fini s.β) (h : step P G ops q e1 (step P G ops q e2 Kt) rd s) : step P G ops q e2 (step P G ops q e1 Kt) rd s := by
  obtain ⟨a1, a2, a3⟩ := Oper.apart_spec hap
  have n1 : cls o1.op ≠ .r := fun e => by rw [e] at hc; simp at hc
  have n2 : cls o2.op ≠ .r := by rw [hc2]; simp
  simp only [step, h1, h2, vdop, g1, g2, rdUp_none n1, rdUp_none n2] at h ⊢
  have hal : ∀ d β ω, al P G (({ s with β, ω } : St).put o1.dst d) o2 = al P G s o2 := fun d β ω => by
    have hag : Agree G ops o2 s (({ s with β, ω } : St).put o1.dst d) := agree_put rfl a1
    exact al_same hag.same
  have h' : vdo P G e1.2 e1.1 o1 rd s (fun d β ω => (al P G s o2).1 ∧ ∀ b, β b = none → Kt rd (({ ({ s with β, ω } : St).put o1.dst d with β := β.set b (al P G s o2).2.1, ω } : St).put o2.dst ((al P G s o2).2.2 b))) q := by
    refine vdo_mono (fun d β ω hh => ?_) (fun _ _ _ hh => hh) h
    rw [vdo_new hc2, hal] at hh
    simp only [St.put_β, St.put_ω] at hh
    exact hh
  obtain ⟨_, _, _, hal2, _⟩ := vdo_inh (by rcases hc with hc | hc | hc <;> simp [hc]) hf h'
  rw [vdo_new hc2]
  refine ⟨hal2, fun b hb => ?_⟩
  have hs := vdo_set (b := b) (cs := (al P G s o2).2.1) (k' := fun d β ω => Kt rd ((({ s with β, ω } : St).put o1.dst d).put o2.dst ((al P G s o2).2.2 b))) (by rcases hc with hc | hc | hc <;> simp [hc]) hb (fun d β ω hn hh => by
    have e : ({ ({ s with β, ω } : St).put o1.dst d with β := β.set b (al P G s o2).2.1, ω } : St) = ({ s with β := β.set b (al P G s o2).2.1, ω } : St).put o1.dst d := by cases o1.dst <;> rfl
    have := hh.2 b hn
    rw [e] at this
    exact this) (fun d β ω hn hh => hq d β ω b _ hn hh) h'
  have hag : Agree G ops o1 ({ s with β := s.β.set b (al P G s o2).2.1 } : St) (({ s with β := s.β.set b (al P G s o2).2.1, ω := s.ω } : St).put o2.dst ((al P G s o2).2.2 b)) := agree_put rfl a3
  refine vdo_mono (fun d β ω hh => ?_) (fun _ _ _ hh => hh) (vdo_move (s' := (({ s with β := s.β.set b (al P G s o2).2.1, ω := s.ω } : St).put o2.dst ((al P G s o2).2.2 b))) (by simp) (by simp) hag.same (fun _ hb => hb) (hf.set b _) hs)
  have h3 := hh.2.2
  rw [put_swap fun t ht e => a2 t e ht] at h3
  have e : ({ s.put o2.dst ((al P G s o2).2.2 b) with β, ω } : St) = { ({ s with β := s.β.set b (al P G s o2).2.1, ω := s.ω } : St).put o2.dst ((al P G s o2).2.2 b) with β, ω } := by cases o2.dst <;> rfl
  rw [e] at h3
  exact h3

theorem swap (hq : ∀ d β ω b cs, β b = none → q d β ω → q d (β.set b cs) ω) (hp : okPair ops e1 e2 = true) (hf : Fini s.β) (h : step P G ops q e1 (step P G ops q e2 Kt) rd s) : step P G ops q e2 (step P G ops q e1 Kt) rd s := by
  unfold okPair at hp
  split at hp
  · rename_i o1 o2 h1 h2
    simp only [Bool.and_eq_true] at hp
    obtain ⟨hap, hp⟩ := hp
    cases hc : cls o1.op <;> simp only [hc, Bool.and_eq_true, Option.isNone_iff_eq_none, Bool.or_eq_true, beq_iff_eq, List.contains_iff_mem, Bool.false_eq_true] at hp
    case e => exact swap_pure h1 h2 (.inl hc) hap (fun e => by rw [hc] at e; cases e) hf h
    case r => exact swap_pure h1 h2 (.inr hc) hap (fun _ => by simpa using hp) hf h
    case s => exact swap_back h1 h2 hp.1.1 hp.1.2 (by simp [hc]) hp.2 hap hf h
    case c =>
      obtain ⟨⟨⟨g1, g2⟩, hU⟩, hk⟩ := hp
      have hU : e1.2 ≠ [] := fun e => by rw [e] at hU; simp at hU
      unfold quietKind at hk
      split at hk
      · exact swap_back h1 h2 g1 g2 (by simp [hc, hU]) (by assumption) hap hf h
      · exact swap_new hq h1 h2 g1 g2 (by simp [hc, hU]) (by assumption) hap hf h
      · cases hk
    case t =>
      obtain ⟨⟨g1, g2⟩, hk⟩ := hp
      unfold quietKind at hk
      split at hk
      · exact swap_back h1 h2 g1 g2 (by simp [hc]) (by assumption) hap hf h
      · exact swap_new hq h1 h2 g1 g2 (by simp [hc]) (by assumption) hap hf h
      · cases hk
    case a =>
      obtain ⟨⟨g1, g2⟩, hk⟩ := hp
      unfold quietKind at hk
      split at hk
      · exact swap_back h1 h2 g1 g2 (by simp [hc]) (by assumption) hap hf h
      · exact swap_new hq h1 h2 g1 g2 (by simp [hc]) (by assumption) hap hf h
      · cases hk
  · cases hp

end Go.Proofs.YtpblgfgcoamgmaaGreatV
namespace Go.Proofs.YtpblgfgcoamgmaaGreatV
open Go

variable {P : Program} {G : Heap} {n : Nat} {B : Bs} {K : Kn} {s s' : St} {a : Act} {w : World} {ops : Array Oper}


theorem Back.fini {Φ : Out → Heap → List Nat → Prop} {β : Heap} {ω : List Nat} {e : Ending} {w' : World} (hb : Back G Φ K β ω w e w') : Back G (fun o β' ω' => Φ o β' ω' ∧ Fini β') K β ω w e w' :=
  let ⟨K', o, β', ω', h1, h2, h3, h4⟩ := hb
  ⟨K', o, β', ω', h1, ⟨h2, h3.fini⟩, h3, h4⟩

theorem VCall.fini {d : D} {args : List D} {β : Heap} {ω : List Nat} {Φ : Out → Heap → List Nat → Prop} (hc : VCall P G d args β ω Φ) : VCall P G d args β ω (fun o β' ω' => Φ o β' ω' ∧ Fini β') := by
  unfold VCall at hc ⊢
  split at hc
  · exact fun K w vargs hr ha => (hc K w vargs hr ha).mono fun e w' hb => hb.fini
  · exact fun K w vargs hr ha => let ⟨f, t, as, b, h1, h2⟩ := hc K w vargs hr ha; ⟨f, t, as, b, h1, h2.mono fun e w' hb => hb.fini⟩
  · exact hc.elim

theorem vdo_vstep {U : List Nat} {i : Nat} {o : Oper} {rd : Rd} {k q : D → Heap → List Nat → Prop} {k' q' : D → St → Prop} (hk : ∀ d β ω, k d β ω → k' d { s with β, ω }) (hq : ∀ d β ω, q d β ω → q' d { s with β, ω }) (hv : vdo P G U i o rd s k q) : vstep P G s o k' q' := by
  unfold vdo at hv
  cases hc : cls o.op <;> simp only [hc] at hv
  case e => exact (vstep_pu (.inl hc)).2 ⟨hv.1, hk _ _ _ hv.2⟩
  case r => exact (vstep_pu (.inr hc)).2 ⟨hv.1, hk _ _ _ hv.2⟩
  case a => exact vstep_al hc hv.1 fun b hb => hk _ _ _ (hv.2 b hb)
  case t =>
    obtain ⟨dst, op, ty, pos, after, guard⟩ := o
    cases op
    case call c =>
      obtain ⟨cal, args, ts⟩ := c
      cases cal
      case builtin b =>
        cases b <;> simp [cls] at hc
        simp only [ap] at hv
        simp only [vstep]
        split at hv
        · rename_i x y t u hx ht
          try simp only [hx, ht]
          split at hv
          · rename_i m by_ tk xs h1 h2
            simp only [h1, h2]
            obtain ⟨⟨a1, a2, a3, a4, a5, a6, a7⟩, a8⟩ := hv
            rw [srcOf_vsrc a3]
            exact ⟨a1, a2, a3, a4, a5, a6, a7, fun t' ht' => hk _ _ _ (a8 t' ht')⟩
          · exact hv.1.elim
        · exact hv.1.elim
      all_goals simp [cls] at hc
    all_goals simp [cls] at hc
  case s =>
    obtain ⟨dst, op, ty, pos, after, guard⟩ := o
    cases op
    case store t p x =>
      simp only [wr] at hv
      simp only [vstep]
      cases hp : s.ev G p <;> simp only [hp] at hv ⊢
      case pb b off =>
        cases hb : s.β b <;> simp only [hb] at hv ⊢
        rename_i cs
        obtain ⟨h0, ⟨h1, h2, h3, h4, h5, h6⟩, h7⟩ := hv
        exact ⟨h1, h2, h3, h4, h5, h6, hk _ _ _ h7⟩
    case call c =>
      obtain ⟨cal, args, ts⟩ := c
      cases cal
      case builtin b => cases b <;> simp [cls] at hc
      all_goals simp [cls] at hc
    all_goals simp [cls] at hc
  case c =>
    obtain ⟨dst, op, ty, pos, after, guard⟩ := o
    cases op
    case call c =>
      obtain ⟨cal, args, ts⟩ := c
      cases cal
      case value f =>
        obtain ⟨β0, ω0, Φ0, h1, h2, h3, h4, h5, h6, h7⟩ := hv
        refine ⟨h3, VCall.mono (VCall.fini (VCall.frame h4 h1)) ?_⟩
        rintro o β' ω' ⟨hF, hfi⟩
        cases o with
        | ret d => exact hk _ _ _ (h6 d β' ω' hF hfi)
        | pan d => exact hq _ _ _ (h7 d β' ω' hF hfi)
      case builtin b => exact hv.elim
      case invoke => exact hv.elim
    all_goals exact hv.elim

theorem vdop_vop {U : List Nat} {i : Nat} {o : Oper} {rd : Rd} {k q : D → Heap → List Nat → Prop} (hv : vdop P G ops U i o rd s k q) : vop P G ops s o (fun d s' => k d s'.β s'.ω) (fun d s' => q d s'.β s'.ω) := by
  unfold vdop at hv
  unfold vop
  cases hg : o.guard with
  | none =>
    simp only [hg] at hv ⊢
    exact vdo_vstep (k := k) (q := q) (fun _ _ _ h => h) (fun _ _ _ h => h) hv
  | some g =>
    simp only [hg] at hv ⊢
    cases hgd : vguard s ops g with
    | none => simp [hgd] at hv
    | some c =>
      simp only [hgd] at hv ⊢
      rcases hv with ⟨d, h1, h2⟩ | ⟨h1, h2⟩
      · refine .inl ⟨d, fun hc => vdo_vstep (fun d' β ω hh => ⟨hh.1, ?_⟩) (fun _ _ _ h => h) (h1 hc), h2⟩
        obtain ⟨_, rfl, rfl⟩ := hh
        rfl
      · exact .inr ⟨fun hc => vdo_vstep (k := k) (q := q) (fun _ _ _ h => h) (fun _ _ _ h => h) (h1 hc), h2⟩


def deps (ops : Array Oper) (j : Nat) : List Nat :=
  match ops[j]? with
  | some o => (o.after.toList.filter (Region.binds .any)).map (·.on)
  | none => []

def mkd : List Nat → Bool
  | [] => false
  | u :: _ => u == 777777
theorem mkd_nil : mkd [] = false := rfl
theorem mkd_cons (u : Nat) (U : List Nat) : mkd (u :: U) = (u == 777777) := rfl
def okPairM (ops : Array Oper) (e1 e2 : Ent) : Bool := !mkd e1.2 && !mkd e2.2 && okPair ops e1 e2

def stepB (P : Program) (G : Heap) (ops : Array Oper) (e : Ent) (K : Rd → St → Prop) (rd : Rd) (s : St) : Prop :=
  match ops[e.1]? with
  | none => False
  | some o => o.guard = none ∧ match o.op with
    | .call c => match c.callee with
      | .builtin .append => match c.args.toList, c.argTypes.toList with
        | [x, y], [t, u] => bapK P t u (s.ev G x) (s.ev G y) (s.has G x ∧ s.has G y) true s.β fun d β' => K rd (({ s with β := β' } : St).put o.dst d)
        | _, _ => False
      | _ => False
    | _ => False

def okFrom (ops : Array Oper) (e : Ent) : List Nat → List Ent → Bool
  | _, [] => true
  | S, j :: rest => if (deps ops j.1).any S.contains then okFrom ops e (j.1 :: S) rest else okPairM ops e j && okFrom ops e S rest

def okAll (ops : Array Oper) : List Ent → Bool
  | [] => true
  | e :: rest => okFrom ops e [e.1] rest && okAll ops rest

def okSeen (ops : Array Oper) : List Nat → List Ent → Bool
  | _, [] => true
  | seen, e :: rest => (deps ops e.1).all seen.contains && !seen.contains e.1 && okSeen ops (e.1 :: seen) rest

def okOrd (ops : Array Oper) (l : List Ent) : Bool :=
  okSeen ops [] l && okAll ops l && (List.range ops.size).all (fun i => (l.map (·.1)).contains i) && l.length == ops.size

def qOf (Q : VE → St → Prop) (d : D) (β : Heap) (ω : List Nat) : Prop :=
  ∀ σ β' ω', (∀ b cs, β b = some cs → β' b = some cs) → (∀ t, t ∈ ω → t ∈ ω') → Q (.panic d) ⟨σ, β', ω'⟩

theorem qOf_set {Q : VE → St → Prop} {d : D} {β : Heap} {ω : List Nat} {b : Nat} {cs : List D} (hb : β b = none) (h : qOf Q d β ω) : qOf Q d (β.set b cs) ω :=
  fun σ β' ω' h1 h2 => h σ β' ω' (fun b' cs' hb' => h1 b' cs' (by
    have : b' ≠ b := fun e => by rw [e, hb] at hb'; cases hb'
    simp only [Heap.set, if_neg this]
    exact hb')) h2

def vdr (P : Program) (G : Heap) (ops : Array Oper) (Q : VE → St → Prop) : List Ent → Rd → St → Prop
  | [], _, s => Q .normal s
  | e :: rest, rd, s => if mkd e.2 then stepB P G ops e (vdr P G ops Q rest) rd s else step P G ops (qOf Q) e (vdr P G ops Q rest) rd s

def vdraw : DrawRule where
  any := fun P G ops Q s => P.follows .mixedOrders = true ∧ ∃ l, okOrd ops l = true ∧ vdr P G ops Q l (fun _ _ => False) s
  seq := fun P G ops Q s => ∃ l : List Ent, l.map (·.1) = List.range ops.size ∧ vdr P G ops Q l (fun _ _ => False) s


def Topo (ops : Array Oper) : (Nat → Prop) → List Ent → Prop
  | _, [] => True
  | L, e :: r => (∀ d ∈ deps ops e.1, L d) ∧ Topo ops (fun d => L d ∨ d = e.1) r

theorem Topo.mono : ∀ {l : List Ent} {L L' : Nat → Prop}, (∀ d, L d → L' d) → Topo ops L l → Topo ops L' l
  | [], _, _, _, _ => trivial
  | e :: r, _, _, h, ⟨h1, h2⟩ => ⟨fun d hd => h d (h1 d hd), Topo.mono (fun d hd => hd.imp (h d) id) h2⟩

theorem Topo.remove {e : Ent} {post : List Ent} : ∀ {pre : List Ent} {L : Nat → Prop}, Topo ops L (pre ++ e :: post) → Topo ops (fun d => L d ∨ d = e.1) (pre ++ post)
  | [], _, h => h.2
  | p :: pre, L, ⟨h1, h2⟩ => ⟨fun d hd => .inl (h1 d hd), Topo.mono (fun d hd => by rcases hd with (hd | hd) | hd <;> simp [hd]) (Topo.remove (pre := pre) h2)⟩

theorem okSeen_topo : ∀ {l : List Ent} {seen : List Nat}, okSeen ops seen l = true → Topo ops (· ∈ seen) l ∧ (l.map (·.1)).Nodup ∧ ∀ i ∈ seen, i ∉ l.map (·.1)
  | [], _, _ => ⟨trivial, List.nodup_nil, fun _ _ => by simp⟩
  | e :: r, seen, h => by
    simp only [okSeen, Bool.and_eq_true, List.all_eq_true, List.contains_iff_mem, Bool.not_eq_true'] at h
    obtain ⟨⟨h1, h2⟩, h3⟩ := h
    obtain ⟨t1, t2, t3⟩ := okSeen_topo h3
    have h2 : e.1 ∉ seen := fun hm => by rw [List.contains_iff_mem.2 hm] at h2; cases h2
    refine ⟨⟨h1, t1.mono fun d hd => ?_⟩, ?_, fun i hi => ?_⟩
    · rcases List.mem_cons.1 hd with rfl | hd
      · exact .inr rfl
      · exact .inl hd
    · simp only [List.map_cons, List.nodup_cons]
      exact ⟨t3 e.1 (by simp), t2⟩
    · simp only [List.map_cons, List.mem_cons, not_or]
      exact ⟨fun hi' => h2 (hi' ▸ hi), t3 i (by simp [hi])⟩

theorem okFrom_pair {p e : Ent} {post : List Ent} : ∀ {pre : List Ent} {S : List Nat}, okFrom ops p S (pre ++ e :: post) = true → (∀ d ∈ deps ops e.1, d ∉ S ∧ d ∉ pre.map (·.1)) → okPairM ops p e = true ∧ okFrom ops p S (pre ++ post) = true
  | [], S, h, hd => by
    simp only [List.nil_append, okFrom] at h
    have : (deps ops e.1).any S.contains = false := by
      rw [List.any_eq_false]
      intro d hdm
      simpa using (hd d hdm).1
    simp only [this, Bool.false_eq_true, if_false, Bool.and_eq_true] at h
    exact h
  | j :: pre, S, h, hd => by
    simp only [List.cons_append, okFrom] at h ⊢
    split
    · rename_i hj
      rw [if_pos hj] at h
      exact okFrom_pair h fun d hdm => by
        have := hd d hdm
        simp only [List.map_cons, List.mem_cons, not_or] at this ⊢
        exact ⟨⟨this.2.1, this.1⟩, this.2.2⟩
    · rename_i hj
      rw [if_neg hj] at h
      simp only [Bool.and_eq_true] at h ⊢
      obtain ⟨h1, h2⟩ := okFrom_pair (pre := pre) h.2 fun d hdm => by
        have := hd d hdm
        simp only [List.map_cons, List.mem_cons, not_or] at this
        exact ⟨this.1, this.2.2⟩
      exact ⟨h1, h.1, h2⟩

theorem okAll_pre {e : Ent} {post : List Ent} : ∀ {pre : List Ent}, okAll ops (pre ++ e :: post) = true → (∀ d ∈ deps ops e.1, d ∉ pre.map (·.1)) → (∀ p ∈ pre, okPairM ops p e = true) ∧ okAll ops (pre ++ post) = true
  | [], h, _ => by
    simp only [List.nil_append, okAll, Bool.and_eq_true] at h
    exact ⟨fun p hp => by simp at hp, h.2⟩
  | p :: pre, h, hd => by
    simp only [List.cons_append, okAll, Bool.and_eq_true] at h ⊢
    have hd' : ∀ d ∈ deps ops e.1, d ∉ [p.1] ∧ d ∉ pre.map (·.1) := fun d hdm => by
      have := hd d hdm
      simp only [List.map_cons, List.mem_cons, not_or] at this
      simpa using this
    obtain ⟨h1, h2⟩ := okFrom_pair h.1 hd'
    obtain ⟨h3, h4⟩ := okAll_pre h.2 fun d hdm => (hd' d hdm).2
    refine ⟨fun x hx => ?_, h2, h4⟩
    rcases List.mem_cons.1 hx with rfl | hx
    · exact h1
    · exact h3 x hx

section
variable {ro : Option Nat} {K0 : Kn} {β0 : Heap} {ω0 : List Nat} {w0 : World} {Q : VE → St → Prop}

theorem vdr_front {e : Ent} {post : List Ent} : ∀ {pre : List Ent} {rd : Rd} {s : St}, (∀ p ∈ pre, okPairM ops p e = true) → Fini s.β → vdr P G ops Q (pre ++ e :: post) rd s → vdr P G ops Q (e :: (pre ++ post)) rd s
  | [], _, _, _, _, h => h
  | p :: pre, rd, s, hp, hf, h => by
    have hpe := hp p (by simp)
    simp only [okPairM, Bool.and_eq_true, Bool.not_eq_true'] at hpe
    obtain ⟨⟨m1, m2⟩, m3⟩ := hpe
    have h0 : step P G ops (qOf Q) p (vdr P G ops Q (pre ++ e :: post)) rd s := by
      have h1 := h
      simp only [List.cons_append, vdr, m1, Bool.false_eq_true, if_false] at h1
      exact h1
    have h' : step P G ops (qOf Q) p (step P G ops (qOf Q) e (vdr P G ops Q (pre ++ post))) rd s :=
      step_mono hf (fun rd s hf hh => by
        have h2 := vdr_front (pre := pre) (fun x hx => hp x (by simp [hx])) hf hh
        simp only [vdr, m2, Bool.false_eq_true, if_false] at h2
        exact h2) h0
    have h3 := swap (fun d β ω b cs hb hh => qOf_set hb hh) m3 hf h'
    simp only [List.cons_append, vdr, m2, Bool.false_eq_true, if_false]
    refine step_mono hf (fun rd s hf hh => ?_) h3
    simp only [m1, Bool.false_eq_true, if_false]
    exact hh

structure Inv (ops : Array Oper) (listed : Array Bool) (l : List Ent) : Prop where
  left : ∀ i, i < ops.size → (listed.getD i true = false ↔ i ∈ l.map (·.1))
  nodup : (l.map (·.1)).Nodup
  topo : Topo ops (fun d => listed.getD d false = true) l
  pairs : okAll ops l = true
  size : listed.size = ops.size

theorem mem_deps {j d : Nat} {o : Oper} (h : ops[j]? = some o) : d ∈ deps ops j ↔ ∃ e ∈ o.after, Region.binds .any e = true ∧ e.on = d := by
  simp only [deps, h, List.mem_map, List.mem_filter]
  exact ⟨fun ⟨e, h1, h2⟩ => ⟨e, by simpa using h1.1, h1.2, h2⟩, fun ⟨e, h1, h2, h3⟩ => ⟨e, ⟨by simpa using h1, h2⟩, h3⟩⟩

theorem any_sound : ∀ (m : Nat) (l : List Ent) (listed : Array Bool) (rd : Rd) (s : St) (K : Kn) (a : Act) (w : World), l.length = m → Inv ops listed l → (∀ o ∈ ops.toList, ∀ t, o.dst = some t → t < n) → vdr P G ops Q l rd s → SR G n B K s a w → Evo K0 β0 ω0 w0 K s.β s.ω w →
    wpAnyIn (W ro) 0 P .any ops (up G n B K0 β0 ω0 w0 Q) m listed a w
  | 0, l, listed, rd, s, K, a, w, hl, hi, hn, hv, h, hE => by
    have hl0 : l = [] := List.eq_nil_of_length_eq_zero hl
    subst hl0
    refine ⟨?_, K, s, .normal, hv, trivial, h, hE⟩
    rw [List.eq_nil_iff_forall_not_mem]
    intro i hm
    obtain ⟨h0, o, ho, _⟩ := mem_ready.1 hm
    have := (hi.left i (Array.getElem?_eq_some_iff.1 ho).1).1 h0
    simp at this
  | m + 1, l, listed, rd, s, K, a, w, hl, hi, hn, hv, h, hE => by
    refine ⟨fun h0 => ?_, fun i him => ?_⟩
    · exfalso
      cases l with
      | nil => simp at hl
      | cons p l =>
        have hv' := hv
        simp only [vdr] at hv'
        cases ho : ops[p.1]? with
        | none => split at hv' <;> simp [stepB, step, ho] at hv'
        | some o =>
          have hm : p.1 ∈ Region.ready .any ops listed := by
            rw [mem_ready]
            refine ⟨(hi.left p.1 (Array.getElem?_eq_some_iff.1 ho).1).2 (by simp), o, ho, fun e he hb => ?_⟩
            exact hi.topo.1 e.on ((mem_deps ho).2 ⟨e, he, hb, rfl⟩)
          rw [h0] at hm
          cases hm
    · obtain ⟨hun, o, ho, hall⟩ := mem_ready.1 him
      have hlt := (Array.getElem?_eq_some_iff.1 ho).1
      have hmem := (hi.left i hlt).1 hun
      obtain ⟨e, hem, rfl⟩ := List.mem_map.1 hmem
      obtain ⟨pre, post, rfl⟩ := List.append_of_mem hem
      have hdl : ∀ d ∈ deps ops e.1, d ∉ pre.map (·.1) := fun d hd hp => by
        obtain ⟨ed, h1, h2, rfl⟩ := (mem_deps ho).1 hd
        have hlist := hall ed h1 h2
        have hdlt : ed.on < ops.size := by
          rw [← hi.size]
          rcases Nat.lt_or_ge ed.on listed.size with h' | h'
          · exact h'
          · simp [Array.getElem?_eq_none h'] at hlist
        have := (hi.left ed.on hdlt).2 (by simp only [List.map_append, List.mem_append]; exact .inl hp)
        have hsz : ed.on < listed.size := by rw [hi.size]; exact hdlt
        simp [hsz] at hlist this
        rw [hlist] at this
        cases this
      obtain ⟨hpairs, hok⟩ := okAll_pre hi.pairs hdl
      have hv' : vdr P G ops Q (e :: (pre ++ post)) rd s := vdr_front hpairs h.rel.fini hv
      have hnd := hi.nodup
      simp only [List.map_append, List.map_cons, List.nodup_append, List.nodup_cons, List.mem_cons] at hnd
      have hne : e.1 ∉ (pre ++ post).map (·.1) := fun hx => by
        simp only [List.map_append, List.mem_append] at hx
        rcases hx with hx | hx
        · exact hnd.2.2 e.1 hx e.1 (.inl rfl) rfl
        · exact hnd.2.1.1 hx
      have hinv : Inv ops (listed.setIfInBounds e.1 true) (pre ++ post) := by
        refine ⟨fun j hj => ?_, ?_, ?_, hok, by simpa using hi.size⟩
        · by_cases hje : e.1 = j
          · subst hje
            have : e.1 < listed.size := by rw [hi.size]; exact hlt
            simp only [hne, iff_false]
            simp [this]
          · rw [getD_set_ne true hje, hi.left j hj]
            simp only [List.map_append, List.map_cons, List.mem_append, List.mem_cons]
            constructor
            · rintro (h | h | h)
              · exact .inl h
              · exact absurd h.symm hje
              · exact .inr h
            · rintro (h | h)
              · exact .inl h
              · exact .inr (.inr h)
        · simp only [List.map_append, List.nodup_append]
          exact ⟨hnd.1, hnd.2.1.2, fun x hx y hy => hnd.2.2 x hx y (.inr hy)⟩
        · refine (Topo.remove hi.topo).mono fun d hd => ?_
          rcases hd with hd | rfl
          · exact getD_set_true hd
          · have : e.1 < listed.size := by rw [hi.size]; exact hlt
            simp [this]
      have hlen : (pre ++ post).length = m := by simp at hl ⊢; omega
      have hdst : ∀ t, o.dst = some t → t < n := fun t ht => hn o (by simpa using Array.mem_of_getElem? ho) t ht
      by_cases hmk : mkd e.2 = true
      · simp only [vdr, hmk, if_true, stepB, ho] at hv'
        obtain ⟨hgd, hv'⟩ := hv'
        unfold wpOpIn
        simp only [ho]
        rw [if_pos (by simp [Region.wanted, hgd])]
        obtain ⟨dst, op, ty, pos, after, guard⟩ := o
        simp only at hgd hv' hdst
        split at hv'
        · rename_i c
          obtain ⟨cal, args, ts⟩ := c
          simp only at hv'
          split at hv'
          · split at hv'
            · rename_i x y t u he1 he2
              obtain ⟨d, v, β', w', hk, r1, r2, r3, r4⟩ := bapK_sound (ty := ty) (vx := a.eval x) (vy := a.eval y) h.rel (fun q => h.ev x q.1) (fun q => h.ev y q.2) hv'
              have hargs : args = #[x, y] := by apply Array.ext'; simpa using he1
              have hts : ts = #[t, u] := by apply Array.ext'; simpa using he2
              subst hargs hts
              refine wpIn_value (fun c hc => by cases hc) (v := v) (w' := w') ?_ (any_sound m (pre ++ post) _ _ _ K _ w' hlen hinv hn hk ((h.move r3 r2).put r4 hdst) (by simpa using hE.trans r3))
              simp only [execOp, resolve, Sem.run_bind, Sem.run_pure, Result.andThen_ok, invoke, builtin]
              simp [r1]
            · exact hv'.elim
          · exact hv'.elim
        · exact hv'.elim
      simp only [vdr, hmk, if_false, Bool.false_eq_true] at hv'
      unfold step at hv'
      simp only [ho] at hv'
      have hgo : Goes G n B K0 β0 ω0 w0 a o (fun d s' => vdr P G ops Q (pre ++ post) (rdUp G o e.2 s rd) (({ s with β := s'.β, ω := s'.ω } : St).put o.dst d)) (fun d s' => qOf Q d s'.β s'.ω) (wpAnyIn (W ro) 0 P .any ops (up G n B K0 β0 ω0 w0 Q) m (listed.setIfInBounds e.1 true)) (up G n B K0 β0 ω0 w0 Q) s := by
        refine ⟨fun K' d β' ω' v w' hk hr hs he => ?_, fun K' d β' ω' v w' hk hr hs he => ⟨K', _, .panic d, hk s.σ β' ω' (fun _ _ h => h) (fun _ h => h), ⟨v, rfl, hr⟩, hs, he⟩⟩
        exact any_sound m (pre ++ post) _ _ _ K' _ w' hlen hinv hn hk (hs.put hr hdst) (by simpa using he)
      have := vop_sound (ro := ro) h hE (vdop_vop hv') hgo
      unfold wpOpIn
      simp only [ho]
      rcases this with ⟨h1, h2⟩ | ⟨h1, h2⟩
      · rw [if_pos h1]; exact h2
      · rw [if_neg (by simp [h1])]; exact ⟨about_W, h2⟩

theorem seq_sound : ∀ (l : List Ent) (rd : Rd) (s : St) (K : Kn) (a : Act) (w : World), (∀ o ∈ ops.toList, ∀ t, o.dst = some t → t < n) → vdr P G ops Q l rd s → SR G n B K s a w → Evo K0 β0 ω0 w0 K s.β s.ω w →
    wpOpsIn (W ro) 0 P ops (up G n B K0 β0 ω0 w0 Q) (l.map (·.1)) a w
  | [], rd, s, K, a, w, hn, hv, h, hE => ⟨K, s, .normal, hv, trivial, h, hE⟩
  | e :: rest, rd, s, K, a, w, hn, hv, h, hE => by
    simp only [List.map_cons, wpOpsIn]
    cases ho : ops[e.1]? with
    | none =>
      simp only [vdr] at hv
      split at hv <;> simp [stepB, step, ho] at hv
    | some o =>
      have hdst : ∀ t, o.dst = some t → t < n := fun t ht => hn o (by simpa using Array.mem_of_getElem? ho) t ht
      by_cases hmk : mkd e.2 = true
      · simp only [vdr, hmk, if_true, stepB, ho] at hv
        obtain ⟨hgd, hv⟩ := hv
        simp only
        rw [if_pos (by simp [Region.wanted, hgd])]
        obtain ⟨dst, op, ty, pos, after, guard⟩ := o
        simp only at hgd hv hdst
        split at hv
        · rename_i c
          obtain ⟨cal, args, ts⟩ := c
          simp only at hv
          split at hv
          · split at hv
            · rename_i x y t u he1 he2
              obtain ⟨d, v, β', w', hk, r1, r2, r3, r4⟩ := bapK_sound (ty := ty) (vx := a.eval x) (vy := a.eval y) h.rel (fun q => h.ev x q.1) (fun q => h.ev y q.2) hv
              have hargs : args = #[x, y] := by apply Array.ext'; simpa using he1
              have hts : ts = #[t, u] := by apply Array.ext'; simpa using he2
              subst hargs hts
              refine wpIn_value (fun c hc => by cases hc) (v := v) (w' := w') ?_ (seq_sound rest _ _ K _ w' hn hk ((h.move r3 r2).put r4 hdst) (by simpa using hE.trans r3))
              simp only [execOp, resolve, Sem.run_bind, Sem.run_pure, Result.andThen_ok, invoke, builtin]
              simp [r1]
            · exact hv.elim
          · exact hv.elim
        · exact hv.elim
      simp only [vdr, hmk, if_false, Bool.false_eq_true] at hv
      unfold step at hv
      simp only [ho] at hv
      have hgo : Goes G n B K0 β0 ω0 w0 a o (fun d s' => vdr P G ops Q rest (rdUp G o e.2 s rd) (({ s with β := s'.β, ω := s'.ω } : St).put o.dst d)) (fun d s' => qOf Q d s'.β s'.ω) (wpOpsIn (W ro) 0 P ops (up G n B K0 β0 ω0 w0 Q) (rest.map (·.1))) (up G n B K0 β0 ω0 w0 Q) s := by
        refine ⟨fun K' d β' ω' v w' hk hr hs he => ?_, fun K' d β' ω' v w' hk hr hs he => ⟨K', _, .panic d, hk s.σ β' ω' (fun _ _ h => h) (fun _ h => h), ⟨v, rfl, hr⟩, hs, he⟩⟩
        exact seq_sound rest _ _ K' _ w' hn hk (hs.put hr hdst) (by simpa using he)
      have := vop_sound (ro := ro) h hE (vdop_vop hv) hgo
      simp only
      rcases this with ⟨h1, h2⟩ | ⟨h1, h2⟩
      · rw [if_pos h1]; exact h2
      · rw [if_neg (by simp [h1])]; exact ⟨about_W, h2⟩

theorem vdraw_sound : Sound vdraw := by
  refine ⟨?_, ?_⟩
  rotate_left
  · rintro P G n B ops Q s K a w ro K0 β0 ω0 w0 hn ⟨l, hl, hv⟩ h hE
    rw [← hl]
    exact seq_sound l _ s K a w hn hv h hE
  intro P G n B ops Q s K a w ro K0 β0 ω0 w0 t hn hR h hE
  obtain ⟨hm, l, hl, hv⟩ := hR
  simp only [okOrd, Bool.and_eq_true, List.all_eq_true, List.mem_range, List.contains_iff_mem, beq_iff_eq] at hl
  obtain ⟨⟨⟨h1, h2⟩, h3⟩, h4⟩ := hl
  obtain ⟨t1, t2, t3⟩ := okSeen_topo h1
  simp only [Region.schedule, hm, Bool.true_or, if_true]
  refine wpAnyIn_sound ops.size t _ a w (any_sound ops.size l _ _ s K a w h4 ⟨fun i hi => ?_, t2, t1.mono fun d hd => (by simp at hd), h2, by simp⟩ hn hv h hE)
  simp [hi, h3 i hi]
end

end Go.Proofs.YtpblgfgcoamgmaaGreatV
