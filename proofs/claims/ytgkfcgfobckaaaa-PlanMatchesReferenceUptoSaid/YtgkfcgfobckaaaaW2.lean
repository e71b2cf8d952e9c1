/-
  The join, second text: from a law's contract to what its row asks.
  Conditions: none; it speaks of every program.
-/
import Derived.Test.YtgkfcgfobckaaaaW1
set_option linter.unusedVariables false
set_option linter.unusedSimpArgs false
namespace Go.Proofs.YtgkfcgfobckaaaaV
open Go Go.ChangeShapes Go.RowKit

section
variable {H : Type} {enc : TypeId × Value → H} {P : Program} {w : World} {T : List TypeId}

/-- A value of a type, its cells abstract. -/
def HasD (P : Program) (t : TypeId) (d : D) : Prop := ∃ n ys, HasC P n t ys ∧ d = pk P t ys

theorem value_rep {base : Nat} {n : Nat} {t : TypeId} {v : Value} {ys : List D} (h : HasC P n t ys) (hr : RWs w ys v.cells.toList) (hok : Value.okWide P w .any base t v) : Rep (K0 w) (pk P t ys) v := by
  cases n with
  | zero => exact h.elim
  | succ n =>
    simp only [HasC] at h
    unfold Value.okWide at hok
    unfold pk
    have one : ∀ y, ys = [y] → (∀ a, v ≠ .agg a) → Rep (K0 w) (ys.headD .any) v := fun y hy hv => by
      subst hy
      have : v.cells.toList = [v] := by cases v <;> first | rfl | exact absurd rfl (hv _)
      rw [this] at hr
      exact (hr.2 0 y v rfl rfl).rep
    have na : ∀ t, Cell.okWide P w .any base t v → (∀ fs, P.underlying t ≠ some (.struct fs)) → (∀ a, v ≠ .agg a) := fun t hc _ a hv => by
      subst hv
      unfold Cell.okWide at hc
      unfold Cell.ok at hc
      split at hc <;> simp_all
    split at h <;> rename_i hu <;> simp only [hu] at hok ⊢
    · obtain ⟨b, rfl⟩ := h; exact one _ rfl (na t hok (by simp [hu]))
    · obtain ⟨b, rfl, _⟩ := h; exact one _ rfl (na t hok (by simp [hu]))
    · obtain ⟨b, rfl, _⟩ := h; exact one _ rfl (na t hok (by simp [hu]))
    · obtain ⟨b, rfl, _⟩ := h; exact one _ rfl (na t hok (by simp [hu]))
    · obtain ⟨cs, rfl, _⟩ := hok
      have := Rep.agg hr.rep
      simpa [Value.cells] using this
    · obtain ⟨cs, rfl, _⟩ := hok
      have := Rep.agg hr.rep
      simpa [Value.cells] using this
    · exact h.elim

/-- Lists of types and of abstract values go together. -/
inductive HasDs (P : Program) : List TypeId → List D → Prop
  | nil : HasDs P [] []
  | cons {t : TypeId} {d : D} {ts : List TypeId} {ds : List D} (h : HasD P t d) (r : HasDs P ts ds) : HasDs P (t :: ts) (d :: ds)

theorem args_rep {base : Nat} (hT : T.all (okT P T) = true) : ∀ {ts : List TypeId} {vs : List Value} {ds : List (DataW H)} {ps : List MemPlace}, (∀ t ∈ ts, t ∈ T) → DataW.TrodAll enc P w 0 (fun _ => true) true ts vs ds ps →
    (∀ (j : Nat) t v, ts[j]? = some t → vs[j]? = some v → Value.okWide P w .any base t v) → ubs ds ≤ mostLen → ∃ das, HasDs P ts das ∧ RepL (K0 w) das vs ∧ bulkL das ≤ ubs ds
  | [], vs, ds, ps, _, h, _, _ => by
    obtain ⟨rfl, rfl, rfl⟩ := trodAll_nil h
    exact ⟨[], .nil, .nil, by simp [bulkL]⟩
  | t :: ts, vs, ds, ps, hm, h, hok, hbk => by
    obtain ⟨v, vs1, d, ds1, a, b, rfl, rfl, rfl, ⟨fuel, h1⟩, h2⟩ := trodAll_cons h
    simp only [ubs] at hbk ⊢
    obtain ⟨ys, c1, c2, c3⟩ := trod_cells hT fuel t _ _ (hm t (by simp)) h1 (by simp only; omega)
    obtain ⟨das, e1, e2, e3⟩ := args_rep hT (fun t ht => hm t (by simp [ht])) h2 (fun j t v ht hv => hok (j + 1) t v (by simpa using ht) (by simpa using hv)) (by omega)
    refine ⟨pk P t ys :: das, .cons ⟨fuel, ys, c1, rfl⟩ e1, .cons (value_rep c1 c2 (hok 0 t v rfl rfl)) e2, ?_⟩
    simp only [bulkL, c1.bulk]
    simp only at c3
    omega

/-- A law's contract, for the machine. -/
theorem law_calls {G : Heap} {f : FuncId} {fn : Func} {c : Code} {das : List D} {args : Array Value} (hf : P.funcs[f]? = some fn) (hb : fn.body = some c) (hname : (fn.name == "runtime.NumGoroutine") = false)
    (hG : ∀ g cs, G g = some cs → ∀ (o : Nat) d, cs[o]? = some d → (K0 w).cells g o d)
    (h : VC P G f das Heap.nil [] fun o _ _ => o = .ret (.bool true)) (ha : RepL (K0 w) das args.toList) :
    Calls P f args w fun e w' => e = .returned (.bool true) ∧ Below w.heap.size w w' := by
  rcases h (K0 w) w args.toList (K0.rel hG) ha with ⟨_, h2⟩ | ⟨v, w1, h1, _⟩
  · refine h2.mono fun e w' hb => ?_
    obtain ⟨K', o, β', ω', q1, rfl, q3, q4⟩ := hb
    cases e with
    | returned v =>
      cases q1
      refine ⟨rfl, q4.os, q4.tape, q4.output, q4.size, fun k hk => (q4.keep k hk ?_).1⟩
      rintro (h | ⟨t, _, h, _⟩)
      · exact h rfl
      · exact absurd h List.not_mem_nil
    | panicked _ => exact q1.elim
    | outgrown => exact q1.elim
  · exfalso
    simp only [beq_eq_false_iff_ne, ne_eq] at hname
    have : (callFunc f args.toList.toArray).run P w = .ok (.enter f args.toList.toArray) w := by simp [callFunc, program, Sem.run, hf, hname, hb]
    rw [this] at h1
    cases h1

theorem args_stay (hl : laidOutB P = true) {W W' : World} (hb : Below W.heap.size W W') {sp : Nat → Bool} : ∀ {ts : List TypeId} {vs : List Value} {ds : List (DataW H)} {ps : List MemPlace}, (∀ t ∈ ts, P.readableRec t = true ∧ t < P.types.size) →
    DataW.TrodAll enc P W 0 (fun _ => true) true ts vs ds ps → (∀ x ∈ ps, x.block < W.heap.size) → (∀ x ∈ ps, sp x.block = true) → DataW.TrodAll enc P W' 0 sp true ts vs ds ps
  | [], vs, ds, ps, _, h, _, _ => by
    obtain ⟨rfl, rfl, rfl⟩ := trodAll_nil h
    exact rfl
  | t :: ts, vs, ds, ps, hr, h, hlt, hsp => by
    obtain ⟨v, vs1, d, ds1, a, b, rfl, rfl, rfl, h1, h2⟩ := trodAll_cons h
    obtain ⟨r1, r2⟩ := hr t (by simp)
    exact ⟨a, b, WideElems.Trod_stays hl r1 r2 h1 (fun x hx => hb.same (hlt x (by simp [hx]))) (fun x hx => hsp x (by simp [hx])),
      args_stay hl hb (fun t ht => hr t (by simp [ht])) h2 (fun x hx => hlt x (by simp [hx])) (fun x hx => hsp x (by simp [hx])), rfl⟩

/-- What a law's row asks behind the call. -/
theorem post_law {f : Func} {s : ChangeSpec} {apart fresh handsOn again : Bool} {W W' : World} {args : Array Value} {ds gs : List (DataW H)} {before : List MemPlace} {tb : TypeId}
    (hl : laidOutB P = true) (hr : ∀ t ∈ f.params.toList, P.readableRec t = true ∧ t < P.types.size)
    (hW : DataW.Whole enc P f.params.toList s.vars apart W args.toList ds gs before) (hb : Below W.heap.size W W')
    (hv : s.vars = []) (hres : f.resultTypes = #[tb]) (htb : P.underlying tb = some .bool) (hs : (s.fn H (ds ++ gs)).results = [.lit (.bool true)]) (hsa : (s.fn H (ds ++ gs)).args = ds) (hsv : (s.fn H (ds ++ gs)).vars = []) :
    s.post enc P f apart fresh handsOn again W args (.bool true) W' := by
  have hlt := hW.lt
  have hW' := hW
  obtain ⟨p, q, hA, hV, hpq, hz, hn⟩ := hW
  rw [hv] at hV
  obtain ⟨rfl, rfl⟩ := trodVars_none hV
  simp only [List.append_nil] at hpq
  subst hpq
  have hargs : ∀ sp : Nat → Bool, (∀ p ∈ before, sp p.block = true) → DataW.TrodAll enc P W' 0 sp true f.params.toList args.toList ds before := fun sp hsp => args_stay hl hb hr hA hlt hsp
  have hrs : ∀ (b : Nat) (sp : Nat → Bool) (hd : Bool), DataW.TrodAll enc P W' b sp hd f.resultTypes.toList ((Value.bool true).resultList f.resultTypes.size) [.lit (.bool true)] [] := fun b sp hd => by
    rw [hres]
    exact trodAll_mk1 (shut_bool htb true)
  have hold : ∀ p ∈ before, (fun b => decide (b < W.heap.size)) p.block = true := fun p hp => by simpa using hlt p hp
  refine ⟨ds, [], before, [], before, [], hW', by rw [hs]; exact hrs _ _ _, by rw [hsa]; exact hargs _ hold, by rw [hv, hsv]; exact rfl, World.keptBut_mono (fun p hp => ⟨hp, ?_⟩) (hb.frame (· ∈ before)), fun _ => ?_⟩
  · exact .inr (.inl hp)
  · refine ⟨ok_one hres rfl (okWide_bool_mk htb true), [.lit (.bool true)] ++ ds, [], before, ⟨before, [], ?_, by rw [hv]; exact rfl, by simp, ?_, hn⟩, ?_⟩
    · have := trodAll_append (hargs (fun _ => true) fun _ _ => rfl) (hrs 0 (fun _ => true) true)
      simpa using this
    · intro b off hp
      rw [hb.frozen (hlt _ hp)]
      exact hz b off hp
    · intro p hp _
      exact hp
end

end Go.Proofs.YtgkfcgfobckaaaaV
